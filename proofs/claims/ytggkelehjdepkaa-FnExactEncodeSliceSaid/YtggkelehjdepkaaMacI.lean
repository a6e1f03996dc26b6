/- The program's kinds of macroblocks. -/
import Derived.Test.YtggkelehjdepkaaMacE
namespace Go.Proofs.Ytggkelehjdepkaa
open Go.RowKit
set_option linter.unusedVariables false
set_option linter.unusedSimpArgs false

attribute [local go_sem] size_addsW cell?_addsW frozen?_addsW setCell_addsW drew_addsW adds_addsW setCell_twice alloc_adds0 size_adds0 adds_adds0 sel2 sel3 sel4 sel5 sel6 sel7 sel8 sel9 lt_more lt_more2 lt_more3 lt_more4 adds_drew adds_drewN drewN_addsW ltA_1_1 ltA_1_2 ltA_1_3 ltA_1_4 ltA_1_5 ltA_1_6 ltA_2_1 ltA_2_2 ltA_2_3 ltA_2_4 ltA_2_5 ltA_2_6 ltA_3_1 ltA_3_2 ltA_3_3 ltA_3_4 ltA_3_5 ltA_3_6 ltA_4_1 ltA_4_2 ltA_4_3 ltA_4_4 ltA_4_5 ltA_4_6 ltA_5_1 ltA_5_2 ltA_5_3 ltA_5_4 ltA_5_5 ltA_5_6 ltA_6_1 ltA_6_2 ltA_6_3 ltA_6_4 ltA_6_5 ltA_6_6 ltA_7_1 ltA_7_2 ltA_7_3 ltA_7_4 ltA_7_5 ltA_7_6 ltA_8_1 ltA_8_2 ltA_8_3 ltA_8_4 ltA_8_5 ltA_8_6 ltA_9_1 ltA_9_2 ltA_9_3 ltA_9_4 ltA_9_5 ltA_9_6 ltA_10_1 ltA_10_2 ltA_10_3 ltA_10_4 ltA_10_5 ltA_10_6 ltA_11_1 ltA_11_2 ltA_11_3 ltA_11_4 ltA_11_5 ltA_11_6 ltA_12_1 ltA_12_2 ltA_12_3 ltA_12_4 ltA_12_5 ltA_12_6

theorem heap1i (w : World) (u : Array Value) (t : TypeId) (oo : Array Obj) (nn : Nat) : (addsW (w.alloc (.cells u t)) oo nn).heap[w.heap.size]? = some (.cells u t (0, 0)) := by
  rw [heap_addsW _ _ _ _ (by simp)]; exact heap_alloc_new _ _

set_option maxRecDepth 100000 in
theorem I_interFits (zs : List Int) (w : World) (hz : zs.length = 71) :
    Calls Try.prog 110 #[.agg (rowI zs)] w fun e w' => e = .returned (.bool (mdL zs == zL 4)) ∧ Below w.heap.size w w' := by
  have HZ := Lib.hid hz
  have HLM := Lib.hid (show (mdL zs).length = 4 from sub_len (by omega))
  clear hz
  obtain ⟨b5, hb5⟩ : ∃ b5, (mdL zs == zL 4) = b5 := ⟨_, rfl⟩
  have E5 := Lib.hid (show ∀ W, (Op.equalIn 10000 25 (.agg (rowI (sub zs 3 4))) (.agg (rowI (zL 4)))).run Try.prog W = .ok b5 W from fun W => by rw [← hb5]; exact eq4 W _ _ HLM.out (zL_len 4))
  rw [hb5]
  clear hb5
  go_enter Try.func110, Try.ntmps110
  go_wp2_with (first | (focus ((with_reducible refine wpList_wanted ?_ (fun K hK => ?_)); rotate_left; (refine wp_load_sub 25 (.tmp 3) rfl w.heap.size 3 4 rfl _ zs (0, 0) _ (heap_alloc_new _ _) Try.underlying25 rfl infoA4 (by rw [HZ.out]; omega) (hK _ _ ?_)); rotate_left; rfl)) | (focus ((with_reducible refine wpList_wanted ?_ (fun K hK => ?_)); rotate_left; (refine wp_eql_agg 25 25 (.tmp 4) (.tmp 5) rfl (rowI (sub zs 3 4)) (rowI (zL 4)) rfl rfl (by kernel_rfl) _ (E5.out _) (hK _ _ ?_)); rotate_left; rfl)))
  go_returns
  exact ⟨rfl, (by repeat' (first | (with_reducible exact Below.refl _ _) | (with_reducible refine Below.adds_ ?_ ?_ _ _) | (with_reducible refine Below.alloc ?_ ?_ _) | (with_reducible refine Below.drew ?_) | (with_reducible refine Below.setCell ?_ ?_ _) | (with_reducible assumption) | go_size | (simp only [size_addsW, World.size_alloc, World.size_drew, World.size_setCell]; omega)))⟩

set_option maxRecDepth 100000 in
theorem I_skipFits (zs : List Int) (w : World) (hz : zs.length = 71) :
    Calls Try.prog 109 #[.agg (rowI zs)] w fun e w' => e = .returned (.bool ((zs.getD 1 0 == 0 && zs.getD 2 0 == 0) && (mdL zs == zL 4) && (lvL zs == zL 64))) ∧ Below w.heap.size w w' := by
  have HZ := Lib.hid hz
  have HLM := Lib.hid (show (mdL zs).length = 4 from sub_len (by omega))
  have HLL := Lib.hid (show (lvL zs).length = 64 from sub_len (by omega))
  have c1 := rowI_get (zs := zs) (j := 1) (by omega)
  have c2 := rowI_get (zs := zs) (j := 2) (by omega)
  clear hz
  obtain ⟨b5, hb5⟩ : ∃ b5, (mdL zs == zL 4) = b5 := ⟨_, rfl⟩
  obtain ⟨b7, hb7⟩ : ∃ b7, (lvL zs == zL 64) = b7 := ⟨_, rfl⟩
  have E5 := Lib.hid (show ∀ W, (Op.equalIn 10000 25 (.agg (rowI (sub zs 3 4))) (.agg (rowI (zL 4)))).run Try.prog W = .ok b5 W from fun W => by rw [← hb5]; exact eq4 W _ _ HLM.out (zL_len 4))
  have E7 := Lib.hid (show ∀ W, (Op.equalIn 10000 27 (.agg (rowI (sub zs 7 64))) (.agg (rowI (zL 64)))).run Try.prog W = .ok b7 W from fun W => by rw [← hb7]; exact eq64 W _ _ HLL.out (zL_len 64))
  rw [hb5, hb7]
  clear hb5 hb7
  generalize zs.getD 1 0 = x at c1 ⊢
  generalize zs.getD 2 0 = y at c2 ⊢
  cases bx : (x == 0)
  · go_enter Try.func109, Try.ntmps109
    go_wp2_with fail
    go_returns
    exact ⟨by simp, (by repeat' (first | (with_reducible exact Below.refl _ _) | (with_reducible refine Below.adds_ ?_ ?_ _ _) | (with_reducible refine Below.alloc ?_ ?_ _) | (with_reducible refine Below.drew ?_) | (with_reducible refine Below.setCell ?_ ?_ _) | (with_reducible assumption) | go_size | (simp only [size_addsW, World.size_alloc, World.size_drew, World.size_setCell]; omega)))⟩
  · cases by_ : (y == 0)
    · go_enter Try.func109, Try.ntmps109
      go_wp2_with fail
      go_returns
      exact ⟨by simp, (by repeat' (first | (with_reducible exact Below.refl _ _) | (with_reducible refine Below.adds_ ?_ ?_ _ _) | (with_reducible refine Below.alloc ?_ ?_ _) | (with_reducible refine Below.drew ?_) | (with_reducible refine Below.setCell ?_ ?_ _) | (with_reducible assumption) | go_size | (simp only [size_addsW, World.size_alloc, World.size_drew, World.size_setCell]; omega)))⟩
    · cases b5
      all_goals
        go_enter Try.func109, Try.ntmps109
        go_wp2_with (first
          | (focus ((with_reducible refine wpList_wanted ?_ (fun K hK => ?_)); rotate_left; (refine wp_load_sub 25 (.tmp 8) rfl w.heap.size 3 4 rfl _ zs (0, 0) _ (heap_alloc_new _ _) Try.underlying25 rfl infoA4 (by rw [HZ.out]; omega) (hK _ _ ?_)); rotate_left; rfl))
          | (focus ((with_reducible refine wpList_wanted ?_ (fun K hK => ?_)); rotate_left; (refine wp_eql_agg 25 25 (.tmp 9) (.tmp 10) rfl (rowI (sub zs 3 4)) (rowI (zL 4)) rfl rfl (by kernel_rfl) _ (E5.out _) (hK _ _ ?_)); rotate_left; rfl))
          | (focus ((with_reducible refine wpList_wanted ?_ (fun K hK => ?_)); rotate_left; (refine wp_load_sub 27 (.tmp 14) rfl w.heap.size 7 64 rfl _ zs (0, 0) _ (heap_alloc_new _ _) Try.underlying27 rfl infoA64 (by rw [HZ.out]; omega) (hK _ _ ?_)); rotate_left; rfl))
          | (focus ((with_reducible refine wpList_wanted ?_ (fun K hK => ?_)); rotate_left; (refine wp_eql_agg 27 27 (.tmp 15) (.tmp 16) rfl (rowI (sub zs 7 64)) (rowI (zL 64)) rfl rfl (by kernel_rfl) _ (E7.out _) (hK _ _ ?_)); rotate_left; rfl)))
        go_returns
        exact ⟨by simp, (by repeat' (first | (with_reducible exact Below.refl _ _) | (with_reducible refine Below.adds_ ?_ ?_ _ _) | (with_reducible refine Below.alloc ?_ ?_ _) | (with_reducible refine Below.drew ?_) | (with_reducible refine Below.setCell ?_ ?_ _) | (with_reducible assumption) | go_size | (simp only [size_addsW, World.size_alloc, World.size_drew, World.size_setCell]; omega)))⟩

set_option maxRecDepth 100000 in
theorem I_intraFits (zs : List Int) (w : World) (hz : zs.length = 71) :
    Calls Try.prog 111 #[.agg (rowI zs)] w fun e w' => e = .returned (.bool (modB (mdL zs) && (zs.getD 1 0 == 0 && zs.getD 2 0 == 0))) ∧ Below w.heap.size w w' := by
  have HZ := Lib.hid hz
  have HLM := Lib.hid (show (mdL zs).length = 4 from sub_len (by omega))
  have c1 := rowI_get (zs := zs) (j := 1) (by omega)
  have c2 := rowI_get (zs := zs) (j := 2) (by omega)
  clear hz
  generalize zs.getD 1 0 = x at c1 ⊢
  generalize zs.getD 2 0 = y at c2 ⊢
  obtain ⟨ms, hms⟩ : ∃ ms, ms = mdL zs := ⟨_, rfl⟩
  rw [← hms] at HLM ⊢
  have HMS := Lib.hid (show sub zs 3 4 = ms from hms.symm)
  clear hms
  go_enter Try.func111, Try.ntmps111
  go_wp2_with (focus ((with_reducible refine wpList_wanted ?_ (fun K hK => ?_)); rotate_left; (refine wp_load_sub 25 (.tmp 5) rfl w.heap.size 3 4 rfl _ zs (0, 0) _ (heap_alloc_new _ _) Try.underlying25 rfl infoA4 (by rw [HZ.out]; omega) (hK _ _ ?_)); rotate_left; rfl))
  rw [HMS.out]
  go_loop [7] (fun i => ∃ k : Nat, k ≤ 4 ∧ i = .int .i64 (k : Int) ∧ modB (ms.take k) = true) (fun i => 4 - (intOf i).toNat)
  case atStart => exact ⟨0, Nat.zero_le _, rfl, by simp [modB]⟩
  case round =>
    obtain ⟨k, hk, rfl, ht⟩ := hrel
    have HT := Lib.hid ht
    clear ht
    by_cases hlt : k < 4
    · obtain ⟨z, hzz⟩ : ∃ z, z = ms.getD k 0 := ⟨_, rfl⟩
      have hidx : ∀ W, (Instr.index 25 (.agg (rowI ms)) (.int .i64 (k : Int))).run Try.prog W = .ok (.int .i64 z) W := fun W => by
        rw [hzz]; exact run_index_int W 25 3 4 Try.underlying25 Try.underlying3 (by kernel_rfl) ms k hlt HLM.out
      have HX := Lib.hid hzz
      clear hzz
      have hd1 : decide ((k : Int) < 4) = true := by simp; omega
      cases hv : M.inB z 0 4
      · rcases (show z < 0 ∨ (0 ≤ z ∧ 4 < z) by have := M.inB_no.1 hv; omega) with h1 | ⟨h1, h2⟩
        all_goals
          have hf := Lib.hid (modB_no (k := k) (zs := ms) (by rw [HLM.out]; exact hlt) (by rw [← HX.out]; exact hv))
          go_wp2_with fail
          go_returns
          exact ⟨M.ret_bool (by rw [hf.out]; rfl), (by repeat' (first | (with_reducible exact Below.refl _ _) | (with_reducible refine Below.adds_ ?_ ?_ _ _) | (with_reducible refine Below.alloc ?_ ?_ _) | (with_reducible refine Below.drew ?_) | (with_reducible refine Below.setCell ?_ ?_ _) | (with_reducible assumption) | go_size | (simp only [size_addsW, World.size_alloc, World.size_drew, World.size_setCell]; omega)))⟩
      · have h1 := M.inB_iff.1 hv
        go_wp2_with fail
        go_round
        case rel => exact ⟨k + 1, by omega, by go_num, modB_take (by rw [HLM.out]; exact hlt) HT.out (by rw [← HX.out]; exact hv)⟩
        case measure => simp [intOf]; omega
    · obtain rfl : k = 4 := by omega
      have e3 := Lib.hid (show modB ms = true by have := HT.out; rw [List.take_of_length_le (by rw [HLM.out]; omega)] at this; exact this)
      cases bx : (x == 0)
      · go_wp2_with fail
        go_returns
        exact ⟨M.ret_bool (by first | (with_reducible rfl) | (rw [e3.out]; done) | (rw [e3.out]; rfl)), (by repeat' (first | (with_reducible exact Below.refl _ _) | (with_reducible refine Below.adds_ ?_ ?_ _ _) | (with_reducible refine Below.alloc ?_ ?_ _) | (with_reducible refine Below.drew ?_) | (with_reducible refine Below.setCell ?_ ?_ _) | (with_reducible assumption) | go_size | (simp only [size_addsW, World.size_alloc, World.size_drew, World.size_setCell]; omega)))⟩
      · cases by_ : (y == 0)
        all_goals
          go_wp2_with fail
          go_returns
          exact ⟨M.ret_bool (by first | (with_reducible rfl) | (rw [e3.out]; done) | (rw [e3.out]; rfl)), (by repeat' (first | (with_reducible exact Below.refl _ _) | (with_reducible refine Below.adds_ ?_ ?_ _ _) | (with_reducible refine Below.alloc ?_ ?_ _) | (with_reducible refine Below.drew ?_) | (with_reducible refine Below.setCell ?_ ?_ _) | (with_reducible assumption) | go_size | (simp only [size_addsW, World.size_alloc, World.size_drew, World.size_setCell]; omega)))⟩

theorem infoMacI : (Try.prog.info? 29).map (·.size) = some 71 := by kernel_rfl

set_option maxRecDepth 100000 in
theorem I_kindOf (zs : List Int) (w : World) (hz : zs.length = 71) :
    Calls Try.prog 51 #[.agg (rowI zs)] w fun e w' => e = .returned (if mkK zs = 0 then .iface 117 (.agg (rowI zs)) else if mkK zs = 1 then .iface 118 (.agg (rowI zs)) else if mkK zs = 2 then .iface 119 (.agg (rowI zs)) else .nilIface) ∧ Below w.heap.size w w' := by
  have HZ := Lib.hid hz
  have c0 := rowI_get (zs := zs) (j := 0) (by omega)
  clear hz
  unfold mkK
  generalize zs.getD 0 0 = kd at c0 ⊢
  have hs := Lib.hid (show sub zs 0 71 = zs by rw [← HZ.out]; exact sub_all zs)
  rcases (show kd = 0 ∨ kd = 1 ∨ kd = 2 ∨ (kd ≠ 0 ∧ kd ≠ 1 ∧ kd ≠ 2) by omega) with rfl | rfl | rfl | ⟨h0, h1, h2⟩
  · rw [if_pos rfl]
    go_enter Try.func51, Try.ntmps51
    go_wp2_with (refine wpList_load_sub rfl 29 (.tmp 1) rfl w.heap.size 0 71 rfl 29 zs (0, 0) _ (heap_alloc_new _ _) Try.underlying29 rfl infoMacI (by rw [HZ.out]; omega) ?_; rw [hs.out])
    go_returns
    exact ⟨rfl, (by repeat' (first | (with_reducible exact Below.refl _ _) | (with_reducible refine Below.adds_ ?_ ?_ _ _) | (with_reducible refine Below.alloc ?_ ?_ _) | (with_reducible refine Below.drew ?_) | (with_reducible refine Below.setCell ?_ ?_ _) | (with_reducible assumption) | go_size | (simp only [size_addsW, World.size_alloc, World.size_drew, World.size_setCell]; omega)))⟩
  · rw [if_neg (by decide), if_pos rfl]
    go_enter Try.func51, Try.ntmps51
    go_wp2_with (refine wpList_load_sub rfl 29 (.tmp 1) rfl w.heap.size 0 71 rfl 29 zs (0, 0) _ (heap_alloc_new _ _) Try.underlying29 rfl infoMacI (by rw [HZ.out]; omega) ?_; rw [hs.out])
    go_returns
    exact ⟨rfl, (by repeat' (first | (with_reducible exact Below.refl _ _) | (with_reducible refine Below.adds_ ?_ ?_ _ _) | (with_reducible refine Below.alloc ?_ ?_ _) | (with_reducible refine Below.drew ?_) | (with_reducible refine Below.setCell ?_ ?_ _) | (with_reducible assumption) | go_size | (simp only [size_addsW, World.size_alloc, World.size_drew, World.size_setCell]; omega)))⟩
  · rw [if_neg (by decide), if_neg (by decide), if_pos rfl]
    go_enter Try.func51, Try.ntmps51
    go_wp2_with (refine wpList_load_sub rfl 29 (.tmp 1) rfl w.heap.size 0 71 rfl 29 zs (0, 0) _ (heap_alloc_new _ _) Try.underlying29 rfl infoMacI (by rw [HZ.out]; omega) ?_; rw [hs.out])
    go_returns
    exact ⟨rfl, (by repeat' (first | (with_reducible exact Below.refl _ _) | (with_reducible refine Below.adds_ ?_ ?_ _ _) | (with_reducible refine Below.alloc ?_ ?_ _) | (with_reducible refine Below.drew ?_) | (with_reducible refine Below.setCell ?_ ?_ _) | (with_reducible assumption) | go_size | (simp only [size_addsW, World.size_alloc, World.size_drew, World.size_setCell]; omega)))⟩
  · rw [if_neg h0, if_neg h1, if_neg h2]
    have t0 : (kd == 0) = false := by simp [h0]
    have t1 : (kd == 1) = false := by simp [h1]
    have t2 : (kd == 2) = false := by simp [h2]
    clear h0 h1 h2
    go_enter Try.func51, Try.ntmps51
    go_wp2_with fail
    go_returns
    exact ⟨rfl, (by repeat' (first | (with_reducible exact Below.refl _ _) | (with_reducible refine Below.adds_ ?_ ?_ _ _) | (with_reducible refine Below.alloc ?_ ?_ _) | (with_reducible refine Below.drew ?_) | (with_reducible refine Below.setCell ?_ ?_ _) | (with_reducible assumption) | go_size | (simp only [size_addsW, World.size_alloc, World.size_drew, World.size_setCell]; omega)))⟩

end Go.Proofs.Ytggkelehjdepkaa
