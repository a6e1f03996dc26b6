/- The reference's MacroValid. -/
import Derived.Test.YtggkelehjdepkaaMacE
namespace Go.Proofs.Ytggkelehjdepkaa
open Go.RowKit
set_option linter.unusedVariables false
set_option linter.unusedSimpArgs false

attribute [local go_sem] size_addsW cell?_addsW frozen?_addsW setCell_addsW drew_addsW adds_addsW setCell_twice alloc_adds0 size_adds0 adds_adds0 sel2 sel3 sel4 sel5 sel6 sel7 sel8 sel9 lt_more lt_more2 lt_more3 lt_more4 adds_drew adds_drewN drewN_addsW ltA_1_1 ltA_1_2 ltA_1_3 ltA_1_4 ltA_1_5 ltA_1_6 ltA_2_1 ltA_2_2 ltA_2_3 ltA_2_4 ltA_2_5 ltA_2_6 ltA_3_1 ltA_3_2 ltA_3_3 ltA_3_4 ltA_3_5 ltA_3_6 ltA_4_1 ltA_4_2 ltA_4_3 ltA_4_4 ltA_4_5 ltA_4_6 ltA_5_1 ltA_5_2 ltA_5_3 ltA_5_4 ltA_5_5 ltA_5_6 ltA_6_1 ltA_6_2 ltA_6_3 ltA_6_4 ltA_6_5 ltA_6_6 ltA_7_1 ltA_7_2 ltA_7_3 ltA_7_4 ltA_7_5 ltA_7_6 ltA_8_1 ltA_8_2 ltA_8_3 ltA_8_4 ltA_8_5 ltA_8_6 ltA_9_1 ltA_9_2 ltA_9_3 ltA_9_4 ltA_9_5 ltA_9_6 ltA_10_1 ltA_10_2 ltA_10_3 ltA_10_4 ltA_10_5 ltA_10_6 ltA_11_1 ltA_11_2 ltA_11_3 ltA_11_4 ltA_11_5 ltA_11_6 ltA_12_1 ltA_12_2 ltA_12_3 ltA_12_4 ltA_12_5 ltA_12_6

theorem macB_of {zs : List Int} {kd x y : Int} (hk : mkK zs = kd) (hx : zs.getD 1 0 = x) (hy : zs.getD 2 0 = y) (h1 : M.inB kd 0 2 = true) (h2 : M.vecB x y = true) (h3 : modB (mdL zs) = true) (h4 : absB 4080 (lvL zs) = true) {b5 b7 : Bool} (h5 : (mdL zs == zL 4) = b5) (h7 : (lvL zs == zL 64) = b7) :
    macB zs = ((kd == 1 || (x == 0 && y == 0)) && (kd == 2 || b5) && (kd != 0 || b7)) := by
  simp only [macB, hk, hx, hy, h1, h2, h3, h4, h5, h7, Bool.true_and, Bool.and_assoc]
theorem macB_no1 {zs : List Int} (h : M.inB (mkK zs) 0 2 = false) : macB zs = false := by simp only [macB, h, Bool.false_and]
theorem macB_no2 {zs : List Int} (h : M.vecB (zs.getD 1 0) (zs.getD 2 0) = false) : macB zs = false := by simp only [macB, h, Bool.false_and, Bool.and_false]
theorem macB_no3 {zs : List Int} (h : modB (mdL zs) = false) : macB zs = false := by simp only [macB, h, Bool.false_and, Bool.and_false]
theorem macB_no4 {zs : List Int} (h : absB 4080 (lvL zs) = false) : macB zs = false := by simp only [macB, h, Bool.false_and, Bool.and_false]
def SmRel (W : World) (zs : List Int) (i : Value) (wr : World) : Prop := ∃ (k : Nat) (oo : Array Obj) (nn : Nat), k ≤ 4 ∧ i = .int .i64 (k : Int) ∧ wr = addsW W oo nn ∧ modB ((mdL zs).take k) = true ∧ absB 4080 ((lvL zs).take (k * 16)) = true
theorem heap1 (w : World) (u : Array Value) (t : TypeId) (oo : Array Obj) (nn : Nat) : (addsW (w.alloc (.cells u t)) oo nn).heap[w.heap.size]? = some (.cells u t (0, 0)) := by
  rw [heap_addsW _ _ _ _ (by simp)]; exact heap_alloc_new _ _

set_option maxRecDepth 100000 in
set_option maxHeartbeats 4000000 in
theorem S_MacroValid (zs : List Int) (w : World) (hz : zs.length = 71) :
    Calls Try.prog 10 #[.agg (rowI zs)] w fun e w' => e = .returned (.bool (macB zs)) ∧ Below w.heap.size w w' := by
  have HZ := Lib.hid hz
  have lm : (mdL zs).length = 4 := sub_len (by omega)
  have ll : (lvL zs).length = 64 := sub_len (by omega)
  have HLM := Lib.hid lm
  have HLL := Lib.hid ll
  have c0 := rowI_get (zs := zs) (j := 0) (by omega)
  have c1 := rowI_get (zs := zs) (j := 1) (by omega)
  have c2 := rowI_get (zs := zs) (j := 2) (by omega)
  obtain ⟨kd, hkd⟩ : ∃ kd, zs.getD 0 0 = kd := ⟨_, rfl⟩
  obtain ⟨x, hx⟩ : ∃ x, zs.getD 1 0 = x := ⟨_, rfl⟩
  obtain ⟨y, hy⟩ : ∃ y, zs.getD 2 0 = y := ⟨_, rfl⟩
  rw [hkd] at c0
  rw [hx] at c1
  rw [hy] at c2
  have HK := Lib.hid hkd
  have HX := Lib.hid hx
  have HY := Lib.hid hy
  clear hz lm ll hkd hx hy
  cases h1 : M.inB kd 0 2
  · have hf : macB zs = false := macB_no1 (by rw [mkK, HK.out]; exact h1)
    rw [hf]
    go_enter Try.func10, Try.ntmps10
    go_wp2_with (go_at_call 36; refine (S_l1In _ _ _ _).mono ?_; rintro e w' ⟨rfl, rfl⟩)
    go_returns
    exact ⟨rfl, (by repeat' (first | (with_reducible exact Below.refl _ _) | (with_reducible refine Below.adds_ ?_ ?_ _ _) | (with_reducible refine Below.alloc ?_ ?_ _) | (with_reducible refine Below.drew ?_) | (with_reducible refine Below.setCell ?_ ?_ _) | (with_reducible assumption) | go_size | (simp only [size_addsW, World.size_alloc, World.size_drew, World.size_setCell]; omega)))⟩
  · cases h2 : M.vecB x y
    · have hf : macB zs = false := macB_no2 (by rw [HX.out, HY.out]; exact h2)
      rw [hf]
      go_enter Try.func10, Try.ntmps10
      go_wp2_with (first | (go_at_call 36; refine (S_l1In _ _ _ _).mono ?_; rintro e w' ⟨rfl, rfl⟩) | (go_at_call 37; refine (S_VectorValid x y _).mono ?_; rw [h2]; rintro e w' ⟨rfl, hb⟩; obtain ⟨o1, n1, rfl⟩ := below_adds hb; clear hb))
      go_returns
      exact ⟨rfl, (by repeat' (first | (with_reducible exact Below.refl _ _) | (with_reducible refine Below.adds_ ?_ ?_ _ _) | (with_reducible refine Below.alloc ?_ ?_ _) | (with_reducible refine Below.drew ?_) | (with_reducible refine Below.setCell ?_ ?_ _) | (with_reducible assumption) | go_size | (simp only [size_addsW, World.size_alloc, World.size_drew, World.size_setCell]; omega)))⟩
    · go_enter Try.func10, Try.ntmps10
      go_wp2_with (first | (go_at_call 36; refine (S_l1In _ _ _ _).mono ?_; rintro e w' ⟨rfl, rfl⟩) | (go_at_call 37; refine (S_VectorValid x y _).mono ?_; rw [h2]; rintro e w' ⟨rfl, hb⟩; obtain ⟨o1, n1, rfl⟩ := below_adds hb; clear hb))
      go_loopw [3] (fun i wr => SmRel (w.alloc (.cells (rowI zs) 29)) zs i wr) (fun i _ => 4 - (intOf i).toNat)
      case atStart => exact ⟨0, o1, n1, Nat.zero_le _, rfl, rfl, by simp [modB], by simp [absB]⟩
      case round =>
        obtain ⟨k, oo, nn, hk, rfl, rfl, ht1, ht2⟩ := hrel
        have HT1 := Lib.hid ht1
        have HT2 := Lib.hid ht2
        clear ht1 ht2
        by_cases hlt : k < 4
        · have hc := rowI_get (zs := zs) (j := 3 + k) (by rw [HZ.out]; omega)
          obtain ⟨z, hzz⟩ : ∃ z, z = zs.getD (3 + k) 0 := ⟨_, rfl⟩
          rw [← hzz] at hc
          have HZZ := Lib.hid (show (mdL zs).getD k 0 = z by rw [hzz, mdL, sub_at hlt])
          clear hzz
          have hd1 : decide ((k : Int) < 4) = true := by simp; omega
          cases hm : M.inB z 0 4
          · have hf : macB zs = false := macB_no3 (modB_no (k := k) (by rw [HLM.out]; exact hlt) (by rw [HZZ.out]; exact hm))
            have HFF := Lib.hid hf
            clear hf
            go_wp2_with (go_at_call 36; refine (S_l1In _ _ _ _).mono ?_; rintro e w' ⟨rfl, rfl⟩)
            go_returns
            exact ⟨M.ret_bool HFF.out.symm, (by repeat' (first | (with_reducible exact Below.refl _ _) | (with_reducible refine Below.adds_ ?_ ?_ _ _) | (with_reducible refine Below.alloc ?_ ?_ _) | (with_reducible refine Below.drew ?_) | (with_reducible refine Below.setCell ?_ ?_ _) | (with_reducible assumption) | go_size | (simp only [size_addsW, World.size_alloc, World.size_drew, World.size_setCell]; omega)))⟩
          · have hl := sub_len (zs := zs) (o := 7 + k * 16) (s := 16) (by rw [HZ.out]; omega)
            have HL := Lib.hid hl
            have hss := sub_sub zs 7 64 (k * 16) 16 (by omega)
            have HSS := Lib.hid hss
            clear hl hss
            cases hv : absB 4080 (sub zs (7 + k * 16) 16)
            all_goals
              go_wp2_with (first | (go_at_call 36; refine (S_l1In _ _ _ _).mono ?_; rintro e w' ⟨rfl, rfl⟩) | (refine wpList_wanted (by rfl) (fun K hK => wp_load_sub 26 (.tmp 27) rfl w.heap.size (7 + k * 16) 16 rfl 29 zs (0, 0) _ (heap1 _ _ _ _ _) Try.underlying26 rfl infoA16 (by rw [HZ.out]; omega) (hK _ _ ?_))) | (go_at_call 38; refine (S_l3Ok (sub zs (7 + k * 16) 16) 4080 _ HL.out (by omega)).mono ?_; rw [hv]; rintro e w' ⟨rfl, hb⟩; obtain ⟨o5, n5, rfl⟩ := below_adds hb; clear hb))
            · have hf : macB zs = false := macB_no4 (absB_part_no (o := k * 16) (s := 16) (by rw [lvL, HSS.out]; exact hv))
              go_returns
              exact ⟨M.ret_bool hf.symm, (by repeat' (first | (with_reducible exact Below.refl _ _) | (with_reducible refine Below.adds_ ?_ ?_ _ _) | (with_reducible refine Below.alloc ?_ ?_ _) | (with_reducible refine Below.drew ?_) | (with_reducible refine Below.setCell ?_ ?_ _) | (with_reducible assumption) | go_size | (simp only [size_addsW, World.size_alloc, World.size_drew, World.size_setCell]; omega)))⟩
            · go_roundw
              case rel => exact ⟨k + 1, _, _, by omega, by go_num, rfl, modB_take (by rw [HLM.out]; exact hlt) HT1.out (by rw [HZZ.out]; exact hm), absB_part (by rw [HLL.out]; omega) HT2.out (by rw [lvL, HSS.out]; exact hv)⟩
              case measure => simp [intOf]; omega
        · obtain rfl : k = 4 := by omega
          have e3 : modB (mdL zs) = true := by have := HT1.out; rw [List.take_of_length_le (by rw [HLM.out]; omega)] at this; exact this
          have e4 : absB 4080 (lvL zs) = true := by have := HT2.out; rw [List.take_of_length_le (by rw [HLL.out]; omega)] at this; exact this
          obtain ⟨b5, hb5⟩ : ∃ b5, (mdL zs == zL 4) = b5 := ⟨_, rfl⟩
          obtain ⟨b7, hb7⟩ : ∃ b7, (lvL zs == zL 64) = b7 := ⟨_, rfl⟩
          have HMB := Lib.hid (macB_of HK.out HX.out HY.out h1 h2 e3 e4 hb5 hb7)
          have E5 := Lib.hid (show ∀ W, (Op.equalIn 10000 25 (.agg (rowI (sub zs 3 4))) (.agg (rowI (zL 4)))).run Try.prog W = .ok b5 W from fun W => by rw [← hb5]; exact eq4 W _ _ HLM.out (zL_len 4))
          have E7 := Lib.hid (show ∀ W, (Op.equalIn 10000 27 (.agg (rowI (sub zs 7 64))) (.agg (rowI (zL 64)))).run Try.prog W = .ok b7 W from fun W => by rw [← hb7]; exact eq64 W _ _ HLL.out (zL_len 64))
          have hk3 := M.inB_iff.1 h1
          clear h1 h2 e3 e4 hb5 hb7 HT1 HT2 HK HX HY
          rcases (show kd = 0 ∨ kd = 1 ∨ kd = 2 by omega) with rfl | rfl | rfl
          · clear hk3
            cases bx : (x == 0)
            · go_wp2_with (first | (focus ((with_reducible refine wpList_wanted ?_ (fun K hK => ?_)); rotate_left; (refine wp_load_sub 25 (.tmp 46) rfl w.heap.size 3 4 rfl 29 zs (0, 0) _ (heap1 _ _ _ _ _) Try.underlying25 rfl infoA4 (by rw [HZ.out]; omega) (hK _ _ ?_)); rotate_left; rfl)) | (focus ((with_reducible refine wpList_wanted ?_ (fun K hK => ?_)); rotate_left; (refine wp_load_sub 27 (.tmp 56) rfl w.heap.size 7 64 rfl 29 zs (0, 0) _ (heap1 _ _ _ _ _) Try.underlying27 rfl infoA64 (by rw [HZ.out]; omega) (hK _ _ ?_)); rotate_left; rfl)) | (focus ((with_reducible refine wpList_wanted ?_ (fun K hK => ?_)); rotate_left; (refine wp_neq_agg 25 25 (.tmp 47) (.tmp 48) rfl (rowI (sub zs 3 4)) (rowI (zL 4)) rfl rfl (by kernel_rfl) _ (E5.out _) (hK _ _ ?_)); rotate_left; rfl)) | (focus ((with_reducible refine wpList_wanted ?_ (fun K hK => ?_)); rotate_left; (refine wp_eql_agg 27 27 (.tmp 57) (.tmp 58) rfl (rowI (sub zs 7 64)) (rowI (zL 64)) rfl rfl (by kernel_rfl) _ (E7.out _) (hK _ _ ?_)); rotate_left; rfl)))
              go_returns
              exact ⟨M.ret_bool (by rw [HMB.out]; simp [*]), (by repeat' (first | (with_reducible exact Below.refl _ _) | (with_reducible refine Below.adds_ ?_ ?_ _ _) | (with_reducible refine Below.alloc ?_ ?_ _) | (with_reducible refine Below.drew ?_) | (with_reducible refine Below.setCell ?_ ?_ _) | (with_reducible assumption) | go_size | (simp only [size_addsW, World.size_alloc, World.size_drew, World.size_setCell]; omega)))⟩
            · cases by_ : (y == 0)
              · go_wp2_with (first | (focus ((with_reducible refine wpList_wanted ?_ (fun K hK => ?_)); rotate_left; (refine wp_load_sub 25 (.tmp 46) rfl w.heap.size 3 4 rfl 29 zs (0, 0) _ (heap1 _ _ _ _ _) Try.underlying25 rfl infoA4 (by rw [HZ.out]; omega) (hK _ _ ?_)); rotate_left; rfl)) | (focus ((with_reducible refine wpList_wanted ?_ (fun K hK => ?_)); rotate_left; (refine wp_load_sub 27 (.tmp 56) rfl w.heap.size 7 64 rfl 29 zs (0, 0) _ (heap1 _ _ _ _ _) Try.underlying27 rfl infoA64 (by rw [HZ.out]; omega) (hK _ _ ?_)); rotate_left; rfl)) | (focus ((with_reducible refine wpList_wanted ?_ (fun K hK => ?_)); rotate_left; (refine wp_neq_agg 25 25 (.tmp 47) (.tmp 48) rfl (rowI (sub zs 3 4)) (rowI (zL 4)) rfl rfl (by kernel_rfl) _ (E5.out _) (hK _ _ ?_)); rotate_left; rfl)) | (focus ((with_reducible refine wpList_wanted ?_ (fun K hK => ?_)); rotate_left; (refine wp_eql_agg 27 27 (.tmp 57) (.tmp 58) rfl (rowI (sub zs 7 64)) (rowI (zL 64)) rfl rfl (by kernel_rfl) _ (E7.out _) (hK _ _ ?_)); rotate_left; rfl)))
                go_returns
                exact ⟨M.ret_bool (by rw [HMB.out]; simp [*]), (by repeat' (first | (with_reducible exact Below.refl _ _) | (with_reducible refine Below.adds_ ?_ ?_ _ _) | (with_reducible refine Below.alloc ?_ ?_ _) | (with_reducible refine Below.drew ?_) | (with_reducible refine Below.setCell ?_ ?_ _) | (with_reducible assumption) | go_size | (simp only [size_addsW, World.size_alloc, World.size_drew, World.size_setCell]; omega)))⟩
              · cases b5
                · go_wp2_with (first | (focus ((with_reducible refine wpList_wanted ?_ (fun K hK => ?_)); rotate_left; (refine wp_load_sub 25 (.tmp 46) rfl w.heap.size 3 4 rfl 29 zs (0, 0) _ (heap1 _ _ _ _ _) Try.underlying25 rfl infoA4 (by rw [HZ.out]; omega) (hK _ _ ?_)); rotate_left; rfl)) | (focus ((with_reducible refine wpList_wanted ?_ (fun K hK => ?_)); rotate_left; (refine wp_load_sub 27 (.tmp 56) rfl w.heap.size 7 64 rfl 29 zs (0, 0) _ (heap1 _ _ _ _ _) Try.underlying27 rfl infoA64 (by rw [HZ.out]; omega) (hK _ _ ?_)); rotate_left; rfl)) | (focus ((with_reducible refine wpList_wanted ?_ (fun K hK => ?_)); rotate_left; (refine wp_neq_agg 25 25 (.tmp 47) (.tmp 48) rfl (rowI (sub zs 3 4)) (rowI (zL 4)) rfl rfl (by kernel_rfl) _ (E5.out _) (hK _ _ ?_)); rotate_left; rfl)) | (focus ((with_reducible refine wpList_wanted ?_ (fun K hK => ?_)); rotate_left; (refine wp_eql_agg 27 27 (.tmp 57) (.tmp 58) rfl (rowI (sub zs 7 64)) (rowI (zL 64)) rfl rfl (by kernel_rfl) _ (E7.out _) (hK _ _ ?_)); rotate_left; rfl)))
                  go_returns
                  exact ⟨M.ret_bool (by rw [HMB.out]; simp [*]), (by repeat' (first | (with_reducible exact Below.refl _ _) | (with_reducible refine Below.adds_ ?_ ?_ _ _) | (with_reducible refine Below.alloc ?_ ?_ _) | (with_reducible refine Below.drew ?_) | (with_reducible refine Below.setCell ?_ ?_ _) | (with_reducible assumption) | go_size | (simp only [size_addsW, World.size_alloc, World.size_drew, World.size_setCell]; omega)))⟩
                · go_wp2_with (first | (focus ((with_reducible refine wpList_wanted ?_ (fun K hK => ?_)); rotate_left; (refine wp_load_sub 25 (.tmp 46) rfl w.heap.size 3 4 rfl 29 zs (0, 0) _ (heap1 _ _ _ _ _) Try.underlying25 rfl infoA4 (by rw [HZ.out]; omega) (hK _ _ ?_)); rotate_left; rfl)) | (focus ((with_reducible refine wpList_wanted ?_ (fun K hK => ?_)); rotate_left; (refine wp_load_sub 27 (.tmp 56) rfl w.heap.size 7 64 rfl 29 zs (0, 0) _ (heap1 _ _ _ _ _) Try.underlying27 rfl infoA64 (by rw [HZ.out]; omega) (hK _ _ ?_)); rotate_left; rfl)) | (focus ((with_reducible refine wpList_wanted ?_ (fun K hK => ?_)); rotate_left; (refine wp_neq_agg 25 25 (.tmp 47) (.tmp 48) rfl (rowI (sub zs 3 4)) (rowI (zL 4)) rfl rfl (by kernel_rfl) _ (E5.out _) (hK _ _ ?_)); rotate_left; rfl)) | (focus ((with_reducible refine wpList_wanted ?_ (fun K hK => ?_)); rotate_left; (refine wp_eql_agg 27 27 (.tmp 57) (.tmp 58) rfl (rowI (sub zs 7 64)) (rowI (zL 64)) rfl rfl (by kernel_rfl) _ (E7.out _) (hK _ _ ?_)); rotate_left; rfl)))
                  go_returns
                  exact ⟨M.ret_bool (by rw [HMB.out]; simp [*]), (by repeat' (first | (with_reducible exact Below.refl _ _) | (with_reducible refine Below.adds_ ?_ ?_ _ _) | (with_reducible refine Below.alloc ?_ ?_ _) | (with_reducible refine Below.drew ?_) | (with_reducible refine Below.setCell ?_ ?_ _) | (with_reducible assumption) | go_size | (simp only [size_addsW, World.size_alloc, World.size_drew, World.size_setCell]; omega)))⟩
          · clear hk3
            cases b5
            · go_wp2_with (first | (focus ((with_reducible refine wpList_wanted ?_ (fun K hK => ?_)); rotate_left; (refine wp_load_sub 25 (.tmp 46) rfl w.heap.size 3 4 rfl 29 zs (0, 0) _ (heap1 _ _ _ _ _) Try.underlying25 rfl infoA4 (by rw [HZ.out]; omega) (hK _ _ ?_)); rotate_left; rfl)) | (focus ((with_reducible refine wpList_wanted ?_ (fun K hK => ?_)); rotate_left; (refine wp_load_sub 27 (.tmp 56) rfl w.heap.size 7 64 rfl 29 zs (0, 0) _ (heap1 _ _ _ _ _) Try.underlying27 rfl infoA64 (by rw [HZ.out]; omega) (hK _ _ ?_)); rotate_left; rfl)) | (focus ((with_reducible refine wpList_wanted ?_ (fun K hK => ?_)); rotate_left; (refine wp_neq_agg 25 25 (.tmp 47) (.tmp 48) rfl (rowI (sub zs 3 4)) (rowI (zL 4)) rfl rfl (by kernel_rfl) _ (E5.out _) (hK _ _ ?_)); rotate_left; rfl)) | (focus ((with_reducible refine wpList_wanted ?_ (fun K hK => ?_)); rotate_left; (refine wp_eql_agg 27 27 (.tmp 57) (.tmp 58) rfl (rowI (sub zs 7 64)) (rowI (zL 64)) rfl rfl (by kernel_rfl) _ (E7.out _) (hK _ _ ?_)); rotate_left; rfl)))
              go_returns
              exact ⟨M.ret_bool (by rw [HMB.out]; simp [*]), (by repeat' (first | (with_reducible exact Below.refl _ _) | (with_reducible refine Below.adds_ ?_ ?_ _ _) | (with_reducible refine Below.alloc ?_ ?_ _) | (with_reducible refine Below.drew ?_) | (with_reducible refine Below.setCell ?_ ?_ _) | (with_reducible assumption) | go_size | (simp only [size_addsW, World.size_alloc, World.size_drew, World.size_setCell]; omega)))⟩
            · go_wp2_with (first | (focus ((with_reducible refine wpList_wanted ?_ (fun K hK => ?_)); rotate_left; (refine wp_load_sub 25 (.tmp 46) rfl w.heap.size 3 4 rfl 29 zs (0, 0) _ (heap1 _ _ _ _ _) Try.underlying25 rfl infoA4 (by rw [HZ.out]; omega) (hK _ _ ?_)); rotate_left; rfl)) | (focus ((with_reducible refine wpList_wanted ?_ (fun K hK => ?_)); rotate_left; (refine wp_load_sub 27 (.tmp 56) rfl w.heap.size 7 64 rfl 29 zs (0, 0) _ (heap1 _ _ _ _ _) Try.underlying27 rfl infoA64 (by rw [HZ.out]; omega) (hK _ _ ?_)); rotate_left; rfl)) | (focus ((with_reducible refine wpList_wanted ?_ (fun K hK => ?_)); rotate_left; (refine wp_neq_agg 25 25 (.tmp 47) (.tmp 48) rfl (rowI (sub zs 3 4)) (rowI (zL 4)) rfl rfl (by kernel_rfl) _ (E5.out _) (hK _ _ ?_)); rotate_left; rfl)) | (focus ((with_reducible refine wpList_wanted ?_ (fun K hK => ?_)); rotate_left; (refine wp_eql_agg 27 27 (.tmp 57) (.tmp 58) rfl (rowI (sub zs 7 64)) (rowI (zL 64)) rfl rfl (by kernel_rfl) _ (E7.out _) (hK _ _ ?_)); rotate_left; rfl)))
              go_returns
              exact ⟨M.ret_bool (by rw [HMB.out]; simp [*]), (by repeat' (first | (with_reducible exact Below.refl _ _) | (with_reducible refine Below.adds_ ?_ ?_ _ _) | (with_reducible refine Below.alloc ?_ ?_ _) | (with_reducible refine Below.drew ?_) | (with_reducible refine Below.setCell ?_ ?_ _) | (with_reducible assumption) | go_size | (simp only [size_addsW, World.size_alloc, World.size_drew, World.size_setCell]; omega)))⟩
          · clear hk3
            cases bx : (x == 0)
            · go_wp2_with (first | (focus ((with_reducible refine wpList_wanted ?_ (fun K hK => ?_)); rotate_left; (refine wp_load_sub 25 (.tmp 46) rfl w.heap.size 3 4 rfl 29 zs (0, 0) _ (heap1 _ _ _ _ _) Try.underlying25 rfl infoA4 (by rw [HZ.out]; omega) (hK _ _ ?_)); rotate_left; rfl)) | (focus ((with_reducible refine wpList_wanted ?_ (fun K hK => ?_)); rotate_left; (refine wp_load_sub 27 (.tmp 56) rfl w.heap.size 7 64 rfl 29 zs (0, 0) _ (heap1 _ _ _ _ _) Try.underlying27 rfl infoA64 (by rw [HZ.out]; omega) (hK _ _ ?_)); rotate_left; rfl)) | (focus ((with_reducible refine wpList_wanted ?_ (fun K hK => ?_)); rotate_left; (refine wp_neq_agg 25 25 (.tmp 47) (.tmp 48) rfl (rowI (sub zs 3 4)) (rowI (zL 4)) rfl rfl (by kernel_rfl) _ (E5.out _) (hK _ _ ?_)); rotate_left; rfl)) | (focus ((with_reducible refine wpList_wanted ?_ (fun K hK => ?_)); rotate_left; (refine wp_eql_agg 27 27 (.tmp 57) (.tmp 58) rfl (rowI (sub zs 7 64)) (rowI (zL 64)) rfl rfl (by kernel_rfl) _ (E7.out _) (hK _ _ ?_)); rotate_left; rfl)))
              go_returns
              exact ⟨M.ret_bool (by rw [HMB.out]; simp [*]), (by repeat' (first | (with_reducible exact Below.refl _ _) | (with_reducible refine Below.adds_ ?_ ?_ _ _) | (with_reducible refine Below.alloc ?_ ?_ _) | (with_reducible refine Below.drew ?_) | (with_reducible refine Below.setCell ?_ ?_ _) | (with_reducible assumption) | go_size | (simp only [size_addsW, World.size_alloc, World.size_drew, World.size_setCell]; omega)))⟩
            · cases by_ : (y == 0)
              · go_wp2_with (first | (focus ((with_reducible refine wpList_wanted ?_ (fun K hK => ?_)); rotate_left; (refine wp_load_sub 25 (.tmp 46) rfl w.heap.size 3 4 rfl 29 zs (0, 0) _ (heap1 _ _ _ _ _) Try.underlying25 rfl infoA4 (by rw [HZ.out]; omega) (hK _ _ ?_)); rotate_left; rfl)) | (focus ((with_reducible refine wpList_wanted ?_ (fun K hK => ?_)); rotate_left; (refine wp_load_sub 27 (.tmp 56) rfl w.heap.size 7 64 rfl 29 zs (0, 0) _ (heap1 _ _ _ _ _) Try.underlying27 rfl infoA64 (by rw [HZ.out]; omega) (hK _ _ ?_)); rotate_left; rfl)) | (focus ((with_reducible refine wpList_wanted ?_ (fun K hK => ?_)); rotate_left; (refine wp_neq_agg 25 25 (.tmp 47) (.tmp 48) rfl (rowI (sub zs 3 4)) (rowI (zL 4)) rfl rfl (by kernel_rfl) _ (E5.out _) (hK _ _ ?_)); rotate_left; rfl)) | (focus ((with_reducible refine wpList_wanted ?_ (fun K hK => ?_)); rotate_left; (refine wp_eql_agg 27 27 (.tmp 57) (.tmp 58) rfl (rowI (sub zs 7 64)) (rowI (zL 64)) rfl rfl (by kernel_rfl) _ (E7.out _) (hK _ _ ?_)); rotate_left; rfl)))
                go_returns
                exact ⟨M.ret_bool (by rw [HMB.out]; simp [*]), (by repeat' (first | (with_reducible exact Below.refl _ _) | (with_reducible refine Below.adds_ ?_ ?_ _ _) | (with_reducible refine Below.alloc ?_ ?_ _) | (with_reducible refine Below.drew ?_) | (with_reducible refine Below.setCell ?_ ?_ _) | (with_reducible assumption) | go_size | (simp only [size_addsW, World.size_alloc, World.size_drew, World.size_setCell]; omega)))⟩
              · go_wp2_with (first | (focus ((with_reducible refine wpList_wanted ?_ (fun K hK => ?_)); rotate_left; (refine wp_load_sub 25 (.tmp 46) rfl w.heap.size 3 4 rfl 29 zs (0, 0) _ (heap1 _ _ _ _ _) Try.underlying25 rfl infoA4 (by rw [HZ.out]; omega) (hK _ _ ?_)); rotate_left; rfl)) | (focus ((with_reducible refine wpList_wanted ?_ (fun K hK => ?_)); rotate_left; (refine wp_load_sub 27 (.tmp 56) rfl w.heap.size 7 64 rfl 29 zs (0, 0) _ (heap1 _ _ _ _ _) Try.underlying27 rfl infoA64 (by rw [HZ.out]; omega) (hK _ _ ?_)); rotate_left; rfl)) | (focus ((with_reducible refine wpList_wanted ?_ (fun K hK => ?_)); rotate_left; (refine wp_neq_agg 25 25 (.tmp 47) (.tmp 48) rfl (rowI (sub zs 3 4)) (rowI (zL 4)) rfl rfl (by kernel_rfl) _ (E5.out _) (hK _ _ ?_)); rotate_left; rfl)) | (focus ((with_reducible refine wpList_wanted ?_ (fun K hK => ?_)); rotate_left; (refine wp_eql_agg 27 27 (.tmp 57) (.tmp 58) rfl (rowI (sub zs 7 64)) (rowI (zL 64)) rfl rfl (by kernel_rfl) _ (E7.out _) (hK _ _ ?_)); rotate_left; rfl)))
                go_returns
                exact ⟨M.ret_bool (by rw [HMB.out]; simp [*]), (by repeat' (first | (with_reducible exact Below.refl _ _) | (with_reducible refine Below.adds_ ?_ ?_ _ _) | (with_reducible refine Below.alloc ?_ ?_ _) | (with_reducible refine Below.drew ?_) | (with_reducible refine Below.setCell ?_ ?_ _) | (with_reducible assumption) | go_size | (simp only [size_addsW, World.size_alloc, World.size_drew, World.size_setCell]; omega)))⟩

end Go.Proofs.Ytggkelehjdepkaa
