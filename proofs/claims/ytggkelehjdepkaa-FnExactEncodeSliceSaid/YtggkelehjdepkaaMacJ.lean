/- The program's MacroValid. (printed by gen_macj.py) -/
import Derived.Test.YtggkelehjdepkaaMacI
namespace Go.Proofs.Ytggkelehjdepkaa
open Go.RowKit
set_option linter.unusedVariables false
set_option linter.unusedSimpArgs false

attribute [local go_sem] size_addsW cell?_addsW frozen?_addsW setCell_addsW drew_addsW adds_addsW setCell_twice alloc_adds0 size_adds0 adds_adds0 sel2 sel3 sel4 sel5 sel6 sel7 sel8 sel9 lt_more lt_more2 lt_more3 lt_more4 adds_drew adds_drewN drewN_addsW ltA_1_1 ltA_1_2 ltA_1_3 ltA_1_4 ltA_1_5 ltA_1_6 ltA_2_1 ltA_2_2 ltA_2_3 ltA_2_4 ltA_2_5 ltA_2_6 ltA_3_1 ltA_3_2 ltA_3_3 ltA_3_4 ltA_3_5 ltA_3_6 ltA_4_1 ltA_4_2 ltA_4_3 ltA_4_4 ltA_4_5 ltA_4_6 ltA_5_1 ltA_5_2 ltA_5_3 ltA_5_4 ltA_5_5 ltA_5_6 ltA_6_1 ltA_6_2 ltA_6_3 ltA_6_4 ltA_6_5 ltA_6_6 ltA_7_1 ltA_7_2 ltA_7_3 ltA_7_4 ltA_7_5 ltA_7_6 ltA_8_1 ltA_8_2 ltA_8_3 ltA_8_4 ltA_8_5 ltA_8_6 ltA_9_1 ltA_9_2 ltA_9_3 ltA_9_4 ltA_9_5 ltA_9_6 ltA_10_1 ltA_10_2 ltA_10_3 ltA_10_4 ltA_10_5 ltA_10_6 ltA_11_1 ltA_11_2 ltA_11_3 ltA_11_4 ltA_11_5 ltA_11_6 ltA_12_1 ltA_12_2 ltA_12_3 ltA_12_4 ltA_12_5 ltA_12_6

def ImRel (W : World) (zs : List Int) (i : Value) (wr : World) : Prop := ∃ (k : Nat) (oo : Array Obj) (nn : Nat), k ≤ 4 ∧ i = .int .i64 (k : Int) ∧ wr = addsW W oo nn ∧ absB 4080 ((lvL zs).take (k * 16)) = true

theorem adds_mid (W : World) (oo : Array Obj) (nn : Nat) (o : Obj) (p : Array Obj) (m : Nat) : addsW ((addsW W oo nn).alloc o) p m = addsW W (oo ++ #[o] ++ p) m := by simp [addsW, World.alloc]
theorem heapNew16 (W : World) (g : Nat) (t : TypeId) (h : g = W.heap.size) : (W.alloc (.cells #[.int .i64 0, .int .i64 0, .int .i64 0, .int .i64 0, .int .i64 0, .int .i64 0, .int .i64 0, .int .i64 0, .int .i64 0, .int .i64 0, .int .i64 0, .int .i64 0, .int .i64 0, .int .i64 0, .int .i64 0, .int .i64 0] t)).heap[g]? = some (.cells (rowI (zL 16)) t (0, 0)) := by
  subst h; exact heap_alloc_new _ _
theorem heapNewG (W : World) (g : Nat) (t : TypeId) (u : Array Value) (h : g = W.heap.size) : (W.alloc (.cells u t)).heap[g]? = some (.cells u t (0, 0)) := by
  subst h; exact heap_alloc_new _ _

set_option maxRecDepth 100000 in
set_option maxHeartbeats 4000000 in
theorem I_MacroValid0 (zs : List Int) (w : World) (hz : zs.length = 71) (hk : mkK zs = 0) (F : Bool)
    (FT : ∀ W, Calls Try.prog 109 #[.agg (rowI zs)] W fun e w' => e = .returned (.bool F) ∧ Below W.heap.size W w') :
    Calls Try.prog 33 #[.agg (rowI zs)] w fun e w' => e = .returned (.bool (M.vecB (zs.getD 1 0) (zs.getD 2 0) && F && absB 4080 (lvL zs))) ∧ Below w.heap.size w w' := by
  have HZ := Lib.hid hz
  have HLL := Lib.hid (show (lvL zs).length = 64 from sub_len (by omega))
  have c1 := rowI_get (zs := zs) (j := 1) (by omega)
  have c2 := rowI_get (zs := zs) (j := 2) (by omega)
  have hs := Lib.hid (show sub zs 0 71 = zs by rw [← hz]; exact sub_all zs)
  have KO := Lib.hid (show ∀ W, Calls Try.prog 51 #[.agg (rowI zs)] W fun e w' => e = .returned (.iface 117 (.agg (rowI zs))) ∧ Below W.heap.size W w' from fun W => by
    have h := I_kindOf zs W HZ.out
    rw [hk] at h
    simpa using h)
  have HF := Lib.hid FT
  clear hz hk FT
  generalize zs.getD 1 0 = x at c1 ⊢
  generalize zs.getD 2 0 = y at c2 ⊢
  obtain ⟨ls, hls⟩ : ∃ ls, ls = lvL zs := ⟨_, rfl⟩
  rw [← hls] at HLL ⊢
  have HLS := Lib.hid (show sub zs 7 64 = ls from hls.symm)
  clear hls
  cases h2 : M.vecB x y
  · go_enter Try.func33, Try.ntmps33
    go_wp2_with (first | (focus ((with_reducible refine wpList_wanted ?_ (fun K hK => ?_)); rotate_left; (refine wp_load_sub 29 (.tmp 1) ?ho w.heap.size 0 71 ?hx 29 zs (0, 0) _ ?hg Try.underlying29 rfl infoMacI ?hs (hK _ _ ?_)); (case ho => with_reducible rfl); (case hx => rfl); (case hg => exact heap_alloc_new _ _); (case hs => rw [HZ.out]; omega); rw [hs.out]; rotate_left; rfl)) | (go_at_call 51; refine (KO.out _).mono ?_; rintro e w' ⟨rfl, hb⟩; obtain ⟨o1, n1, rfl⟩ := below_adds hb; clear hb) | (go_at_call 52; refine (I_VectorValid x y _).mono ?_; rw [h2]; rintro e w' ⟨rfl, hb⟩; obtain ⟨o2, n2, rfl⟩ := below_adds hb; clear hb))
    go_returns
    exact ⟨rfl, (by repeat' (first | (with_reducible exact Below.refl _ _) | (with_reducible refine Below.adds_ ?_ ?_ _ _) | (with_reducible refine Below.alloc ?_ ?_ _) | (with_reducible refine Below.drew ?_) | (with_reducible refine Below.setCell ?_ ?_ _) | (with_reducible assumption) | go_size | (simp only [size_addsW, World.size_alloc, World.size_drew, World.size_setCell]; omega)))⟩
  · cases F
    · go_enter Try.func33, Try.ntmps33
      go_wp2_with (first | (focus ((with_reducible refine wpList_wanted ?_ (fun K hK => ?_)); rotate_left; (refine wp_load_sub 29 (.tmp 1) ?ho w.heap.size 0 71 ?hx 29 zs (0, 0) _ ?hg Try.underlying29 rfl infoMacI ?hs (hK _ _ ?_)); (case ho => with_reducible rfl); (case hx => rfl); (case hg => exact heap_alloc_new _ _); (case hs => rw [HZ.out]; omega); rw [hs.out]; rotate_left; rfl)) | (go_at_call 51; refine (KO.out _).mono ?_; rintro e w' ⟨rfl, hb⟩; obtain ⟨o1, n1, rfl⟩ := below_adds hb; clear hb) | (go_at_call 52; refine (I_VectorValid x y _).mono ?_; rw [h2]; rintro e w' ⟨rfl, hb⟩; obtain ⟨o2, n2, rfl⟩ := below_adds hb; clear hb) | (go_at_call 109; refine (HF.out _).mono ?_; rintro e w' ⟨rfl, hb⟩; obtain ⟨o1, n1, rfl⟩ := below_adds hb; clear hb))
      go_returns
      exact ⟨rfl, (by repeat' (first | (with_reducible exact Below.refl _ _) | (with_reducible refine Below.adds_ ?_ ?_ _ _) | (with_reducible refine Below.alloc ?_ ?_ _) | (with_reducible refine Below.drew ?_) | (with_reducible refine Below.setCell ?_ ?_ _) | (with_reducible assumption) | go_size | (simp only [size_addsW, World.size_alloc, World.size_drew, World.size_setCell]; omega)))⟩
    · go_enter Try.func33, Try.ntmps33
      go_wp2_with (first | (focus ((with_reducible refine wpList_wanted ?_ (fun K hK => ?_)); rotate_left; (refine wp_load_sub 29 (.tmp 1) ?ho w.heap.size 0 71 ?hx 29 zs (0, 0) _ ?hg Try.underlying29 rfl infoMacI ?hs (hK _ _ ?_)); (case ho => with_reducible rfl); (case hx => rfl); (case hg => exact heap_alloc_new _ _); (case hs => rw [HZ.out]; omega); rw [hs.out]; rotate_left; rfl)) | (go_at_call 51; refine (KO.out _).mono ?_; rintro e w' ⟨rfl, hb⟩; obtain ⟨o1, n1, rfl⟩ := below_adds hb; clear hb) | (go_at_call 52; refine (I_VectorValid x y _).mono ?_; rw [h2]; rintro e w' ⟨rfl, hb⟩; obtain ⟨o2, n2, rfl⟩ := below_adds hb; clear hb) | (go_at_call 109; refine (HF.out _).mono ?_; rintro e w' ⟨rfl, hb⟩; obtain ⟨o1, n1, rfl⟩ := below_adds hb; clear hb) | (focus ((with_reducible refine wpList_wanted ?_ (fun K hK => ?_)); rotate_left; (refine wp_load_sub 27 (.tmp 21) ?ho w.heap.size 7 64 ?hx 29 zs (0, 0) _ ?hg Try.underlying27 rfl infoA64 ?hs (hK _ _ ?_)); (case ho => with_reducible rfl); (case hx => rfl); (case hg => exact heap1i _ _ _ _ _); (case hs => rw [HZ.out]; omega); rw [HLS.out]; rotate_left; rfl)))
      go_loopw [23] (fun i wr => ∃ (k : Nat) (oo : Array Obj) (nn : Nat), k ≤ 4 ∧ i = .int .i64 (k : Int) ∧ wr = addsW (w.alloc (.cells (rowI zs) 29)) oo nn ∧ absB 4080 (ls.take (k * 16)) = true) (fun i _ => 4 - (intOf i).toNat)
      case atStart => exact ⟨0, _, _, Nat.zero_le _, rfl, rfl, by simp [absB]⟩
      case round =>
        obtain ⟨k, oo, nn, hk, rfl, rfl, ht⟩ := hrel
        have HT := Lib.hid ht
        clear ht
        by_cases hlt : k < 4
        · have hd1 : decide ((k : Int) < 4) = true := by simp; omega
          obtain ⟨rs, hrs⟩ : ∃ rs, rs = sub ls (k * 16) 16 := ⟨_, rfl⟩
          have HRL := Lib.hid (show rs.length = 16 by rw [hrs]; exact sub_len (by rw [HLL.out]; omega))
          have hidx : ∀ W, (Instr.index 27 (.agg (rowI ls)) (.int .i64 (k : Int))).run Try.prog W = .ok (.agg (rowI rs)) W := fun W => by
            rw [hrs]; exact run_index_sub W 27 26 4 16 _ Try.underlying27 Try.underlying26 rfl infoA16 ls k hlt
          have HRS := Lib.hid hrs
          clear hrs
          cases hv : absB 4080 rs
          all_goals
            go_wp2_with (first | (focus ((with_reducible refine wpList_wanted ?_ (fun K hK => ?_)); rotate_left; (refine wp_store_sub 26 (.tmp 5) (.tmp 25) ?ho (w.heap.size + 1 + oo.size) 0 rs ?hx ?hy 26 (zL 16) ?hg ?hi ?hfit (hK _ _ ?_)); (case ho => with_reducible rfl); (case hx => rfl); (case hy => rfl); (case hg => exact heapNew16 _ _ _ (by simp [addsW])); (case hi => rw [HRL.out]; exact infoA16); (case hfit => rw [HRL.out, zL_len]; exact Nat.le_refl _); rw [spl_full (by rw [HRL.out, zL_len]), setRow_alloc _ _ _ _ _ (by simp [addsW])]; rotate_left; rfl)) | (focus ((with_reducible refine wpList_wanted ?_ (fun K hK => ?_)); rotate_left; (refine wp_load_sub 26 (.tmp 5) ?ho (w.heap.size + 1 + oo.size) 0 16 ?hx 26 rs (0, 0) _ ?hg Try.underlying26 rfl infoA16 ?hs (hK _ _ ?_)); (case ho => with_reducible rfl); (case hx => rfl); (case hg => exact heapNewG _ _ _ _ (by simp [addsW])); (case hs => rw [HRL.out]; exact Nat.le_refl _); rw [show sub rs 0 16 = rs by rw [← HRL.out]; exact sub_all rs]; rotate_left; rfl)) | (go_at_call 53; refine (I_blockWithin rs 4080 _ HRL.out (by omega)).mono ?_; rw [hv]; rintro e w' ⟨rfl, hb⟩; obtain ⟨o5, n5, rfl⟩ := below_adds hb; clear hb))
          · have hf := Lib.hid (absB_part_no (m := 4080) (zs := ls) (o := k * 16) (s := 16) (by rw [← HRS.out]; exact hv))
            go_returns
            exact ⟨M.ret_bool (by rw [hf.out]; rfl), (by repeat' (first | (with_reducible exact Below.refl _ _) | (with_reducible refine Below.adds_ ?_ ?_ _ _) | (with_reducible refine Below.alloc ?_ ?_ _) | (with_reducible refine Below.drew ?_) | (with_reducible refine Below.setCell ?_ ?_ _) | (with_reducible assumption) | go_size | (simp only [size_addsW, World.size_alloc, World.size_drew, World.size_setCell]; omega)))⟩
          · go_roundw
            case rel => exact ⟨k + 1, _, _, by omega, by go_num, adds_mid _ _ _ _ _ _, absB_part (by rw [HLL.out]; omega) HT.out (by rw [← HRS.out]; exact hv)⟩
            case measure => simp [intOf]; omega
        · obtain rfl : k = 4 := by omega
          have e4 := Lib.hid (show absB 4080 ls = true by have := HT.out; rw [List.take_of_length_le (by rw [HLL.out]; omega)] at this; exact this)
          go_wp2_with fail
          go_returns
          exact ⟨M.ret_bool (by rw [e4.out]; rfl), (by repeat' (first | (with_reducible exact Below.refl _ _) | (with_reducible refine Below.adds_ ?_ ?_ _ _) | (with_reducible refine Below.alloc ?_ ?_ _) | (with_reducible refine Below.drew ?_) | (with_reducible refine Below.setCell ?_ ?_ _) | (with_reducible assumption) | go_size | (simp only [size_addsW, World.size_alloc, World.size_drew, World.size_setCell]; omega)))⟩

set_option maxRecDepth 100000 in
set_option maxHeartbeats 4000000 in
theorem I_MacroValid1 (zs : List Int) (w : World) (hz : zs.length = 71) (hk : mkK zs = 1) (F : Bool)
    (FT : ∀ W, Calls Try.prog 110 #[.agg (rowI zs)] W fun e w' => e = .returned (.bool F) ∧ Below W.heap.size W w') :
    Calls Try.prog 33 #[.agg (rowI zs)] w fun e w' => e = .returned (.bool (M.vecB (zs.getD 1 0) (zs.getD 2 0) && F && absB 4080 (lvL zs))) ∧ Below w.heap.size w w' := by
  have HZ := Lib.hid hz
  have HLL := Lib.hid (show (lvL zs).length = 64 from sub_len (by omega))
  have c1 := rowI_get (zs := zs) (j := 1) (by omega)
  have c2 := rowI_get (zs := zs) (j := 2) (by omega)
  have hs := Lib.hid (show sub zs 0 71 = zs by rw [← hz]; exact sub_all zs)
  have KO := Lib.hid (show ∀ W, Calls Try.prog 51 #[.agg (rowI zs)] W fun e w' => e = .returned (.iface 118 (.agg (rowI zs))) ∧ Below W.heap.size W w' from fun W => by
    have h := I_kindOf zs W HZ.out
    rw [hk] at h
    simpa using h)
  have HF := Lib.hid FT
  clear hz hk FT
  generalize zs.getD 1 0 = x at c1 ⊢
  generalize zs.getD 2 0 = y at c2 ⊢
  obtain ⟨ls, hls⟩ : ∃ ls, ls = lvL zs := ⟨_, rfl⟩
  rw [← hls] at HLL ⊢
  have HLS := Lib.hid (show sub zs 7 64 = ls from hls.symm)
  clear hls
  cases h2 : M.vecB x y
  · go_enter Try.func33, Try.ntmps33
    go_wp2_with (first | (focus ((with_reducible refine wpList_wanted ?_ (fun K hK => ?_)); rotate_left; (refine wp_load_sub 29 (.tmp 1) ?ho w.heap.size 0 71 ?hx 29 zs (0, 0) _ ?hg Try.underlying29 rfl infoMacI ?hs (hK _ _ ?_)); (case ho => with_reducible rfl); (case hx => rfl); (case hg => exact heap_alloc_new _ _); (case hs => rw [HZ.out]; omega); rw [hs.out]; rotate_left; rfl)) | (go_at_call 51; refine (KO.out _).mono ?_; rintro e w' ⟨rfl, hb⟩; obtain ⟨o1, n1, rfl⟩ := below_adds hb; clear hb) | (go_at_call 52; refine (I_VectorValid x y _).mono ?_; rw [h2]; rintro e w' ⟨rfl, hb⟩; obtain ⟨o2, n2, rfl⟩ := below_adds hb; clear hb))
    go_returns
    exact ⟨rfl, (by repeat' (first | (with_reducible exact Below.refl _ _) | (with_reducible refine Below.adds_ ?_ ?_ _ _) | (with_reducible refine Below.alloc ?_ ?_ _) | (with_reducible refine Below.drew ?_) | (with_reducible refine Below.setCell ?_ ?_ _) | (with_reducible assumption) | go_size | (simp only [size_addsW, World.size_alloc, World.size_drew, World.size_setCell]; omega)))⟩
  · cases F
    · go_enter Try.func33, Try.ntmps33
      go_wp2_with (first | (focus ((with_reducible refine wpList_wanted ?_ (fun K hK => ?_)); rotate_left; (refine wp_load_sub 29 (.tmp 1) ?ho w.heap.size 0 71 ?hx 29 zs (0, 0) _ ?hg Try.underlying29 rfl infoMacI ?hs (hK _ _ ?_)); (case ho => with_reducible rfl); (case hx => rfl); (case hg => exact heap_alloc_new _ _); (case hs => rw [HZ.out]; omega); rw [hs.out]; rotate_left; rfl)) | (go_at_call 51; refine (KO.out _).mono ?_; rintro e w' ⟨rfl, hb⟩; obtain ⟨o1, n1, rfl⟩ := below_adds hb; clear hb) | (go_at_call 52; refine (I_VectorValid x y _).mono ?_; rw [h2]; rintro e w' ⟨rfl, hb⟩; obtain ⟨o2, n2, rfl⟩ := below_adds hb; clear hb) | (go_at_call 110; refine (HF.out _).mono ?_; rintro e w' ⟨rfl, hb⟩; obtain ⟨o1, n1, rfl⟩ := below_adds hb; clear hb))
      go_returns
      exact ⟨rfl, (by repeat' (first | (with_reducible exact Below.refl _ _) | (with_reducible refine Below.adds_ ?_ ?_ _ _) | (with_reducible refine Below.alloc ?_ ?_ _) | (with_reducible refine Below.drew ?_) | (with_reducible refine Below.setCell ?_ ?_ _) | (with_reducible assumption) | go_size | (simp only [size_addsW, World.size_alloc, World.size_drew, World.size_setCell]; omega)))⟩
    · go_enter Try.func33, Try.ntmps33
      go_wp2_with (first | (focus ((with_reducible refine wpList_wanted ?_ (fun K hK => ?_)); rotate_left; (refine wp_load_sub 29 (.tmp 1) ?ho w.heap.size 0 71 ?hx 29 zs (0, 0) _ ?hg Try.underlying29 rfl infoMacI ?hs (hK _ _ ?_)); (case ho => with_reducible rfl); (case hx => rfl); (case hg => exact heap_alloc_new _ _); (case hs => rw [HZ.out]; omega); rw [hs.out]; rotate_left; rfl)) | (go_at_call 51; refine (KO.out _).mono ?_; rintro e w' ⟨rfl, hb⟩; obtain ⟨o1, n1, rfl⟩ := below_adds hb; clear hb) | (go_at_call 52; refine (I_VectorValid x y _).mono ?_; rw [h2]; rintro e w' ⟨rfl, hb⟩; obtain ⟨o2, n2, rfl⟩ := below_adds hb; clear hb) | (go_at_call 110; refine (HF.out _).mono ?_; rintro e w' ⟨rfl, hb⟩; obtain ⟨o1, n1, rfl⟩ := below_adds hb; clear hb) | (focus ((with_reducible refine wpList_wanted ?_ (fun K hK => ?_)); rotate_left; (refine wp_load_sub 27 (.tmp 21) ?ho w.heap.size 7 64 ?hx 29 zs (0, 0) _ ?hg Try.underlying27 rfl infoA64 ?hs (hK _ _ ?_)); (case ho => with_reducible rfl); (case hx => rfl); (case hg => exact heap1i _ _ _ _ _); (case hs => rw [HZ.out]; omega); rw [HLS.out]; rotate_left; rfl)))
      go_loopw [23] (fun i wr => ∃ (k : Nat) (oo : Array Obj) (nn : Nat), k ≤ 4 ∧ i = .int .i64 (k : Int) ∧ wr = addsW (w.alloc (.cells (rowI zs) 29)) oo nn ∧ absB 4080 (ls.take (k * 16)) = true) (fun i _ => 4 - (intOf i).toNat)
      case atStart => exact ⟨0, _, _, Nat.zero_le _, rfl, rfl, by simp [absB]⟩
      case round =>
        obtain ⟨k, oo, nn, hk, rfl, rfl, ht⟩ := hrel
        have HT := Lib.hid ht
        clear ht
        by_cases hlt : k < 4
        · have hd1 : decide ((k : Int) < 4) = true := by simp; omega
          obtain ⟨rs, hrs⟩ : ∃ rs, rs = sub ls (k * 16) 16 := ⟨_, rfl⟩
          have HRL := Lib.hid (show rs.length = 16 by rw [hrs]; exact sub_len (by rw [HLL.out]; omega))
          have hidx : ∀ W, (Instr.index 27 (.agg (rowI ls)) (.int .i64 (k : Int))).run Try.prog W = .ok (.agg (rowI rs)) W := fun W => by
            rw [hrs]; exact run_index_sub W 27 26 4 16 _ Try.underlying27 Try.underlying26 rfl infoA16 ls k hlt
          have HRS := Lib.hid hrs
          clear hrs
          cases hv : absB 4080 rs
          all_goals
            go_wp2_with (first | (focus ((with_reducible refine wpList_wanted ?_ (fun K hK => ?_)); rotate_left; (refine wp_store_sub 26 (.tmp 5) (.tmp 25) ?ho (w.heap.size + 1 + oo.size) 0 rs ?hx ?hy 26 (zL 16) ?hg ?hi ?hfit (hK _ _ ?_)); (case ho => with_reducible rfl); (case hx => rfl); (case hy => rfl); (case hg => exact heapNew16 _ _ _ (by simp [addsW])); (case hi => rw [HRL.out]; exact infoA16); (case hfit => rw [HRL.out, zL_len]; exact Nat.le_refl _); rw [spl_full (by rw [HRL.out, zL_len]), setRow_alloc _ _ _ _ _ (by simp [addsW])]; rotate_left; rfl)) | (focus ((with_reducible refine wpList_wanted ?_ (fun K hK => ?_)); rotate_left; (refine wp_load_sub 26 (.tmp 5) ?ho (w.heap.size + 1 + oo.size) 0 16 ?hx 26 rs (0, 0) _ ?hg Try.underlying26 rfl infoA16 ?hs (hK _ _ ?_)); (case ho => with_reducible rfl); (case hx => rfl); (case hg => exact heapNewG _ _ _ _ (by simp [addsW])); (case hs => rw [HRL.out]; exact Nat.le_refl _); rw [show sub rs 0 16 = rs by rw [← HRL.out]; exact sub_all rs]; rotate_left; rfl)) | (go_at_call 53; refine (I_blockWithin rs 4080 _ HRL.out (by omega)).mono ?_; rw [hv]; rintro e w' ⟨rfl, hb⟩; obtain ⟨o5, n5, rfl⟩ := below_adds hb; clear hb))
          · have hf := Lib.hid (absB_part_no (m := 4080) (zs := ls) (o := k * 16) (s := 16) (by rw [← HRS.out]; exact hv))
            go_returns
            exact ⟨M.ret_bool (by rw [hf.out]; rfl), (by repeat' (first | (with_reducible exact Below.refl _ _) | (with_reducible refine Below.adds_ ?_ ?_ _ _) | (with_reducible refine Below.alloc ?_ ?_ _) | (with_reducible refine Below.drew ?_) | (with_reducible refine Below.setCell ?_ ?_ _) | (with_reducible assumption) | go_size | (simp only [size_addsW, World.size_alloc, World.size_drew, World.size_setCell]; omega)))⟩
          · go_roundw
            case rel => exact ⟨k + 1, _, _, by omega, by go_num, adds_mid _ _ _ _ _ _, absB_part (by rw [HLL.out]; omega) HT.out (by rw [← HRS.out]; exact hv)⟩
            case measure => simp [intOf]; omega
        · obtain rfl : k = 4 := by omega
          have e4 := Lib.hid (show absB 4080 ls = true by have := HT.out; rw [List.take_of_length_le (by rw [HLL.out]; omega)] at this; exact this)
          go_wp2_with fail
          go_returns
          exact ⟨M.ret_bool (by rw [e4.out]; rfl), (by repeat' (first | (with_reducible exact Below.refl _ _) | (with_reducible refine Below.adds_ ?_ ?_ _ _) | (with_reducible refine Below.alloc ?_ ?_ _) | (with_reducible refine Below.drew ?_) | (with_reducible refine Below.setCell ?_ ?_ _) | (with_reducible assumption) | go_size | (simp only [size_addsW, World.size_alloc, World.size_drew, World.size_setCell]; omega)))⟩

set_option maxRecDepth 100000 in
set_option maxHeartbeats 4000000 in
theorem I_MacroValid2 (zs : List Int) (w : World) (hz : zs.length = 71) (hk : mkK zs = 2) (F : Bool)
    (FT : ∀ W, Calls Try.prog 111 #[.agg (rowI zs)] W fun e w' => e = .returned (.bool F) ∧ Below W.heap.size W w') :
    Calls Try.prog 33 #[.agg (rowI zs)] w fun e w' => e = .returned (.bool (M.vecB (zs.getD 1 0) (zs.getD 2 0) && F && absB 4080 (lvL zs))) ∧ Below w.heap.size w w' := by
  have HZ := Lib.hid hz
  have HLL := Lib.hid (show (lvL zs).length = 64 from sub_len (by omega))
  have c1 := rowI_get (zs := zs) (j := 1) (by omega)
  have c2 := rowI_get (zs := zs) (j := 2) (by omega)
  have hs := Lib.hid (show sub zs 0 71 = zs by rw [← hz]; exact sub_all zs)
  have KO := Lib.hid (show ∀ W, Calls Try.prog 51 #[.agg (rowI zs)] W fun e w' => e = .returned (.iface 119 (.agg (rowI zs))) ∧ Below W.heap.size W w' from fun W => by
    have h := I_kindOf zs W HZ.out
    rw [hk] at h
    simpa using h)
  have HF := Lib.hid FT
  clear hz hk FT
  generalize zs.getD 1 0 = x at c1 ⊢
  generalize zs.getD 2 0 = y at c2 ⊢
  obtain ⟨ls, hls⟩ : ∃ ls, ls = lvL zs := ⟨_, rfl⟩
  rw [← hls] at HLL ⊢
  have HLS := Lib.hid (show sub zs 7 64 = ls from hls.symm)
  clear hls
  cases h2 : M.vecB x y
  · go_enter Try.func33, Try.ntmps33
    go_wp2_with (first | (focus ((with_reducible refine wpList_wanted ?_ (fun K hK => ?_)); rotate_left; (refine wp_load_sub 29 (.tmp 1) ?ho w.heap.size 0 71 ?hx 29 zs (0, 0) _ ?hg Try.underlying29 rfl infoMacI ?hs (hK _ _ ?_)); (case ho => with_reducible rfl); (case hx => rfl); (case hg => exact heap_alloc_new _ _); (case hs => rw [HZ.out]; omega); rw [hs.out]; rotate_left; rfl)) | (go_at_call 51; refine (KO.out _).mono ?_; rintro e w' ⟨rfl, hb⟩; obtain ⟨o1, n1, rfl⟩ := below_adds hb; clear hb) | (go_at_call 52; refine (I_VectorValid x y _).mono ?_; rw [h2]; rintro e w' ⟨rfl, hb⟩; obtain ⟨o2, n2, rfl⟩ := below_adds hb; clear hb))
    go_returns
    exact ⟨rfl, (by repeat' (first | (with_reducible exact Below.refl _ _) | (with_reducible refine Below.adds_ ?_ ?_ _ _) | (with_reducible refine Below.alloc ?_ ?_ _) | (with_reducible refine Below.drew ?_) | (with_reducible refine Below.setCell ?_ ?_ _) | (with_reducible assumption) | go_size | (simp only [size_addsW, World.size_alloc, World.size_drew, World.size_setCell]; omega)))⟩
  · cases F
    · go_enter Try.func33, Try.ntmps33
      go_wp2_with (first | (focus ((with_reducible refine wpList_wanted ?_ (fun K hK => ?_)); rotate_left; (refine wp_load_sub 29 (.tmp 1) ?ho w.heap.size 0 71 ?hx 29 zs (0, 0) _ ?hg Try.underlying29 rfl infoMacI ?hs (hK _ _ ?_)); (case ho => with_reducible rfl); (case hx => rfl); (case hg => exact heap_alloc_new _ _); (case hs => rw [HZ.out]; omega); rw [hs.out]; rotate_left; rfl)) | (go_at_call 51; refine (KO.out _).mono ?_; rintro e w' ⟨rfl, hb⟩; obtain ⟨o1, n1, rfl⟩ := below_adds hb; clear hb) | (go_at_call 52; refine (I_VectorValid x y _).mono ?_; rw [h2]; rintro e w' ⟨rfl, hb⟩; obtain ⟨o2, n2, rfl⟩ := below_adds hb; clear hb) | (go_at_call 111; refine (HF.out _).mono ?_; rintro e w' ⟨rfl, hb⟩; obtain ⟨o1, n1, rfl⟩ := below_adds hb; clear hb))
      go_returns
      exact ⟨rfl, (by repeat' (first | (with_reducible exact Below.refl _ _) | (with_reducible refine Below.adds_ ?_ ?_ _ _) | (with_reducible refine Below.alloc ?_ ?_ _) | (with_reducible refine Below.drew ?_) | (with_reducible refine Below.setCell ?_ ?_ _) | (with_reducible assumption) | go_size | (simp only [size_addsW, World.size_alloc, World.size_drew, World.size_setCell]; omega)))⟩
    · go_enter Try.func33, Try.ntmps33
      go_wp2_with (first | (focus ((with_reducible refine wpList_wanted ?_ (fun K hK => ?_)); rotate_left; (refine wp_load_sub 29 (.tmp 1) ?ho w.heap.size 0 71 ?hx 29 zs (0, 0) _ ?hg Try.underlying29 rfl infoMacI ?hs (hK _ _ ?_)); (case ho => with_reducible rfl); (case hx => rfl); (case hg => exact heap_alloc_new _ _); (case hs => rw [HZ.out]; omega); rw [hs.out]; rotate_left; rfl)) | (go_at_call 51; refine (KO.out _).mono ?_; rintro e w' ⟨rfl, hb⟩; obtain ⟨o1, n1, rfl⟩ := below_adds hb; clear hb) | (go_at_call 52; refine (I_VectorValid x y _).mono ?_; rw [h2]; rintro e w' ⟨rfl, hb⟩; obtain ⟨o2, n2, rfl⟩ := below_adds hb; clear hb) | (go_at_call 111; refine (HF.out _).mono ?_; rintro e w' ⟨rfl, hb⟩; obtain ⟨o1, n1, rfl⟩ := below_adds hb; clear hb) | (focus ((with_reducible refine wpList_wanted ?_ (fun K hK => ?_)); rotate_left; (refine wp_load_sub 27 (.tmp 21) ?ho w.heap.size 7 64 ?hx 29 zs (0, 0) _ ?hg Try.underlying27 rfl infoA64 ?hs (hK _ _ ?_)); (case ho => with_reducible rfl); (case hx => rfl); (case hg => exact heap1i _ _ _ _ _); (case hs => rw [HZ.out]; omega); rw [HLS.out]; rotate_left; rfl)))
      go_loopw [23] (fun i wr => ∃ (k : Nat) (oo : Array Obj) (nn : Nat), k ≤ 4 ∧ i = .int .i64 (k : Int) ∧ wr = addsW (w.alloc (.cells (rowI zs) 29)) oo nn ∧ absB 4080 (ls.take (k * 16)) = true) (fun i _ => 4 - (intOf i).toNat)
      case atStart => exact ⟨0, _, _, Nat.zero_le _, rfl, rfl, by simp [absB]⟩
      case round =>
        obtain ⟨k, oo, nn, hk, rfl, rfl, ht⟩ := hrel
        have HT := Lib.hid ht
        clear ht
        by_cases hlt : k < 4
        · have hd1 : decide ((k : Int) < 4) = true := by simp; omega
          obtain ⟨rs, hrs⟩ : ∃ rs, rs = sub ls (k * 16) 16 := ⟨_, rfl⟩
          have HRL := Lib.hid (show rs.length = 16 by rw [hrs]; exact sub_len (by rw [HLL.out]; omega))
          have hidx : ∀ W, (Instr.index 27 (.agg (rowI ls)) (.int .i64 (k : Int))).run Try.prog W = .ok (.agg (rowI rs)) W := fun W => by
            rw [hrs]; exact run_index_sub W 27 26 4 16 _ Try.underlying27 Try.underlying26 rfl infoA16 ls k hlt
          have HRS := Lib.hid hrs
          clear hrs
          cases hv : absB 4080 rs
          all_goals
            go_wp2_with (first | (focus ((with_reducible refine wpList_wanted ?_ (fun K hK => ?_)); rotate_left; (refine wp_store_sub 26 (.tmp 5) (.tmp 25) ?ho (w.heap.size + 1 + oo.size) 0 rs ?hx ?hy 26 (zL 16) ?hg ?hi ?hfit (hK _ _ ?_)); (case ho => with_reducible rfl); (case hx => rfl); (case hy => rfl); (case hg => exact heapNew16 _ _ _ (by simp [addsW])); (case hi => rw [HRL.out]; exact infoA16); (case hfit => rw [HRL.out, zL_len]; exact Nat.le_refl _); rw [spl_full (by rw [HRL.out, zL_len]), setRow_alloc _ _ _ _ _ (by simp [addsW])]; rotate_left; rfl)) | (focus ((with_reducible refine wpList_wanted ?_ (fun K hK => ?_)); rotate_left; (refine wp_load_sub 26 (.tmp 5) ?ho (w.heap.size + 1 + oo.size) 0 16 ?hx 26 rs (0, 0) _ ?hg Try.underlying26 rfl infoA16 ?hs (hK _ _ ?_)); (case ho => with_reducible rfl); (case hx => rfl); (case hg => exact heapNewG _ _ _ _ (by simp [addsW])); (case hs => rw [HRL.out]; exact Nat.le_refl _); rw [show sub rs 0 16 = rs by rw [← HRL.out]; exact sub_all rs]; rotate_left; rfl)) | (go_at_call 53; refine (I_blockWithin rs 4080 _ HRL.out (by omega)).mono ?_; rw [hv]; rintro e w' ⟨rfl, hb⟩; obtain ⟨o5, n5, rfl⟩ := below_adds hb; clear hb))
          · have hf := Lib.hid (absB_part_no (m := 4080) (zs := ls) (o := k * 16) (s := 16) (by rw [← HRS.out]; exact hv))
            go_returns
            exact ⟨M.ret_bool (by rw [hf.out]; rfl), (by repeat' (first | (with_reducible exact Below.refl _ _) | (with_reducible refine Below.adds_ ?_ ?_ _ _) | (with_reducible refine Below.alloc ?_ ?_ _) | (with_reducible refine Below.drew ?_) | (with_reducible refine Below.setCell ?_ ?_ _) | (with_reducible assumption) | go_size | (simp only [size_addsW, World.size_alloc, World.size_drew, World.size_setCell]; omega)))⟩
          · go_roundw
            case rel => exact ⟨k + 1, _, _, by omega, by go_num, adds_mid _ _ _ _ _ _, absB_part (by rw [HLL.out]; omega) HT.out (by rw [← HRS.out]; exact hv)⟩
            case measure => simp [intOf]; omega
        · obtain rfl : k = 4 := by omega
          have e4 := Lib.hid (show absB 4080 ls = true by have := HT.out; rw [List.take_of_length_le (by rw [HLL.out]; omega)] at this; exact this)
          go_wp2_with fail
          go_returns
          exact ⟨M.ret_bool (by rw [e4.out]; rfl), (by repeat' (first | (with_reducible exact Below.refl _ _) | (with_reducible refine Below.adds_ ?_ ?_ _ _) | (with_reducible refine Below.alloc ?_ ?_ _) | (with_reducible refine Below.drew ?_) | (with_reducible refine Below.setCell ?_ ?_ _) | (with_reducible assumption) | go_size | (simp only [size_addsW, World.size_alloc, World.size_drew, World.size_setCell]; omega)))⟩

set_option maxRecDepth 100000 in
theorem I_MacroValidN (zs : List Int) (w : World) (hz : zs.length = 71) (h0 : mkK zs ≠ 0) (h1 : mkK zs ≠ 1) (h2 : mkK zs ≠ 2) :
    Calls Try.prog 33 #[.agg (rowI zs)] w fun e w' => e = .returned (.bool false) ∧ Below w.heap.size w w' := by
  have HZ := Lib.hid hz
  have hs := Lib.hid (show sub zs 0 71 = zs by rw [← hz]; exact sub_all zs)
  have KO := Lib.hid (show ∀ W, Calls Try.prog 51 #[.agg (rowI zs)] W fun e w' => e = .returned .nilIface ∧ Below W.heap.size W w' from fun W => by
    have h := I_kindOf zs W HZ.out
    rw [if_neg h0, if_neg h1, if_neg h2] at h
    exact h)
  clear hz h0 h1 h2
  go_enter Try.func33, Try.ntmps33
  go_wp2_with (first | (focus ((with_reducible refine wpList_wanted ?_ (fun K hK => ?_)); rotate_left; (refine wp_load_sub 29 (.tmp 1) ?ho w.heap.size 0 71 ?hx 29 zs (0, 0) _ ?hg Try.underlying29 rfl infoMacI ?hs (hK _ _ ?_)); (case ho => with_reducible rfl); (case hx => rfl); (case hg => exact heap_alloc_new _ _); (case hs => rw [HZ.out]; omega); rw [hs.out]; rotate_left; rfl)) | (go_at_call 51; refine (KO.out _).mono ?_; rintro e w' ⟨rfl, hb⟩; obtain ⟨o1, n1, rfl⟩ := below_adds hb; clear hb))
  go_returns
  exact ⟨rfl, (by repeat' (first | (with_reducible exact Below.refl _ _) | (with_reducible refine Below.adds_ ?_ ?_ _ _) | (with_reducible refine Below.alloc ?_ ?_ _) | (with_reducible refine Below.drew ?_) | (with_reducible refine Below.setCell ?_ ?_ _) | (with_reducible assumption) | go_size | (simp only [size_addsW, World.size_alloc, World.size_drew, World.size_setCell]; omega)))⟩

theorem modB_zero {l : List Int} (h : (l == zL 4) = true) : modB l = true := by
  rw [beq_iff_eq] at h; subst h; decide
theorem I_MacroValid (zs : List Int) (w : World) (hz : zs.length = 71) :
    Calls Try.prog 33 #[.agg (rowI zs)] w fun e w' => e = .returned (.bool (macB zs)) ∧ Below w.heap.size w w' := by
  by_cases h0 : mkK zs = 0
  · refine (I_MacroValid0 zs w hz h0 _ (fun W => I_skipFits zs W hz)).mono ?_
    rintro e w' ⟨rfl, hb⟩
    refine ⟨M.ret_bool ?_, hb⟩
    have i0 : M.inB 0 0 2 = true := by decide
    have m0 := modB_zero (l := mdL zs)
    unfold macB
    rw [h0, i0]
    generalize M.vecB (zs.getD 1 0) (zs.getD 2 0) = a
    generalize (zs.getD 1 0 == 0 && zs.getD 2 0 == 0) = b
    generalize (lvL zs == zL 64) = c
    generalize absB 4080 (lvL zs) = d
    generalize (mdL zs == zL 4) = f at m0 ⊢
    generalize modB (mdL zs) = g at m0 ⊢
    revert a b c d f g; decide
  by_cases h1 : mkK zs = 1
  · refine (I_MacroValid1 zs w hz h1 _ (fun W => I_interFits zs W hz)).mono ?_
    rintro e w' ⟨rfl, hb⟩
    refine ⟨M.ret_bool ?_, hb⟩
    have i0 : M.inB 1 0 2 = true := by decide
    have m0 := modB_zero (l := mdL zs)
    unfold macB
    rw [h1, i0]
    generalize M.vecB (zs.getD 1 0) (zs.getD 2 0) = a
    generalize (zs.getD 1 0 == 0 && zs.getD 2 0 == 0) = b
    generalize (lvL zs == zL 64) = c
    generalize absB 4080 (lvL zs) = d
    generalize (mdL zs == zL 4) = f at m0 ⊢
    generalize modB (mdL zs) = g at m0 ⊢
    revert a b c d f g; decide
  by_cases h2 : mkK zs = 2
  · refine (I_MacroValid2 zs w hz h2 _ (fun W => I_intraFits zs W hz)).mono ?_
    rintro e w' ⟨rfl, hb⟩
    refine ⟨M.ret_bool ?_, hb⟩
    have i0 : M.inB 2 0 2 = true := by decide
    unfold macB
    rw [h2, i0]
    generalize M.vecB (zs.getD 1 0) (zs.getD 2 0) = a
    generalize (zs.getD 1 0 == 0 && zs.getD 2 0 == 0) = b
    generalize (lvL zs == zL 64) = c
    generalize absB 4080 (lvL zs) = d
    generalize (mdL zs == zL 4) = f
    generalize modB (mdL zs) = g
    revert a b c d f g; decide
  · refine (I_MacroValidN zs w hz h0 h1 h2).mono ?_
    rintro e w' ⟨rfl, hb⟩
    refine ⟨M.ret_bool ?_, hb⟩
    have : M.inB (mkK zs) 0 2 = false := by simp only [M.inB_no]; omega
    simp only [macB, this, Bool.false_and]

end Go.Proofs.Ytggkelehjdepkaa
