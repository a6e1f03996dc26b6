/- Are all numbers of a block within a bound: both. -/
import Derived.Test.YtijccageaingjaaDoorMac
import Derived.Test.YtijccageaingjaaDoorSmall
import Derived.Test.YtijccageaingjaaDoorArm
namespace Go.Proofs.YtijccageaingjaaDoor
open Go.RowKit
set_option linter.unusedVariables false
set_option linter.unusedSimpArgs false

attribute [local go_sem] size_addsW cell?_addsW frozen?_addsW setCell_addsW drew_addsW adds_addsW setCell_twice alloc_adds0 size_adds0 adds_adds0 sel2 sel3 sel4 sel5 sel6 sel7 sel8 sel9 lt_more lt_more2 lt_more3 lt_more4 adds_drew adds_drewN drewN_addsW ltA_1_1 ltA_1_2 ltA_1_3 ltA_1_4 ltA_1_5 ltA_1_6 ltA_2_1 ltA_2_2 ltA_2_3 ltA_2_4 ltA_2_5 ltA_2_6 ltA_3_1 ltA_3_2 ltA_3_3 ltA_3_4 ltA_3_5 ltA_3_6 ltA_4_1 ltA_4_2 ltA_4_3 ltA_4_4 ltA_4_5 ltA_4_6 ltA_5_1 ltA_5_2 ltA_5_3 ltA_5_4 ltA_5_5 ltA_5_6 ltA_6_1 ltA_6_2 ltA_6_3 ltA_6_4 ltA_6_5 ltA_6_6 ltA_7_1 ltA_7_2 ltA_7_3 ltA_7_4 ltA_7_5 ltA_7_6 ltA_8_1 ltA_8_2 ltA_8_3 ltA_8_4 ltA_8_5 ltA_8_6 ltA_9_1 ltA_9_2 ltA_9_3 ltA_9_4 ltA_9_5 ltA_9_6 ltA_10_1 ltA_10_2 ltA_10_3 ltA_10_4 ltA_10_5 ltA_10_6 ltA_11_1 ltA_11_2 ltA_11_3 ltA_11_4 ltA_11_5 ltA_11_6 ltA_12_1 ltA_12_2 ltA_12_3 ltA_12_4 ltA_12_5 ltA_12_6

def absB (m : Int) (zs : List Int) : Bool := zs.all fun z => M.inB z (-m) m
theorem absB_take {m : Int} {zs : List Int} {k : Nat} (h : k < zs.length) (ht : absB m (zs.take k) = true) (hz : M.inB (zs.getD k 0) (-m) m = true) : absB m (zs.take (k + 1)) = true := by
  rw [List.take_succ_eq_append_getElem h, absB, List.all_append, ← absB, ht]
  simp only [List.getD_eq_getElem?_getD, List.getElem?_eq_getElem h, Option.getD_some] at hz
  simp [hz]
theorem absB_no {m : Int} {zs : List Int} {k : Nat} (h : k < zs.length) (hz : M.inB (zs.getD k 0) (-m) m = false) : absB m zs = false := by
  simp only [absB, List.all_eq_false]
  refine ⟨zs[k], List.getElem_mem h, ?_⟩
  simp only [List.getD_eq_getElem?_getD, List.getElem?_eq_getElem h, Option.getD_some] at hz
  simp [hz]
theorem absB_part {m : Int} {zs : List Int} {k s : Nat} (h : k * s + s ≤ zs.length) (ht : absB m (zs.take (k * s)) = true) (hz : absB m (sub zs (k * s) s) = true) : absB m (zs.take ((k + 1) * s)) = true := by
  rw [show (k + 1) * s = k * s + s by rw [Nat.add_mul]; omega, List.take_add, absB, List.all_append, ← absB, ht, Bool.true_and]
  exact hz
theorem absB_part_no {m : Int} {zs : List Int} {o s : Nat} (hz : absB m (sub zs o s) = false) : absB m zs = false := by
  simp only [absB, List.all_eq_false] at hz ⊢
  obtain ⟨x, hx, h2⟩ := hz
  exact ⟨x, List.mem_of_mem_drop (List.mem_of_mem_take hx), h2⟩

theorem S_l3Ok (zs : List Int) (m : Int) (w : World) (hz : zs.length = 16) (hm : 0 ≤ m ∧ m ≤ 1000000) :
    Calls Tryd.prog 45 #[.agg (rowI zs), .int .i64 m] w fun e w' => e = .returned (.bool (absB m zs)) ∧ Below w.heap.size w w' := by
  have HZ := Lib.hid hz
  clear hz
  go_enter Tryd.func45, Tryd.ntmps45
  go_wp2_with fail
  go_loop [5] (fun i => ∃ k : Nat, k ≤ 16 ∧ i = .int .i64 (k : Int) ∧ absB m (zs.take k) = true) (fun i => 16 - (intOf i).toNat)
  case atStart => exact ⟨0, Nat.zero_le _, rfl, by simp [absB]⟩
  case round =>
    obtain ⟨k, hk, rfl, ht⟩ := hrel
    have HT := Lib.hid ht
    clear ht
    by_cases hlt : k < 16
    · have hc := rowI_get (zs := zs) (j := k) (by rw [HZ.out]; exact hlt)
      obtain ⟨x, hx⟩ : ∃ x, x = zs.getD k 0 := ⟨_, rfl⟩
      rw [← hx] at hc
      have HX := Lib.hid hx
      clear hx
      have hd1 : decide ((k : Int) < 16) = true := by simp; omega
      cases hv : M.inB x (-m) m
      · go_wp2_with (go_at_call 15; refine (S_l1In _ _ _ _).mono ?_; rintro e w' ⟨rfl, rfl⟩)
        go_returns
        exact ⟨M.ret_bool (absB_no (k := k) (by rw [HZ.out]; exact hlt) (by rw [← HX.out]; exact hv)).symm, (by repeat' (first | (with_reducible exact Below.refl _ _) | (with_reducible refine Below.adds_ ?_ ?_ _ _) | (with_reducible refine Below.alloc ?_ ?_ _) | (with_reducible refine Below.drew ?_) | (with_reducible refine Below.setCell ?_ ?_ _) | (with_reducible assumption) | go_size | (simp only [size_addsW, World.size_alloc, World.size_drew, World.size_setCell]; omega)))⟩
      · go_wp2_with (go_at_call 15; refine (S_l1In _ _ _ _).mono ?_; rintro e w' ⟨rfl, rfl⟩)
        go_round
        case rel => exact ⟨k + 1, by omega, by go_num, absB_take (by rw [HZ.out]; exact hlt) HT.out (by rw [← HX.out]; exact hv)⟩
        case measure => simp [intOf]; omega
    · obtain rfl : k = 16 := by omega
      go_wp2_with fail
      go_returns
      exact ⟨M.ret_bool (by have := HT.out; rw [List.take_of_length_le (by rw [HZ.out]; omega)] at this; exact this.symm), (by repeat' (first | (with_reducible exact Below.refl _ _) | (with_reducible refine Below.adds_ ?_ ?_ _ _) | (with_reducible refine Below.alloc ?_ ?_ _) | (with_reducible refine Below.drew ?_) | (with_reducible refine Below.setCell ?_ ?_ _) | (with_reducible assumption) | go_size | (simp only [size_addsW, World.size_alloc, World.size_drew, World.size_setCell]; omega)))⟩

theorem I_blockWithin (zs : List Int) (m : Int) (w : World) (hz : zs.length = 16) (hm : 0 ≤ m ∧ m ≤ 1000000) :
    Calls Tryd.prog 39 #[.agg (rowI zs), .int .i64 m] w fun e w' => e = .returned (.bool (absB m zs)) ∧ Below w.heap.size w w' := by
  have HZ := Lib.hid hz
  clear hz
  go_enter Tryd.func39, Tryd.ntmps39
  go_wp2_with (refine wpList_load_sub rfl 30 (.tmp 2) rfl w.heap.size 0 16 rfl 30 zs (0, 0) _ (heap_alloc_new _ _) Tryd.underlying30 rfl infoA16 (by rw [HZ.out]; exact Nat.le_refl _) ?_; rw [show sub zs 0 16 = zs by rw [← HZ.out]; exact sub_all zs])
  go_loop [8] (fun i => ∃ k : Nat, k ≤ 16 ∧ i = .int .i64 (k : Int) ∧ absB m (zs.take k) = true) (fun i => 16 - (intOf i).toNat)
  case atStart => exact ⟨0, Nat.zero_le _, rfl, by simp [absB]⟩
  case round =>
    obtain ⟨k, hk, rfl, ht⟩ := hrel
    have HT := Lib.hid ht
    clear ht
    by_cases hlt : k < 16
    · obtain ⟨x, hx⟩ : ∃ x, x = zs.getD k 0 := ⟨_, rfl⟩
      have hidx : ∀ W, (Instr.index 30 (.agg (rowI zs)) (.int .i64 (k : Int))).run Tryd.prog W = .ok (.int .i64 x) W := fun W => by
        rw [hx]; exact run_index_int W 30 3 16 Tryd.underlying30 Tryd.underlying3 (by kernel_rfl) zs k hlt HZ.out
      have HX := Lib.hid hx
      clear hx
      have hd1 : decide ((k : Int) < 16) = true := by simp; omega
      cases hv : M.inB x (-m) m
      · rcases (show x < -m ∨ (-m ≤ x ∧ m < x) by have := M.inB_no.1 hv; omega) with h1 | ⟨h1, h2⟩
        all_goals
          go_wp2_with fail
          go_returns
          exact ⟨M.ret_bool (absB_no (k := k) (by rw [HZ.out]; exact hlt) (by rw [← HX.out]; exact hv)).symm, (by repeat' (first | (with_reducible exact Below.refl _ _) | (with_reducible refine Below.adds_ ?_ ?_ _ _) | (with_reducible refine Below.alloc ?_ ?_ _) | (with_reducible refine Below.drew ?_) | (with_reducible refine Below.setCell ?_ ?_ _) | (with_reducible assumption) | go_size | (simp only [size_addsW, World.size_alloc, World.size_drew, World.size_setCell]; omega)))⟩
      · have h1 := M.inB_iff.1 hv
        go_wp2_with fail
        go_round
        case rel => exact ⟨k + 1, by omega, by go_num, absB_take (by rw [HZ.out]; exact hlt) HT.out (by rw [← HX.out]; exact hv)⟩
        case measure => simp [intOf]; omega
    · obtain rfl : k = 16 := by omega
      go_wp2_with fail
      go_returns
      exact ⟨M.ret_bool (by have := HT.out; rw [List.take_of_length_le (by rw [HZ.out]; omega)] at this; exact this.symm), (by repeat' (first | (with_reducible exact Below.refl _ _) | (with_reducible refine Below.adds_ ?_ ?_ _ _) | (with_reducible refine Below.alloc ?_ ?_ _) | (with_reducible refine Below.drew ?_) | (with_reducible refine Below.setCell ?_ ?_ _) | (with_reducible assumption) | go_size | (simp only [size_addsW, World.size_alloc, World.size_drew, World.size_setCell]; omega)))⟩

end Go.Proofs.YtijccageaingjaaDoor
