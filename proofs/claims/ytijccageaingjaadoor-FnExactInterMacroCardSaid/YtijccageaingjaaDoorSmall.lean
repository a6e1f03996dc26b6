/- Contracts of the small functions on numbers and on structs of numbers. -/
import Derived.Test.YtijccageaingjaaDoorRows
import Derived.Test.YtijccageaingjaaDoorMath
import Derived.Test.YtijccageaingjaaDoorBase
import Derived.WalkKit
import Derived.WalkLawsBesides
import Derived.Handy
import Derived.Lib.Hide
import Derived.StillTailTactics
import Derived.Outline
namespace Go.Proofs.YtijccageaingjaaDoor
open Go.RowKit
set_option linter.unusedVariables false
set_option linter.unusedSimpArgs false

attribute [local go_sem] size_addsW cell?_addsW frozen?_addsW setCell_addsW drew_addsW adds_addsW setCell_twice alloc_adds0 size_adds0 adds_adds0 sel2 sel3 sel4 sel5 sel6 sel7 sel8 sel9 lt_more lt_more2 lt_more3 lt_more4 adds_drew adds_drewN drewN_addsW ltA_1_1 ltA_1_2 ltA_1_3 ltA_1_4 ltA_1_5 ltA_1_6 ltA_2_1 ltA_2_2 ltA_2_3 ltA_2_4 ltA_2_5 ltA_2_6 ltA_3_1 ltA_3_2 ltA_3_3 ltA_3_4 ltA_3_5 ltA_3_6 ltA_4_1 ltA_4_2 ltA_4_3 ltA_4_4 ltA_4_5 ltA_4_6 ltA_5_1 ltA_5_2 ltA_5_3 ltA_5_4 ltA_5_5 ltA_5_6 ltA_6_1 ltA_6_2 ltA_6_3 ltA_6_4 ltA_6_5 ltA_6_6 ltA_7_1 ltA_7_2 ltA_7_3 ltA_7_4 ltA_7_5 ltA_7_6 ltA_8_1 ltA_8_2 ltA_8_3 ltA_8_4 ltA_8_5 ltA_8_6 ltA_9_1 ltA_9_2 ltA_9_3 ltA_9_4 ltA_9_5 ltA_9_6 ltA_10_1 ltA_10_2 ltA_10_3 ltA_10_4 ltA_10_5 ltA_10_6 ltA_11_1 ltA_11_2 ltA_11_3 ltA_11_4 ltA_11_5 ltA_11_6 ltA_12_1 ltA_12_2 ltA_12_3 ltA_12_4 ltA_12_5 ltA_12_6

theorem S_l1In (n lo hi : Int) (w : World) : Calls Tryd.prog 15 #[.int .i64 n, .int .i64 lo, .int .i64 hi] w fun e w' => e = .returned (.bool (M.inB n lo hi)) ∧ w = w' := by
  go_enter Tryd.func15, Tryd.ntmps15
  go_wp2
  all_goals
    go_returns
    exact ⟨M.ret_bool (by rw [Bool.eq_iff_iff]; simp [M.inB] <;> omega), rfl⟩

theorem I_qualityValid (n : Int) (w : World) : Calls Tryd.prog 21 #[.int .i64 n] w fun e w' => e = .returned (.bool (M.inB n 0 15)) ∧ w = w' := by
  go_enter Tryd.func21, Tryd.ntmps21
  go_wp2
  all_goals
    go_returns
    exact ⟨M.ret_bool (by rw [Bool.eq_iff_iff]; simp [M.inB] <;> omega), rfl⟩

theorem I_sampleValid (n : Int) (w : World) : Calls Tryd.prog 58 #[.int .i64 n] w fun e w' => e = .returned (.bool (M.inB n 0 255)) ∧ w = w' := by
  go_enter Tryd.func58, Tryd.ntmps58
  go_wp2
  all_goals
    go_returns
    exact ⟨M.ret_bool (by rw [Bool.eq_iff_iff]; simp [M.inB] <;> omega), rfl⟩

theorem I_clamp (n lo hi : Int) (w : World) : Calls Tryd.prog 53 #[.int .i64 n, .int .i64 lo, .int .i64 hi] w fun e w' => e = .returned (.int .i64 (min (max n lo) hi)) ∧ w = w' := by
  go_enter Tryd.func53, Tryd.ntmps53
  go_wp2
  all_goals
    go_returns
    exact ⟨M.ret_int (by omega), rfl⟩

theorem S_l1Clip (n lo hi : Int) (w : World) : Calls Tryd.prog 59 #[.int .i64 n, .int .i64 lo, .int .i64 hi] w fun e w' => e = .returned (.int .i64 (max lo (min hi n))) ∧ w = w' := by
  go_enter Tryd.func59, Tryd.ntmps59
  go_wp2
  all_goals
    go_returns
    exact ⟨M.ret_int (by omega), rfl⟩

theorem I_abs (n : Int) (w : World) (h : -9223372036854775808 < n ∧ n ≤ 9223372036854775807) : Calls Tryd.prog 52 #[.int .i64 n] w fun e w' => e = .returned (.int .i64 (max n (-n))) ∧ w = w' := by
  go_enter Tryd.func52, Tryd.ntmps52
  go_wp2
  all_goals
    go_returns
    exact ⟨M.ret_int (by omega), rfl⟩

theorem S_l7Floor8 (n : Int) (w : World) (h : -1000000 ≤ n ∧ n ≤ 1000000) : Calls Tryd.prog 54 #[.int .i64 n, .int .i64 8] w fun e w' => e = .returned (.int .i64 (n / 8)) ∧ w = w' := by
  have hb := M.tdiv_le n 8 (by omega) 1000000 h
  have hf := Lib.hid (M.floor_of n 8 (by omega))
  by_cases hs : n.tmod 8 < 0
  · go_enter Tryd.func54, Tryd.ntmps54
    go_wp2
    go_returns
    exact ⟨M.ret_int (hf.out.1 hs), rfl⟩
  · go_enter Tryd.func54, Tryd.ntmps54
    go_wp2
    go_returns
    exact ⟨M.ret_int (hf.out.2 (by omega)), rfl⟩

theorem S_l7Floor2 (n : Int) (w : World) (h : -1000000 ≤ n ∧ n ≤ 1000000) : Calls Tryd.prog 54 #[.int .i64 n, .int .i64 2] w fun e w' => e = .returned (.int .i64 (n / 2)) ∧ w = w' := by
  have hb := M.tdiv_le n 2 (by omega) 1000000 h
  have hf := Lib.hid (M.floor_of n 2 (by omega))
  by_cases hs : n.tmod 2 < 0
  · go_enter Tryd.func54, Tryd.ntmps54
    go_wp2
    go_returns
    exact ⟨M.ret_int (hf.out.1 hs), rfl⟩
  · go_enter Tryd.func54, Tryd.ntmps54
    go_wp2
    go_returns
    exact ⟨M.ret_int (hf.out.2 (by omega)), rfl⟩

theorem S_VectorValid (x y : Int) (w : World) : Calls Tryd.prog 14 #[.agg #[.int .i64 x, .int .i64 y]] w fun e w' => e = .returned (.bool (M.vecB x y)) ∧ Below w.heap.size w w' := by
  cases h0 : M.inB x (-16) 16 <;> cases h1 : M.inB y (-16) 16
  all_goals
    have g0 := h0
    have g1 := h1
    simp only [M.inB_iff, M.inB_no] at g0 g1
    go_enter Tryd.func14, Tryd.ntmps14
    go_wp2_with (go_at_call 15; refine (S_l1In _ _ _ _).mono ?_; rintro e w' ⟨rfl, rfl⟩)
    all_goals
      go_returns
      exact ⟨M.ret_bool (by simp only [M.inB_iff, M.inB_no] at h0 h1; rw [Bool.eq_iff_iff]; simp [M.vecB] <;> omega), (by repeat' (first | (with_reducible exact Below.refl _ _) | (with_reducible refine Below.adds_ ?_ ?_ _ _) | (with_reducible refine Below.alloc ?_ ?_ _) | (with_reducible refine Below.drew ?_) | (with_reducible refine Below.setCell ?_ ?_ _) | (with_reducible assumption) | go_size | (simp only [size_addsW, World.size_alloc, World.size_drew, World.size_setCell]; omega)))⟩

theorem I_VectorValid (x y : Int) (w : World) : Calls Tryd.prog 20 #[.agg #[.int .i64 x, .int .i64 y]] w fun e w' => e = .returned (.bool (M.vecB x y)) ∧ Below w.heap.size w w' := by
  go_enter Tryd.func20, Tryd.ntmps20
  go_wp2
  all_goals
    go_returns
    exact ⟨M.ret_bool (by rw [Bool.eq_iff_iff]; simp [M.vecB] <;> omega), (by repeat' (first | (with_reducible exact Below.refl _ _) | (with_reducible refine Below.adds_ ?_ ?_ _ _) | (with_reducible refine Below.alloc ?_ ?_ _) | (with_reducible refine Below.drew ?_) | (with_reducible refine Below.setCell ?_ ?_ _) | (with_reducible assumption) | go_size | (simp only [size_addsW, World.size_alloc, World.size_drew, World.size_setCell]; omega)))⟩

theorem L_toVector (x y : Int) (w : World) : Calls Tryd.prog 7 #[.agg #[.int .i64 x, .int .i64 y]] w fun e w' => e = .returned (.agg #[.int .i64 x, .int .i64 y]) ∧ Below w.heap.size w w' := by
  go_enter Tryd.func7, Tryd.ntmps7
  go_wp2
  all_goals
    go_returns
    exact ⟨rfl, (by repeat' (first | (with_reducible exact Below.refl _ _) | (with_reducible refine Below.adds_ ?_ ?_ _ _) | (with_reducible refine Below.alloc ?_ ?_ _) | (with_reducible refine Below.drew ?_) | (with_reducible refine Below.setCell ?_ ?_ _) | (with_reducible assumption) | go_size | (simp only [size_addsW, World.size_alloc, World.size_drew, World.size_setCell]; omega)))⟩

theorem L_eqVector (x y z u : Int) (w : World) : Calls Tryd.prog 28 #[.agg #[.int .i64 x, .int .i64 y], .agg #[.int .i64 z, .int .i64 u]] w fun e w' => e = .returned (.bool (decide (x = z ∧ y = u))) ∧ Below w.heap.size w w' := by
  go_enter Tryd.func28, Tryd.ntmps28
  go_wp2
  all_goals
    go_returns
    exact ⟨M.ret_bool (by (try simp only [beq_iff_eq, beq_eq_false_iff_ne, bne_iff_ne, bne_eq_false_iff_eq, ne_eq] at *); rw [Bool.eq_iff_iff]; simp <;> omega), (by repeat' (first | (with_reducible exact Below.refl _ _) | (with_reducible refine Below.adds_ ?_ ?_ _ _) | (with_reducible refine Below.alloc ?_ ?_ _) | (with_reducible refine Below.drew ?_) | (with_reducible refine Below.setCell ?_ ?_ _) | (with_reducible assumption) | go_size | (simp only [size_addsW, World.size_alloc, World.size_drew, World.size_setCell]; omega)))⟩

end Go.Proofs.YtijccageaingjaaDoor
