/- What the draws of seat 1 answer: vectors, an index and a period, a probability and a bit. -/
import Derived.Test.YtggkelehjdepkaaDraw
import Derived.Test.YtggkelehjdepkaaNew
import Derived.Deep.RegionHeld3
import Derived.Deep.DeepCutAuto
namespace Go.Proofs.Ytggkelehjdepkaa
open Go.RowKit
set_option linter.unusedVariables false
set_option linter.unusedSimpArgs false

attribute [local go_sem] size_addsW cell?_addsW frozen?_addsW setCell_addsW drew_addsW adds_addsW setCell_twice alloc_adds0 size_adds0 adds_adds0 sel2 sel3 sel4 sel5 sel6 sel7 sel8 sel9 lt_more lt_more2 lt_more3 lt_more4 adds_drew adds_drewN drewN_addsW ltA_1_1 ltA_1_2 ltA_1_3 ltA_1_4 ltA_1_5 ltA_1_6 ltA_2_1 ltA_2_2 ltA_2_3 ltA_2_4 ltA_2_5 ltA_2_6 ltA_3_1 ltA_3_2 ltA_3_3 ltA_3_4 ltA_3_5 ltA_3_6 ltA_4_1 ltA_4_2 ltA_4_3 ltA_4_4 ltA_4_5 ltA_4_6 ltA_5_1 ltA_5_2 ltA_5_3 ltA_5_4 ltA_5_5 ltA_5_6 ltA_6_1 ltA_6_2 ltA_6_3 ltA_6_4 ltA_6_5 ltA_6_6 ltA_7_1 ltA_7_2 ltA_7_3 ltA_7_4 ltA_7_5 ltA_7_6 ltA_8_1 ltA_8_2 ltA_8_3 ltA_8_4 ltA_8_5 ltA_8_6 ltA_9_1 ltA_9_2 ltA_9_3 ltA_9_4 ltA_9_5 ltA_9_6 ltA_10_1 ltA_10_2 ltA_10_3 ltA_10_4 ltA_10_5 ltA_10_6 ltA_11_1 ltA_11_2 ltA_11_3 ltA_11_4 ltA_11_5 ltA_11_6 ltA_12_1 ltA_12_2 ltA_12_3 ltA_12_4 ltA_12_5 ltA_12_6

/-- a vector drawn: both components small -/
def VecDrawn (W : World) (B p : Nat) (e : Ending) (w' : World) : Prop :=
  ∃ x y : Int, e = .returned (.agg #[.int .i64 x, .int .i64 y]) ∧ -17 ≤ x ∧ x ≤ 17 ∧ -17 ≤ y ∧ y ≤ 17 ∧ Moved W B p 8 w'

theorem S_l20Vector (B p : Nat) (n : Int) (w : World) (h : RdAt w B p) (hp : p ≤ 900000000) (hn : -1000000 ≤ n) :
    Calls Try.prog 48 #[.pointer (some ⟨B, 0, none⟩), .int .i64 n] w (VecDrawn w B p) := by
  have hB := h.lt
  have hR := Lib.hid h
  clear h
  go_enter Try.func48, Try.ntmps48
  go_wp2_with (first | (go_at_call 31; refine (S_pick B _ _ _ (by repeat (first | (with_reducible exact hR.out) | (with_reducible apply RdAt.adds) | (with_reducible apply RdAt.alloc) | (with_reducible exact RdAt.set hR.out _) | (with_reducible apply RdAt.drew))) (by omega)).mono ?_; rintro e w' ⟨v, p1, k1, rfl, hv, hp1, rfl⟩; have hv' := hv.1 (by omega); clear hv) | (go_at_call 50; refine (S_odd B _ _ _ (by repeat (first | (with_reducible exact hR.out) | (with_reducible apply RdAt.adds) | (with_reducible apply RdAt.alloc) | (with_reducible exact RdAt.set hR.out _) | (with_reducible apply RdAt.drew))) (by omega) (by omega)).mono ?_; rintro e w' ⟨v, p1, k1, rfl, hp1, rfl⟩))
  all_goals
    go_returns
    exact ⟨_, _, rfl, by first | omega | exact (selB _ (-17) 17 (by decide)).1, by first | omega | exact (selB _ (-17) 17 (by decide)).2, by omega, by omega, (by repeat (first | (with_reducible apply Moved.adds) | (with_reducible apply Moved.alloc) | (with_reducible apply Moved.drew) | (exact Moved.base (by omega))))⟩

/-- what a draw of the whole code leaves: only new memory -/
def VecGot (W : World) (e : Ending) (w' : World) : Prop :=
  ∃ x y : Int, e = .returned (.agg #[.int .i64 x, .int .i64 y]) ∧ -17 ≤ x ∧ x ≤ 17 ∧ -17 ≤ y ∧ y ≤ 17 ∧ Below W.heap.size W w'

/-- two numbers, within bounds -/
def TwoGot (lo1 hi1 lo2 hi2 : Int) (W : World) (e : Ending) (w' : World) : Prop :=
  ∃ x y : Int, e = .returned (.tuple #[.int .i64 x, .int .i64 y]) ∧ lo1 ≤ x ∧ x ≤ hi1 ∧ lo2 ≤ y ∧ y ≤ hi2 ∧ Below W.heap.size W w'

end Go.Proofs.Ytggkelehjdepkaa
