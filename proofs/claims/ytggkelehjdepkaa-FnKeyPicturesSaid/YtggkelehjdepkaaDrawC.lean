/- What the draws of seat 2 answer: an index, three numbers, three vectors. -/
import Derived.Test.YtggkelehjdepkaaMove
import Derived.Test.YtggkelehjdepkaaDrawA
import Derived.Deep.DeepCutAuto
import Derived.Deep.RegionHeld3
namespace Go.Proofs.Ytggkelehjdepkaa
open Go.RowKit
set_option linter.unusedVariables false
set_option linter.unusedSimpArgs false

attribute [local go_sem] size_addsW cell?_addsW frozen?_addsW setCell_addsW drew_addsW adds_addsW setCell_twice alloc_adds0 size_adds0 adds_adds0 sel2 sel3 sel4 sel5 sel6 sel7 sel8 sel9 lt_more lt_more2 lt_more3 lt_more4 adds_drew adds_drewN drewN_addsW ltA_1_1 ltA_1_2 ltA_1_3 ltA_1_4 ltA_1_5 ltA_1_6 ltA_2_1 ltA_2_2 ltA_2_3 ltA_2_4 ltA_2_5 ltA_2_6 ltA_3_1 ltA_3_2 ltA_3_3 ltA_3_4 ltA_3_5 ltA_3_6 ltA_4_1 ltA_4_2 ltA_4_3 ltA_4_4 ltA_4_5 ltA_4_6 ltA_5_1 ltA_5_2 ltA_5_3 ltA_5_4 ltA_5_5 ltA_5_6 ltA_6_1 ltA_6_2 ltA_6_3 ltA_6_4 ltA_6_5 ltA_6_6 ltA_7_1 ltA_7_2 ltA_7_3 ltA_7_4 ltA_7_5 ltA_7_6 ltA_8_1 ltA_8_2 ltA_8_3 ltA_8_4 ltA_8_5 ltA_8_6 ltA_9_1 ltA_9_2 ltA_9_3 ltA_9_4 ltA_9_5 ltA_9_6 ltA_10_1 ltA_10_2 ltA_10_3 ltA_10_4 ltA_10_5 ltA_10_6 ltA_11_1 ltA_11_2 ltA_11_3 ltA_11_4 ltA_11_5 ltA_11_6 ltA_12_1 ltA_12_2 ltA_12_3 ltA_12_4 ltA_12_5 ltA_12_6

/-- a number drawn, within bounds -/
def IntDrawn (lo hi : Int) (K : Nat) (W : World) (B p : Nat) (e : Ending) (w' : World) : Prop :=
  ∃ v : Int, e = .returned (.int .i64 v) ∧ lo ≤ v ∧ v ≤ hi ∧ Moved W B p K w'

theorem S_l20Q (B p : Nat) (n : Int) (w : World) (h : RdAt w B p) (hp : p ≤ 900000000) (hn : -1000000 ≤ n) :
    Calls Try.prog 84 #[.pointer (some ⟨B, 0, none⟩), .int .i64 n] w (IntDrawn (-1) 16 4 w B p) := by
  have hB := h.lt
  have hR := Lib.hid h
  clear h
  go_enter Try.func84, Try.ntmps84
  go_wp2_with (first | (go_at_call 31; refine (S_pick B _ _ _ (by repeat (first | (with_reducible exact hR.out) | (with_reducible apply RdAt.adds) | (with_reducible apply RdAt.alloc) | (with_reducible exact RdAt.set hR.out _) | (with_reducible apply RdAt.drew))) (by omega)).mono ?_; rintro e w' ⟨v, p1, k1, rfl, hv, hp1, rfl⟩; have hv' := hv.1 (by omega); clear hv) | (go_at_call 50; refine (S_odd B _ _ _ (by repeat (first | (with_reducible exact hR.out) | (with_reducible apply RdAt.adds) | (with_reducible apply RdAt.alloc) | (with_reducible exact RdAt.set hR.out _) | (with_reducible apply RdAt.drew))) (by omega) (by omega)).mono ?_; rintro e w' ⟨v, p1, k1, rfl, hp1, rfl⟩))
  all_goals
    go_returns
    refine ⟨_, rfl, (selB _ (-1) 16 ?_).1, (selB _ (-1) 16 ?_).2, (by repeat (first | (with_reducible apply Moved.adds) | (with_reducible apply Moved.alloc) | (with_reducible apply Moved.drew) | (exact Moved.base (by omega))))⟩
    all_goals
      intro x hx
      simp only [List.mem_cons, List.not_mem_nil, or_false] at hx
      rcases hx with rfl | rfl <;> omega

/-- three numbers, within bounds -/
def ThreeGot (lo1 hi1 lo2 hi2 lo3 hi3 : Int) (W : World) (e : Ending) (w' : World) : Prop :=
  ∃ x y z : Int, e = .returned (.tuple #[.int .i64 x, .int .i64 y, .int .i64 z]) ∧ lo1 ≤ x ∧ x ≤ hi1 ∧ lo2 ≤ y ∧ y ≤ hi2 ∧ lo3 ≤ z ∧ z ≤ hi3 ∧ Below W.heap.size W w'

/-- three vectors drawn -/
def VecsGot (W : World) (e : Ending) (w' : World) : Prop :=
  ∃ a b c d s t : Int, e = .returned (.tuple #[.agg #[.int .i64 a, .int .i64 b], .agg #[.int .i64 c, .int .i64 d], .agg #[.int .i64 s, .int .i64 t]]) ∧ -17 ≤ a ∧ a ≤ 17 ∧ -17 ≤ b ∧ b ≤ 17 ∧ -17 ≤ c ∧ c ≤ 17 ∧ -17 ≤ d ∧ d ≤ 17 ∧ -17 ≤ s ∧ s ≤ 17 ∧ -17 ≤ t ∧ t ≤ 17 ∧ Below W.heap.size W w'

/-- a buffer drawn -/
def BufDrawn (K : Nat) (W : World) (B p : Nat) (e : Ending) (w' : World) : Prop :=
  ∃ s r f : Int, e = .returned (.agg #[.int .i64 s, .int .i64 r, .int .i64 f]) ∧ -1 ≤ s ∧ s ≤ 1000001 ∧ -1 ≤ r ∧ r ≤ 1000001 ∧ -1 ≤ f ∧ f ≤ 1000001 ∧ Moved W B p K w'

theorem tmod_lo {x n : Int} (hx : 0 ≤ x) (hn : 1 ≤ n) : 0 ≤ x.tmod n := Int.tmod_nonneg _ hx
theorem tmod_hi {x n m : Int} (hx : 0 ≤ x) (hn : 1 ≤ n ∧ n ≤ m + 1) : x.tmod n ≤ m := by have := Int.tmod_lt_of_pos x (show 0 < n by omega); omega

def BufGot (W : World) (e : Ending) (w' : World) : Prop :=
  ∃ s r f : Int, e = .returned (.agg #[.int .i64 s, .int .i64 r, .int .i64 f]) ∧ -1 ≤ s ∧ s ≤ 1000001 ∧ -1 ≤ r ∧ r ≤ 1000001 ∧ -1 ≤ f ∧ f ≤ 1000001 ∧ Below W.heap.size W w'

end Go.Proofs.Ytggkelehjdepkaa
