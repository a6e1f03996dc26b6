/- What the draws of seat 2 answer: an index, three numbers, three vectors. -/
import Derived.Test.YtmockpkddcnmiaaMove
import Derived.Test.YtmockpkddcnmiaaDrawA
import Derived.Deep.DeepCutAuto
import Derived.Deep.RegionHeld3
namespace Go.Proofs.Ytmockpkddcnmiaa
open Go.RowKit
set_option linter.unusedVariables false
set_option linter.unusedSimpArgs false

attribute [local go_sem] size_addsW cell?_addsW frozen?_addsW setCell_addsW drew_addsW adds_addsW setCell_twice alloc_adds0 size_adds0 adds_adds0 sel2 sel3 sel4 sel5 sel6 sel7 sel8 sel9 lt_more lt_more2 lt_more3 lt_more4 adds_drew adds_drewN drewN_addsW ltA_1_1 ltA_1_2 ltA_1_3 ltA_1_4 ltA_1_5 ltA_1_6 ltA_2_1 ltA_2_2 ltA_2_3 ltA_2_4 ltA_2_5 ltA_2_6 ltA_3_1 ltA_3_2 ltA_3_3 ltA_3_4 ltA_3_5 ltA_3_6 ltA_4_1 ltA_4_2 ltA_4_3 ltA_4_4 ltA_4_5 ltA_4_6 ltA_5_1 ltA_5_2 ltA_5_3 ltA_5_4 ltA_5_5 ltA_5_6 ltA_6_1 ltA_6_2 ltA_6_3 ltA_6_4 ltA_6_5 ltA_6_6 ltA_7_1 ltA_7_2 ltA_7_3 ltA_7_4 ltA_7_5 ltA_7_6 ltA_8_1 ltA_8_2 ltA_8_3 ltA_8_4 ltA_8_5 ltA_8_6 ltA_9_1 ltA_9_2 ltA_9_3 ltA_9_4 ltA_9_5 ltA_9_6 ltA_10_1 ltA_10_2 ltA_10_3 ltA_10_4 ltA_10_5 ltA_10_6 ltA_11_1 ltA_11_2 ltA_11_3 ltA_11_4 ltA_11_5 ltA_11_6 ltA_12_1 ltA_12_2 ltA_12_3 ltA_12_4 ltA_12_5 ltA_12_6

/-- a number drawn, within bounds -/
def IntDrawn (lo hi : Int) (K : Nat) (W : World) (B p : Nat) (e : Ending) (w' : World) : Prop :=
  ∃ v : Int, e = .returned (.int .i64 v) ∧ lo ≤ v ∧ v ≤ hi ∧ Moved W B p K w'

theorem S_l20Q (B p : Nat) (n : Int) (w : World) (h : RdAt w B p) (hp : p ≤ 900000000) (hn : -1000000 ≤ n) :
    Calls Try.prog 64 #[.pointer (some ⟨B, 0, none⟩), .int .i64 n] w (IntDrawn (-1) 16 4 w B p) := by
  have hB := h.lt
  have hR := Lib.hid h
  clear h
  go_enter Try.func64, Try.ntmps64
  go_wp2_with (first | (go_at_call 65; refine (S_pick B _ _ _ (by repeat (first | (with_reducible exact hR.out) | (with_reducible apply RdAt.adds) | (with_reducible apply RdAt.alloc) | (with_reducible exact RdAt.set hR.out _) | (with_reducible apply RdAt.drew))) (by omega)).mono ?_; rintro e w' ⟨v, p1, k1, rfl, hv, hp1, rfl⟩; have hv' := hv.1 (by omega); clear hv) | (go_at_call 72; refine (S_odd B _ _ _ (by repeat (first | (with_reducible exact hR.out) | (with_reducible apply RdAt.adds) | (with_reducible apply RdAt.alloc) | (with_reducible exact RdAt.set hR.out _) | (with_reducible apply RdAt.drew))) (by omega) (by omega)).mono ?_; rintro e w' ⟨v, p1, k1, rfl, hp1, rfl⟩))
  all_goals
    go_returns
    refine ⟨_, rfl, (selB _ (-1) 16 ?_).1, (selB _ (-1) 16 ?_).2, (by repeat (first | (with_reducible apply Moved.adds) | (with_reducible apply Moved.alloc) | (with_reducible apply Moved.drew) | (exact Moved.base (by omega))))⟩
    all_goals
      intro x hx
      simp only [List.mem_cons, List.not_mem_nil, or_false] at hx
      rcases hx with rfl | rfl <;> omega

/-- three numbers, within bounds -/
def ThreeGot (lo1 hi1 lo2 hi2 lo3 hi3 : Int) (W : World) (e : Ending) (w' : World) : Prop :=
  ∃ x y z : Int, e = .returned (.tuple #[.int .i64 x, .int .i64 y, .int .i64 z]) ∧ lo1 ≤ x ∧ x ≤ hi1 ∧ lo2 ≤ y ∧ y ≤ hi2 ∧ lo3 ≤ z ∧ z ≤ hi3 ∧ Below W.heap.size W w'

theorem S_DrawNextIndex (a : Option Addr) (len cap : Nat) (zs : List Int) (w : World) (h : IsRow .u8 w a len cap zs) :
    Calls Try.prog 41 #[.slice a len cap] w (ThreeGot (-1) 16 (-1) 255 0 255 w) := by
  have HI := Lib.hid h
  clear h
  go_enter Try.func41, Try.ntmps41
  go_wp2_with (first | (go_at_call 53; refine (S_l20Open _ _ _ zs _ (IsRow.keep HI.out (by repeat' (first | (with_reducible exact Below.refl _ _) | (with_reducible refine Below.adds_ ?_ ?_ _ _) | (with_reducible refine Below.alloc ?_ ?_ _) | (with_reducible refine Below.drew ?_) | (with_reducible refine Below.setCell ?_ ?_ _) | (with_reducible assumption) | go_size | (simp only [size_addsW, World.size_alloc, World.size_drew, World.size_setCell]; omega))))).mono ?_; rintro e w1 ⟨rfl, hR', hb, hB⟩; (try simp only [World.size_alloc] at hR' hB); have hR := Lib.hid hR'; clear hR'; have hbw : Below w.heap.size w w1 := Below.trans (by repeat' (first | (with_reducible exact Below.refl _ _) | (with_reducible refine Below.adds_ ?_ ?_ _ _) | (with_reducible refine Below.alloc ?_ ?_ _) | (with_reducible refine Below.drew ?_) | (with_reducible refine Below.setCell ?_ ?_ _) | (with_reducible assumption) | go_size | (simp only [size_addsW, World.size_alloc, World.size_drew, World.size_setCell]; omega))) (hb.mono (by simp <;> omega)); clear hb) | (go_at_call 65; refine (S_pick w.heap.size _ _ _ (by repeat (first | (with_reducible exact hR.out) | (with_reducible apply RdAt.adds) | (with_reducible apply RdAt.alloc) | (with_reducible exact RdAt.set hR.out _) | (with_reducible apply RdAt.drew))) (by omega)).mono ?_; rintro e w' ⟨v, p1, k1, rfl, hv, hp1, rfl⟩; have hv' := hv.1 (by omega); clear hv) | (go_at_call 64; refine (S_l20Q w.heap.size _ _ _ (by repeat (first | (with_reducible exact hR.out) | (with_reducible apply RdAt.adds) | (with_reducible apply RdAt.alloc) | (with_reducible exact RdAt.set hR.out _) | (with_reducible apply RdAt.drew))) (by omega) (by omega)).mono ?_; rintro e w' ⟨x, rfl, q0, q1, p1, o2, k1, hp1, rfl⟩))
  go_ret3
  exact ⟨_, _, _, rfl, by omega, by omega, by omega, by omega, by omega, by omega, (by repeat' (first | (with_reducible exact Below.refl _ _) | (with_reducible refine Below.adds_ ?_ ?_ _ _) | (with_reducible refine Below.alloc ?_ ?_ _) | (with_reducible refine Below.drew ?_) | (with_reducible refine Below.setCell ?_ ?_ _) | (with_reducible assumption) | go_size | (simp only [size_addsW, World.size_alloc, World.size_drew, World.size_setCell]; omega)))⟩

/-- three vectors drawn -/
def VecsGot (W : World) (e : Ending) (w' : World) : Prop :=
  ∃ a b c d s t : Int, e = .returned (.tuple #[.agg #[.int .i64 a, .int .i64 b], .agg #[.int .i64 c, .int .i64 d], .agg #[.int .i64 s, .int .i64 t]]) ∧ -17 ≤ a ∧ a ≤ 17 ∧ -17 ≤ b ∧ b ≤ 17 ∧ -17 ≤ c ∧ c ≤ 17 ∧ -17 ≤ d ∧ d ≤ 17 ∧ -17 ≤ s ∧ s ≤ 17 ∧ -17 ≤ t ∧ t ≤ 17 ∧ Below W.heap.size W w'

set_option maxHeartbeats 1000000 in
theorem S_DrawMedianVector (a : Option Addr) (len cap : Nat) (zs : List Int) (w : World) (h : IsRow .u8 w a len cap zs) :
    Calls Try.prog 28 #[.slice a len cap] w (VecsGot w) := by
  have HI := Lib.hid h
  clear h
  go_enter Try.func28, Try.ntmps28
  go_wp2_with (go_at_call 53; refine (S_l20Open _ _ _ zs _ (IsRow.keep HI.out (by repeat' (first | (with_reducible exact Below.refl _ _) | (with_reducible refine Below.adds_ ?_ ?_ _ _) | (with_reducible refine Below.alloc ?_ ?_ _) | (with_reducible refine Below.drew ?_) | (with_reducible refine Below.setCell ?_ ?_ _) | (with_reducible assumption) | go_size | (simp only [size_addsW, World.size_alloc, World.size_drew, World.size_setCell]; omega))))).mono ?_; rintro e w1 ⟨rfl, hR', hb, hB⟩; (try simp only [World.size_alloc] at hR' hB); have hR := Lib.hid hR'; clear hR'; have hbw : Below w.heap.size w w1 := Below.trans (by repeat' (first | (with_reducible exact Below.refl _ _) | (with_reducible refine Below.adds_ ?_ ?_ _ _) | (with_reducible refine Below.alloc ?_ ?_ _) | (with_reducible refine Below.drew ?_) | (with_reducible refine Below.setCell ?_ ?_ _) | (with_reducible assumption) | go_size | (simp only [size_addsW, World.size_alloc, World.size_drew, World.size_setCell]; omega))) (hb.mono (by simp <;> omega)); have hx00 := hb.cell (p := ⟨w.heap.size, 0, none⟩) (by simp <;> omega); have hy00 := hb.frozen (p := ⟨w.heap.size, 0, none⟩) (by simp <;> omega); simp [go_sem] at hx00 hy00; have hx01 := hb.cell (p := ⟨w.heap.size, 1, none⟩) (by simp <;> omega); have hy01 := hb.frozen (p := ⟨w.heap.size, 1, none⟩) (by simp <;> omega); simp [go_sem] at hx01 hy01; have hB0 : w.heap.size < w1.heap.size := (by omega); have hx10 := hb.cell (p := ⟨w.heap.size + 1, 0, none⟩) (by simp <;> omega); have hy10 := hb.frozen (p := ⟨w.heap.size + 1, 0, none⟩) (by simp <;> omega); simp [go_sem] at hx10 hy10; have hx11 := hb.cell (p := ⟨w.heap.size + 1, 1, none⟩) (by simp <;> omega); have hy11 := hb.frozen (p := ⟨w.heap.size + 1, 1, none⟩) (by simp <;> omega); simp [go_sem] at hx11 hy11; have hB1 : w.heap.size + 1 < w1.heap.size := (by omega); have hx20 := hb.cell (p := ⟨w.heap.size + 1 + 1, 0, none⟩) (by simp <;> omega); have hy20 := hb.frozen (p := ⟨w.heap.size + 1 + 1, 0, none⟩) (by simp <;> omega); simp [go_sem] at hx20 hy20; have hx21 := hb.cell (p := ⟨w.heap.size + 1 + 1, 1, none⟩) (by simp <;> omega); have hy21 := hb.frozen (p := ⟨w.heap.size + 1 + 1, 1, none⟩) (by simp <;> omega); simp [go_sem] at hx21 hy21; have hB2 : w.heap.size + 1 + 1 < w1.heap.size := (by omega); clear hb)
  refine (S_l20Vector (w.heap.size + 1 + 1 + 1) _ _ _ (by repeat (first | (with_reducible exact hR.out) | (with_reducible apply RdAt.adds) | (with_reducible apply RdAt.alloc) | (with_reducible exact RdAt.set hR.out _) | (with_reducible apply RdAt.drew))) (by omega) (by omega)).mono ?_
  rintro e w' ⟨x1, y1, rfl, q0, q1, q2, q3, p1, o1, k1, hp1, rfl⟩
  go_wp2_with fail
  refine (S_l20Vector (w.heap.size + 1 + 1 + 1) _ _ _ (by repeat (first | (with_reducible exact hR.out) | (with_reducible apply RdAt.adds) | (with_reducible apply RdAt.alloc) | (with_reducible exact RdAt.set hR.out _) | (with_reducible apply RdAt.drew))) (by omega) (by omega)).mono ?_
  rintro e w' ⟨x, y, rfl, q4, q5, q6, q7, p2, o2, k2, hp2, rfl⟩
  go_wp2_with fail
  go_region_held3 (fun w' => w'.cell? ⟨w1.heap.size + o1.size, 0, none⟩ = some (.int .i64 x1) ∧ w'.cell? ⟨w1.heap.size + o1.size, 1, none⟩ = some (.int .i64 y1) ∧ w'.cell? ⟨w1.heap.size + o1.size + 1 + o2.size, 0, none⟩ = some (.int .i64 x) ∧ w'.cell? ⟨w1.heap.size + o1.size + 1 + o2.size, 1, none⟩ = some (.int .i64 y)) (first | (go_simp; done) | (go_keep; done))
    (first | (go_at_call 56; refine (S_l20Vector (w.heap.size + 1 + 1 + 1) _ _ _ (by repeat (first | (with_reducible exact hR.out) | (with_reducible apply RdAt.adds) | (with_reducible apply RdAt.alloc) | (with_reducible exact RdAt.set hR.out _) | (with_reducible apply RdAt.drew))) (by omega) (by omega)).mono ?_; rintro e w' ⟨x3, y3, rfl, q10, q11, q12, q13, p3, o3, k3, hp3, rfl⟩))
  all_goals
    go_wp2_with fail
    refine bodyPost_ret (v := .tuple #[.agg #[.int .i64 x1, .int .i64 y1], .agg #[.int .i64 x, .int .i64 y], .agg #[.int .i64 x3, .int .i64 y3]]) (by simp [results, Try.results28, go_sem, hx00, hx01, hx10, hx11, hx20, hx21, hB0, hB1, hB2]) rfl ?_
    exact ⟨_, _, _, _, _, _, rfl, by omega, by omega, by omega, by omega, by omega, by omega, by omega, by omega, by omega, by omega, by omega, by omega, (by repeat' (first | (with_reducible exact Below.refl _ _) | (with_reducible refine Below.adds_ ?_ ?_ _ _) | (with_reducible refine Below.alloc ?_ ?_ _) | (with_reducible refine Below.drew ?_) | (with_reducible refine Below.setCell ?_ ?_ _) | (with_reducible assumption) | go_size | (simp only [size_addsW, World.size_alloc, World.size_drew, World.size_setCell]; omega)))⟩

/-- a buffer drawn -/
def BufDrawn (K : Nat) (W : World) (B p : Nat) (e : Ending) (w' : World) : Prop :=
  ∃ s r f : Int, e = .returned (.agg #[.int .i64 s, .int .i64 r, .int .i64 f]) ∧ -1 ≤ s ∧ s ≤ 1000001 ∧ -1 ≤ r ∧ r ≤ 1000001 ∧ -1 ≤ f ∧ f ≤ 1000001 ∧ Moved W B p K w'

theorem tmod_lo {x n : Int} (hx : 0 ≤ x) (hn : 1 ≤ n) : 0 ≤ x.tmod n := Int.tmod_nonneg _ hx
theorem tmod_hi {x n m : Int} (hx : 0 ≤ x) (hn : 1 ≤ n ∧ n ≤ m + 1) : x.tmod n ≤ m := by have := Int.tmod_lt_of_pos x (show 0 < n by omega); omega

/-- where l20Buffer stands: its size drawn; its buffer laid -/
def BufW1 (w : World) (B q : Nat) : World := ((w.setCell ⟨B, 1, none⟩ (.int .i64 (q : Int))).alloc (.cells #[.int .i64 0, .int .i64 0, .int .i64 0] 35)).alloc (.cells #[.int .i64 4, .int .i64 40] 3)
def BufCut1 (w : World) (B p : Nat) (s5 : Value) (wx : World) : Prop := ∃ (S : Int) (q k : Nat), s5 = .int .i64 S ∧ wx = addsW (BufW1 w B q) #[] k ∧ 1 ≤ S ∧ S ≤ 10241 ∧ q ≤ p + 2
def BufCut2 (w : World) (B p : Nat) (S : Int) (s6 : Value) (wx : World) : Prop := ∃ (r f : Int) (q k : Nat), s6 = .pointer (some ⟨w.heap.size + 1 + 1, 0, none⟩) ∧ wx = addsW ((BufW1 w B q).alloc (.cells #[.int .i64 S, .int .i64 r, .int .i64 f] 35)) #[] k ∧ 0 ≤ r ∧ r ≤ S ∧ 0 ≤ f ∧ f ≤ S ∧ q ≤ p + 4

set_option maxHeartbeats 2000000 in
theorem S_l20Buffer (B p : Nat) (n : Int) (w : World) (h : RdAt w B p) (hp : p ≤ 900000000) (hn : -1000000 ≤ n) :
    Calls Try.prog 54 #[.pointer (some ⟨B, 0, none⟩), .int .i64 n] w (BufDrawn 8 w B p) := by
  have hB := h.lt
  have hR := Lib.hid h
  clear h
  go_enter Try.func54, Try.ntmps54
  go_upto_region 1 with fail
  go_cut [5] (fun s5 wx => BufCut1 w B p s5 wx)
  case first =>
    go_wp2_with fail
    refine (S_pick B _ _ _ (by repeat (first | (with_reducible exact hR.out) | (with_reducible apply RdAt.adds) | (with_reducible apply RdAt.alloc) | (with_reducible exact RdAt.set hR.out _) | (with_reducible apply RdAt.drew))) (by omega)).mono ?_
    rintro e w' ⟨v1, p1, k1, rfl, hv, hp1, rfl⟩
    have hv1 := hv.1 (by omega)
    clear hv
    go_wp2_with fail
    refine (S_pick B _ _ _ (by repeat (first | (with_reducible exact hR.out) | (with_reducible apply RdAt.adds) | (with_reducible apply RdAt.alloc) | (with_reducible exact RdAt.set hR.out _) | (with_reducible apply RdAt.drew))) (by omega)).mono ?_
    rintro e w' ⟨v2, p2, k2, rfl, hv, hp2, rfl⟩
    have hv2 := hv.1 (by omega)
    clear hv
    rcases (show v2 = 0 ∨ v2 = 1 by omega) with rfl | rfl
    all_goals
      clear hv2
      go_wp2_with fail
      go_meet
      exact ⟨_, _, _, rfl, rfl, by omega, by omega, by omega⟩
  case rest =>
    obtain ⟨S, q, k, rfl, rfl, hS0, hS1, hq⟩ := hcut
    unfold BufW1
    go_upto_region 2 with fail
    go_cut [6] (fun s6 wx => BufCut2 w B p S s6 wx)
    case first =>
      have hw1 : IntKind.i64.wrap (S + 1) = S + 1 := IntWalk.i64_in _ (by omega)
      have hne : (S + 1 == 0) = false := by simp; omega
      have hne2 : ¬ (S + 1 = 0) := by omega
      have hne3 : ¬ (S = -1) := by omega
      go_region_held3 (fun w' => True) (trivial) (first | (go_at_call 65; refine (S_pick B _ _ _ (by repeat (first | (with_reducible exact hR.out) | (with_reducible apply RdAt.adds) | (with_reducible apply RdAt.alloc) | (with_reducible exact RdAt.set hR.out _) | (with_reducible apply RdAt.drew))) (by omega)).mono ?_; rintro e w' ⟨v, p1, k1, rfl, hv, hp1, rfl⟩; have hv' := hv.1 (by omega); clear hv))
      all_goals
        go_wp2_with fail
        go_meet
        exact ⟨_, _, _, _, rfl, rfl, tmod_lo (by rw [IntWalk.i64_in _ (by omega)]; omega) (by omega), tmod_hi (by rw [IntWalk.i64_in _ (by omega)]; omega) (by omega), tmod_lo (by rw [IntWalk.i64_in _ (by omega)]; omega) (by omega), tmod_hi (by rw [IntWalk.i64_in _ (by omega)]; omega) (by omega), by omega⟩
    case rest =>
      obtain ⟨r, f, q, k, rfl, rfl, hr0, hr1, hf0, hf1, hq2⟩ := hcut
      unfold BufW1
      go_wp2_with (first | (go_at_call 65; refine (S_pick B _ _ _ (by repeat (first | (with_reducible exact hR.out) | (with_reducible apply RdAt.adds) | (with_reducible apply RdAt.alloc) | (with_reducible exact RdAt.set hR.out _) | (with_reducible apply RdAt.drew))) (by omega)).mono ?_; rintro e w' ⟨v, p1, k1, rfl, hv, hp1, rfl⟩; have hv' := hv.1 (by omega); clear hv) | (go_at_call 72; refine (S_odd B _ _ _ (by repeat (first | (with_reducible exact hR.out) | (with_reducible apply RdAt.adds) | (with_reducible apply RdAt.alloc) | (with_reducible exact RdAt.set hR.out _) | (with_reducible apply RdAt.drew))) (by omega) (by omega)).mono ?_; rintro e w' ⟨v, p1, k1, rfl, hp1, rfl⟩))
      all_goals
        go_returns
        exact ⟨_, _, _, rfl, (by first | omega | (refine (selB _ (-1) (1000001) ?_).1; intro x hx; simp only [List.mem_cons, List.not_mem_nil, or_false] at hx; omega) | (refine (selB _ (-1) (1000001) ?_).2; intro x hx; simp only [List.mem_cons, List.not_mem_nil, or_false] at hx; omega)), (by first | omega | (refine (selB _ (-1) (1000001) ?_).1; intro x hx; simp only [List.mem_cons, List.not_mem_nil, or_false] at hx; omega) | (refine (selB _ (-1) (1000001) ?_).2; intro x hx; simp only [List.mem_cons, List.not_mem_nil, or_false] at hx; omega)), (by first | omega | (refine (selB _ (-1) (1000001) ?_).1; intro x hx; simp only [List.mem_cons, List.not_mem_nil, or_false] at hx; omega) | (refine (selB _ (-1) (1000001) ?_).2; intro x hx; simp only [List.mem_cons, List.not_mem_nil, or_false] at hx; omega)), (by first | omega | (refine (selB _ (-1) (1000001) ?_).1; intro x hx; simp only [List.mem_cons, List.not_mem_nil, or_false] at hx; omega) | (refine (selB _ (-1) (1000001) ?_).2; intro x hx; simp only [List.mem_cons, List.not_mem_nil, or_false] at hx; omega)), (by first | omega | (refine (selB _ (-1) (1000001) ?_).1; intro x hx; simp only [List.mem_cons, List.not_mem_nil, or_false] at hx; omega) | (refine (selB _ (-1) (1000001) ?_).2; intro x hx; simp only [List.mem_cons, List.not_mem_nil, or_false] at hx; omega)), (by first | omega | (refine (selB _ (-1) (1000001) ?_).1; intro x hx; simp only [List.mem_cons, List.not_mem_nil, or_false] at hx; omega) | (refine (selB _ (-1) (1000001) ?_).2; intro x hx; simp only [List.mem_cons, List.not_mem_nil, or_false] at hx; omega)), (by repeat (first | (with_reducible apply Moved.adds) | (with_reducible apply Moved.alloc) | (with_reducible apply Moved.drew) | (exact Moved.base (by omega))))⟩

def BufGot (W : World) (e : Ending) (w' : World) : Prop :=
  ∃ s r f : Int, e = .returned (.agg #[.int .i64 s, .int .i64 r, .int .i64 f]) ∧ -1 ≤ s ∧ s ≤ 1000001 ∧ -1 ≤ r ∧ r ≤ 1000001 ∧ -1 ≤ f ∧ f ≤ 1000001 ∧ Below W.heap.size W w'

theorem S_DrawBufferValid (a : Option Addr) (len cap : Nat) (zs : List Int) (w : World) (h : IsRow .u8 w a len cap zs) :
    Calls Try.prog 24 #[.slice a len cap] w (BufGot w) := by
  have HI := Lib.hid h
  clear h
  go_enter Try.func24, Try.ntmps24
  go_wp2_with (go_at_call 53; refine (S_l20Open _ _ _ zs _ (IsRow.keep HI.out (by repeat' (first | (with_reducible exact Below.refl _ _) | (with_reducible refine Below.adds_ ?_ ?_ _ _) | (with_reducible refine Below.alloc ?_ ?_ _) | (with_reducible refine Below.drew ?_) | (with_reducible refine Below.setCell ?_ ?_ _) | (with_reducible assumption) | go_size | (simp only [size_addsW, World.size_alloc, World.size_drew, World.size_setCell]; omega))))).mono ?_; rintro e w1 ⟨rfl, hR', hb, hB⟩; (try simp only [World.size_alloc] at hR' hB); have hR := Lib.hid hR'; clear hR'; have hbw : Below w.heap.size w w1 := Below.trans (by repeat' (first | (with_reducible exact Below.refl _ _) | (with_reducible refine Below.adds_ ?_ ?_ _ _) | (with_reducible refine Below.alloc ?_ ?_ _) | (with_reducible refine Below.drew ?_) | (with_reducible refine Below.setCell ?_ ?_ _) | (with_reducible assumption) | go_size | (simp only [size_addsW, World.size_alloc, World.size_drew, World.size_setCell]; omega))) (hb.mono (by simp <;> omega)); have hx0 := hb.cell (p := ⟨w.heap.size, 0, none⟩) (by simp <;> omega); have hy0 := hb.frozen (p := ⟨w.heap.size, 0, none⟩) (by simp <;> omega); simp [go_sem] at hx0 hy0; have hx1 := hb.cell (p := ⟨w.heap.size, 1, none⟩) (by simp <;> omega); have hy1 := hb.frozen (p := ⟨w.heap.size, 1, none⟩) (by simp <;> omega); simp [go_sem] at hx1 hy1; have hx2 := hb.cell (p := ⟨w.heap.size, 2, none⟩) (by simp <;> omega); have hy2 := hb.frozen (p := ⟨w.heap.size, 2, none⟩) (by simp <;> omega); simp [go_sem] at hx2 hy2; have hB0 : w.heap.size < w1.heap.size := (by omega); clear hb)
  go_wp2_with (go_at_call 54; refine (S_l20Buffer (w.heap.size + 1) _ _ _ (by repeat (first | (with_reducible exact hR.out) | (with_reducible apply RdAt.adds) | (with_reducible apply RdAt.alloc) | (with_reducible exact RdAt.set hR.out _) | (with_reducible apply RdAt.drew))) (by omega) (by omega)).mono ?_; rintro e w' ⟨x, y, z, rfl, q0, q1, q2, q3, q4, q5, p1, o2, k1, hp1, rfl⟩)
  refine bodyPost_ret (v := .agg #[.int .i64 x, .int .i64 y, .int .i64 z]) (by simp [results, Try.results24, go_sem, hx0, hx1, hx2, hB0]) rfl ?_
  exact ⟨x, y, z, rfl, q0, q1, q2, q3, q4, q5, (by repeat' (first | (with_reducible exact Below.refl _ _) | (with_reducible refine Below.adds_ ?_ ?_ _ _) | (with_reducible refine Below.alloc ?_ ?_ _) | (with_reducible refine Below.drew ?_) | (with_reducible refine Below.setCell ?_ ?_ _) | (with_reducible assumption) | go_size | (simp only [size_addsW, World.size_alloc, World.size_drew, World.size_setCell]; omega)))⟩

theorem S_DrawBufferArrive (a : Option Addr) (len cap : Nat) (zs : List Int) (w : World) (h : IsRow .u8 w a len cap zs) :
    Calls Try.prog 38 #[.slice a len cap] w (BufGot w) := by
  have HI := Lib.hid h
  clear h
  go_enter Try.func38, Try.ntmps38
  go_wp2_with (go_at_call 53; refine (S_l20Open _ _ _ zs _ (IsRow.keep HI.out (by repeat' (first | (with_reducible exact Below.refl _ _) | (with_reducible refine Below.adds_ ?_ ?_ _ _) | (with_reducible refine Below.alloc ?_ ?_ _) | (with_reducible refine Below.drew ?_) | (with_reducible refine Below.setCell ?_ ?_ _) | (with_reducible assumption) | go_size | (simp only [size_addsW, World.size_alloc, World.size_drew, World.size_setCell]; omega))))).mono ?_; rintro e w1 ⟨rfl, hR', hb, hB⟩; (try simp only [World.size_alloc] at hR' hB); have hR := Lib.hid hR'; clear hR'; have hbw : Below w.heap.size w w1 := Below.trans (by repeat' (first | (with_reducible exact Below.refl _ _) | (with_reducible refine Below.adds_ ?_ ?_ _ _) | (with_reducible refine Below.alloc ?_ ?_ _) | (with_reducible refine Below.drew ?_) | (with_reducible refine Below.setCell ?_ ?_ _) | (with_reducible assumption) | go_size | (simp only [size_addsW, World.size_alloc, World.size_drew, World.size_setCell]; omega))) (hb.mono (by simp <;> omega)); have hx0 := hb.cell (p := ⟨w.heap.size, 0, none⟩) (by simp <;> omega); have hy0 := hb.frozen (p := ⟨w.heap.size, 0, none⟩) (by simp <;> omega); simp [go_sem] at hx0 hy0; have hx1 := hb.cell (p := ⟨w.heap.size, 1, none⟩) (by simp <;> omega); have hy1 := hb.frozen (p := ⟨w.heap.size, 1, none⟩) (by simp <;> omega); simp [go_sem] at hx1 hy1; have hx2 := hb.cell (p := ⟨w.heap.size, 2, none⟩) (by simp <;> omega); have hy2 := hb.frozen (p := ⟨w.heap.size, 2, none⟩) (by simp <;> omega); simp [go_sem] at hx2 hy2; have hB0 : w.heap.size < w1.heap.size := (by omega); clear hb)
  go_wp2_with (go_at_call 54; refine (S_l20Buffer (w.heap.size + 1) _ _ _ (by repeat (first | (with_reducible exact hR.out) | (with_reducible apply RdAt.adds) | (with_reducible apply RdAt.alloc) | (with_reducible exact RdAt.set hR.out _) | (with_reducible apply RdAt.drew))) (by omega) (by omega)).mono ?_; rintro e w' ⟨x, y, z, rfl, q0, q1, q2, q3, q4, q5, p1, o2, k1, hp1, rfl⟩)
  refine bodyPost_ret (v := .agg #[.int .i64 x, .int .i64 y, .int .i64 z]) (by simp [results, Try.results38, go_sem, hx0, hx1, hx2, hB0]) rfl ?_
  exact ⟨x, y, z, rfl, q0, q1, q2, q3, q4, q5, (by repeat' (first | (with_reducible exact Below.refl _ _) | (with_reducible refine Below.adds_ ?_ ?_ _ _) | (with_reducible refine Below.alloc ?_ ?_ _) | (with_reducible refine Below.drew ?_) | (with_reducible refine Below.setCell ?_ ?_ _) | (with_reducible assumption) | go_size | (simp only [size_addsW, World.size_alloc, World.size_drew, World.size_setCell]; omega)))⟩

end Go.Proofs.Ytmockpkddcnmiaa
