/- Contracts of the small functions on numbers and on structs of numbers. -/
import Derived.Test.YtmockpkddcnmiaaRows
import Derived.Test.YtmockpkddcnmiaaMath
import Derived.Test.YtmockpkddcnmiaaBase
import Derived.WalkKit
import Derived.WalkLawsBesides
import Derived.Handy
import Derived.Lib.Hide
import Derived.StillTailTactics
import Derived.Outline
namespace Go.Proofs.Ytmockpkddcnmiaa
open Go.RowKit
set_option linter.unusedVariables false
set_option linter.unusedSimpArgs false

attribute [local go_sem] size_addsW cell?_addsW frozen?_addsW setCell_addsW drew_addsW adds_addsW setCell_twice alloc_adds0 size_adds0 adds_adds0 sel2 sel3 sel4 sel5 sel6 sel7 sel8 sel9 lt_more lt_more2 lt_more3 lt_more4 adds_drew adds_drewN drewN_addsW ltA_1_1 ltA_1_2 ltA_1_3 ltA_1_4 ltA_1_5 ltA_1_6 ltA_2_1 ltA_2_2 ltA_2_3 ltA_2_4 ltA_2_5 ltA_2_6 ltA_3_1 ltA_3_2 ltA_3_3 ltA_3_4 ltA_3_5 ltA_3_6 ltA_4_1 ltA_4_2 ltA_4_3 ltA_4_4 ltA_4_5 ltA_4_6 ltA_5_1 ltA_5_2 ltA_5_3 ltA_5_4 ltA_5_5 ltA_5_6 ltA_6_1 ltA_6_2 ltA_6_3 ltA_6_4 ltA_6_5 ltA_6_6 ltA_7_1 ltA_7_2 ltA_7_3 ltA_7_4 ltA_7_5 ltA_7_6 ltA_8_1 ltA_8_2 ltA_8_3 ltA_8_4 ltA_8_5 ltA_8_6 ltA_9_1 ltA_9_2 ltA_9_3 ltA_9_4 ltA_9_5 ltA_9_6 ltA_10_1 ltA_10_2 ltA_10_3 ltA_10_4 ltA_10_5 ltA_10_6 ltA_11_1 ltA_11_2 ltA_11_3 ltA_11_4 ltA_11_5 ltA_11_6 ltA_12_1 ltA_12_2 ltA_12_3 ltA_12_4 ltA_12_5 ltA_12_6

theorem S_l1In (n lo hi : Int) (w : World) : Calls Try.prog 49 #[.int .i64 n, .int .i64 lo, .int .i64 hi] w fun e w' => e = .returned (.bool (M.inB n lo hi)) ∧ w = w' := by
  go_enter Try.func49, Try.ntmps49
  go_wp2
  all_goals
    go_returns
    exact ⟨M.ret_bool (by rw [Bool.eq_iff_iff]; simp [M.inB] <;> omega), rfl⟩

theorem I_qualityValid (n : Int) (w : World) : Calls Try.prog 66 #[.int .i64 n] w fun e w' => e = .returned (.bool (M.inB n 0 15)) ∧ w = w' := by
  go_enter Try.func66, Try.ntmps66
  go_wp2
  all_goals
    go_returns
    exact ⟨M.ret_bool (by rw [Bool.eq_iff_iff]; simp [M.inB] <;> omega), rfl⟩

theorem I_sampleValid (n : Int) (w : World) : Calls Try.prog 74 #[.int .i64 n] w fun e w' => e = .returned (.bool (M.inB n 0 255)) ∧ w = w' := by
  go_enter Try.func74, Try.ntmps74
  go_wp2
  all_goals
    go_returns
    exact ⟨M.ret_bool (by rw [Bool.eq_iff_iff]; simp [M.inB] <;> omega), rfl⟩

theorem I_numberValid (n : Int) (w : World) : Calls Try.prog 60 #[.int .i64 n] w fun e w' => e = .returned (.bool (M.inB n 0 9999)) ∧ w = w' := by
  go_enter Try.func60, Try.ntmps60
  go_wp2
  all_goals
    go_returns
    exact ⟨M.ret_bool (by rw [Bool.eq_iff_iff]; simp [M.inB] <;> omega), rfl⟩

theorem I_clamp (n lo hi : Int) (w : World) : Calls Try.prog 67 #[.int .i64 n, .int .i64 lo, .int .i64 hi] w fun e w' => e = .returned (.int .i64 (min (max n lo) hi)) ∧ w = w' := by
  go_enter Try.func67, Try.ntmps67
  go_wp2
  all_goals
    go_returns
    exact ⟨M.ret_int (by omega), rfl⟩

theorem S_l1Clip (n lo hi : Int) (w : World) : Calls Try.prog 70 #[.int .i64 n, .int .i64 lo, .int .i64 hi] w fun e w' => e = .returned (.int .i64 (max lo (min hi n))) ∧ w = w' := by
  go_enter Try.func70, Try.ntmps70
  go_wp2
  all_goals
    go_returns
    exact ⟨M.ret_int (by omega), rfl⟩

theorem I_abs (n : Int) (w : World) (h : -9223372036854775808 < n ∧ n ≤ 9223372036854775807) : Calls Try.prog 75 #[.int .i64 n] w fun e w' => e = .returned (.int .i64 (max n (-n))) ∧ w = w' := by
  go_enter Try.func75, Try.ntmps75
  go_wp2
  all_goals
    go_returns
    exact ⟨M.ret_int (by omega), rfl⟩

theorem L_abs (n : Int) (w : World) (h : -9223372036854775808 < n ∧ n ≤ 9223372036854775807) : Calls Try.prog 44 #[.int .i64 n] w fun e w' => e = .returned (.int .i64 (max n (-n))) ∧ w = w' := by
  go_enter Try.func44, Try.ntmps44
  go_wp2
  all_goals
    go_returns
    exact ⟨M.ret_int (by omega), rfl⟩

theorem I_median (a b c : Int) (w : World) : Calls Try.prog 57 #[.int .i64 a, .int .i64 b, .int .i64 c] w fun e w' => e = .returned (.int .i64 (M.med a b c)) ∧ w = w' := by
  go_enter Try.func57, Try.ntmps57
  go_wp2
  all_goals
    go_returns
    exact ⟨M.ret_int (by simp [M.med] <;> omega), rfl⟩

theorem S_l7Median (a b c : Int) (w : World) : Calls Try.prog 58 #[.int .i64 a, .int .i64 b, .int .i64 c] w fun e w' => e = .returned (.int .i64 (M.med a b c)) ∧ w = w' := by
  go_enter Try.func58, Try.ntmps58
  go_wp2
  all_goals
    go_returns
    exact ⟨M.ret_int (by simp [M.med] <;> omega), rfl⟩

theorem S_l7Floor8 (n : Int) (w : World) (h : -1000000 ≤ n ∧ n ≤ 1000000) : Calls Try.prog 71 #[.int .i64 n, .int .i64 8] w fun e w' => e = .returned (.int .i64 (n / 8)) ∧ w = w' := by
  have hb := M.tdiv_le n 8 (by omega) 1000000 h
  have hf := Lib.hid (M.floor_of n 8 (by omega))
  by_cases hs : n.tmod 8 < 0
  · go_enter Try.func71, Try.ntmps71
    go_wp2
    go_returns
    exact ⟨M.ret_int (hf.out.1 hs), rfl⟩
  · go_enter Try.func71, Try.ntmps71
    go_wp2
    go_returns
    exact ⟨M.ret_int (hf.out.2 (by omega)), rfl⟩

theorem S_l7Floor2 (n : Int) (w : World) (h : -1000000 ≤ n ∧ n ≤ 1000000) : Calls Try.prog 71 #[.int .i64 n, .int .i64 2] w fun e w' => e = .returned (.int .i64 (n / 2)) ∧ w = w' := by
  have hb := M.tdiv_le n 2 (by omega) 1000000 h
  have hf := Lib.hid (M.floor_of n 2 (by omega))
  by_cases hs : n.tmod 2 < 0
  · go_enter Try.func71, Try.ntmps71
    go_wp2
    go_returns
    exact ⟨M.ret_int (hf.out.1 hs), rfl⟩
  · go_enter Try.func71, Try.ntmps71
    go_wp2
    go_returns
    exact ⟨M.ret_int (hf.out.2 (by omega)), rfl⟩

theorem S_BufferValid (s r f : Int) (w : World) : Calls Try.prog 26 #[.agg #[.int .i64 s, .int .i64 r, .int .i64 f]] w fun e w' => e = .returned (.bool (M.bufB s r f)) ∧ Below w.heap.size w w' := by
  cases h0 : M.inB s 1 1000000 <;> cases h1 : M.inB r 0 s <;> cases h2 : M.inB f 0 s
  all_goals
    have g0 := h0
    have g1 := h1
    have g2 := h2
    simp only [M.inB_iff, M.inB_no] at g0 g1 g2
    go_enter Try.func26, Try.ntmps26
    go_wp2_with (go_at_call 49; refine (S_l1In _ _ _ _).mono ?_; rintro e w' ⟨rfl, rfl⟩)
    all_goals
      go_returns
      exact ⟨M.ret_bool (by simp only [M.inB_iff, M.inB_no] at h0 h1 h2; rw [Bool.eq_iff_iff]; simp [M.bufB] <;> omega), (by repeat' (first | (with_reducible exact Below.refl _ _) | (with_reducible refine Below.adds_ ?_ ?_ _ _) | (with_reducible refine Below.alloc ?_ ?_ _) | (with_reducible refine Below.drew ?_) | (with_reducible refine Below.setCell ?_ ?_ _) | (with_reducible assumption) | go_size | (simp only [size_addsW, World.size_alloc, World.size_drew, World.size_setCell]; omega)))⟩

theorem I_BufferValid (s r f : Int) (w : World) : Calls Try.prog 25 #[.agg #[.int .i64 s, .int .i64 r, .int .i64 f]] w fun e w' => e = .returned (.bool (M.bufB s r f)) ∧ Below w.heap.size w w' := by
  go_enter Try.func25, Try.ntmps25
  go_wp2
  all_goals
    go_returns
    exact ⟨M.ret_bool (by rw [Bool.eq_iff_iff]; simp [M.bufB] <;> omega), (by repeat' (first | (with_reducible exact Below.refl _ _) | (with_reducible refine Below.adds_ ?_ ?_ _ _) | (with_reducible refine Below.alloc ?_ ?_ _) | (with_reducible refine Below.drew ?_) | (with_reducible refine Below.setCell ?_ ?_ _) | (with_reducible assumption) | go_size | (simp only [size_addsW, World.size_alloc, World.size_drew, World.size_setCell]; omega)))⟩

theorem S_MedianVector (a b c d p q : Int) (w : World) : Calls Try.prog 30 #[.agg #[.int .i64 a, .int .i64 b], .agg #[.int .i64 c, .int .i64 d], .agg #[.int .i64 p, .int .i64 q]] w fun e w' => e = .returned (.agg #[.int .i64 (M.med a c p), .int .i64 (M.med b d q)]) ∧ Below w.heap.size w w' := by
  go_enter Try.func30, Try.ntmps30
  go_wp2_with fail
  refine wp_tail 15 (by kernel_rfl) (by kernel_rfl) ?_
  simp only [List.take_succ_cons, List.take_zero, List.drop_succ_cons, List.drop_zero]
  repeat still_step
  still_call (still_of (S_l7Median _ _ _ _))
  repeat still_step
  still_call (still_of (S_l7Median _ _ _ _))
  repeat still_step
  refine wpStill_nil ?_
  go_wp2
  go_returns
  exact ⟨rfl, (by repeat' (first | (with_reducible exact Below.refl _ _) | (with_reducible refine Below.adds_ ?_ ?_ _ _) | (with_reducible refine Below.alloc ?_ ?_ _) | (with_reducible refine Below.drew ?_) | (with_reducible refine Below.setCell ?_ ?_ _) | (with_reducible assumption) | go_size | (simp only [size_addsW, World.size_alloc, World.size_drew, World.size_setCell]; omega)))⟩

theorem I_MedianVector (a b c d p q : Int) (w : World) : Calls Try.prog 29 #[.agg #[.int .i64 a, .int .i64 b], .agg #[.int .i64 c, .int .i64 d], .agg #[.int .i64 p, .int .i64 q]] w fun e w' => e = .returned (.agg #[.int .i64 (M.med a c p), .int .i64 (M.med b d q)]) ∧ Below w.heap.size w w' := by
  go_enter Try.func29, Try.ntmps29
  go_wp2_with fail
  refine wp_tail 15 (by kernel_rfl) (by kernel_rfl) ?_
  simp only [List.take_succ_cons, List.take_zero, List.drop_succ_cons, List.drop_zero]
  repeat still_step
  still_call (still_of (I_median _ _ _ _))
  repeat still_step
  still_call (still_of (I_median _ _ _ _))
  repeat still_step
  refine wpStill_nil ?_
  go_wp2
  go_returns
  exact ⟨rfl, (by repeat' (first | (with_reducible exact Below.refl _ _) | (with_reducible refine Below.adds_ ?_ ?_ _ _) | (with_reducible refine Below.alloc ?_ ?_ _) | (with_reducible refine Below.drew ?_) | (with_reducible refine Below.setCell ?_ ?_ _) | (with_reducible assumption) | go_size | (simp only [size_addsW, World.size_alloc, World.size_drew, World.size_setCell]; omega)))⟩

theorem S_NextIndex (q b t : Int) (w : World) : Calls Try.prog 43 #[.int .i64 q, .int .i64 b, .int .i64 t] w fun e w' => e = .returned (.int .i64 (M.nextIx q b t)) ∧ w = w' := by
  cases h0 : M.inB q 0 15 <;> cases h1 : M.inB t 1 1000000
  all_goals
    have g0 := h0
    have g1 := h1
    simp only [M.inB_iff, M.inB_no] at g0 g1
    go_enter Try.func43, Try.ntmps43
    go_wp2_with (go_at_call 49; refine (S_l1In _ _ _ _).mono ?_; rintro e w' ⟨rfl, rfl⟩)
    all_goals
      go_returns
      exact ⟨M.ret_int (by unfold M.nextIx; (repeat' split) <;> omega), rfl⟩

theorem I_NextIndex (q b t : Int) (w : World) : Calls Try.prog 42 #[.int .i64 q, .int .i64 b, .int .i64 t] w fun e w' => e = .returned (.int .i64 (M.nextIx q b t)) ∧ w = w' := by
  go_enter Try.func42, Try.ntmps42
  go_wp2
  all_goals
    go_returns
    exact ⟨M.ret_int (by (try simp only [beq_iff_eq, beq_eq_false_iff_ne, bne_iff_ne, bne_eq_false_iff_eq, ne_eq] at *); unfold M.nextIx; (repeat' split) <;> omega), rfl⟩

theorem I_arrive (s r f : Int) (w : World) (h : 1 ≤ s ∧ s ≤ 1000000 ∧ 0 ≤ r ∧ r ≤ s ∧ 0 ≤ f ∧ f ≤ s) : Calls Try.prog 63 #[.agg #[.int .i64 s, .int .i64 r, .int .i64 f]] w fun e w' => e = .returned (.agg #[.int .i64 s, .int .i64 r, .int .i64 (min (f + r) s)]) ∧ Below w.heap.size w w' := by
  go_enter Try.func63, Try.ntmps63
  go_wp2
  all_goals
    go_returns
    exact ⟨by first | rfl | (rw [show min (f + r) s = f + r by omega]) | (rw [show min (f + r) s = s by omega]), (by repeat' (first | (with_reducible exact Below.refl _ _) | (with_reducible refine Below.adds_ ?_ ?_ _ _) | (with_reducible refine Below.alloc ?_ ?_ _) | (with_reducible refine Below.drew ?_) | (with_reducible refine Below.setCell ?_ ?_ _) | (with_reducible assumption) | go_size | (simp only [size_addsW, World.size_alloc, World.size_drew, World.size_setCell]; omega)))⟩

theorem S_BufferArrive_no (s r f : Int) (w : World) (hv : M.bufB s r f = false) : Calls Try.prog 40 #[.agg #[.int .i64 s, .int .i64 r, .int .i64 f]] w fun e w' => e = .returned (.agg #[.int .i64 0, .int .i64 0, .int .i64 0]) ∧ Below w.heap.size w w' := by
  go_enter Try.func40, Try.ntmps40
  go_wp2_with (go_at_call 26; refine (S_BufferValid _ _ _ _).mono ?_; rintro e w' ⟨rfl, hb⟩; obtain ⟨o1, n1, rfl⟩ := below_adds hb; clear hb)
  go_returns
  exact ⟨rfl, (by repeat' (first | (with_reducible exact Below.refl _ _) | (with_reducible refine Below.adds_ ?_ ?_ _ _) | (with_reducible refine Below.alloc ?_ ?_ _) | (with_reducible refine Below.drew ?_) | (with_reducible refine Below.setCell ?_ ?_ _) | (with_reducible assumption) | go_size | (simp only [size_addsW, World.size_alloc, World.size_drew, World.size_setCell]; omega)))⟩

theorem I_BufferArrive_no (s r f : Int) (w : World) (hv : M.bufB s r f = false) : Calls Try.prog 39 #[.agg #[.int .i64 s, .int .i64 r, .int .i64 f]] w fun e w' => e = .returned (.agg #[.int .i64 0, .int .i64 0, .int .i64 0]) ∧ Below w.heap.size w w' := by
  go_enter Try.func39, Try.ntmps39
  go_wp2_with (go_at_call 25; refine (I_BufferValid _ _ _ _).mono ?_; rintro e w' ⟨rfl, hb⟩; obtain ⟨o1, n1, rfl⟩ := below_adds hb; clear hb)
  go_returns
  exact ⟨rfl, (by repeat' (first | (with_reducible exact Below.refl _ _) | (with_reducible refine Below.adds_ ?_ ?_ _ _) | (with_reducible refine Below.alloc ?_ ?_ _) | (with_reducible refine Below.drew ?_) | (with_reducible refine Below.setCell ?_ ?_ _) | (with_reducible assumption) | go_size | (simp only [size_addsW, World.size_alloc, World.size_drew, World.size_setCell]; omega)))⟩

theorem I_BufferArrive_yes (s r f : Int) (w : World) (hv : M.bufB s r f = true) : Calls Try.prog 39 #[.agg #[.int .i64 s, .int .i64 r, .int .i64 f]] w fun e w' => e = .returned (.agg #[.int .i64 s, .int .i64 r, .int .i64 (min (f + r) s)]) ∧ Below w.heap.size w w' := by
  have hv' : 1 ≤ s ∧ s ≤ 1000000 ∧ 0 ≤ r ∧ r ≤ s ∧ 0 ≤ f ∧ f ≤ s := by simpa [M.bufB] using hv
  go_enter Try.func39, Try.ntmps39
  go_wp2_with (first | (go_at_call 25; refine (I_BufferValid _ _ _ _).mono ?_; rintro e w' ⟨rfl, hb⟩; obtain ⟨o1, n1, rfl⟩ := below_adds hb; clear hb) | (go_at_call 63; refine (I_arrive _ _ _ _ hv').mono ?_; rintro e w' ⟨rfl, hb⟩; obtain ⟨o1, n1, rfl⟩ := below_adds hb; clear hb))
  go_returns
  exact ⟨rfl, (by repeat' (first | (with_reducible exact Below.refl _ _) | (with_reducible refine Below.adds_ ?_ ?_ _ _) | (with_reducible refine Below.alloc ?_ ?_ _) | (with_reducible refine Below.drew ?_) | (with_reducible refine Below.setCell ?_ ?_ _) | (with_reducible assumption) | go_size | (simp only [size_addsW, World.size_alloc, World.size_drew, World.size_setCell]; omega)))⟩

theorem S_BufferArrive_yes (s r f : Int) (w : World) (hv : M.bufB s r f = true) : Calls Try.prog 40 #[.agg #[.int .i64 s, .int .i64 r, .int .i64 f]] w fun e w' => e = .returned (.agg #[.int .i64 s, .int .i64 r, .int .i64 (min (f + r) s)]) ∧ Below w.heap.size w w' := by
  have hv' : 1 ≤ s ∧ s ≤ 1000000 ∧ 0 ≤ r ∧ r ≤ s ∧ 0 ≤ f ∧ f ≤ s := by simpa [M.bufB] using hv
  by_cases hm : f + r < s
  all_goals
    first | rw [show min (f + r) s = f + r by omega] | rw [show min (f + r) s = s by omega]
    go_enter Try.func40, Try.ntmps40
    go_wp2_with (go_at_call 26; refine (S_BufferValid _ _ _ _).mono ?_; rintro e w' ⟨rfl, hb⟩; obtain ⟨o1, n1, rfl⟩ := below_adds hb; clear hb)
    go_returns
    exact ⟨rfl, (by repeat' (first | (with_reducible exact Below.refl _ _) | (with_reducible refine Below.adds_ ?_ ?_ _ _) | (with_reducible refine Below.alloc ?_ ?_ _) | (with_reducible refine Below.drew ?_) | (with_reducible refine Below.setCell ?_ ?_ _) | (with_reducible assumption) | go_size | (simp only [size_addsW, World.size_alloc, World.size_drew, World.size_setCell]; omega)))⟩

end Go.Proofs.Ytmockpkddcnmiaa
