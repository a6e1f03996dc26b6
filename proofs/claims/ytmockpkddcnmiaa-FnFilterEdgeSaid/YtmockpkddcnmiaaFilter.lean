/- Contracts of samplesIn, filtered, FilterEdge (both). -/
import Derived.Test.YtmockpkddcnmiaaSmall
import Derived.LoopTactic
namespace Go.Proofs.Ytmockpkddcnmiaa
open Go.RowKit
set_option linter.unusedVariables false
set_option linter.unusedSimpArgs false

attribute [local go_sem] size_addsW cell?_addsW frozen?_addsW setCell_addsW drew_addsW adds_addsW setCell_twice alloc_adds0 size_adds0 adds_adds0 sel2 sel3 sel4 sel5 sel6 sel7 sel8 sel9 lt_more lt_more2 lt_more3 lt_more4 adds_drew adds_drewN drewN_addsW ltA_1_1 ltA_1_2 ltA_1_3 ltA_1_4 ltA_1_5 ltA_1_6 ltA_2_1 ltA_2_2 ltA_2_3 ltA_2_4 ltA_2_5 ltA_2_6 ltA_3_1 ltA_3_2 ltA_3_3 ltA_3_4 ltA_3_5 ltA_3_6 ltA_4_1 ltA_4_2 ltA_4_3 ltA_4_4 ltA_4_5 ltA_4_6 ltA_5_1 ltA_5_2 ltA_5_3 ltA_5_4 ltA_5_5 ltA_5_6 ltA_6_1 ltA_6_2 ltA_6_3 ltA_6_4 ltA_6_5 ltA_6_6 ltA_7_1 ltA_7_2 ltA_7_3 ltA_7_4 ltA_7_5 ltA_7_6 ltA_8_1 ltA_8_2 ltA_8_3 ltA_8_4 ltA_8_5 ltA_8_6 ltA_9_1 ltA_9_2 ltA_9_3 ltA_9_4 ltA_9_5 ltA_9_6 ltA_10_1 ltA_10_2 ltA_10_3 ltA_10_4 ltA_10_5 ltA_10_6 ltA_11_1 ltA_11_2 ltA_11_3 ltA_11_4 ltA_11_5 ltA_11_6 ltA_12_1 ltA_12_2 ltA_12_3 ltA_12_4 ltA_12_5 ltA_12_6

theorem I_samplesIn (A : Option Addr) (c : Nat) (zs : List Int) (w : World) (hr : RowAt .i64 w A zs) (hl : zs.length ≤ 1000000000000) :
    Calls Try.prog 68 #[.slice A zs.length c] w fun e w' => e = .returned (.bool (M.samplesB zs)) ∧ w = w' := by
  go_enter Try.func68, Try.ntmps68
  go_wp2
  go_loop [7] (fun i => ∃ k : Nat, k ≤ zs.length ∧ i = .int .i64 k ∧ M.samplesB (zs.take k) = true) (fun i => zs.length - (intOf i).toNat)
  case atStart => exact ⟨0, Nat.zero_le _, rfl, by simp [M.samplesB]⟩
  case round =>
    obtain ⟨k, hk, rfl, ht⟩ := hrel
    have HT := Lib.hid ht
    clear ht
    by_cases hlt : k < zs.length
    · obtain ⟨b, off, z, rfl, hb, hz, hc⟩ := hr.at_ hlt
      have HZ := Lib.hid hz
      clear hz
      cases hv : M.inB z 0 255
      · go_wp2_with (go_at_call 74; refine (I_sampleValid _ _).mono ?_; rintro e w' ⟨rfl, rfl⟩)
        go_ret
        exact ⟨M.ret_bool (M.samplesB_no hlt (by rw [← HZ.out]; exact hv)).symm, rfl⟩
      · go_wp2_with (go_at_call 74; refine (I_sampleValid _ _).mono ?_; rintro e w' ⟨rfl, rfl⟩)
        go_round
        case rel => exact ⟨k + 1, by omega, by go_num, M.samplesB_take hlt HT.out (by rw [← HZ.out]; exact hv)⟩
        case measure => simp [intOf]; omega
    · go_wp2
      go_ret
      exact ⟨M.ret_bool (by have := HT.out; rw [List.take_of_length_le (by omega)] at this; exact this.symm), rfl⟩

theorem I_filtered (a b c d l : Int) (w : World) (h : M.feB a b c d l = true) :
    Calls Try.prog 69 #[.int .i64 a, .int .i64 b, .int .i64 c, .int .i64 d, .int .i64 l] w fun e w' => e = .returned (.tuple #[.int .i64 (M.filt1 a b c d l), .int .i64 (M.filt2 a b c d l)]) ∧ w = w' := by
  have h' := h
  simp only [M.feB, Bool.and_eq_true, M.inB_iff] at h'
  by_cases hc : 4 * l ≤ max (b - c) (c - b)
  all_goals
    go_enter Try.func69, Try.ntmps69
    go_wp2_with (first | (go_at_call 75; refine (I_abs _ _ (by omega)).mono ?_; rintro e w' ⟨rfl, rfl⟩) | (go_at_call 67; refine (I_clamp _ _ _ _).mono ?_; rintro e w' ⟨rfl, rfl⟩))
    go_returns
    exact ⟨M.ret_pair (by unfold M.filt1; (try unfold M.filtE); split <;> omega) (by unfold M.filt2; (try unfold M.filtE); split <;> omega), rfl⟩

theorem I_FilterEdge (a b c d l : Int) (w : World) :
    Calls Try.prog 46 #[.int .i64 a, .int .i64 b, .int .i64 c, .int .i64 d, .int .i64 l] w fun e w' => e = .returned (.tuple #[.int .i64 (M.fe1 a b c d l), .int .i64 (M.fe2 a b c d l)]) ∧ Below w.heap.size w w' := by
  cases hv : M.feB a b c d l
  · have e1 : M.fe1 a b c d l = 0 := by simp [M.fe1, hv]
    have e2 : M.fe2 a b c d l = 0 := by simp [M.fe2, hv]
    rw [e1, e2]
    clear e1 e2
    cases hs : M.samplesB [a, b, c, d]
    · go_enter Try.func46, Try.ntmps46
      go_wp2_with (go_at_call 68; refine (I_samplesIn (some ⟨w.heap.size, 0, none⟩) 4 [a, b, c, d] _ (RowAt.new .i64 w [a, b, c, d] 3) (by simp)).mono ?_; rintro e w' ⟨rfl, rfl⟩)
      go_returns
      exact ⟨rfl, (by repeat' (first | (with_reducible exact Below.refl _ _) | (with_reducible refine Below.adds_ ?_ ?_ _ _) | (with_reducible refine Below.alloc ?_ ?_ _) | (with_reducible refine Below.drew ?_) | (with_reducible refine Below.setCell ?_ ?_ _) | (with_reducible assumption) | go_size | (simp only [size_addsW, World.size_alloc, World.size_drew, World.size_setCell]; omega)))⟩
    · have hl : l < 0 ∨ 12 < l := by
        simp only [M.samplesB, List.all_cons, List.all_nil, Bool.and_true, Bool.and_eq_true] at hs
        obtain ⟨q1, q2, q3, q4⟩ := hs
        simpa [M.feB, q1, q2, q3, q4, M.inB_no] using hv
      go_enter Try.func46, Try.ntmps46
      go_wp2_with (go_at_call 68; refine (I_samplesIn (some ⟨w.heap.size, 0, none⟩) 4 [a, b, c, d] _ (RowAt.new .i64 w [a, b, c, d] 3) (by simp)).mono ?_; rintro e w' ⟨rfl, rfl⟩)
      all_goals
        go_returns
        exact ⟨rfl, (by repeat' (first | (with_reducible exact Below.refl _ _) | (with_reducible refine Below.adds_ ?_ ?_ _ _) | (with_reducible refine Below.alloc ?_ ?_ _) | (with_reducible refine Below.drew ?_) | (with_reducible refine Below.setCell ?_ ?_ _) | (with_reducible assumption) | go_size | (simp only [size_addsW, World.size_alloc, World.size_drew, World.size_setCell]; omega)))⟩
  · have e1 : M.fe1 a b c d l = M.filt1 a b c d l := by simp [M.fe1, hv]
    have e2 : M.fe2 a b c d l = M.filt2 a b c d l := by simp [M.fe2, hv]
    rw [e1, e2]
    clear e1 e2
    have hv' := hv
    simp only [M.feB, Bool.and_eq_true] at hv'
    have hs : M.samplesB [a, b, c, d] = true := by simp [M.samplesB, hv'.1.1.1.1, hv'.1.1.1.2, hv'.1.1.2, hv'.1.2]
    have hl := M.inB_iff.1 hv'.2
    clear hv'
    go_enter Try.func46, Try.ntmps46
    go_wp2_with (first | (go_at_call 68; refine (I_samplesIn (some ⟨w.heap.size, 0, none⟩) 4 [a, b, c, d] _ (RowAt.new .i64 w [a, b, c, d] 3) (by simp)).mono ?_; rintro e w' ⟨rfl, rfl⟩) | (go_at_call 69; refine (I_filtered _ _ _ _ _ _ hv).mono ?_; rintro e w' ⟨rfl, rfl⟩))
    go_returns
    exact ⟨rfl, (by repeat' (first | (with_reducible exact Below.refl _ _) | (with_reducible refine Below.adds_ ?_ ?_ _ _) | (with_reducible refine Below.alloc ?_ ?_ _) | (with_reducible refine Below.drew ?_) | (with_reducible refine Below.setCell ?_ ?_ _) | (with_reducible assumption) | go_size | (simp only [size_addsW, World.size_alloc, World.size_drew, World.size_setCell]; omega)))⟩

theorem S_FilterEdge (a b c d l : Int) (w : World) :
    Calls Try.prog 47 #[.int .i64 a, .int .i64 b, .int .i64 c, .int .i64 d, .int .i64 l] w fun e w' => e = .returned (.tuple #[.int .i64 (M.fe1 a b c d l), .int .i64 (M.fe2 a b c d l)]) ∧ w = w' := by
  cases hv : M.feB a b c d l
  · have e1 : M.fe1 a b c d l = 0 := by simp [M.fe1, hv]
    have e2 : M.fe2 a b c d l = 0 := by simp [M.fe2, hv]
    rw [e1, e2]
    clear e1 e2
    have hor : M.inB a 0 255 = false ∨ (M.inB a 0 255 = true ∧ M.inB b 0 255 = false) ∨ (M.inB a 0 255 = true ∧ M.inB b 0 255 = true ∧ M.inB c 0 255 = false) ∨ (M.inB a 0 255 = true ∧ M.inB b 0 255 = true ∧ M.inB c 0 255 = true ∧ M.inB d 0 255 = false) ∨ (M.inB a 0 255 = true ∧ M.inB b 0 255 = true ∧ M.inB c 0 255 = true ∧ M.inB d 0 255 = true ∧ M.inB l 0 12 = false) := by
      revert hv
      unfold M.feB
      cases M.inB a 0 255 <;> cases M.inB b 0 255 <;> cases M.inB c 0 255 <;> cases M.inB d 0 255 <;> cases M.inB l 0 12 <;> simp
    rcases hor with h1 | ⟨h1, h2⟩ | ⟨h1, h2, h3⟩ | ⟨h1, h2, h3, h4⟩ | ⟨h1, h2, h3, h4, h5⟩
    all_goals
      go_enter Try.func47, Try.ntmps47
      go_wp2_with (go_at_call 49; refine (S_l1In _ _ _ _).mono ?_; rintro e w' ⟨rfl, rfl⟩)
      go_returns
      exact ⟨rfl, rfl⟩
  · have e1 : M.fe1 a b c d l = M.filt1 a b c d l := by simp [M.fe1, hv]
    have e2 : M.fe2 a b c d l = M.filt2 a b c d l := by simp [M.fe2, hv]
    rw [e1, e2]
    clear e1 e2
    have hv' := hv
    simp only [M.feB, Bool.and_eq_true] at hv'
    obtain ⟨⟨⟨⟨q1, q2⟩, q3⟩, q4⟩, q5⟩ := hv'
    have b1 := M.inB_iff.1 q1
    have b2 := M.inB_iff.1 q2
    have b3 := M.inB_iff.1 q3
    have b4 := M.inB_iff.1 q4
    have b5 := M.inB_iff.1 q5
    by_cases hc : 4 * l ≤ max (b - c) (c - b)
    all_goals
      go_enter Try.func47, Try.ntmps47
      go_wp2_with (first | (go_at_call 49; refine (S_l1In _ _ _ _).mono ?_; rintro e w' ⟨rfl, rfl⟩) | (go_at_call 71; refine (S_l7Floor8 _ _ (by omega)).mono ?_; rintro e w' ⟨rfl, rfl⟩) | (go_at_call 70; refine (S_l1Clip _ _ _ _).mono ?_; rintro e w' ⟨rfl, rfl⟩))
      all_goals
        go_returns
        exact ⟨M.ret_pair (by unfold M.filt1; (try unfold M.filtE); split <;> omega) (by unfold M.filt2; (try unfold M.filtE); split <;> omega), rfl⟩

end Go.Proofs.Ytmockpkddcnmiaa
