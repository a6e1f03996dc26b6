/- MotionCost, both. -/
import Derived.Test.YtobphddjoebfjaaCost
namespace Go.Proofs.Ytobphddjoebfjaa
open Go.RowKit
set_option linter.unusedVariables false
set_option linter.unusedSimpArgs false

attribute [local go_sem] size_addsW cell?_addsW frozen?_addsW setCell_addsW drew_addsW adds_addsW setCell_twice alloc_adds0 size_adds0 adds_adds0 sel2 sel3 sel4 sel5 sel6 sel7 sel8 sel9 lt_more lt_more2 lt_more3 lt_more4 adds_drew adds_drewN drewN_addsW ltA_1_1 ltA_1_2 ltA_1_3 ltA_1_4 ltA_1_5 ltA_1_6 ltA_2_1 ltA_2_2 ltA_2_3 ltA_2_4 ltA_2_5 ltA_2_6 ltA_3_1 ltA_3_2 ltA_3_3 ltA_3_4 ltA_3_5 ltA_3_6 ltA_4_1 ltA_4_2 ltA_4_3 ltA_4_4 ltA_4_5 ltA_4_6 ltA_5_1 ltA_5_2 ltA_5_3 ltA_5_4 ltA_5_5 ltA_5_6 ltA_6_1 ltA_6_2 ltA_6_3 ltA_6_4 ltA_6_5 ltA_6_6 ltA_7_1 ltA_7_2 ltA_7_3 ltA_7_4 ltA_7_5 ltA_7_6 ltA_8_1 ltA_8_2 ltA_8_3 ltA_8_4 ltA_8_5 ltA_8_6 ltA_9_1 ltA_9_2 ltA_9_3 ltA_9_4 ltA_9_5 ltA_9_6 ltA_10_1 ltA_10_2 ltA_10_3 ltA_10_4 ltA_10_5 ltA_10_6 ltA_11_1 ltA_11_2 ltA_11_3 ltA_11_4 ltA_11_5 ltA_11_6 ltA_12_1 ltA_12_2 ltA_12_3 ltA_12_4 ltA_12_5 ltA_12_6

theorem halfV_even (a b : Int) (zs : List Int) (X Y : Int) : halfV a b zs (2 * X) (2 * Y) = pix a b zs X Y := by
  unfold halfV
  rw [if_pos (by omega), if_pos (by omega), show 2 * X / 2 = X by omega, show 2 * Y / 2 = Y by omega]
theorem cost_lists (a b : Int) (ts rs : List Int) (x y u v : Int) : sad (fun k => (mvL a b ts x y 0 0 64).getD k 0) (fun k => (mvL a b rs x y u v 64).getD k 0) (mvL a b ts x y 0 0 64).length = cost a b ts rs x y u v := by
  rw [mvL_len]
  refine sad_congr 64 (fun k hk => ⟨?_, mvL_get _ _ _ _ _ _ _ _ _ hk⟩)
  show (mvL a b ts x y 0 0 64).getD k 0 = _
  rw [mvL_get _ _ _ _ _ _ _ _ _ hk, mvF, Int.add_zero, Int.add_zero, halfV_even]; rfl
theorem mvL_bytes {a b : Int} {zs : List Int} (h : M.samplesB zs = true) (x y u v : Int) (k : Nat) : 0 ≤ (mvL a b zs x y u v 64).getD k 0 ∧ (mvL a b zs x y u v 64).getD k 0 ≤ 255 := by
  by_cases hk : k < 64
  · rw [mvL_get _ _ _ _ _ _ _ _ _ hk]; exact halfV_bd h _ _
  · rw [List.getD_eq_getElem?_getD, List.getElem?_eq_none (by rw [mvL_len]; omega)]; simp

def mcB (a b : Int) (ts : List Int) (a' b' : Int) (rs : List Int) (x y u v : Int) : Bool := sameB a b ts a' b' rs && begB a b x y && M.vecB u v
def mcV (a b : Int) (ts : List Int) (a' b' : Int) (rs : List Int) (x y u v : Int) : Int := if mcB a b ts a' b' rs x y u v then cost a b ts rs x y u v else -1
theorem sameB_of {a b a' b' : Int} {ts rs : List Int} (h : sameB a b ts a' b' rs = true) : picB a b ts = true ∧ picB a' b' rs = true ∧ a = a' ∧ b = b' := by
  simp only [sameB, Bool.and_eq_true, decide_eq_true_eq] at h
  exact ⟨h.1.1, h.1.2, h.2.1, h.2.2⟩
theorem vecB_bd {u v : Int} (h : M.vecB u v = true) : -16 ≤ u ∧ u ≤ 16 ∧ -16 ≤ v ∧ v ≤ 16 := by simpa [M.vecB] using h

set_option maxHeartbeats 1000000 in
theorem I_MotionCost (a b a' b' x y u v : Int) (A A' : Option Addr) (c c' : Nat) (ts rs : List Int) (w : World) (hr : RowAt .i64 w A ts) (hr' : RowAt .i64 w A' rs) (hl : ts.length ≤ 1000000000000) (hl' : rs.length ≤ 1000000000000) :
    Calls Try.prog 42 #[.agg #[.int .i64 a, .int .i64 b, .slice A ts.length c], .agg #[.int .i64 a', .int .i64 b', .slice A' rs.length c'], .int .i64 x, .int .i64 y, .agg #[.int .i64 u, .int .i64 v]] w fun e w' => e = .returned (.int .i64 (mcV a b ts a' b' rs x y u v)) ∧ Below w.heap.size w w' := by
  have HR := Lib.hid hr
  have HR' := Lib.hid hr'
  clear hr hr'
  cases h1 : sameB a b ts a' b' rs
  · rw [show mcV a b ts a' b' rs x y u v = -1 by simp [mcV, mcB, h1]]
    go_enter Try.func42, Try.ntmps42
    go_wp2_with (go_at_call 77; refine (I_alike _ _ _ _ _ _ _ _ ts rs _ (HR.out.keep (by repeat' (first | (with_reducible exact Below.refl _ _) | (with_reducible refine Below.adds_ ?_ ?_ _ _) | (with_reducible refine Below.alloc ?_ ?_ _) | (with_reducible refine Below.drew ?_) | (with_reducible refine Below.setCell ?_ ?_ _) | (with_reducible assumption) | go_size | (simp only [size_addsW, World.size_alloc, World.size_drew, World.size_setCell]; omega)))) (HR'.out.keep (by repeat' (first | (with_reducible exact Below.refl _ _) | (with_reducible refine Below.adds_ ?_ ?_ _ _) | (with_reducible refine Below.alloc ?_ ?_ _) | (with_reducible refine Below.drew ?_) | (with_reducible refine Below.setCell ?_ ?_ _) | (with_reducible assumption) | go_size | (simp only [size_addsW, World.size_alloc, World.size_drew, World.size_setCell]; omega)))) (by omega) (by omega)).mono ?_; rintro e w' ⟨rfl, hb⟩; obtain ⟨o1, n1, rfl⟩ := below_adds hb; clear hb)
    go_returns
    exact ⟨rfl, (by repeat' (first | (with_reducible exact Below.refl _ _) | (with_reducible refine Below.adds_ ?_ ?_ _ _) | (with_reducible refine Below.alloc ?_ ?_ _) | (with_reducible refine Below.drew ?_) | (with_reducible refine Below.setCell ?_ ?_ _) | (with_reducible assumption) | go_size | (simp only [size_addsW, World.size_alloc, World.size_drew, World.size_setCell]; omega)))⟩
  · obtain ⟨hv, hv', rfl, rfl⟩ := sameB_of h1
    have HV := Lib.hid hv
    have HV' := Lib.hid hv'
    have HS := Lib.hid (picB_iff.1 hv).2.2.2
    have HS' := Lib.hid (picB_iff.1 hv').2.2.2
    have hab : a ≤ 32 ∧ b ≤ 32 := ⟨(sideB_bd (picB_iff.1 hv).1).2.1, (sideB_bd (picB_iff.1 hv).2.1).2.1⟩
    clear hv'
    cases h2 : begB a b x y
    · rw [show mcV a b ts a b rs x y u v = -1 by simp [mcV, mcB, h2]]
      cases h3 : M.vecB u v
      all_goals
        go_enter Try.func42, Try.ntmps42
        go_wp2_with (first | (go_at_call 77; refine (I_alike _ _ _ _ _ _ _ _ ts rs _ (HR.out.keep (by repeat' (first | (with_reducible exact Below.refl _ _) | (with_reducible refine Below.adds_ ?_ ?_ _ _) | (with_reducible refine Below.alloc ?_ ?_ _) | (with_reducible refine Below.drew ?_) | (with_reducible refine Below.setCell ?_ ?_ _) | (with_reducible assumption) | go_size | (simp only [size_addsW, World.size_alloc, World.size_drew, World.size_setCell]; omega)))) (HR'.out.keep (by repeat' (first | (with_reducible exact Below.refl _ _) | (with_reducible refine Below.adds_ ?_ ?_ _ _) | (with_reducible refine Below.alloc ?_ ?_ _) | (with_reducible refine Below.drew ?_) | (with_reducible refine Below.setCell ?_ ?_ _) | (with_reducible assumption) | go_size | (simp only [size_addsW, World.size_alloc, World.size_drew, World.size_setCell]; omega)))) (by omega) (by omega)).mono ?_; rintro e w' ⟨rfl, hb⟩; obtain ⟨o1, n1, rfl⟩ := below_adds hb; clear hb) | (go_at_call 72; refine (I_VectorValid _ _ _).mono ?_; rintro e w' ⟨rfl, hb⟩; obtain ⟨o1, n1, rfl⟩ := below_adds hb; clear hb) | (go_at_call 73; refine (I_begins _ _ _ _ _ _ _ _).mono ?_; rintro e w' ⟨rfl, hb⟩; obtain ⟨o1, n1, rfl⟩ := below_adds hb; clear hb))
        go_returns
        exact ⟨rfl, (by repeat' (first | (with_reducible exact Below.refl _ _) | (with_reducible refine Below.adds_ ?_ ?_ _ _) | (with_reducible refine Below.alloc ?_ ?_ _) | (with_reducible refine Below.drew ?_) | (with_reducible refine Below.setCell ?_ ?_ _) | (with_reducible assumption) | go_size | (simp only [size_addsW, World.size_alloc, World.size_drew, World.size_setCell]; omega)))⟩
    · cases h3 : M.vecB u v
      · rw [show mcV a b ts a b rs x y u v = -1 by simp [mcV, mcB, h3]]
        go_enter Try.func42, Try.ntmps42
        go_wp2_with (first | (go_at_call 77; refine (I_alike _ _ _ _ _ _ _ _ ts rs _ (HR.out.keep (by repeat' (first | (with_reducible exact Below.refl _ _) | (with_reducible refine Below.adds_ ?_ ?_ _ _) | (with_reducible refine Below.alloc ?_ ?_ _) | (with_reducible refine Below.drew ?_) | (with_reducible refine Below.setCell ?_ ?_ _) | (with_reducible assumption) | go_size | (simp only [size_addsW, World.size_alloc, World.size_drew, World.size_setCell]; omega)))) (HR'.out.keep (by repeat' (first | (with_reducible exact Below.refl _ _) | (with_reducible refine Below.adds_ ?_ ?_ _ _) | (with_reducible refine Below.alloc ?_ ?_ _) | (with_reducible refine Below.drew ?_) | (with_reducible refine Below.setCell ?_ ?_ _) | (with_reducible assumption) | go_size | (simp only [size_addsW, World.size_alloc, World.size_drew, World.size_setCell]; omega)))) (by omega) (by omega)).mono ?_; rintro e w' ⟨rfl, hb⟩; obtain ⟨o1, n1, rfl⟩ := below_adds hb; clear hb) | (go_at_call 72; refine (I_VectorValid _ _ _).mono ?_; rintro e w' ⟨rfl, hb⟩; obtain ⟨o1, n1, rfl⟩ := below_adds hb; clear hb) | (go_at_call 73; refine (I_begins _ _ _ _ _ _ _ _).mono ?_; rintro e w' ⟨rfl, hb⟩; obtain ⟨o1, n1, rfl⟩ := below_adds hb; clear hb))
        go_returns
        exact ⟨rfl, (by repeat' (first | (with_reducible exact Below.refl _ _) | (with_reducible refine Below.adds_ ?_ ?_ _ _) | (with_reducible refine Below.alloc ?_ ?_ _) | (with_reducible refine Below.drew ?_) | (with_reducible refine Below.setCell ?_ ?_ _) | (with_reducible assumption) | go_size | (simp only [size_addsW, World.size_alloc, World.size_drew, World.size_setCell]; omega)))⟩
      · rw [show mcV a b ts a b rs x y u v = cost a b ts rs x y u v by simp [mcV, mcB, h1, h2, h3]]
        have hbg := begB_bd h2
        have hvb := vecB_bd h3
        have hxy : 0 ≤ x ∧ x ≤ 32 ∧ 0 ≤ y ∧ y ≤ 32 := by omega
        clear hbg
        go_enter Try.func42, Try.ntmps42
        go_wp2_with (first | (go_at_call 77; refine (I_alike _ _ _ _ _ _ _ _ ts rs _ (HR.out.keep (by repeat' (first | (with_reducible exact Below.refl _ _) | (with_reducible refine Below.adds_ ?_ ?_ _ _) | (with_reducible refine Below.alloc ?_ ?_ _) | (with_reducible refine Below.drew ?_) | (with_reducible refine Below.setCell ?_ ?_ _) | (with_reducible assumption) | go_size | (simp only [size_addsW, World.size_alloc, World.size_drew, World.size_setCell]; omega)))) (HR'.out.keep (by repeat' (first | (with_reducible exact Below.refl _ _) | (with_reducible refine Below.adds_ ?_ ?_ _ _) | (with_reducible refine Below.alloc ?_ ?_ _) | (with_reducible refine Below.drew ?_) | (with_reducible refine Below.setCell ?_ ?_ _) | (with_reducible assumption) | go_size | (simp only [size_addsW, World.size_alloc, World.size_drew, World.size_setCell]; omega)))) (by omega) (by omega)).mono ?_; rintro e w' ⟨rfl, hb⟩; obtain ⟨o1, n1, rfl⟩ := below_adds hb; clear hb) | (go_at_call 72; refine (I_VectorValid _ _ _).mono ?_; rintro e w' ⟨rfl, hb⟩; obtain ⟨o1, n1, rfl⟩ := below_adds hb; clear hb) | (go_at_call 73; refine (I_begins _ _ _ _ _ _ _ _).mono ?_; rintro e w' ⟨rfl, hb⟩; obtain ⟨o1, n1, rfl⟩ := below_adds hb; clear hb) | (go_at_call 78; refine (I_motionCost _ _ _ _ _ _ _ _ _ _ ts rs _ (HR.out.keep (by repeat' (first | (with_reducible exact Below.refl _ _) | (with_reducible refine Below.adds_ ?_ ?_ _ _) | (with_reducible refine Below.alloc ?_ ?_ _) | (with_reducible refine Below.drew ?_) | (with_reducible refine Below.setCell ?_ ?_ _) | (with_reducible assumption) | go_size | (simp only [size_addsW, World.size_alloc, World.size_drew, World.size_setCell]; omega)))) (HR'.out.keep (by repeat' (first | (with_reducible exact Below.refl _ _) | (with_reducible refine Below.adds_ ?_ ?_ _ _) | (with_reducible refine Below.alloc ?_ ?_ _) | (with_reducible refine Below.drew ?_) | (with_reducible refine Below.setCell ?_ ?_ _) | (with_reducible assumption) | go_size | (simp only [size_addsW, World.size_alloc, World.size_drew, World.size_setCell]; omega)))) HV.out HV'.out (by omega) (by omega) (by omega) (by omega)).mono ?_; rintro e w' ⟨rfl, hb⟩; obtain ⟨o1, n1, rfl⟩ := below_adds hb; clear hb))
        go_returns
        exact ⟨rfl, (by repeat' (first | (with_reducible exact Below.refl _ _) | (with_reducible refine Below.adds_ ?_ ?_ _ _) | (with_reducible refine Below.alloc ?_ ?_ _) | (with_reducible refine Below.drew ?_) | (with_reducible refine Below.setCell ?_ ?_ _) | (with_reducible assumption) | go_size | (simp only [size_addsW, World.size_alloc, World.size_drew, World.size_setCell]; omega)))⟩

set_option maxHeartbeats 1000000 in
theorem S_MotionCost (a b a' b' x y u v : Int) (A A' : Option Addr) (c c' : Nat) (ts rs : List Int) (w : World) (hr : RowAt .i64 w A ts) (hr' : RowAt .i64 w A' rs) (hl : ts.length ≤ 1000000000000) (hl' : rs.length ≤ 1000000000000) :
    Calls Try.prog 41 #[.agg #[.int .i64 a, .int .i64 b, .slice A ts.length c], .agg #[.int .i64 a', .int .i64 b', .slice A' rs.length c'], .int .i64 x, .int .i64 y, .agg #[.int .i64 u, .int .i64 v]] w fun e w' => e = .returned (.int .i64 (mcV a b ts a' b' rs x y u v)) ∧ Below w.heap.size w w' := by
  have HR := Lib.hid hr
  have HR' := Lib.hid hr'
  clear hr hr'
  cases h1 : sameB a b ts a' b' rs
  · rw [show mcV a b ts a' b' rs x y u v = -1 by simp [mcV, mcB, h1]]
    go_enter Try.func41, Try.ntmps41
    go_wp2_with (go_at_call 75; refine (S_l1Same _ _ _ _ _ _ _ _ ts rs _ (HR.out.keep (by repeat' (first | (with_reducible exact Below.refl _ _) | (with_reducible refine Below.adds_ ?_ ?_ _ _) | (with_reducible refine Below.alloc ?_ ?_ _) | (with_reducible refine Below.drew ?_) | (with_reducible refine Below.setCell ?_ ?_ _) | (with_reducible assumption) | go_size | (simp only [size_addsW, World.size_alloc, World.size_drew, World.size_setCell]; omega)))) (HR'.out.keep (by repeat' (first | (with_reducible exact Below.refl _ _) | (with_reducible refine Below.adds_ ?_ ?_ _ _) | (with_reducible refine Below.alloc ?_ ?_ _) | (with_reducible refine Below.drew ?_) | (with_reducible refine Below.setCell ?_ ?_ _) | (with_reducible assumption) | go_size | (simp only [size_addsW, World.size_alloc, World.size_drew, World.size_setCell]; omega)))) (by omega) (by omega)).mono ?_; rintro e w' ⟨rfl, hb⟩; obtain ⟨o1, n1, rfl⟩ := below_adds hb; clear hb)
    go_returns
    exact ⟨rfl, (by repeat' (first | (with_reducible exact Below.refl _ _) | (with_reducible refine Below.adds_ ?_ ?_ _ _) | (with_reducible refine Below.alloc ?_ ?_ _) | (with_reducible refine Below.drew ?_) | (with_reducible refine Below.setCell ?_ ?_ _) | (with_reducible assumption) | go_size | (simp only [size_addsW, World.size_alloc, World.size_drew, World.size_setCell]; omega)))⟩
  · obtain ⟨hv, hv', rfl, rfl⟩ := sameB_of h1
    have HV := Lib.hid hv
    have HV' := Lib.hid hv'
    have HS := Lib.hid (picB_iff.1 hv).2.2.2
    have HS' := Lib.hid (picB_iff.1 hv').2.2.2
    have hab : a ≤ 32 ∧ b ≤ 32 := ⟨(sideB_bd (picB_iff.1 hv).1).2.1, (sideB_bd (picB_iff.1 hv).2.1).2.1⟩
    clear hv'
    cases h2 : begB a b x y
    · rw [show mcV a b ts a b rs x y u v = -1 by simp [mcV, mcB, h2]]
      cases h3 : M.vecB u v
      all_goals
        go_enter Try.func41, Try.ntmps41
        go_wp2_with (first | (go_at_call 75; refine (S_l1Same _ _ _ _ _ _ _ _ ts rs _ (HR.out.keep (by repeat' (first | (with_reducible exact Below.refl _ _) | (with_reducible refine Below.adds_ ?_ ?_ _ _) | (with_reducible refine Below.alloc ?_ ?_ _) | (with_reducible refine Below.drew ?_) | (with_reducible refine Below.setCell ?_ ?_ _) | (with_reducible assumption) | go_size | (simp only [size_addsW, World.size_alloc, World.size_drew, World.size_setCell]; omega)))) (HR'.out.keep (by repeat' (first | (with_reducible exact Below.refl _ _) | (with_reducible refine Below.adds_ ?_ ?_ _ _) | (with_reducible refine Below.alloc ?_ ?_ _) | (with_reducible refine Below.drew ?_) | (with_reducible refine Below.setCell ?_ ?_ _) | (with_reducible assumption) | go_size | (simp only [size_addsW, World.size_alloc, World.size_drew, World.size_setCell]; omega)))) (by omega) (by omega)).mono ?_; rintro e w' ⟨rfl, hb⟩; obtain ⟨o1, n1, rfl⟩ := below_adds hb; clear hb) | (go_at_call 70; refine (S_VectorValid _ _ _).mono ?_; rintro e w' ⟨rfl, hb⟩; obtain ⟨o1, n1, rfl⟩ := below_adds hb; clear hb) | (go_at_call 69; refine (S_l7Place _ _ _ _ _ _ ts _ (HR.out.keep (by repeat' (first | (with_reducible exact Below.refl _ _) | (with_reducible refine Below.adds_ ?_ ?_ _ _) | (with_reducible refine Below.alloc ?_ ?_ _) | (with_reducible refine Below.drew ?_) | (with_reducible refine Below.setCell ?_ ?_ _) | (with_reducible assumption) | go_size | (simp only [size_addsW, World.size_alloc, World.size_drew, World.size_setCell]; omega)))) (by omega)).mono ?_; rintro e w' ⟨rfl, hb⟩; obtain ⟨o1, n1, rfl⟩ := below_adds hb; clear hb))
        go_returns
        exact ⟨rfl, (by repeat' (first | (with_reducible exact Below.refl _ _) | (with_reducible refine Below.adds_ ?_ ?_ _ _) | (with_reducible refine Below.alloc ?_ ?_ _) | (with_reducible refine Below.drew ?_) | (with_reducible refine Below.setCell ?_ ?_ _) | (with_reducible assumption) | go_size | (simp only [size_addsW, World.size_alloc, World.size_drew, World.size_setCell]; omega)))⟩
    · cases h3 : M.vecB u v
      · rw [show mcV a b ts a b rs x y u v = -1 by simp [mcV, mcB, h3]]
        go_enter Try.func41, Try.ntmps41
        go_wp2_with (first | (go_at_call 75; refine (S_l1Same _ _ _ _ _ _ _ _ ts rs _ (HR.out.keep (by repeat' (first | (with_reducible exact Below.refl _ _) | (with_reducible refine Below.adds_ ?_ ?_ _ _) | (with_reducible refine Below.alloc ?_ ?_ _) | (with_reducible refine Below.drew ?_) | (with_reducible refine Below.setCell ?_ ?_ _) | (with_reducible assumption) | go_size | (simp only [size_addsW, World.size_alloc, World.size_drew, World.size_setCell]; omega)))) (HR'.out.keep (by repeat' (first | (with_reducible exact Below.refl _ _) | (with_reducible refine Below.adds_ ?_ ?_ _ _) | (with_reducible refine Below.alloc ?_ ?_ _) | (with_reducible refine Below.drew ?_) | (with_reducible refine Below.setCell ?_ ?_ _) | (with_reducible assumption) | go_size | (simp only [size_addsW, World.size_alloc, World.size_drew, World.size_setCell]; omega)))) (by omega) (by omega)).mono ?_; rintro e w' ⟨rfl, hb⟩; obtain ⟨o1, n1, rfl⟩ := below_adds hb; clear hb) | (go_at_call 70; refine (S_VectorValid _ _ _).mono ?_; rintro e w' ⟨rfl, hb⟩; obtain ⟨o1, n1, rfl⟩ := below_adds hb; clear hb) | (go_at_call 69; refine (S_l7Place _ _ _ _ _ _ ts _ (HR.out.keep (by repeat' (first | (with_reducible exact Below.refl _ _) | (with_reducible refine Below.adds_ ?_ ?_ _ _) | (with_reducible refine Below.alloc ?_ ?_ _) | (with_reducible refine Below.drew ?_) | (with_reducible refine Below.setCell ?_ ?_ _) | (with_reducible assumption) | go_size | (simp only [size_addsW, World.size_alloc, World.size_drew, World.size_setCell]; omega)))) (by omega)).mono ?_; rintro e w' ⟨rfl, hb⟩; obtain ⟨o1, n1, rfl⟩ := below_adds hb; clear hb))
        go_returns
        exact ⟨rfl, (by repeat' (first | (with_reducible exact Below.refl _ _) | (with_reducible refine Below.adds_ ?_ ?_ _ _) | (with_reducible refine Below.alloc ?_ ?_ _) | (with_reducible refine Below.drew ?_) | (with_reducible refine Below.setCell ?_ ?_ _) | (with_reducible assumption) | go_size | (simp only [size_addsW, World.size_alloc, World.size_drew, World.size_setCell]; omega)))⟩
      · rw [show mcV a b ts a b rs x y u v = cost a b ts rs x y u v by simp [mcV, mcB, h1, h2, h3]]
        have hbg := begB_bd h2
        have hvb := vecB_bd h3
        have hxy : 0 ≤ x ∧ x ≤ 32 ∧ 0 ≤ y ∧ y ≤ 32 := by omega
        clear hbg
        have HC := Lib.hid (cost_lists a b ts rs x y u v)
        go_enter Try.func41, Try.ntmps41
        go_wp2_with (first | (go_at_call 75; refine (S_l1Same _ _ _ _ _ _ _ _ ts rs _ (HR.out.keep (by repeat' (first | (with_reducible exact Below.refl _ _) | (with_reducible refine Below.adds_ ?_ ?_ _ _) | (with_reducible refine Below.alloc ?_ ?_ _) | (with_reducible refine Below.drew ?_) | (with_reducible refine Below.setCell ?_ ?_ _) | (with_reducible assumption) | go_size | (simp only [size_addsW, World.size_alloc, World.size_drew, World.size_setCell]; omega)))) (HR'.out.keep (by repeat' (first | (with_reducible exact Below.refl _ _) | (with_reducible refine Below.adds_ ?_ ?_ _ _) | (with_reducible refine Below.alloc ?_ ?_ _) | (with_reducible refine Below.drew ?_) | (with_reducible refine Below.setCell ?_ ?_ _) | (with_reducible assumption) | go_size | (simp only [size_addsW, World.size_alloc, World.size_drew, World.size_setCell]; omega)))) (by omega) (by omega)).mono ?_; rintro e w' ⟨rfl, hb⟩; obtain ⟨o1, n1, rfl⟩ := below_adds hb; clear hb) | (go_at_call 70; refine (S_VectorValid _ _ _).mono ?_; rintro e w' ⟨rfl, hb⟩; obtain ⟨o1, n1, rfl⟩ := below_adds hb; clear hb) | (go_at_call 69; refine (S_l7Place _ _ _ _ _ _ ts _ (HR.out.keep (by repeat' (first | (with_reducible exact Below.refl _ _) | (with_reducible refine Below.adds_ ?_ ?_ _ _) | (with_reducible refine Below.alloc ?_ ?_ _) | (with_reducible refine Below.drew ?_) | (with_reducible refine Below.setCell ?_ ?_ _) | (with_reducible assumption) | go_size | (simp only [size_addsW, World.size_alloc, World.size_drew, World.size_setCell]; omega)))) (by omega)).mono ?_; rintro e w' ⟨rfl, hb⟩; obtain ⟨o1, n1, rfl⟩ := below_adds hb; clear hb))
        go_region_held3 (fun w' => w'.cell? ⟨w.heap.size, 0, none⟩ = some (.int .i64 a) ∧ w'.cell? ⟨w.heap.size, 1, none⟩ = some (.int .i64 b) ∧ w'.cell? ⟨w.heap.size, 2, none⟩ = some (.slice A ts.length c) ∧ w'.cell? ⟨w.heap.size + 1, 0, none⟩ = some (.int .i64 a) ∧ w'.cell? ⟨w.heap.size + 1, 1, none⟩ = some (.int .i64 b) ∧ w'.cell? ⟨w.heap.size + 1, 2, none⟩ = some (.slice A' rs.length c') ∧ w'.cell? ⟨w.heap.size + 1 + 1, 0, none⟩ = some (.int .i64 u) ∧ w'.cell? ⟨w.heap.size + 1 + 1, 1, none⟩ = some (.int .i64 v)) (first | (go_simp; done) | (go_keep; done))
          (first | (go_at_call 71; (with_reducible refine (S_l7Block a b x y (0) (0) _ _ ts _ (HR.out.keep (by repeat' (first | (with_reducible exact Below.refl _ _) | (with_reducible refine Below.adds_ ?_ ?_ _ _) | (with_reducible refine Below.alloc ?_ ?_ _) | (with_reducible refine Below.drew ?_) | (with_reducible refine Below.setCell ?_ ?_ _) | (with_reducible assumption) | go_size | (simp only [size_addsW, World.size_alloc, World.size_drew, World.size_setCell]; omega)))) HV.out (by omega) (by omega) (by omega) (by omega)).mono ?_); rintro e w' ⟨B1, d1, rfl, hrb, -, -, hb⟩; obtain ⟨q1, m1, rfl⟩ := below_adds hb; clear hb; (try simp only [adds_addsW, Array.append_assoc] at hrb); have HB1 := Lib.hid hrb; clear hrb) | (go_at_call 71; (with_reducible refine (S_l7Block a b x y (u) (v) _ _ rs _ (HR'.out.keep (by repeat' (first | (with_reducible exact Below.refl _ _) | (with_reducible refine Below.adds_ ?_ ?_ _ _) | (with_reducible refine Below.alloc ?_ ?_ _) | (with_reducible refine Below.drew ?_) | (with_reducible refine Below.setCell ?_ ?_ _) | (with_reducible assumption) | go_size | (simp only [size_addsW, World.size_alloc, World.size_drew, World.size_setCell]; omega)))) HV'.out (by omega) (by omega) (by omega) (by omega)).mono ?_); rintro e w' ⟨B2, d2, rfl, hrb, -, -, hb⟩; obtain ⟨q2, m2, rfl⟩ := below_adds hb; clear hb; (try simp only [adds_addsW, Array.append_assoc] at hrb); have HB2 := Lib.hid hrb; clear hrb) | (go_at_call 76; refine (S_l7Cost _ _ _ _ (mvL a b ts x y 0 0 64) (mvL a b rs x y u v 64) _ (HB1.out.keep (by simp only [← Array.append_assoc]; exact below_more _ _ _ _ _)) HB2.out (by rw [mvL_len, mvL_len]) (by rw [mvL_len]; omega) (fun k => ⟨mvL_bytes HS.out _ _ _ _ k, mvL_bytes HS'.out _ _ _ _ k⟩)).mono ?_; rintro e w' ⟨rfl, hb⟩; obtain ⟨q3, m3, rfl⟩ := below_adds hb; clear hb; rw [HC.out]))
        all_goals
          go_wp2_with fail
          go_returns
          exact ⟨rfl, (by repeat' (first | (with_reducible exact Below.refl _ _) | (with_reducible refine Below.adds_ ?_ ?_ _ _) | (with_reducible refine Below.alloc ?_ ?_ _) | (with_reducible refine Below.drew ?_) | (with_reducible refine Below.setCell ?_ ?_ _) | (with_reducible assumption) | go_size | (simp only [size_addsW, World.size_alloc, World.size_drew, World.size_setCell]; omega)))⟩

end Go.Proofs.Ytobphddjoebfjaa
