/- MotionBlock, both. -/
import Derived.Test.YtobphddjoebfjaaCostM
namespace Go.Proofs.Ytobphddjoebfjaa
open Go.RowKit
set_option linter.unusedVariables false
set_option linter.unusedSimpArgs false

attribute [local go_sem] size_addsW cell?_addsW frozen?_addsW setCell_addsW drew_addsW adds_addsW setCell_twice alloc_adds0 size_adds0 adds_adds0 sel2 sel3 sel4 sel5 sel6 sel7 sel8 sel9 lt_more lt_more2 lt_more3 lt_more4 adds_drew adds_drewN drewN_addsW ltA_1_1 ltA_1_2 ltA_1_3 ltA_1_4 ltA_1_5 ltA_1_6 ltA_2_1 ltA_2_2 ltA_2_3 ltA_2_4 ltA_2_5 ltA_2_6 ltA_3_1 ltA_3_2 ltA_3_3 ltA_3_4 ltA_3_5 ltA_3_6 ltA_4_1 ltA_4_2 ltA_4_3 ltA_4_4 ltA_4_5 ltA_4_6 ltA_5_1 ltA_5_2 ltA_5_3 ltA_5_4 ltA_5_5 ltA_5_6 ltA_6_1 ltA_6_2 ltA_6_3 ltA_6_4 ltA_6_5 ltA_6_6 ltA_7_1 ltA_7_2 ltA_7_3 ltA_7_4 ltA_7_5 ltA_7_6 ltA_8_1 ltA_8_2 ltA_8_3 ltA_8_4 ltA_8_5 ltA_8_6 ltA_9_1 ltA_9_2 ltA_9_3 ltA_9_4 ltA_9_5 ltA_9_6 ltA_10_1 ltA_10_2 ltA_10_3 ltA_10_4 ltA_10_5 ltA_10_6 ltA_11_1 ltA_11_2 ltA_11_3 ltA_11_4 ltA_11_5 ltA_11_6 ltA_12_1 ltA_12_2 ltA_12_3 ltA_12_4 ltA_12_5 ltA_12_6

def mbB (a b : Int) (zs : List Int) (x y u v : Int) : Bool := picB a b zs && begB a b x y && M.vecB u v
def mbL (a b : Int) (zs : List Int) (x y u v : Int) : List Int := if mbB a b zs x y u v then mvL a b zs x y u v 64 else []

set_option maxHeartbeats 1000000 in
theorem I_MotionBlock (a b x y u v : Int) (A : Option Addr) (c : Nat) (zs : List Int) (w : World) (hr : RowAt .i64 w A zs) (hl : zs.length ≤ 1000000000000) :
    Calls Try.prog 36 #[.agg #[.int .i64 a, .int .i64 b, .slice A zs.length c], .int .i64 x, .int .i64 y, .agg #[.int .i64 u, .int .i64 v]] w (ListGot (mbL a b zs x y u v) w) := by
  have HR := Lib.hid hr
  clear hr
  cases hv : picB a b zs
  · rw [show mbL a b zs x y u v = [] by simp [mbL, mbB, hv]]
    go_enter Try.func36, Try.ntmps36
    go_wp2_with (first | (go_at_call 52; refine (I_PictureValid _ _ _ _ zs _ (HR.out.keep (by repeat' (first | (with_reducible exact Below.refl _ _) | (with_reducible refine Below.adds_ ?_ ?_ _ _) | (with_reducible refine Below.alloc ?_ ?_ _) | (with_reducible refine Below.drew ?_) | (with_reducible refine Below.setCell ?_ ?_ _) | (with_reducible assumption) | go_size | (simp only [size_addsW, World.size_alloc, World.size_drew, World.size_setCell]; omega)))) (by omega)).mono ?_; rintro e w' ⟨rfl, hb⟩; obtain ⟨o1, n1, rfl⟩ := below_adds hb; clear hb) | (go_at_call 72; refine (I_VectorValid _ _ _).mono ?_; rintro e w' ⟨rfl, hb⟩; obtain ⟨o1, n1, rfl⟩ := below_adds hb; clear hb) | (go_at_call 73; refine (I_begins _ _ _ _ _ _ _ _).mono ?_; rintro e w' ⟨rfl, hb⟩; obtain ⟨o1, n1, rfl⟩ := below_adds hb; clear hb))
    go_returns
    exact ⟨_, _, rfl, fun h => absurd rfl h, (by intro d hd; first | (cases hd; done) | (cases hd; simp [size_addsW]; done) | (cases hd; simp [size_addsW]; omega) | (cases hd; show w.heap.size ≤ _; omega)), (by intro d hd; first | (cases hd; done) | (revert d hd; exact Soft.new_ _ _ _ (by simp [size_addsW])) | (revert d hd; exact Soft.new_ _ _ _ (by simp [size_addsW]; omega))), (by repeat' (first | (with_reducible exact Below.refl _ _) | (with_reducible refine Below.adds_ ?_ ?_ _ _) | (with_reducible refine Below.alloc ?_ ?_ _) | (with_reducible refine Below.drew ?_) | (with_reducible refine Below.setCell ?_ ?_ _) | (with_reducible assumption) | go_size | (simp only [size_addsW, World.size_alloc, World.size_drew, World.size_setCell]; omega)))⟩
  · have hab : a ≤ 32 ∧ b ≤ 32 := ⟨(sideB_bd (picB_iff.1 hv).1).2.1, (sideB_bd (picB_iff.1 hv).2.1).2.1⟩
    have HV := Lib.hid hv
    cases h2 : begB a b x y
    · rw [show mbL a b zs x y u v = [] by simp [mbL, mbB, h2]]
      cases h3 : M.vecB u v
      all_goals
        go_enter Try.func36, Try.ntmps36
        go_wp2_with (first | (go_at_call 52; refine (I_PictureValid _ _ _ _ zs _ (HR.out.keep (by repeat' (first | (with_reducible exact Below.refl _ _) | (with_reducible refine Below.adds_ ?_ ?_ _ _) | (with_reducible refine Below.alloc ?_ ?_ _) | (with_reducible refine Below.drew ?_) | (with_reducible refine Below.setCell ?_ ?_ _) | (with_reducible assumption) | go_size | (simp only [size_addsW, World.size_alloc, World.size_drew, World.size_setCell]; omega)))) (by omega)).mono ?_; rintro e w' ⟨rfl, hb⟩; obtain ⟨o1, n1, rfl⟩ := below_adds hb; clear hb) | (go_at_call 72; refine (I_VectorValid _ _ _).mono ?_; rintro e w' ⟨rfl, hb⟩; obtain ⟨o1, n1, rfl⟩ := below_adds hb; clear hb) | (go_at_call 73; refine (I_begins _ _ _ _ _ _ _ _).mono ?_; rintro e w' ⟨rfl, hb⟩; obtain ⟨o1, n1, rfl⟩ := below_adds hb; clear hb))
        go_returns
        exact ⟨_, _, rfl, fun h => absurd rfl h, (by intro d hd; first | (cases hd; done) | (cases hd; simp [size_addsW]; done) | (cases hd; simp [size_addsW]; omega) | (cases hd; show w.heap.size ≤ _; omega)), (by intro d hd; first | (cases hd; done) | (revert d hd; exact Soft.new_ _ _ _ (by simp [size_addsW])) | (revert d hd; exact Soft.new_ _ _ _ (by simp [size_addsW]; omega))), (by repeat' (first | (with_reducible exact Below.refl _ _) | (with_reducible refine Below.adds_ ?_ ?_ _ _) | (with_reducible refine Below.alloc ?_ ?_ _) | (with_reducible refine Below.drew ?_) | (with_reducible refine Below.setCell ?_ ?_ _) | (with_reducible assumption) | go_size | (simp only [size_addsW, World.size_alloc, World.size_drew, World.size_setCell]; omega)))⟩
    · cases h3 : M.vecB u v
      · rw [show mbL a b zs x y u v = [] by simp [mbL, mbB, h3]]
        go_enter Try.func36, Try.ntmps36
        go_wp2_with (first | (go_at_call 52; refine (I_PictureValid _ _ _ _ zs _ (HR.out.keep (by repeat' (first | (with_reducible exact Below.refl _ _) | (with_reducible refine Below.adds_ ?_ ?_ _ _) | (with_reducible refine Below.alloc ?_ ?_ _) | (with_reducible refine Below.drew ?_) | (with_reducible refine Below.setCell ?_ ?_ _) | (with_reducible assumption) | go_size | (simp only [size_addsW, World.size_alloc, World.size_drew, World.size_setCell]; omega)))) (by omega)).mono ?_; rintro e w' ⟨rfl, hb⟩; obtain ⟨o1, n1, rfl⟩ := below_adds hb; clear hb) | (go_at_call 72; refine (I_VectorValid _ _ _).mono ?_; rintro e w' ⟨rfl, hb⟩; obtain ⟨o1, n1, rfl⟩ := below_adds hb; clear hb) | (go_at_call 73; refine (I_begins _ _ _ _ _ _ _ _).mono ?_; rintro e w' ⟨rfl, hb⟩; obtain ⟨o1, n1, rfl⟩ := below_adds hb; clear hb))
        go_returns
        exact ⟨_, _, rfl, fun h => absurd rfl h, (by intro d hd; first | (cases hd; done) | (cases hd; simp [size_addsW]; done) | (cases hd; simp [size_addsW]; omega) | (cases hd; show w.heap.size ≤ _; omega)), (by intro d hd; first | (cases hd; done) | (revert d hd; exact Soft.new_ _ _ _ (by simp [size_addsW])) | (revert d hd; exact Soft.new_ _ _ _ (by simp [size_addsW]; omega))), (by repeat' (first | (with_reducible exact Below.refl _ _) | (with_reducible refine Below.adds_ ?_ ?_ _ _) | (with_reducible refine Below.alloc ?_ ?_ _) | (with_reducible refine Below.drew ?_) | (with_reducible refine Below.setCell ?_ ?_ _) | (with_reducible assumption) | go_size | (simp only [size_addsW, World.size_alloc, World.size_drew, World.size_setCell]; omega)))⟩
      · rw [show mbL a b zs x y u v = mvL a b zs x y u v 64 by simp [mbL, mbB, hv, h2, h3]]
        have hbg := begB_bd h2
        have hvb := vecB_bd h3
        have hxy : 0 ≤ x ∧ x ≤ 32 ∧ 0 ≤ y ∧ y ≤ 32 := by omega
        clear hbg
        go_enter Try.func36, Try.ntmps36
        go_wp2_with (first | (go_at_call 52; refine (I_PictureValid _ _ _ _ zs _ (HR.out.keep (by repeat' (first | (with_reducible exact Below.refl _ _) | (with_reducible refine Below.adds_ ?_ ?_ _ _) | (with_reducible refine Below.alloc ?_ ?_ _) | (with_reducible refine Below.drew ?_) | (with_reducible refine Below.setCell ?_ ?_ _) | (with_reducible assumption) | go_size | (simp only [size_addsW, World.size_alloc, World.size_drew, World.size_setCell]; omega)))) (by omega)).mono ?_; rintro e w' ⟨rfl, hb⟩; obtain ⟨o1, n1, rfl⟩ := below_adds hb; clear hb) | (go_at_call 72; refine (I_VectorValid _ _ _).mono ?_; rintro e w' ⟨rfl, hb⟩; obtain ⟨o1, n1, rfl⟩ := below_adds hb; clear hb) | (go_at_call 73; refine (I_begins _ _ _ _ _ _ _ _).mono ?_; rintro e w' ⟨rfl, hb⟩; obtain ⟨o1, n1, rfl⟩ := below_adds hb; clear hb) | (go_at_call 74; refine (I_moved a b x y u v _ _ zs _ (HR.out.keep (by repeat' (first | (with_reducible exact Below.refl _ _) | (with_reducible refine Below.adds_ ?_ ?_ _ _) | (with_reducible refine Below.alloc ?_ ?_ _) | (with_reducible refine Below.drew ?_) | (with_reducible refine Below.setCell ?_ ?_ _) | (with_reducible assumption) | go_size | (simp only [size_addsW, World.size_alloc, World.size_drew, World.size_setCell]; omega)))) HV.out (by omega) (by omega) (by omega) (by omega)).mono ?_; rintro e w' ⟨B1, d1, rfl, hrb, hB1, hsf, hb⟩; obtain ⟨q1, m1, rfl⟩ := below_adds hb; clear hb; have HB1 := Lib.hid hrb; have HG1 := Lib.hid hB1; have HSF := Lib.hid hsf; clear hrb hB1 hsf))
        go_returns
        exact ⟨B1, d1, rfl, by simpa only [adds_addsW, Array.append_assoc] using HB1.out, (fun d hd => by have := HG1.out d hd; simp [size_addsW] at this; omega), by simpa only [adds_addsW, Array.append_assoc] using HSF.out, (by repeat' (first | (with_reducible exact Below.refl _ _) | (with_reducible refine Below.adds_ ?_ ?_ _ _) | (with_reducible refine Below.alloc ?_ ?_ _) | (with_reducible refine Below.drew ?_) | (with_reducible refine Below.setCell ?_ ?_ _) | (with_reducible assumption) | go_size | (simp only [size_addsW, World.size_alloc, World.size_drew, World.size_setCell]; omega)))⟩

set_option maxHeartbeats 1000000 in
theorem S_MotionBlock (a b x y u v : Int) (A : Option Addr) (c : Nat) (zs : List Int) (w : World) (hr : RowAt .i64 w A zs) (hl : zs.length ≤ 1000000000000) :
    Calls Try.prog 34 #[.agg #[.int .i64 a, .int .i64 b, .slice A zs.length c], .int .i64 x, .int .i64 y, .agg #[.int .i64 u, .int .i64 v]] w (ListGot (mbL a b zs x y u v) w) := by
  have HR := Lib.hid hr
  clear hr
  cases hv : picB a b zs
  · rw [show mbL a b zs x y u v = [] by simp [mbL, mbB, hv]]
    go_enter Try.func34, Try.ntmps34
    go_wp2_with (first | (go_at_call 70; refine (S_VectorValid _ _ _).mono ?_; rintro e w' ⟨rfl, hb⟩; obtain ⟨o1, n1, rfl⟩ := below_adds hb; clear hb) | (go_at_call 69; refine (S_l7Place _ _ _ _ _ _ zs _ (HR.out.keep (by repeat' (first | (with_reducible exact Below.refl _ _) | (with_reducible refine Below.adds_ ?_ ?_ _ _) | (with_reducible refine Below.alloc ?_ ?_ _) | (with_reducible refine Below.drew ?_) | (with_reducible refine Below.setCell ?_ ?_ _) | (with_reducible assumption) | go_size | (simp only [size_addsW, World.size_alloc, World.size_drew, World.size_setCell]; omega)))) (by omega)).mono ?_; rintro e w' ⟨rfl, hb⟩; obtain ⟨o1, n1, rfl⟩ := below_adds hb; clear hb))
    go_returns
    exact ⟨_, _, rfl, fun h => absurd rfl h, (by intro d hd; first | (cases hd; done) | (cases hd; simp [size_addsW]; done) | (cases hd; simp [size_addsW]; omega) | (cases hd; show w.heap.size ≤ _; omega)), (by intro d hd; first | (cases hd; done) | (revert d hd; exact Soft.new_ _ _ _ (by simp [size_addsW])) | (revert d hd; exact Soft.new_ _ _ _ (by simp [size_addsW]; omega))), (by repeat' (first | (with_reducible exact Below.refl _ _) | (with_reducible refine Below.adds_ ?_ ?_ _ _) | (with_reducible refine Below.alloc ?_ ?_ _) | (with_reducible refine Below.drew ?_) | (with_reducible refine Below.setCell ?_ ?_ _) | (with_reducible assumption) | go_size | (simp only [size_addsW, World.size_alloc, World.size_drew, World.size_setCell]; omega)))⟩
  · have hab : a ≤ 32 ∧ b ≤ 32 := ⟨(sideB_bd (picB_iff.1 hv).1).2.1, (sideB_bd (picB_iff.1 hv).2.1).2.1⟩
    have HV := Lib.hid hv
    cases h2 : begB a b x y
    · rw [show mbL a b zs x y u v = [] by simp [mbL, mbB, h2]]
      cases h3 : M.vecB u v
      all_goals
        go_enter Try.func34, Try.ntmps34
        go_wp2_with (first | (go_at_call 70; refine (S_VectorValid _ _ _).mono ?_; rintro e w' ⟨rfl, hb⟩; obtain ⟨o1, n1, rfl⟩ := below_adds hb; clear hb) | (go_at_call 69; refine (S_l7Place _ _ _ _ _ _ zs _ (HR.out.keep (by repeat' (first | (with_reducible exact Below.refl _ _) | (with_reducible refine Below.adds_ ?_ ?_ _ _) | (with_reducible refine Below.alloc ?_ ?_ _) | (with_reducible refine Below.drew ?_) | (with_reducible refine Below.setCell ?_ ?_ _) | (with_reducible assumption) | go_size | (simp only [size_addsW, World.size_alloc, World.size_drew, World.size_setCell]; omega)))) (by omega)).mono ?_; rintro e w' ⟨rfl, hb⟩; obtain ⟨o1, n1, rfl⟩ := below_adds hb; clear hb))
        go_returns
        exact ⟨_, _, rfl, fun h => absurd rfl h, (by intro d hd; first | (cases hd; done) | (cases hd; simp [size_addsW]; done) | (cases hd; simp [size_addsW]; omega) | (cases hd; show w.heap.size ≤ _; omega)), (by intro d hd; first | (cases hd; done) | (revert d hd; exact Soft.new_ _ _ _ (by simp [size_addsW])) | (revert d hd; exact Soft.new_ _ _ _ (by simp [size_addsW]; omega))), (by repeat' (first | (with_reducible exact Below.refl _ _) | (with_reducible refine Below.adds_ ?_ ?_ _ _) | (with_reducible refine Below.alloc ?_ ?_ _) | (with_reducible refine Below.drew ?_) | (with_reducible refine Below.setCell ?_ ?_ _) | (with_reducible assumption) | go_size | (simp only [size_addsW, World.size_alloc, World.size_drew, World.size_setCell]; omega)))⟩
    · cases h3 : M.vecB u v
      · rw [show mbL a b zs x y u v = [] by simp [mbL, mbB, h3]]
        go_enter Try.func34, Try.ntmps34
        go_wp2_with (first | (go_at_call 70; refine (S_VectorValid _ _ _).mono ?_; rintro e w' ⟨rfl, hb⟩; obtain ⟨o1, n1, rfl⟩ := below_adds hb; clear hb) | (go_at_call 69; refine (S_l7Place _ _ _ _ _ _ zs _ (HR.out.keep (by repeat' (first | (with_reducible exact Below.refl _ _) | (with_reducible refine Below.adds_ ?_ ?_ _ _) | (with_reducible refine Below.alloc ?_ ?_ _) | (with_reducible refine Below.drew ?_) | (with_reducible refine Below.setCell ?_ ?_ _) | (with_reducible assumption) | go_size | (simp only [size_addsW, World.size_alloc, World.size_drew, World.size_setCell]; omega)))) (by omega)).mono ?_; rintro e w' ⟨rfl, hb⟩; obtain ⟨o1, n1, rfl⟩ := below_adds hb; clear hb))
        go_returns
        exact ⟨_, _, rfl, fun h => absurd rfl h, (by intro d hd; first | (cases hd; done) | (cases hd; simp [size_addsW]; done) | (cases hd; simp [size_addsW]; omega) | (cases hd; show w.heap.size ≤ _; omega)), (by intro d hd; first | (cases hd; done) | (revert d hd; exact Soft.new_ _ _ _ (by simp [size_addsW])) | (revert d hd; exact Soft.new_ _ _ _ (by simp [size_addsW]; omega))), (by repeat' (first | (with_reducible exact Below.refl _ _) | (with_reducible refine Below.adds_ ?_ ?_ _ _) | (with_reducible refine Below.alloc ?_ ?_ _) | (with_reducible refine Below.drew ?_) | (with_reducible refine Below.setCell ?_ ?_ _) | (with_reducible assumption) | go_size | (simp only [size_addsW, World.size_alloc, World.size_drew, World.size_setCell]; omega)))⟩
      · rw [show mbL a b zs x y u v = mvL a b zs x y u v 64 by simp [mbL, mbB, hv, h2, h3]]
        have hbg := begB_bd h2
        have hvb := vecB_bd h3
        have hxy : 0 ≤ x ∧ x ≤ 32 ∧ 0 ≤ y ∧ y ≤ 32 := by omega
        clear hbg
        go_enter Try.func34, Try.ntmps34
        go_wp2_with (first | (go_at_call 70; refine (S_VectorValid _ _ _).mono ?_; rintro e w' ⟨rfl, hb⟩; obtain ⟨o1, n1, rfl⟩ := below_adds hb; clear hb) | (go_at_call 69; refine (S_l7Place _ _ _ _ _ _ zs _ (HR.out.keep (by repeat' (first | (with_reducible exact Below.refl _ _) | (with_reducible refine Below.adds_ ?_ ?_ _ _) | (with_reducible refine Below.alloc ?_ ?_ _) | (with_reducible refine Below.drew ?_) | (with_reducible refine Below.setCell ?_ ?_ _) | (with_reducible assumption) | go_size | (simp only [size_addsW, World.size_alloc, World.size_drew, World.size_setCell]; omega)))) (by omega)).mono ?_; rintro e w' ⟨rfl, hb⟩; obtain ⟨o1, n1, rfl⟩ := below_adds hb; clear hb) | (go_at_call 71; refine (S_l7Block a b x y u v _ _ zs _ (HR.out.keep (by repeat' (first | (with_reducible exact Below.refl _ _) | (with_reducible refine Below.adds_ ?_ ?_ _ _) | (with_reducible refine Below.alloc ?_ ?_ _) | (with_reducible refine Below.drew ?_) | (with_reducible refine Below.setCell ?_ ?_ _) | (with_reducible assumption) | go_size | (simp only [size_addsW, World.size_alloc, World.size_drew, World.size_setCell]; omega)))) HV.out (by omega) (by omega) (by omega) (by omega)).mono ?_; rintro e w' ⟨B1, d1, rfl, hrb, hB1, hsf, hb⟩; obtain ⟨q1, m1, rfl⟩ := below_adds hb; clear hb; have HB1 := Lib.hid hrb; have HG1 := Lib.hid hB1; have HSF := Lib.hid hsf; clear hrb hB1 hsf))
        go_returns
        exact ⟨B1, d1, rfl, by simpa only [adds_addsW, Array.append_assoc] using HB1.out, (fun d hd => by have := HG1.out d hd; simp [size_addsW] at this; omega), by simpa only [adds_addsW, Array.append_assoc] using HSF.out, (by repeat' (first | (with_reducible exact Below.refl _ _) | (with_reducible refine Below.adds_ ?_ ?_ _ _) | (with_reducible refine Below.alloc ?_ ?_ _) | (with_reducible refine Below.drew ?_) | (with_reducible refine Below.setCell ?_ ?_ _) | (with_reducible assumption) | go_size | (simp only [size_addsW, World.size_alloc, World.size_drew, World.size_setCell]; omega)))⟩

end Go.Proofs.Ytobphddjoebfjaa
