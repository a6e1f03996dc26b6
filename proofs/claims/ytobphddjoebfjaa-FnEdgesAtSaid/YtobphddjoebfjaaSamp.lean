/- SampleAt: the sample of a valid picture, 0 of an invalid one. -/
import Derived.Test.YtobphddjoebfjaaPicS
import Derived.LoopTactic
namespace Go.Proofs.Ytobphddjoebfjaa
open Go.RowKit
set_option linter.unusedVariables false
set_option linter.unusedSimpArgs false

attribute [local go_sem] size_addsW cell?_addsW frozen?_addsW setCell_addsW drew_addsW adds_addsW setCell_twice alloc_adds0 size_adds0 adds_adds0 sel2 sel3 sel4 sel5 sel6 sel7 sel8 sel9 lt_more lt_more2 lt_more3 lt_more4 adds_drew adds_drewN drewN_addsW ltA_1_1 ltA_1_2 ltA_1_3 ltA_1_4 ltA_1_5 ltA_1_6 ltA_2_1 ltA_2_2 ltA_2_3 ltA_2_4 ltA_2_5 ltA_2_6 ltA_3_1 ltA_3_2 ltA_3_3 ltA_3_4 ltA_3_5 ltA_3_6 ltA_4_1 ltA_4_2 ltA_4_3 ltA_4_4 ltA_4_5 ltA_4_6 ltA_5_1 ltA_5_2 ltA_5_3 ltA_5_4 ltA_5_5 ltA_5_6 ltA_6_1 ltA_6_2 ltA_6_3 ltA_6_4 ltA_6_5 ltA_6_6 ltA_7_1 ltA_7_2 ltA_7_3 ltA_7_4 ltA_7_5 ltA_7_6 ltA_8_1 ltA_8_2 ltA_8_3 ltA_8_4 ltA_8_5 ltA_8_6 ltA_9_1 ltA_9_2 ltA_9_3 ltA_9_4 ltA_9_5 ltA_9_6 ltA_10_1 ltA_10_2 ltA_10_3 ltA_10_4 ltA_10_5 ltA_10_6 ltA_11_1 ltA_11_2 ltA_11_3 ltA_11_4 ltA_11_5 ltA_11_6 ltA_12_1 ltA_12_2 ltA_12_3 ltA_12_4 ltA_12_5 ltA_12_6

def sampV (a b : Int) (zs : List Int) (x y : Int) : Int := if picB a b zs then pix a b zs x y else 0
theorem picB_bd {a b : Int} {zs : List Int} (h : picB a b zs = true) : (8 ≤ a ∧ a ≤ 32) ∧ (8 ≤ b ∧ b ≤ 32) ∧ (zs.length : Int) = a * b ∧ M.samplesB zs = true := by
  obtain ⟨h1, h2, h3, h4⟩ := picB_iff.1 h
  have := sideB_bd h1; have := sideB_bd h2
  exact ⟨by omega, by omega, h3, h4⟩

theorem I_SampleAt (a b x y : Int) (A : Option Addr) (c : Nat) (zs : List Int) (w : World) (hr : RowAt .i64 w A zs) (hl : zs.length ≤ 1000000000000) :
    Calls Try.prog 27 #[.agg #[.int .i64 a, .int .i64 b, .slice A zs.length c], .int .i64 x, .int .i64 y] w fun e w' => e = .returned (.int .i64 (sampV a b zs x y)) ∧ Below w.heap.size w w' := by
  have HR := Lib.hid hr
  clear hr
  cases hv : picB a b zs
  · rw [show sampV a b zs x y = 0 by simp [sampV, hv]]
    go_enter Try.func27, Try.ntmps27
    go_wp2_with (go_at_call 52; refine (I_PictureValid _ _ _ _ zs _ (HR.out.keep (by repeat' (first | (with_reducible exact Below.refl _ _) | (with_reducible refine Below.adds_ ?_ ?_ _ _) | (with_reducible refine Below.alloc ?_ ?_ _) | (with_reducible refine Below.drew ?_) | (with_reducible refine Below.setCell ?_ ?_ _) | (with_reducible assumption) | go_size | (simp only [size_addsW, World.size_alloc, World.size_drew, World.size_setCell]; omega)))) (by omega)).mono ?_; rintro e w' ⟨rfl, hb⟩; obtain ⟨o1, n1, rfl⟩ := below_adds hb; clear hb)
    go_returns
    exact ⟨rfl, (by repeat' (first | (with_reducible exact Below.refl _ _) | (with_reducible refine Below.adds_ ?_ ?_ _ _) | (with_reducible refine Below.alloc ?_ ?_ _) | (with_reducible refine Below.drew ?_) | (with_reducible refine Below.setCell ?_ ?_ _) | (with_reducible assumption) | go_size | (simp only [size_addsW, World.size_alloc, World.size_drew, World.size_setCell]; omega)))⟩
  · rw [show sampV a b zs x y = pix a b zs x y by simp [sampV, hv]]
    have HB := Lib.hid (picB_bd hv)
    go_enter Try.func27, Try.ntmps27
    go_wp2_with (first | (go_at_call 52; refine (I_PictureValid _ _ _ _ zs _ (HR.out.keep (by repeat' (first | (with_reducible exact Below.refl _ _) | (with_reducible refine Below.adds_ ?_ ?_ _ _) | (with_reducible refine Below.alloc ?_ ?_ _) | (with_reducible refine Below.drew ?_) | (with_reducible refine Below.setCell ?_ ?_ _) | (with_reducible assumption) | go_size | (simp only [size_addsW, World.size_alloc, World.size_drew, World.size_setCell]; omega)))) (by omega)).mono ?_; rintro e w' ⟨rfl, hb⟩; obtain ⟨o1, n1, rfl⟩ := below_adds hb; clear hb) | (go_at_call 64; refine (I_at _ _ _ _ _ _ zs _ (HR.out.keep (by repeat' (first | (with_reducible exact Below.refl _ _) | (with_reducible refine Below.adds_ ?_ ?_ _ _) | (with_reducible refine Below.alloc ?_ ?_ _) | (with_reducible refine Below.drew ?_) | (with_reducible refine Below.setCell ?_ ?_ _) | (with_reducible assumption) | go_size | (simp only [size_addsW, World.size_alloc, World.size_drew, World.size_setCell]; omega)))) HB.out.1 HB.out.2.1 HB.out.2.2.1).mono ?_; rintro e w' ⟨rfl, hb⟩; obtain ⟨o1, n1, rfl⟩ := below_adds hb; clear hb))
    go_returns
    exact ⟨rfl, (by repeat' (first | (with_reducible exact Below.refl _ _) | (with_reducible refine Below.adds_ ?_ ?_ _ _) | (with_reducible refine Below.alloc ?_ ?_ _) | (with_reducible refine Below.drew ?_) | (with_reducible refine Below.setCell ?_ ?_ _) | (with_reducible assumption) | go_size | (simp only [size_addsW, World.size_alloc, World.size_drew, World.size_setCell]; omega)))⟩

end Go.Proofs.Ytobphddjoebfjaa
