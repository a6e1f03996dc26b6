/- Where macroblocks begin, pictures of one size, and the cost of a vector. -/
import Derived.Test.YtijccageaingjaaDoorMoved
import Derived.LoopTactic
import Derived.Deep.QuietTactic
import Derived.BigQuiet
namespace Go.Proofs.YtijccageaingjaaDoor
open Go.RowKit
set_option linter.unusedVariables false
set_option linter.unusedSimpArgs false

attribute [local go_sem] size_addsW cell?_addsW frozen?_addsW setCell_addsW drew_addsW adds_addsW setCell_twice alloc_adds0 size_adds0 adds_adds0 sel2 sel3 sel4 sel5 sel6 sel7 sel8 sel9 lt_more lt_more2 lt_more3 lt_more4 adds_drew adds_drewN drewN_addsW ltA_1_1 ltA_1_2 ltA_1_3 ltA_1_4 ltA_1_5 ltA_1_6 ltA_2_1 ltA_2_2 ltA_2_3 ltA_2_4 ltA_2_5 ltA_2_6 ltA_3_1 ltA_3_2 ltA_3_3 ltA_3_4 ltA_3_5 ltA_3_6 ltA_4_1 ltA_4_2 ltA_4_3 ltA_4_4 ltA_4_5 ltA_4_6 ltA_5_1 ltA_5_2 ltA_5_3 ltA_5_4 ltA_5_5 ltA_5_6 ltA_6_1 ltA_6_2 ltA_6_3 ltA_6_4 ltA_6_5 ltA_6_6 ltA_7_1 ltA_7_2 ltA_7_3 ltA_7_4 ltA_7_5 ltA_7_6 ltA_8_1 ltA_8_2 ltA_8_3 ltA_8_4 ltA_8_5 ltA_8_6 ltA_9_1 ltA_9_2 ltA_9_3 ltA_9_4 ltA_9_5 ltA_9_6 ltA_10_1 ltA_10_2 ltA_10_3 ltA_10_4 ltA_10_5 ltA_10_6 ltA_11_1 ltA_11_2 ltA_11_3 ltA_11_4 ltA_11_5 ltA_11_6 ltA_12_1 ltA_12_2 ltA_12_3 ltA_12_4 ltA_12_5 ltA_12_6

def begB (a b x y : Int) : Bool := decide (0 ≤ x ∧ x < a ∧ x % 8 = 0 ∧ 0 ≤ y ∧ y < b ∧ y % 8 = 0)
theorem begB_bd {a b x y : Int} (h : begB a b x y = true) : 0 ≤ x ∧ x < a ∧ x % 8 = 0 ∧ 0 ≤ y ∧ y < b ∧ y % 8 = 0 := by simpa [begB] using h

theorem I_begins (a b x y : Int) (A : Option Addr) (n c : Nat) (w : World) :
    Calls Tryd.prog 19 #[.agg #[.int .i64 a, .int .i64 b, .slice A n c], .int .i64 x, .int .i64 y] w fun e w' => e = .returned (.bool (begB a b x y)) ∧ Below w.heap.size w w' := by
  by_cases h : 0 ≤ x ∧ x < a ∧ x % 8 = 0 ∧ 0 ≤ y ∧ y < b ∧ y % 8 = 0
  · rw [show begB a b x y = true from decide_eq_true h]
    obtain ⟨h1, h2, h3, h4, h5, h6⟩ := h
    have t3 : (x % 8 == 0) = true := by simp [h3]
    have t6 : (y % 8 == 0) = true := by simp [h6]
    clear h3 h6
    go_enter Tryd.func19, Tryd.ntmps19
    go_wp2
    go_returns
    exact ⟨rfl, (by repeat' (first | (with_reducible exact Below.refl _ _) | (with_reducible refine Below.adds_ ?_ ?_ _ _) | (with_reducible refine Below.alloc ?_ ?_ _) | (with_reducible refine Below.drew ?_) | (with_reducible refine Below.setCell ?_ ?_ _) | (with_reducible assumption) | go_size | (simp only [size_addsW, World.size_alloc, World.size_drew, World.size_setCell]; omega)))⟩
  · rw [show begB a b x y = false from decide_eq_false h]
    rcases (show x < 0 ∨ (0 ≤ x ∧ a ≤ x) ∨ (0 ≤ x ∧ x < a ∧ ¬ x % 8 = 0) ∨ (0 ≤ x ∧ x < a ∧ x % 8 = 0 ∧ y < 0) ∨ (0 ≤ x ∧ x < a ∧ x % 8 = 0 ∧ 0 ≤ y ∧ b ≤ y) ∨ (0 ≤ x ∧ x < a ∧ x % 8 = 0 ∧ 0 ≤ y ∧ y < b ∧ ¬ y % 8 = 0) by omega) with h1 | ⟨h1, h2⟩ | ⟨h1, h2, h3⟩ | ⟨h1, h2, h3, h4⟩ | ⟨h1, h2, h3, h4, h5⟩ | ⟨h1, h2, h3, h4, h5, h6⟩
    · clear h
      go_enter Tryd.func19, Tryd.ntmps19
      go_wp2
      go_returns
      exact ⟨rfl, (by repeat' (first | (with_reducible exact Below.refl _ _) | (with_reducible refine Below.adds_ ?_ ?_ _ _) | (with_reducible refine Below.alloc ?_ ?_ _) | (with_reducible refine Below.drew ?_) | (with_reducible refine Below.setCell ?_ ?_ _) | (with_reducible assumption) | go_size | (simp only [size_addsW, World.size_alloc, World.size_drew, World.size_setCell]; omega)))⟩
    · clear h
      go_enter Tryd.func19, Tryd.ntmps19
      go_wp2
      go_returns
      exact ⟨rfl, (by repeat' (first | (with_reducible exact Below.refl _ _) | (with_reducible refine Below.adds_ ?_ ?_ _ _) | (with_reducible refine Below.alloc ?_ ?_ _) | (with_reducible refine Below.drew ?_) | (with_reducible refine Below.setCell ?_ ?_ _) | (with_reducible assumption) | go_size | (simp only [size_addsW, World.size_alloc, World.size_drew, World.size_setCell]; omega)))⟩
    · clear h
      have t3 : (x % 8 == 0) = false := by simp [h3]
      clear h3
      go_enter Tryd.func19, Tryd.ntmps19
      go_wp2
      go_returns
      exact ⟨rfl, (by repeat' (first | (with_reducible exact Below.refl _ _) | (with_reducible refine Below.adds_ ?_ ?_ _ _) | (with_reducible refine Below.alloc ?_ ?_ _) | (with_reducible refine Below.drew ?_) | (with_reducible refine Below.setCell ?_ ?_ _) | (with_reducible assumption) | go_size | (simp only [size_addsW, World.size_alloc, World.size_drew, World.size_setCell]; omega)))⟩
    · clear h
      have t3 : (x % 8 == 0) = true := by simp [h3]
      clear h3
      go_enter Tryd.func19, Tryd.ntmps19
      go_wp2
      go_returns
      exact ⟨rfl, (by repeat' (first | (with_reducible exact Below.refl _ _) | (with_reducible refine Below.adds_ ?_ ?_ _ _) | (with_reducible refine Below.alloc ?_ ?_ _) | (with_reducible refine Below.drew ?_) | (with_reducible refine Below.setCell ?_ ?_ _) | (with_reducible assumption) | go_size | (simp only [size_addsW, World.size_alloc, World.size_drew, World.size_setCell]; omega)))⟩
    · clear h
      have t3 : (x % 8 == 0) = true := by simp [h3]
      clear h3
      go_enter Tryd.func19, Tryd.ntmps19
      go_wp2
      go_returns
      exact ⟨rfl, (by repeat' (first | (with_reducible exact Below.refl _ _) | (with_reducible refine Below.adds_ ?_ ?_ _ _) | (with_reducible refine Below.alloc ?_ ?_ _) | (with_reducible refine Below.drew ?_) | (with_reducible refine Below.setCell ?_ ?_ _) | (with_reducible assumption) | go_size | (simp only [size_addsW, World.size_alloc, World.size_drew, World.size_setCell]; omega)))⟩
    · clear h
      have t3 : (x % 8 == 0) = true := by simp [h3]
      clear h3
      have t6 : (y % 8 == 0) = false := by simp [h6]
      clear h6
      go_enter Tryd.func19, Tryd.ntmps19
      go_wp2
      go_returns
      exact ⟨rfl, (by repeat' (first | (with_reducible exact Below.refl _ _) | (with_reducible refine Below.adds_ ?_ ?_ _ _) | (with_reducible refine Below.alloc ?_ ?_ _) | (with_reducible refine Below.drew ?_) | (with_reducible refine Below.setCell ?_ ?_ _) | (with_reducible assumption) | go_size | (simp only [size_addsW, World.size_alloc, World.size_drew, World.size_setCell]; omega)))⟩

theorem S_l7Place (a b x y : Int) (A : Option Addr) (c : Nat) (zs : List Int) (w : World) (hr : RowAt .i64 w A zs) (hl : zs.length ≤ 1000000000000) :
    Calls Tryd.prog 13 #[.agg #[.int .i64 a, .int .i64 b, .slice A zs.length c], .int .i64 x, .int .i64 y] w fun e w' => e = .returned (.bool (picB a b zs && begB a b x y)) ∧ Below w.heap.size w w' := by
  have HR := Lib.hid hr
  clear hr
  cases hv : picB a b zs
  · rw [Bool.false_and]
    go_enter Tryd.func13, Tryd.ntmps13
    go_wp2_with (go_at_call 32; refine (S_PictureValid _ _ _ _ zs _ (HR.out.keep (by repeat' (first | (with_reducible exact Below.refl _ _) | (with_reducible refine Below.adds_ ?_ ?_ _ _) | (with_reducible refine Below.alloc ?_ ?_ _) | (with_reducible refine Below.drew ?_) | (with_reducible refine Below.setCell ?_ ?_ _) | (with_reducible assumption) | go_size | (simp only [size_addsW, World.size_alloc, World.size_drew, World.size_setCell]; omega)))) (by omega)).mono ?_; rintro e w' ⟨rfl, hb⟩; obtain ⟨o1, n1, rfl⟩ := below_adds hb; clear hb)
    go_returns
    exact ⟨rfl, (by repeat' (first | (with_reducible exact Below.refl _ _) | (with_reducible refine Below.adds_ ?_ ?_ _ _) | (with_reducible refine Below.alloc ?_ ?_ _) | (with_reducible refine Below.drew ?_) | (with_reducible refine Below.setCell ?_ ?_ _) | (with_reducible assumption) | go_size | (simp only [size_addsW, World.size_alloc, World.size_drew, World.size_setCell]; omega)))⟩
  · rw [Bool.true_and]
    obtain ⟨s1, s2, -, -⟩ := picB_iff.1 hv
    have ha := sideB_bd s1
    have hb := sideB_bd s2
    clear s1 s2
    have e3 := ha.2.2
    have e4 := hb.2.2
    have ha2 : 8 ≤ a ∧ a ≤ 32 := ⟨ha.1, ha.2.1⟩
    have hb2 : 8 ≤ b ∧ b ≤ 32 := ⟨hb.1, hb.2.1⟩
    clear ha hb e3 e4
    cases g1 : M.inB x 0 (a - 1)
    · rw [show begB a b x y = false by have := M.inB_no.1 g1; simp [begB]; omega]
      go_enter Tryd.func13, Tryd.ntmps13
      go_wp2_with (first | (go_at_call 32; refine (S_PictureValid _ _ _ _ zs _ (HR.out.keep (by repeat' (first | (with_reducible exact Below.refl _ _) | (with_reducible refine Below.adds_ ?_ ?_ _ _) | (with_reducible refine Below.alloc ?_ ?_ _) | (with_reducible refine Below.drew ?_) | (with_reducible refine Below.setCell ?_ ?_ _) | (with_reducible assumption) | go_size | (simp only [size_addsW, World.size_alloc, World.size_drew, World.size_setCell]; omega)))) (by omega)).mono ?_; rintro e w' ⟨rfl, hb⟩; obtain ⟨o1, n1, rfl⟩ := below_adds hb; clear hb) | (go_at_call 15; refine (S_l1In _ _ _ _).mono ?_; rintro e w' ⟨rfl, rfl⟩))
      go_returns
      exact ⟨rfl, (by repeat' (first | (with_reducible exact Below.refl _ _) | (with_reducible refine Below.adds_ ?_ ?_ _ _) | (with_reducible refine Below.alloc ?_ ?_ _) | (with_reducible refine Below.drew ?_) | (with_reducible refine Below.setCell ?_ ?_ _) | (with_reducible assumption) | go_size | (simp only [size_addsW, World.size_alloc, World.size_drew, World.size_setCell]; omega)))⟩
    · cases g2 : M.inB y 0 (b - 1)
      · rw [show begB a b x y = false by have := M.inB_no.1 g2; simp [begB]; omega]
        go_enter Tryd.func13, Tryd.ntmps13
        go_wp2_with (first | (go_at_call 32; refine (S_PictureValid _ _ _ _ zs _ (HR.out.keep (by repeat' (first | (with_reducible exact Below.refl _ _) | (with_reducible refine Below.adds_ ?_ ?_ _ _) | (with_reducible refine Below.alloc ?_ ?_ _) | (with_reducible refine Below.drew ?_) | (with_reducible refine Below.setCell ?_ ?_ _) | (with_reducible assumption) | go_size | (simp only [size_addsW, World.size_alloc, World.size_drew, World.size_setCell]; omega)))) (by omega)).mono ?_; rintro e w' ⟨rfl, hb⟩; obtain ⟨o1, n1, rfl⟩ := below_adds hb; clear hb) | (go_at_call 15; refine (S_l1In _ _ _ _).mono ?_; rintro e w' ⟨rfl, rfl⟩))
        go_returns
        exact ⟨rfl, (by repeat' (first | (with_reducible exact Below.refl _ _) | (with_reducible refine Below.adds_ ?_ ?_ _ _) | (with_reducible refine Below.alloc ?_ ?_ _) | (with_reducible refine Below.drew ?_) | (with_reducible refine Below.setCell ?_ ?_ _) | (with_reducible assumption) | go_size | (simp only [size_addsW, World.size_alloc, World.size_drew, World.size_setCell]; omega)))⟩
      · have x1 := M.inB_iff.1 g1
        have y1 := M.inB_iff.1 g2
        by_cases h3 : x % 8 = 0
        · have t3 : (x % 8 == 0) = true := by simp [h3]
          by_cases h6 : y % 8 = 0
          · have t6 : (y % 8 == 0) = true := by simp [h6]
            rw [show begB a b x y = true by simp [begB]; omega]
            clear h3 h6
            go_enter Tryd.func13, Tryd.ntmps13
            go_wp2_with (first | (go_at_call 32; refine (S_PictureValid _ _ _ _ zs _ (HR.out.keep (by repeat' (first | (with_reducible exact Below.refl _ _) | (with_reducible refine Below.adds_ ?_ ?_ _ _) | (with_reducible refine Below.alloc ?_ ?_ _) | (with_reducible refine Below.drew ?_) | (with_reducible refine Below.setCell ?_ ?_ _) | (with_reducible assumption) | go_size | (simp only [size_addsW, World.size_alloc, World.size_drew, World.size_setCell]; omega)))) (by omega)).mono ?_; rintro e w' ⟨rfl, hb⟩; obtain ⟨o1, n1, rfl⟩ := below_adds hb; clear hb) | (go_at_call 15; refine (S_l1In _ _ _ _).mono ?_; rintro e w' ⟨rfl, rfl⟩))
            go_returns
            exact ⟨rfl, (by repeat' (first | (with_reducible exact Below.refl _ _) | (with_reducible refine Below.adds_ ?_ ?_ _ _) | (with_reducible refine Below.alloc ?_ ?_ _) | (with_reducible refine Below.drew ?_) | (with_reducible refine Below.setCell ?_ ?_ _) | (with_reducible assumption) | go_size | (simp only [size_addsW, World.size_alloc, World.size_drew, World.size_setCell]; omega)))⟩
          · have t6 : (y % 8 == 0) = false := by simp [h6]
            rw [show begB a b x y = false by simp [begB]; omega]
            clear h3 h6
            go_enter Tryd.func13, Tryd.ntmps13
            go_wp2_with (first | (go_at_call 32; refine (S_PictureValid _ _ _ _ zs _ (HR.out.keep (by repeat' (first | (with_reducible exact Below.refl _ _) | (with_reducible refine Below.adds_ ?_ ?_ _ _) | (with_reducible refine Below.alloc ?_ ?_ _) | (with_reducible refine Below.drew ?_) | (with_reducible refine Below.setCell ?_ ?_ _) | (with_reducible assumption) | go_size | (simp only [size_addsW, World.size_alloc, World.size_drew, World.size_setCell]; omega)))) (by omega)).mono ?_; rintro e w' ⟨rfl, hb⟩; obtain ⟨o1, n1, rfl⟩ := below_adds hb; clear hb) | (go_at_call 15; refine (S_l1In _ _ _ _).mono ?_; rintro e w' ⟨rfl, rfl⟩))
            go_returns
            exact ⟨rfl, (by repeat' (first | (with_reducible exact Below.refl _ _) | (with_reducible refine Below.adds_ ?_ ?_ _ _) | (with_reducible refine Below.alloc ?_ ?_ _) | (with_reducible refine Below.drew ?_) | (with_reducible refine Below.setCell ?_ ?_ _) | (with_reducible assumption) | go_size | (simp only [size_addsW, World.size_alloc, World.size_drew, World.size_setCell]; omega)))⟩
        · have t3 : (x % 8 == 0) = false := by simp [h3]
          rw [show begB a b x y = false by simp [begB]; omega]
          clear h3
          go_enter Tryd.func13, Tryd.ntmps13
          go_wp2_with (first | (go_at_call 32; refine (S_PictureValid _ _ _ _ zs _ (HR.out.keep (by repeat' (first | (with_reducible exact Below.refl _ _) | (with_reducible refine Below.adds_ ?_ ?_ _ _) | (with_reducible refine Below.alloc ?_ ?_ _) | (with_reducible refine Below.drew ?_) | (with_reducible refine Below.setCell ?_ ?_ _) | (with_reducible assumption) | go_size | (simp only [size_addsW, World.size_alloc, World.size_drew, World.size_setCell]; omega)))) (by omega)).mono ?_; rintro e w' ⟨rfl, hb⟩; obtain ⟨o1, n1, rfl⟩ := below_adds hb; clear hb) | (go_at_call 15; refine (S_l1In _ _ _ _).mono ?_; rintro e w' ⟨rfl, rfl⟩))
          go_returns
          exact ⟨rfl, (by repeat' (first | (with_reducible exact Below.refl _ _) | (with_reducible refine Below.adds_ ?_ ?_ _ _) | (with_reducible refine Below.alloc ?_ ?_ _) | (with_reducible refine Below.drew ?_) | (with_reducible refine Below.setCell ?_ ?_ _) | (with_reducible assumption) | go_size | (simp only [size_addsW, World.size_alloc, World.size_drew, World.size_setCell]; omega)))⟩

/-- two valid pictures of one size -/
def sameB (a b : Int) (zs : List Int) (a' b' : Int) (zs' : List Int) : Bool := picB a b zs && picB a' b' zs' && decide (a = a' ∧ b = b')

theorem I_alike (a b a' b' : Int) (A A' : Option Addr) (c c' : Nat) (zs zs' : List Int) (w : World) (hr : RowAt .i64 w A zs) (hr' : RowAt .i64 w A' zs') (hl : zs.length ≤ 1000000000000) (hl' : zs'.length ≤ 1000000000000) :
    Calls Tryd.prog 18 #[.agg #[.int .i64 a, .int .i64 b, .slice A zs.length c], .agg #[.int .i64 a', .int .i64 b', .slice A' zs'.length c']] w fun e w' => e = .returned (.bool (sameB a b zs a' b' zs')) ∧ Below w.heap.size w w' := by
  have HR := Lib.hid hr
  have HR' := Lib.hid hr'
  clear hr hr'
  cases h1 : picB a b zs
  · rw [show sameB a b zs a' b' zs' = false by simp [sameB, h1]]
    go_enter Tryd.func18, Tryd.ntmps18
    go_wp2_with (first | (go_at_call 37; (with_reducible refine (I_PictureValid a b _ _ zs _ (HR.out.keep (by repeat' (first | (with_reducible exact Below.refl _ _) | (with_reducible refine Below.adds_ ?_ ?_ _ _) | (with_reducible refine Below.alloc ?_ ?_ _) | (with_reducible refine Below.drew ?_) | (with_reducible refine Below.setCell ?_ ?_ _) | (with_reducible assumption) | go_size | (simp only [size_addsW, World.size_alloc, World.size_drew, World.size_setCell]; omega)))) (by omega)).mono ?_); rintro e w' ⟨rfl, hb⟩; obtain ⟨o1, n1, rfl⟩ := below_adds hb; clear hb) | (go_at_call 37; (with_reducible refine (I_PictureValid a' b' _ _ zs' _ (HR'.out.keep (by repeat' (first | (with_reducible exact Below.refl _ _) | (with_reducible refine Below.adds_ ?_ ?_ _ _) | (with_reducible refine Below.alloc ?_ ?_ _) | (with_reducible refine Below.drew ?_) | (with_reducible refine Below.setCell ?_ ?_ _) | (with_reducible assumption) | go_size | (simp only [size_addsW, World.size_alloc, World.size_drew, World.size_setCell]; omega)))) (by omega)).mono ?_); rintro e w' ⟨rfl, hb⟩; obtain ⟨o1, n1, rfl⟩ := below_adds hb; clear hb))
    go_returns
    exact ⟨rfl, (by repeat' (first | (with_reducible exact Below.refl _ _) | (with_reducible refine Below.adds_ ?_ ?_ _ _) | (with_reducible refine Below.alloc ?_ ?_ _) | (with_reducible refine Below.drew ?_) | (with_reducible refine Below.setCell ?_ ?_ _) | (with_reducible assumption) | go_size | (simp only [size_addsW, World.size_alloc, World.size_drew, World.size_setCell]; omega)))⟩
  · cases h2 : picB a' b' zs'
    · rw [show sameB a b zs a' b' zs' = false by simp [sameB, h2]]
      go_enter Tryd.func18, Tryd.ntmps18
      go_wp2_with (first | (go_at_call 37; (with_reducible refine (I_PictureValid a b _ _ zs _ (HR.out.keep (by repeat' (first | (with_reducible exact Below.refl _ _) | (with_reducible refine Below.adds_ ?_ ?_ _ _) | (with_reducible refine Below.alloc ?_ ?_ _) | (with_reducible refine Below.drew ?_) | (with_reducible refine Below.setCell ?_ ?_ _) | (with_reducible assumption) | go_size | (simp only [size_addsW, World.size_alloc, World.size_drew, World.size_setCell]; omega)))) (by omega)).mono ?_); rintro e w' ⟨rfl, hb⟩; obtain ⟨o1, n1, rfl⟩ := below_adds hb; clear hb) | (go_at_call 37; (with_reducible refine (I_PictureValid a' b' _ _ zs' _ (HR'.out.keep (by repeat' (first | (with_reducible exact Below.refl _ _) | (with_reducible refine Below.adds_ ?_ ?_ _ _) | (with_reducible refine Below.alloc ?_ ?_ _) | (with_reducible refine Below.drew ?_) | (with_reducible refine Below.setCell ?_ ?_ _) | (with_reducible assumption) | go_size | (simp only [size_addsW, World.size_alloc, World.size_drew, World.size_setCell]; omega)))) (by omega)).mono ?_); rintro e w' ⟨rfl, hb⟩; obtain ⟨o1, n1, rfl⟩ := below_adds hb; clear hb))
      go_returns
      exact ⟨rfl, (by repeat' (first | (with_reducible exact Below.refl _ _) | (with_reducible refine Below.adds_ ?_ ?_ _ _) | (with_reducible refine Below.alloc ?_ ?_ _) | (with_reducible refine Below.drew ?_) | (with_reducible refine Below.setCell ?_ ?_ _) | (with_reducible assumption) | go_size | (simp only [size_addsW, World.size_alloc, World.size_drew, World.size_setCell]; omega)))⟩
    · by_cases h3 : a = a'
      · have t3 : (a == a') = true := by simp [h3]
        by_cases h4 : b = b'
        · have t4 : (b == b') = true := by simp [h4]
          rw [show sameB a b zs a' b' zs' = true by rw [sameB, h1, h2, decide_eq_true ⟨h3, h4⟩]; rfl]
          have H3 := Lib.hid h3
          have H4 := Lib.hid h4
          clear h3 h4
          go_enter Tryd.func18, Tryd.ntmps18
          go_wp2_with (first | (go_at_call 37; (with_reducible refine (I_PictureValid a b _ _ zs _ (HR.out.keep (by repeat' (first | (with_reducible exact Below.refl _ _) | (with_reducible refine Below.adds_ ?_ ?_ _ _) | (with_reducible refine Below.alloc ?_ ?_ _) | (with_reducible refine Below.drew ?_) | (with_reducible refine Below.setCell ?_ ?_ _) | (with_reducible assumption) | go_size | (simp only [size_addsW, World.size_alloc, World.size_drew, World.size_setCell]; omega)))) (by omega)).mono ?_); rintro e w' ⟨rfl, hb⟩; obtain ⟨o1, n1, rfl⟩ := below_adds hb; clear hb) | (go_at_call 37; (with_reducible refine (I_PictureValid a' b' _ _ zs' _ (HR'.out.keep (by repeat' (first | (with_reducible exact Below.refl _ _) | (with_reducible refine Below.adds_ ?_ ?_ _ _) | (with_reducible refine Below.alloc ?_ ?_ _) | (with_reducible refine Below.drew ?_) | (with_reducible refine Below.setCell ?_ ?_ _) | (with_reducible assumption) | go_size | (simp only [size_addsW, World.size_alloc, World.size_drew, World.size_setCell]; omega)))) (by omega)).mono ?_); rintro e w' ⟨rfl, hb⟩; obtain ⟨o1, n1, rfl⟩ := below_adds hb; clear hb))
          go_returns
          exact ⟨rfl, (by repeat' (first | (with_reducible exact Below.refl _ _) | (with_reducible refine Below.adds_ ?_ ?_ _ _) | (with_reducible refine Below.alloc ?_ ?_ _) | (with_reducible refine Below.drew ?_) | (with_reducible refine Below.setCell ?_ ?_ _) | (with_reducible assumption) | go_size | (simp only [size_addsW, World.size_alloc, World.size_drew, World.size_setCell]; omega)))⟩
        · have t4 : (b == b') = false := by simp [h4]
          rw [show sameB a b zs a' b' zs' = false by simp [sameB, h1, h2, h4]]
          have H3 := Lib.hid h3
          clear h3 h4
          go_enter Tryd.func18, Tryd.ntmps18
          go_wp2_with (first | (go_at_call 37; (with_reducible refine (I_PictureValid a b _ _ zs _ (HR.out.keep (by repeat' (first | (with_reducible exact Below.refl _ _) | (with_reducible refine Below.adds_ ?_ ?_ _ _) | (with_reducible refine Below.alloc ?_ ?_ _) | (with_reducible refine Below.drew ?_) | (with_reducible refine Below.setCell ?_ ?_ _) | (with_reducible assumption) | go_size | (simp only [size_addsW, World.size_alloc, World.size_drew, World.size_setCell]; omega)))) (by omega)).mono ?_); rintro e w' ⟨rfl, hb⟩; obtain ⟨o1, n1, rfl⟩ := below_adds hb; clear hb) | (go_at_call 37; (with_reducible refine (I_PictureValid a' b' _ _ zs' _ (HR'.out.keep (by repeat' (first | (with_reducible exact Below.refl _ _) | (with_reducible refine Below.adds_ ?_ ?_ _ _) | (with_reducible refine Below.alloc ?_ ?_ _) | (with_reducible refine Below.drew ?_) | (with_reducible refine Below.setCell ?_ ?_ _) | (with_reducible assumption) | go_size | (simp only [size_addsW, World.size_alloc, World.size_drew, World.size_setCell]; omega)))) (by omega)).mono ?_); rintro e w' ⟨rfl, hb⟩; obtain ⟨o1, n1, rfl⟩ := below_adds hb; clear hb))
          go_returns
          exact ⟨rfl, (by repeat' (first | (with_reducible exact Below.refl _ _) | (with_reducible refine Below.adds_ ?_ ?_ _ _) | (with_reducible refine Below.alloc ?_ ?_ _) | (with_reducible refine Below.drew ?_) | (with_reducible refine Below.setCell ?_ ?_ _) | (with_reducible assumption) | go_size | (simp only [size_addsW, World.size_alloc, World.size_drew, World.size_setCell]; omega)))⟩
      · have t3 : (a == a') = false := by simp [h3]
        rw [show sameB a b zs a' b' zs' = false by simp [sameB, h1, h2, h3]]
        clear h3
        go_enter Tryd.func18, Tryd.ntmps18
        go_wp2_with (first | (go_at_call 37; (with_reducible refine (I_PictureValid a b _ _ zs _ (HR.out.keep (by repeat' (first | (with_reducible exact Below.refl _ _) | (with_reducible refine Below.adds_ ?_ ?_ _ _) | (with_reducible refine Below.alloc ?_ ?_ _) | (with_reducible refine Below.drew ?_) | (with_reducible refine Below.setCell ?_ ?_ _) | (with_reducible assumption) | go_size | (simp only [size_addsW, World.size_alloc, World.size_drew, World.size_setCell]; omega)))) (by omega)).mono ?_); rintro e w' ⟨rfl, hb⟩; obtain ⟨o1, n1, rfl⟩ := below_adds hb; clear hb) | (go_at_call 37; (with_reducible refine (I_PictureValid a' b' _ _ zs' _ (HR'.out.keep (by repeat' (first | (with_reducible exact Below.refl _ _) | (with_reducible refine Below.adds_ ?_ ?_ _ _) | (with_reducible refine Below.alloc ?_ ?_ _) | (with_reducible refine Below.drew ?_) | (with_reducible refine Below.setCell ?_ ?_ _) | (with_reducible assumption) | go_size | (simp only [size_addsW, World.size_alloc, World.size_drew, World.size_setCell]; omega)))) (by omega)).mono ?_); rintro e w' ⟨rfl, hb⟩; obtain ⟨o1, n1, rfl⟩ := below_adds hb; clear hb))
        go_returns
        exact ⟨rfl, (by repeat' (first | (with_reducible exact Below.refl _ _) | (with_reducible refine Below.adds_ ?_ ?_ _ _) | (with_reducible refine Below.alloc ?_ ?_ _) | (with_reducible refine Below.drew ?_) | (with_reducible refine Below.setCell ?_ ?_ _) | (with_reducible assumption) | go_size | (simp only [size_addsW, World.size_alloc, World.size_drew, World.size_setCell]; omega)))⟩

theorem S_l1Same (a b a' b' : Int) (A A' : Option Addr) (c c' : Nat) (zs zs' : List Int) (w : World) (hr : RowAt .i64 w A zs) (hr' : RowAt .i64 w A' zs') (hl : zs.length ≤ 1000000000000) (hl' : zs'.length ≤ 1000000000000) :
    Calls Tryd.prog 12 #[.agg #[.int .i64 a, .int .i64 b, .slice A zs.length c], .agg #[.int .i64 a', .int .i64 b', .slice A' zs'.length c']] w fun e w' => e = .returned (.bool (sameB a b zs a' b' zs')) ∧ Below w.heap.size w w' := by
  have HR := Lib.hid hr
  have HR' := Lib.hid hr'
  clear hr hr'
  cases h1 : picB a b zs
  · rw [show sameB a b zs a' b' zs' = false by simp [sameB, h1]]
    go_enter Tryd.func12, Tryd.ntmps12
    go_wp2_with (first | (go_at_call 32; (with_reducible refine (S_PictureValid a b _ _ zs _ (HR.out.keep (by repeat' (first | (with_reducible exact Below.refl _ _) | (with_reducible refine Below.adds_ ?_ ?_ _ _) | (with_reducible refine Below.alloc ?_ ?_ _) | (with_reducible refine Below.drew ?_) | (with_reducible refine Below.setCell ?_ ?_ _) | (with_reducible assumption) | go_size | (simp only [size_addsW, World.size_alloc, World.size_drew, World.size_setCell]; omega)))) (by omega)).mono ?_); rintro e w' ⟨rfl, hb⟩; obtain ⟨o1, n1, rfl⟩ := below_adds hb; clear hb) | (go_at_call 32; (with_reducible refine (S_PictureValid a' b' _ _ zs' _ (HR'.out.keep (by repeat' (first | (with_reducible exact Below.refl _ _) | (with_reducible refine Below.adds_ ?_ ?_ _ _) | (with_reducible refine Below.alloc ?_ ?_ _) | (with_reducible refine Below.drew ?_) | (with_reducible refine Below.setCell ?_ ?_ _) | (with_reducible assumption) | go_size | (simp only [size_addsW, World.size_alloc, World.size_drew, World.size_setCell]; omega)))) (by omega)).mono ?_); rintro e w' ⟨rfl, hb⟩; obtain ⟨o1, n1, rfl⟩ := below_adds hb; clear hb))
    go_returns
    exact ⟨rfl, (by repeat' (first | (with_reducible exact Below.refl _ _) | (with_reducible refine Below.adds_ ?_ ?_ _ _) | (with_reducible refine Below.alloc ?_ ?_ _) | (with_reducible refine Below.drew ?_) | (with_reducible refine Below.setCell ?_ ?_ _) | (with_reducible assumption) | go_size | (simp only [size_addsW, World.size_alloc, World.size_drew, World.size_setCell]; omega)))⟩
  · cases h2 : picB a' b' zs'
    · rw [show sameB a b zs a' b' zs' = false by simp [sameB, h2]]
      go_enter Tryd.func12, Tryd.ntmps12
      go_wp2_with (first | (go_at_call 32; (with_reducible refine (S_PictureValid a b _ _ zs _ (HR.out.keep (by repeat' (first | (with_reducible exact Below.refl _ _) | (with_reducible refine Below.adds_ ?_ ?_ _ _) | (with_reducible refine Below.alloc ?_ ?_ _) | (with_reducible refine Below.drew ?_) | (with_reducible refine Below.setCell ?_ ?_ _) | (with_reducible assumption) | go_size | (simp only [size_addsW, World.size_alloc, World.size_drew, World.size_setCell]; omega)))) (by omega)).mono ?_); rintro e w' ⟨rfl, hb⟩; obtain ⟨o1, n1, rfl⟩ := below_adds hb; clear hb) | (go_at_call 32; (with_reducible refine (S_PictureValid a' b' _ _ zs' _ (HR'.out.keep (by repeat' (first | (with_reducible exact Below.refl _ _) | (with_reducible refine Below.adds_ ?_ ?_ _ _) | (with_reducible refine Below.alloc ?_ ?_ _) | (with_reducible refine Below.drew ?_) | (with_reducible refine Below.setCell ?_ ?_ _) | (with_reducible assumption) | go_size | (simp only [size_addsW, World.size_alloc, World.size_drew, World.size_setCell]; omega)))) (by omega)).mono ?_); rintro e w' ⟨rfl, hb⟩; obtain ⟨o1, n1, rfl⟩ := below_adds hb; clear hb))
      go_returns
      exact ⟨rfl, (by repeat' (first | (with_reducible exact Below.refl _ _) | (with_reducible refine Below.adds_ ?_ ?_ _ _) | (with_reducible refine Below.alloc ?_ ?_ _) | (with_reducible refine Below.drew ?_) | (with_reducible refine Below.setCell ?_ ?_ _) | (with_reducible assumption) | go_size | (simp only [size_addsW, World.size_alloc, World.size_drew, World.size_setCell]; omega)))⟩
    · by_cases h3 : a = a'
      · have t3 : (a == a') = true := by simp [h3]
        by_cases h4 : b = b'
        · have t4 : (b == b') = true := by simp [h4]
          rw [show sameB a b zs a' b' zs' = true by rw [sameB, h1, h2, decide_eq_true ⟨h3, h4⟩]; rfl]
          have H3 := Lib.hid h3
          have H4 := Lib.hid h4
          clear h3 h4
          go_enter Tryd.func12, Tryd.ntmps12
          go_wp2_with (first | (go_at_call 32; (with_reducible refine (S_PictureValid a b _ _ zs _ (HR.out.keep (by repeat' (first | (with_reducible exact Below.refl _ _) | (with_reducible refine Below.adds_ ?_ ?_ _ _) | (with_reducible refine Below.alloc ?_ ?_ _) | (with_reducible refine Below.drew ?_) | (with_reducible refine Below.setCell ?_ ?_ _) | (with_reducible assumption) | go_size | (simp only [size_addsW, World.size_alloc, World.size_drew, World.size_setCell]; omega)))) (by omega)).mono ?_); rintro e w' ⟨rfl, hb⟩; obtain ⟨o1, n1, rfl⟩ := below_adds hb; clear hb) | (go_at_call 32; (with_reducible refine (S_PictureValid a' b' _ _ zs' _ (HR'.out.keep (by repeat' (first | (with_reducible exact Below.refl _ _) | (with_reducible refine Below.adds_ ?_ ?_ _ _) | (with_reducible refine Below.alloc ?_ ?_ _) | (with_reducible refine Below.drew ?_) | (with_reducible refine Below.setCell ?_ ?_ _) | (with_reducible assumption) | go_size | (simp only [size_addsW, World.size_alloc, World.size_drew, World.size_setCell]; omega)))) (by omega)).mono ?_); rintro e w' ⟨rfl, hb⟩; obtain ⟨o1, n1, rfl⟩ := below_adds hb; clear hb))
          go_returns
          exact ⟨rfl, (by repeat' (first | (with_reducible exact Below.refl _ _) | (with_reducible refine Below.adds_ ?_ ?_ _ _) | (with_reducible refine Below.alloc ?_ ?_ _) | (with_reducible refine Below.drew ?_) | (with_reducible refine Below.setCell ?_ ?_ _) | (with_reducible assumption) | go_size | (simp only [size_addsW, World.size_alloc, World.size_drew, World.size_setCell]; omega)))⟩
        · have t4 : (b == b') = false := by simp [h4]
          rw [show sameB a b zs a' b' zs' = false by simp [sameB, h1, h2, h4]]
          have H3 := Lib.hid h3
          clear h3 h4
          go_enter Tryd.func12, Tryd.ntmps12
          go_wp2_with (first | (go_at_call 32; (with_reducible refine (S_PictureValid a b _ _ zs _ (HR.out.keep (by repeat' (first | (with_reducible exact Below.refl _ _) | (with_reducible refine Below.adds_ ?_ ?_ _ _) | (with_reducible refine Below.alloc ?_ ?_ _) | (with_reducible refine Below.drew ?_) | (with_reducible refine Below.setCell ?_ ?_ _) | (with_reducible assumption) | go_size | (simp only [size_addsW, World.size_alloc, World.size_drew, World.size_setCell]; omega)))) (by omega)).mono ?_); rintro e w' ⟨rfl, hb⟩; obtain ⟨o1, n1, rfl⟩ := below_adds hb; clear hb) | (go_at_call 32; (with_reducible refine (S_PictureValid a' b' _ _ zs' _ (HR'.out.keep (by repeat' (first | (with_reducible exact Below.refl _ _) | (with_reducible refine Below.adds_ ?_ ?_ _ _) | (with_reducible refine Below.alloc ?_ ?_ _) | (with_reducible refine Below.drew ?_) | (with_reducible refine Below.setCell ?_ ?_ _) | (with_reducible assumption) | go_size | (simp only [size_addsW, World.size_alloc, World.size_drew, World.size_setCell]; omega)))) (by omega)).mono ?_); rintro e w' ⟨rfl, hb⟩; obtain ⟨o1, n1, rfl⟩ := below_adds hb; clear hb))
          go_returns
          exact ⟨rfl, (by repeat' (first | (with_reducible exact Below.refl _ _) | (with_reducible refine Below.adds_ ?_ ?_ _ _) | (with_reducible refine Below.alloc ?_ ?_ _) | (with_reducible refine Below.drew ?_) | (with_reducible refine Below.setCell ?_ ?_ _) | (with_reducible assumption) | go_size | (simp only [size_addsW, World.size_alloc, World.size_drew, World.size_setCell]; omega)))⟩
      · have t3 : (a == a') = false := by simp [h3]
        rw [show sameB a b zs a' b' zs' = false by simp [sameB, h1, h2, h3]]
        clear h3
        go_enter Tryd.func12, Tryd.ntmps12
        go_wp2_with (first | (go_at_call 32; (with_reducible refine (S_PictureValid a b _ _ zs _ (HR.out.keep (by repeat' (first | (with_reducible exact Below.refl _ _) | (with_reducible refine Below.adds_ ?_ ?_ _ _) | (with_reducible refine Below.alloc ?_ ?_ _) | (with_reducible refine Below.drew ?_) | (with_reducible refine Below.setCell ?_ ?_ _) | (with_reducible assumption) | go_size | (simp only [size_addsW, World.size_alloc, World.size_drew, World.size_setCell]; omega)))) (by omega)).mono ?_); rintro e w' ⟨rfl, hb⟩; obtain ⟨o1, n1, rfl⟩ := below_adds hb; clear hb) | (go_at_call 32; (with_reducible refine (S_PictureValid a' b' _ _ zs' _ (HR'.out.keep (by repeat' (first | (with_reducible exact Below.refl _ _) | (with_reducible refine Below.adds_ ?_ ?_ _ _) | (with_reducible refine Below.alloc ?_ ?_ _) | (with_reducible refine Below.drew ?_) | (with_reducible refine Below.setCell ?_ ?_ _) | (with_reducible assumption) | go_size | (simp only [size_addsW, World.size_alloc, World.size_drew, World.size_setCell]; omega)))) (by omega)).mono ?_); rintro e w' ⟨rfl, hb⟩; obtain ⟨o1, n1, rfl⟩ := below_adds hb; clear hb))
        go_returns
        exact ⟨rfl, (by repeat' (first | (with_reducible exact Below.refl _ _) | (with_reducible refine Below.adds_ ?_ ?_ _ _) | (with_reducible refine Below.alloc ?_ ?_ _) | (with_reducible refine Below.drew ?_) | (with_reducible refine Below.setCell ?_ ?_ _) | (with_reducible assumption) | go_size | (simp only [size_addsW, World.size_alloc, World.size_drew, World.size_setCell]; omega)))⟩

/-- the sum of absolute differences of the first n numbers -/
def sad (f g : Nat → Int) : Nat → Int
  | 0 => 0
  | n + 1 => sad f g n + max (f n - g n) (g n - f n)
theorem sad_bd {f g : Nat → Int} (n : Nat) (h : ∀ k, k < n → (0 ≤ f k ∧ f k ≤ 255) ∧ (0 ≤ g k ∧ g k ≤ 255)) : 0 ≤ sad f g n ∧ sad f g n ≤ 255 * n := by
  induction n with
  | zero => simp [sad]
  | succ n ih =>
    have h1 := ih (fun k hk => h k (by omega))
    have h2 := h n (by omega)
    simp only [sad]
    omega
theorem sad_congr {f g f' g' : Nat → Int} (n : Nat) (h : ∀ k, k < n → f k = f' k ∧ g k = g' k) : sad f g n = sad f' g' n := by
  induction n with
  | zero => rfl
  | succ n ih => rw [sad, sad, ih (fun k hk => h k (by omega)), (h n (by omega)).1, (h n (by omega)).2]

def CostRel (f g : Nat → Int) (n : Nat) (w : World) (s i : Value) (wr : World) : Prop := ∃ (k m : Nat), k ≤ n ∧ i = .int .i64 (k : Int) ∧ s = .int .i64 (sad f g k) ∧ wr = w.drewN m

theorem halfV_bd {a b : Int} {zs : List Int} (h : M.samplesB zs = true) (x y : Int) : 0 ≤ halfV a b zs x y ∧ halfV a b zs x y ≤ 255 := by
  have h1 := pix_bd (a := a) (b := b) h (x / 2) (y / 2)
  have h2 := pix_bd (a := a) (b := b) h (x / 2 + 1) (y / 2)
  have h3 := pix_bd (a := a) (b := b) h (x / 2) (y / 2 + 1)
  have h4 := pix_bd (a := a) (b := b) h (x / 2 + 1) (y / 2 + 1)
  unfold halfV
  split <;> split <;> omega
theorem mvL_get (a b : Int) (zs : List Int) (x y u v : Int) (n k : Nat) (h : k < n) : (mvL a b zs x y u v n).getD k 0 = mvF a b zs x y u v k := by
  simp [mvL, List.getD_eq_getElem?_getD, h]

/-- what a vector costs -/
def tgt (a b : Int) (ts : List Int) (x y : Int) (k : Nat) : Int := pix a b ts (x + (k % 8 : Nat)) (y + (k / 8 : Nat))
def cost (a b : Int) (ts rs : List Int) (x y u v : Int) : Int := sad (tgt a b ts x y) (mvF a b rs x y u v) 64

def MCRel (f g : Nat → Int) (Wb : World) (o1 : Array Obj) (s i : Value) (wr : World) : Prop := ∃ (k nn : Nat) (oo : Array Obj), k ≤ 64 ∧ i = .int .i64 (k : Int) ∧ s = .int .i64 (sad f g k) ∧ wr = addsW Wb (o1 ++ oo) nn
theorem adds_nil (w : World) (os : Array Obj) (n : Nat) : addsW w os n = addsW w (os ++ #[]) n := by simp

end Go.Proofs.YtijccageaingjaaDoor
