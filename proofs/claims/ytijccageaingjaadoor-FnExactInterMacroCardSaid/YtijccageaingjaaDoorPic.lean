/- Pictures: validity, copies, comparisons, samples. -/
import Derived.Test.YtijccageaingjaaDoorEq
import Derived.Test.YtijccageaingjaaDoorFilter
import Derived.Test.YtijccageaingjaaDoorNew
import Derived.Deep.RegionHeld3
import Derived.Deep.DeepCutAuto
import Derived.IntWalk
namespace Go.Proofs.YtijccageaingjaaDoor
open Go.RowKit
set_option linter.unusedVariables false
set_option linter.unusedSimpArgs false

attribute [local go_sem] size_addsW cell?_addsW frozen?_addsW setCell_addsW drew_addsW adds_addsW setCell_twice alloc_adds0 size_adds0 adds_adds0 sel2 sel3 sel4 sel5 sel6 sel7 sel8 sel9 lt_more lt_more2 lt_more3 lt_more4 adds_drew adds_drewN drewN_addsW ltA_1_1 ltA_1_2 ltA_1_3 ltA_1_4 ltA_1_5 ltA_1_6 ltA_2_1 ltA_2_2 ltA_2_3 ltA_2_4 ltA_2_5 ltA_2_6 ltA_3_1 ltA_3_2 ltA_3_3 ltA_3_4 ltA_3_5 ltA_3_6 ltA_4_1 ltA_4_2 ltA_4_3 ltA_4_4 ltA_4_5 ltA_4_6 ltA_5_1 ltA_5_2 ltA_5_3 ltA_5_4 ltA_5_5 ltA_5_6 ltA_6_1 ltA_6_2 ltA_6_3 ltA_6_4 ltA_6_5 ltA_6_6 ltA_7_1 ltA_7_2 ltA_7_3 ltA_7_4 ltA_7_5 ltA_7_6 ltA_8_1 ltA_8_2 ltA_8_3 ltA_8_4 ltA_8_5 ltA_8_6 ltA_9_1 ltA_9_2 ltA_9_3 ltA_9_4 ltA_9_5 ltA_9_6 ltA_10_1 ltA_10_2 ltA_10_3 ltA_10_4 ltA_10_5 ltA_10_6 ltA_11_1 ltA_11_2 ltA_11_3 ltA_11_4 ltA_11_5 ltA_11_6 ltA_12_1 ltA_12_2 ltA_12_3 ltA_12_4 ltA_12_5 ltA_12_6

/-- a picture is valid -/
def picB (a b : Int) (zs : List Int) : Bool := sideB a && sideB b && decide ((zs.length : Int) = a * b) && M.samplesB zs
theorem picB_iff {a b : Int} {zs : List Int} : picB a b zs = true ↔ sideB a = true ∧ sideB b = true ∧ (zs.length : Int) = a * b ∧ M.samplesB zs = true := by
  simp [picB, and_assoc]
theorem picB_no {a b : Int} {zs : List Int} (h : sideB a = false ∨ sideB b = false ∨ ¬ (zs.length : Int) = a * b ∨ M.samplesB zs = false) : picB a b zs = false := by
  rcases h with h | h | h | h <;> simp [picB, h]
theorem sideB_bd {n : Int} (h : sideB n = true) : 8 ≤ n ∧ n ≤ 32 ∧ n % 8 = 0 := by simpa [sideB] using h

theorem RowAt.new_ (k : IntKind) {w : World} (zs : List Int) (t : TypeId) (g : Nat) (hg : g = w.heap.size) : RowAt k (w.alloc (.cells (zs.map (Value.int k)).toArray t)) (some ⟨g, 0, none⟩) zs := by
  subst hg; exact RowAt.new k w zs t

theorem I_PictureValid (a b : Int) (A : Option Addr) (c : Nat) (zs : List Int) (w : World) (hr : RowAt .i64 w A zs) (hl : zs.length ≤ 1000000000000) :
    Calls Tryd.prog 37 #[.agg #[.int .i64 a, .int .i64 b, .slice A zs.length c]] w fun e w' => e = .returned (.bool (picB a b zs)) ∧ Below w.heap.size w w' := by
  have HR := Lib.hid hr
  clear hr
  cases h1 : sideB a
  · have e1 : picB a b zs = false := picB_no (.inl h1)
    rw [e1]
    clear e1
    go_enter Tryd.func37, Tryd.ntmps37
    go_wp2_with (go_at_call 48; refine (I_sideValid _ _).mono ?_; rintro e w' ⟨rfl, rfl⟩)
    go_returns
    exact ⟨rfl, (by repeat' (first | (with_reducible exact Below.refl _ _) | (with_reducible refine Below.adds_ ?_ ?_ _ _) | (with_reducible refine Below.alloc ?_ ?_ _) | (with_reducible refine Below.drew ?_) | (with_reducible refine Below.setCell ?_ ?_ _) | (with_reducible assumption) | go_size | (simp only [size_addsW, World.size_alloc, World.size_drew, World.size_setCell]; omega)))⟩
  · cases h2 : sideB b
    · have e1 : picB a b zs = false := picB_no (.inr (.inl h2))
      rw [e1]
      clear e1
      go_enter Tryd.func37, Tryd.ntmps37
      go_wp2_with (go_at_call 48; refine (I_sideValid _ _).mono ?_; rintro e w' ⟨rfl, rfl⟩)
      go_returns
      exact ⟨rfl, (by repeat' (first | (with_reducible exact Below.refl _ _) | (with_reducible refine Below.adds_ ?_ ?_ _ _) | (with_reducible refine Below.alloc ?_ ?_ _) | (with_reducible refine Below.drew ?_) | (with_reducible refine Below.setCell ?_ ?_ _) | (with_reducible assumption) | go_size | (simp only [size_addsW, World.size_alloc, World.size_drew, World.size_setCell]; omega)))⟩
    · have ha := sideB_bd h1
      have hb := sideB_bd h2
      obtain ⟨m, hm⟩ : ∃ m : Int, m = a * b := ⟨_, rfl⟩
      have hmb : 0 ≤ m ∧ m ≤ 1024 := by
        rw [hm]
        exact ⟨Int.mul_nonneg (by omega) (by omega), by have := Int.mul_le_mul ha.2.1 hb.2.1 (by omega) (by omega); omega⟩
      have HM := Lib.hid hm
      have hmul : wrap64 (a * b) = m := by rw [← hm]; exact IntWalk.wrap64_in _ (by omega)
      clear hm ha hb
      by_cases h3 : (zs.length : Int) = m
      · have e1 : picB a b zs = M.samplesB zs := by
          have : (zs.length : Int) = a * b := h3.trans HM.out
          simp [picB, h1, h2, this]
        rw [e1]
        clear e1
        have hb3 : ((zs.length : Int) != m) = false := by simp [h3]
        have H3 := Lib.hid h3
        clear h3
        go_enter Tryd.func37, Tryd.ntmps37
        go_wp2_with (first | (go_at_call 48; refine (I_sideValid _ _).mono ?_; rintro e w' ⟨rfl, rfl⟩) | (go_at_call 49; refine (I_samplesIn _ _ zs _ (HR.out.keep (by repeat' (first | (with_reducible exact Below.refl _ _) | (with_reducible refine Below.adds_ ?_ ?_ _ _) | (with_reducible refine Below.alloc ?_ ?_ _) | (with_reducible refine Below.drew ?_) | (with_reducible refine Below.setCell ?_ ?_ _) | (with_reducible assumption) | go_size | (simp only [size_addsW, World.size_alloc, World.size_drew, World.size_setCell]; omega)))) (by omega)).mono ?_; rintro e w' ⟨rfl, rfl⟩))
        go_returns
        exact ⟨rfl, (by repeat' (first | (with_reducible exact Below.refl _ _) | (with_reducible refine Below.adds_ ?_ ?_ _ _) | (with_reducible refine Below.alloc ?_ ?_ _) | (with_reducible refine Below.drew ?_) | (with_reducible refine Below.setCell ?_ ?_ _) | (with_reducible assumption) | go_size | (simp only [size_addsW, World.size_alloc, World.size_drew, World.size_setCell]; omega)))⟩
      · have e1 : picB a b zs = false := picB_no (.inr (.inr (.inl (fun e => h3 (e.trans HM.out.symm)))))
        rw [e1]
        clear e1
        have hb3 : ((zs.length : Int) != m) = true := by simp [h3]
        have H3 := Lib.hid h3
        clear h3
        go_enter Tryd.func37, Tryd.ntmps37
        go_wp2_with (first | (go_at_call 48; refine (I_sideValid _ _).mono ?_; rintro e w' ⟨rfl, rfl⟩))
        go_returns
        exact ⟨rfl, (by repeat' (first | (with_reducible exact Below.refl _ _) | (with_reducible refine Below.adds_ ?_ ?_ _ _) | (with_reducible refine Below.alloc ?_ ?_ _) | (with_reducible refine Below.drew ?_) | (with_reducible refine Below.setCell ?_ ?_ _) | (with_reducible assumption) | go_size | (simp only [size_addsW, World.size_alloc, World.size_drew, World.size_setCell]; omega)))⟩

theorem L_szPicture (a b : Int) (A : Option Addr) (len c : Nat) (left : Int) (w : World) (hn : len ≤ 9223372036854775807) (hl : 0 ≤ left ∧ left ≤ 1048576) :
    Calls Tryd.prog 4 #[.agg #[.int .i64 a, .int .i64 b, .slice A len c], .int .i64 left] w fun e w' => e = .returned (.int .i64 (if left < len then -1 else left - len)) ∧ Below w.heap.size w w' := by
  by_cases hc : left < len
  · rw [if_pos hc]
    go_enter Tryd.func4, Tryd.ntmps4
    go_wp2_with (go_at_call 11; refine (L_szIntS _ _ _ _ _ hn hl).mono ?_; rintro e w' ⟨rfl, rfl⟩; rw [if_pos hc])
    go_returns
    exact ⟨rfl, (by repeat' (first | (with_reducible exact Below.refl _ _) | (with_reducible refine Below.adds_ ?_ ?_ _ _) | (with_reducible refine Below.alloc ?_ ?_ _) | (with_reducible refine Below.drew ?_) | (with_reducible refine Below.setCell ?_ ?_ _) | (with_reducible assumption) | go_size | (simp only [size_addsW, World.size_alloc, World.size_drew, World.size_setCell]; omega)))⟩
  · rw [if_neg hc]
    go_enter Tryd.func4, Tryd.ntmps4
    go_wp2_with (go_at_call 11; refine (L_szIntS _ _ _ _ _ hn hl).mono ?_; rintro e w' ⟨rfl, rfl⟩; rw [if_neg hc])
    go_returns
    exact ⟨rfl, (by repeat' (first | (with_reducible exact Below.refl _ _) | (with_reducible refine Below.adds_ ?_ ?_ _ _) | (with_reducible refine Below.alloc ?_ ?_ _) | (with_reducible refine Below.drew ?_) | (with_reducible refine Below.setCell ?_ ?_ _) | (with_reducible assumption) | go_size | (simp only [size_addsW, World.size_alloc, World.size_drew, World.size_setCell]; omega)))⟩

/-- a copy of a picture: its samples lie in new memory -/
def PicGot (a b : Int) (zs : List Int) (w : World) (e : Ending) (w' : World) : Prop :=
  ∃ g : Nat, e = .returned (.agg #[.int .i64 a, .int .i64 b, .slice (some ⟨g, 0, none⟩) zs.length zs.length]) ∧ RowAt .i64 w' (some ⟨g, 0, none⟩) zs ∧ w.heap.size ≤ g ∧ Below w.heap.size w w'

theorem L_toPicture (a b : Int) (A : Option Addr) (c : Nat) (zs : List Int) (w : World) (hr : RowAt .i64 w A zs) (hl : zs.length ≤ 1048576) :
    Calls Tryd.prog 6 #[.agg #[.int .i64 a, .int .i64 b, .slice A zs.length c]] w (PicGot a b zs w) := by
  have HR := Lib.hid hr
  clear hr
  go_enter Tryd.func6, Tryd.ntmps6
  go_wp2_with (go_at_call 17; refine (L_toIntS _ _ zs _ (HR.out.keep (by repeat' (first | (with_reducible exact Below.refl _ _) | (with_reducible refine Below.adds_ ?_ ?_ _ _) | (with_reducible refine Below.alloc ?_ ?_ _) | (with_reducible refine Below.drew ?_) | (with_reducible refine Below.setCell ?_ ?_ _) | (with_reducible assumption) | go_size | (simp only [size_addsW, World.size_alloc, World.size_drew, World.size_setCell]; omega)))) hl).mono ?_; rintro e w' ⟨rfl, o, ho, rfl⟩; have HO := Lib.hid ho; clear ho)
  go_returns
  refine ⟨_, rfl, ?_, ?_, (by repeat' (first | (with_reducible exact Below.refl _ _) | (with_reducible refine Below.adds_ ?_ ?_ _ _) | (with_reducible refine Below.alloc ?_ ?_ _) | (with_reducible refine Below.drew ?_) | (with_reducible refine Below.setCell ?_ ?_ _) | (with_reducible assumption) | go_size | (simp only [size_addsW, World.size_alloc, World.size_drew, World.size_setCell]; omega)))⟩
  · rw [HO.out]
    exact RowAt.new_ .i64 _ _ _ (by simp)
  · omega

theorem L_eqPicture (a b : Int) (A A' : Option Addr) (c c' : Nat) (zs : List Int) (w : World) (hr : RowAt .i64 w A zs) (hr' : RowAt .i64 w A' zs) (hl : zs.length ≤ 1048576) :
    Calls Tryd.prog 10 #[.agg #[.int .i64 a, .int .i64 b, .slice A zs.length c], .agg #[.int .i64 a, .int .i64 b, .slice A' zs.length c']] w fun e w' => e = .returned (.bool true) ∧ Below w.heap.size w w' := by
  have HR := Lib.hid hr
  have HR' := Lib.hid hr'
  clear hr hr'
  go_enter Tryd.func10, Tryd.ntmps10
  go_wp2_with (go_at_call 31; refine (L_eqIntS _ _ _ _ zs _ (HR.out.keep (by repeat' (first | (with_reducible exact Below.refl _ _) | (with_reducible refine Below.adds_ ?_ ?_ _ _) | (with_reducible refine Below.alloc ?_ ?_ _) | (with_reducible refine Below.drew ?_) | (with_reducible refine Below.setCell ?_ ?_ _) | (with_reducible assumption) | go_size | (simp only [size_addsW, World.size_alloc, World.size_drew, World.size_setCell]; omega)))) (HR'.out.keep (by repeat' (first | (with_reducible exact Below.refl _ _) | (with_reducible refine Below.adds_ ?_ ?_ _ _) | (with_reducible refine Below.alloc ?_ ?_ _) | (with_reducible refine Below.drew ?_) | (with_reducible refine Below.setCell ?_ ?_ _) | (with_reducible assumption) | go_size | (simp only [size_addsW, World.size_alloc, World.size_drew, World.size_setCell]; omega)))) (by omega)).mono ?_; rintro e w' ⟨rfl, hb⟩; obtain ⟨o1, n1, rfl⟩ := below_adds hb; clear hb)
  go_returns
  exact ⟨rfl, (by repeat' (first | (with_reducible exact Below.refl _ _) | (with_reducible refine Below.adds_ ?_ ?_ _ _) | (with_reducible refine Below.alloc ?_ ?_ _) | (with_reducible refine Below.drew ?_) | (with_reducible refine Below.setCell ?_ ?_ _) | (with_reducible assumption) | go_size | (simp only [size_addsW, World.size_alloc, World.size_drew, World.size_setCell]; omega)))⟩

/-- a sample; positions outside are moved inside -/
def pix (a b : Int) (zs : List Int) (x y : Int) : Int := zs.getD (min (max y 0) (b - 1) * a + min (max x 0) (a - 1)).toNat 0

theorem pix_idx {a b : Int} {zs : List Int} (ha : 8 ≤ a ∧ a ≤ 32) (hb : 8 ≤ b ∧ b ≤ 32) (hz : (zs.length : Int) = a * b) (x y : Int) :
    ∃ (i : Nat) (m : Int), i < zs.length ∧ m = min (max y 0) (b - 1) * a ∧ 0 ≤ m ∧ m ≤ 1024 ∧ (i : Int) = m + min (max x 0) (a - 1) ∧ pix a b zs x y = zs.getD i 0 := by
  have h1 : 0 ≤ min (max y 0) (b - 1) := by omega
  have h2 : min (max y 0) (b - 1) * a ≤ (b - 1) * a := Int.mul_le_mul_of_nonneg_right (by omega) (by omega)
  have h3 : 0 ≤ min (max y 0) (b - 1) * a := Int.mul_nonneg h1 (by omega)
  have h4 : (b - 1) * a = a * b - a := by rw [Int.sub_mul, Int.one_mul, Int.mul_comm]
  have h5 : a * b ≤ 1024 := by have := Int.mul_le_mul ha.2 hb.2 (by omega) (by omega); omega
  refine ⟨(min (max y 0) (b - 1) * a + min (max x 0) (a - 1)).toNat, _, by omega, rfl, h3, by omega, by omega, rfl⟩

set_option maxRecDepth 100000 in
theorem I_at (a b x y : Int) (A : Option Addr) (c : Nat) (zs : List Int) (w : World) (hr : RowAt .i64 w A zs) (ha : 8 ≤ a ∧ a ≤ 32) (hb : 8 ≤ b ∧ b ≤ 32) (hz : (zs.length : Int) = a * b) :
    Calls Tryd.prog 42 #[.agg #[.int .i64 a, .int .i64 b, .slice A zs.length c], .int .i64 x, .int .i64 y] w fun e w' => e = .returned (.int .i64 (pix a b zs x y)) ∧ Below w.heap.size w w' := by
  obtain ⟨i, m, hi, hm, hm0, hm1, him, hpix⟩ := pix_idx ha hb hz x y
  obtain ⟨bl, off, z, rfl, hbl, hzz, hc⟩ := hr.at_ hi
  rw [hpix, ← hzz]
  have e1 : IntKind.i64.wrap (b - 1) = b - 1 := IntWalk.i64_in _ (by omega)
  have e2 : IntKind.i64.wrap (a - 1) = a - 1 := IntWalk.i64_in _ (by omega)
  have e3 : IntKind.i64.wrap (min (max y 0) (b - 1) * a) = m := by rw [← hm]; exact IntWalk.i64_in _ (by omega)
  have e4 : IntKind.i64.wrap (m + min (max x 0) (a - 1)) = (i : Int) := by rw [← him]; exact IntWalk.i64_in _ (by omega)
  have f1 : (0 : Int) ≤ (i : Int) := by omega
  have f2 : (i : Int) < (zs.length : Int) := by omega
  have HA := Lib.hid ha
  clear hm him hpix hzz hr hm0 hm1 hz ha hb hi
  go_enter Tryd.func42, Tryd.ntmps42
  go_wp2_with fail
  refine wp_tail 18 (by kernel_rfl) (by kernel_rfl) ?_
  simp only [List.take_succ_cons, List.take_zero, List.drop_succ_cons, List.drop_zero]
  repeat still_step
  still_call (still_of (I_clamp _ _ _ _))
  repeat still_step
  still_call (still_of (I_clamp _ _ _ _))
  repeat still_step
  refine wpStill_nil ?_
  go_wp2
  go_returns
  exact ⟨rfl, (by repeat' (first | (with_reducible exact Below.refl _ _) | (with_reducible refine Below.adds_ ?_ ?_ _ _) | (with_reducible refine Below.alloc ?_ ?_ _) | (with_reducible refine Below.drew ?_) | (with_reducible refine Below.setCell ?_ ?_ _) | (with_reducible assumption) | go_size | (simp only [size_addsW, World.size_alloc, World.size_drew, World.size_setCell]; omega)))⟩

end Go.Proofs.YtijccageaingjaaDoor
