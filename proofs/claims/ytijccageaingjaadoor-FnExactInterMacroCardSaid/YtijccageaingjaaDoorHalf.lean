/- Samples between the positions of a picture. -/
import Derived.Test.YtijccageaingjaaDoorPic
namespace Go.Proofs.YtijccageaingjaaDoor
open Go.RowKit
set_option linter.unusedVariables false
set_option linter.unusedSimpArgs false

attribute [local go_sem] size_addsW cell?_addsW frozen?_addsW setCell_addsW drew_addsW adds_addsW setCell_twice alloc_adds0 size_adds0 adds_adds0 sel2 sel3 sel4 sel5 sel6 sel7 sel8 sel9 lt_more lt_more2 lt_more3 lt_more4 adds_drew adds_drewN drewN_addsW ltA_1_1 ltA_1_2 ltA_1_3 ltA_1_4 ltA_1_5 ltA_1_6 ltA_2_1 ltA_2_2 ltA_2_3 ltA_2_4 ltA_2_5 ltA_2_6 ltA_3_1 ltA_3_2 ltA_3_3 ltA_3_4 ltA_3_5 ltA_3_6 ltA_4_1 ltA_4_2 ltA_4_3 ltA_4_4 ltA_4_5 ltA_4_6 ltA_5_1 ltA_5_2 ltA_5_3 ltA_5_4 ltA_5_5 ltA_5_6 ltA_6_1 ltA_6_2 ltA_6_3 ltA_6_4 ltA_6_5 ltA_6_6 ltA_7_1 ltA_7_2 ltA_7_3 ltA_7_4 ltA_7_5 ltA_7_6 ltA_8_1 ltA_8_2 ltA_8_3 ltA_8_4 ltA_8_5 ltA_8_6 ltA_9_1 ltA_9_2 ltA_9_3 ltA_9_4 ltA_9_5 ltA_9_6 ltA_10_1 ltA_10_2 ltA_10_3 ltA_10_4 ltA_10_5 ltA_10_6 ltA_11_1 ltA_11_2 ltA_11_3 ltA_11_4 ltA_11_5 ltA_11_6 ltA_12_1 ltA_12_2 ltA_12_3 ltA_12_4 ltA_12_5 ltA_12_6

theorem pix_bd {a b : Int} {zs : List Int} (h : M.samplesB zs = true) (x y : Int) : 0 ≤ pix a b zs x y ∧ pix a b zs x y ≤ 255 := by
  unfold pix
  rw [List.getD_eq_getElem?_getD]
  generalize (min (max y 0) (b - 1) * a + min (max x 0) (a - 1)).toNat = i
  by_cases hi : i < zs.length
  · rw [List.getElem?_eq_getElem hi]
    have := List.all_eq_true.1 h _ (List.getElem_mem hi)
    exact M.inB_iff.1 this
  · rw [List.getElem?_eq_none (by omega)]; simp

set_option maxRecDepth 100000 in
theorem S_l1At (a b x y : Int) (A : Option Addr) (c : Nat) (zs : List Int) (w : World) (hr : RowAt .i64 w A zs) (ha : 8 ≤ a ∧ a ≤ 32) (hb : 8 ≤ b ∧ b ≤ 32) (hz : (zs.length : Int) = a * b) :
    Calls Tryd.prog 55 #[.agg #[.int .i64 a, .int .i64 b, .slice A zs.length c], .int .i64 x, .int .i64 y] w fun e w' => e = .returned (.int .i64 (pix a b zs x y)) ∧ Below w.heap.size w w' := by
  obtain ⟨i, m, hi, hm, hm0, hm1, him, hpix⟩ := pix_idx ha hb hz x y
  obtain ⟨bl, off, z, rfl, hbl, hzz, hc⟩ := hr.at_ hi
  rw [hpix, ← hzz]
  have e1 : IntKind.i64.wrap (b - 1) = b - 1 := IntWalk.i64_in _ (by omega)
  have e2 : IntKind.i64.wrap (a - 1) = a - 1 := IntWalk.i64_in _ (by omega)
  have e3 : IntKind.i64.wrap (max 0 (min (b - 1) y) * a) = m := by rw [show max 0 (min (b - 1) y) = min (max y 0) (b - 1) by omega, ← hm]; exact IntWalk.i64_in _ (by omega)
  have e4 : IntKind.i64.wrap (m + max 0 (min (a - 1) x)) = (i : Int) := by rw [show max 0 (min (a - 1) x) = min (max x 0) (a - 1) by omega, ← him]; exact IntWalk.i64_in _ (by omega)
  have f1 : (0 : Int) ≤ (i : Int) := by omega
  have f2 : (i : Int) < (zs.length : Int) := by omega
  clear hm him hpix hzz hr hm0 hm1 hz ha hb hi
  go_enter Tryd.func55, Tryd.ntmps55
  go_wp2_with fail
  refine wp_tail 18 (by kernel_rfl) (by kernel_rfl) ?_
  simp only [List.take_succ_cons, List.take_zero, List.drop_succ_cons, List.drop_zero]
  repeat still_step
  still_call (still_of (S_l1Clip _ _ _ _))
  repeat still_step
  still_call (still_of (S_l1Clip _ _ _ _))
  repeat still_step
  refine wpStill_nil ?_
  go_wp2
  go_returns
  exact ⟨rfl, (by repeat' (first | (with_reducible exact Below.refl _ _) | (with_reducible refine Below.adds_ ?_ ?_ _ _) | (with_reducible refine Below.alloc ?_ ?_ _) | (with_reducible refine Below.drew ?_) | (with_reducible refine Below.setCell ?_ ?_ _) | (with_reducible assumption) | go_size | (simp only [size_addsW, World.size_alloc, World.size_drew, World.size_setCell]; omega)))⟩

def halfV (a b : Int) (zs : List Int) (x y : Int) : Int :=
  if x % 2 = 0 then (if y % 2 = 0 then pix a b zs (x / 2) (y / 2) else (pix a b zs (x / 2) (y / 2) + pix a b zs (x / 2) (y / 2 + 1) + 1) / 2)
  else (if y % 2 = 0 then (pix a b zs (x / 2) (y / 2) + pix a b zs (x / 2 + 1) (y / 2) + 1) / 2 else (pix a b zs (x / 2) (y / 2) + pix a b zs (x / 2 + 1) (y / 2) + pix a b zs (x / 2) (y / 2 + 1) + pix a b zs (x / 2 + 1) (y / 2 + 1) + 2) / 4)

theorem tmod_even {x : Int} (h : x % 2 = 0) : (x.tmod 2 == 0) = true := by
  have e1 := Int.tmod_add_mul_tdiv x 2
  have e2 := Int.tmod_lt_of_pos x (show (0 : Int) < 2 by omega)
  have e3 := Int.lt_tmod_of_pos x (show (0 : Int) < 2 by omega)
  simp only [beq_iff_eq]; omega
theorem tmod_odd {x : Int} (h : x % 2 = 1) : (x.tmod 2 == 0) = false := by
  have e1 := Int.tmod_add_mul_tdiv x 2
  simp only [beq_eq_false_iff_ne, ne_eq]; omega

theorem halfV_eq (a b : Int) (zs : List Int) (x y X Y : Int) (hX : x / 2 = X) (hY : y / 2 = Y) : halfV a b zs x y =
  if x % 2 = 0 then (if y % 2 = 0 then pix a b zs X Y else (pix a b zs X Y + pix a b zs X (Y + 1) + 1) / 2)
  else (if y % 2 = 0 then (pix a b zs X Y + pix a b zs (X + 1) Y + 1) / 2 else (pix a b zs X Y + pix a b zs (X + 1) Y + pix a b zs X (Y + 1) + pix a b zs (X + 1) (Y + 1) + 2) / 4) := by
  subst hX hY; rfl

set_option maxHeartbeats 2000000 in
theorem I_half (a b x y : Int) (A : Option Addr) (c : Nat) (zs : List Int) (w : World) (hr : RowAt .i64 w A zs) (hv : picB a b zs = true) (hx : -100000 ≤ x ∧ x ≤ 100000) (hy : -100000 ≤ y ∧ y ≤ 100000) :
    Calls Tryd.prog 38 #[.agg #[.int .i64 a, .int .i64 b, .slice A zs.length c], .int .i64 x, .int .i64 y] w fun e w' => e = .returned (.int .i64 (halfV a b zs x y)) ∧ Below w.heap.size w w' := by
  obtain ⟨h1, h2, h3, h4⟩ := picB_iff.1 hv
  have ha := sideB_bd h1
  have hb := sideB_bd h2
  have HA := Lib.hid (show 8 ≤ a ∧ a ≤ 32 by omega)
  have HB := Lib.hid (show 8 ≤ b ∧ b ≤ 32 by omega)
  have HZ := Lib.hid h3
  have HS := Lib.hid h4
  have HR := Lib.hid hr
  clear h1 h2 h3 h4 ha hb hv hr
  obtain ⟨X, hX⟩ : ∃ X : Int, x / 2 = X := ⟨_, rfl⟩
  obtain ⟨Y, hY⟩ : ∃ Y : Int, y / 2 = Y := ⟨_, rfl⟩
  have b1 := pix_bd (a := a) (b := b) HS.out X Y
  have b2 := pix_bd (a := a) (b := b) HS.out (X + 1) Y
  have b3 := pix_bd (a := a) (b := b) HS.out X (Y + 1)
  have b4 := pix_bd (a := a) (b := b) HS.out (X + 1) (Y + 1)
  have hE := halfV_eq a b zs x y X Y hX hY
  generalize q1 : pix a b zs X Y = p1 at b1 hE
  generalize q2 : pix a b zs (X + 1) Y = p2 at b2 hE
  generalize q3 : pix a b zs X (Y + 1) = p3 at b3 hE
  generalize q4 : pix a b zs (X + 1) (Y + 1) = p4 at b4 hE
  have HP1 := Lib.hid q1
  have HP2 := Lib.hid q2
  have HP3 := Lib.hid q3
  have HP4 := Lib.hid q4
  clear q1 q2 q3 q4 HS
  rcases (show x % 2 = 0 ∨ x % 2 = 1 by omega) with px | px
  all_goals
    rcases (show y % 2 = 0 ∨ y % 2 = 1 by omega) with py | py
  · rw [show halfV a b zs x y = p1 from by rw [hE]; simp [px, py]]
    have k1 : (x + 1) / 2 = X := by omega
    have k2 : (y + 1) / 2 = Y := by omega
    clear hE px py
    go_enter Tryd.func38, Tryd.ntmps38
    go_wp2_with (first | (go_at_call 42; (with_reducible refine (I_at a b (X) (Y) _ _ zs _ (HR.out.keep (by repeat' (first | (with_reducible exact Below.refl _ _) | (with_reducible refine Below.adds_ ?_ ?_ _ _) | (with_reducible refine Below.alloc ?_ ?_ _) | (with_reducible refine Below.drew ?_) | (with_reducible refine Below.setCell ?_ ?_ _) | (with_reducible assumption) | go_size | (simp only [size_addsW, World.size_alloc, World.size_drew, World.size_setCell]; omega)))) HA.out HB.out HZ.out).mono ?_); rintro e w' ⟨rfl, hb⟩; obtain ⟨o1, n1, rfl⟩ := below_adds hb; clear hb; rw [HP1.out]))
    go_returns
    exact ⟨rfl, (by repeat' (first | (with_reducible exact Below.refl _ _) | (with_reducible refine Below.adds_ ?_ ?_ _ _) | (with_reducible refine Below.alloc ?_ ?_ _) | (with_reducible refine Below.drew ?_) | (with_reducible refine Below.setCell ?_ ?_ _) | (with_reducible assumption) | go_size | (simp only [size_addsW, World.size_alloc, World.size_drew, World.size_setCell]; omega)))⟩
  · rw [show halfV a b zs x y = (p1 + p3 + 1) / 2 from by rw [hE]; simp [px, py]]
    have k1 : (x + 1) / 2 = X := by omega
    have k2 : (y + 1) / 2 = Y + 1 := by omega
    have t2 : (Y == Y + 1) = false := by simp; omega
    clear hE px py
    have s1 : IntKind.i64.wrap (p1 + p3) = p1 + p3 := IntWalk.i64_in _ (by omega)
    have s2 : IntKind.i64.wrap (p1 + p3 + 1) = p1 + p3 + 1 := IntWalk.i64_in _ (by omega)
    have s3 : (p1 + p3 + 1).tdiv 2 = (p1 + p3 + 1) / 2 := Int.tdiv_eq_ediv_of_nonneg (by omega)
    have s4 : IntKind.i64.wrap ((p1 + p3 + 1) / 2) = (p1 + p3 + 1) / 2 := IntWalk.i64_in _ (by omega)
    go_enter Tryd.func38, Tryd.ntmps38
    go_wp2_with fail
    go_region_held3 (fun w' => w'.cell? ⟨w.heap.size, 0, none⟩ = some (.int .i64 a) ∧ w'.cell? ⟨w.heap.size, 1, none⟩ = some (.int .i64 b) ∧ w'.cell? ⟨w.heap.size, 2, none⟩ = some (.slice A zs.length c)) (first | (go_simp; done) | (go_keep; done)) (first | (go_at_call 42; (with_reducible refine (I_at a b (X) (Y) _ _ zs _ (HR.out.keep (by repeat' (first | (with_reducible exact Below.refl _ _) | (with_reducible refine Below.adds_ ?_ ?_ _ _) | (with_reducible refine Below.alloc ?_ ?_ _) | (with_reducible refine Below.drew ?_) | (with_reducible refine Below.setCell ?_ ?_ _) | (with_reducible assumption) | go_size | (simp only [size_addsW, World.size_alloc, World.size_drew, World.size_setCell]; omega)))) HA.out HB.out HZ.out).mono ?_); rintro e w' ⟨rfl, hb⟩; obtain ⟨o1, n1, rfl⟩ := below_adds hb; clear hb; rw [HP1.out]) | (go_at_call 42; (with_reducible refine (I_at a b (X) (Y + 1) _ _ zs _ (HR.out.keep (by repeat' (first | (with_reducible exact Below.refl _ _) | (with_reducible refine Below.adds_ ?_ ?_ _ _) | (with_reducible refine Below.alloc ?_ ?_ _) | (with_reducible refine Below.drew ?_) | (with_reducible refine Below.setCell ?_ ?_ _) | (with_reducible assumption) | go_size | (simp only [size_addsW, World.size_alloc, World.size_drew, World.size_setCell]; omega)))) HA.out HB.out HZ.out).mono ?_); rintro e w' ⟨rfl, hb⟩; obtain ⟨o1, n1, rfl⟩ := below_adds hb; clear hb; rw [HP3.out]))
    all_goals
      go_wp2_with fail
      go_returns
      exact ⟨rfl, (by repeat' (first | (with_reducible exact Below.refl _ _) | (with_reducible refine Below.adds_ ?_ ?_ _ _) | (with_reducible refine Below.alloc ?_ ?_ _) | (with_reducible refine Below.drew ?_) | (with_reducible refine Below.setCell ?_ ?_ _) | (with_reducible assumption) | go_size | (simp only [size_addsW, World.size_alloc, World.size_drew, World.size_setCell]; omega)))⟩
  · rw [show halfV a b zs x y = (p1 + p2 + 1) / 2 from by rw [hE]; simp [px, py]]
    have k1 : (x + 1) / 2 = X + 1 := by omega
    have k2 : (y + 1) / 2 = Y := by omega
    have t1 : (X == X + 1) = false := by simp; omega
    clear hE px py
    have s1 : IntKind.i64.wrap (p1 + p2) = p1 + p2 := IntWalk.i64_in _ (by omega)
    have s2 : IntKind.i64.wrap (p1 + p2 + 1) = p1 + p2 + 1 := IntWalk.i64_in _ (by omega)
    have s3 : (p1 + p2 + 1).tdiv 2 = (p1 + p2 + 1) / 2 := Int.tdiv_eq_ediv_of_nonneg (by omega)
    have s4 : IntKind.i64.wrap ((p1 + p2 + 1) / 2) = (p1 + p2 + 1) / 2 := IntWalk.i64_in _ (by omega)
    go_enter Tryd.func38, Tryd.ntmps38
    go_wp2_with fail
    go_region_held3 (fun w' => w'.cell? ⟨w.heap.size, 0, none⟩ = some (.int .i64 a) ∧ w'.cell? ⟨w.heap.size, 1, none⟩ = some (.int .i64 b) ∧ w'.cell? ⟨w.heap.size, 2, none⟩ = some (.slice A zs.length c)) (first | (go_simp; done) | (go_keep; done)) (first | (go_at_call 42; (with_reducible refine (I_at a b (X) (Y) _ _ zs _ (HR.out.keep (by repeat' (first | (with_reducible exact Below.refl _ _) | (with_reducible refine Below.adds_ ?_ ?_ _ _) | (with_reducible refine Below.alloc ?_ ?_ _) | (with_reducible refine Below.drew ?_) | (with_reducible refine Below.setCell ?_ ?_ _) | (with_reducible assumption) | go_size | (simp only [size_addsW, World.size_alloc, World.size_drew, World.size_setCell]; omega)))) HA.out HB.out HZ.out).mono ?_); rintro e w' ⟨rfl, hb⟩; obtain ⟨o1, n1, rfl⟩ := below_adds hb; clear hb; rw [HP1.out]) | (go_at_call 42; (with_reducible refine (I_at a b (X + 1) (Y) _ _ zs _ (HR.out.keep (by repeat' (first | (with_reducible exact Below.refl _ _) | (with_reducible refine Below.adds_ ?_ ?_ _ _) | (with_reducible refine Below.alloc ?_ ?_ _) | (with_reducible refine Below.drew ?_) | (with_reducible refine Below.setCell ?_ ?_ _) | (with_reducible assumption) | go_size | (simp only [size_addsW, World.size_alloc, World.size_drew, World.size_setCell]; omega)))) HA.out HB.out HZ.out).mono ?_); rintro e w' ⟨rfl, hb⟩; obtain ⟨o1, n1, rfl⟩ := below_adds hb; clear hb; rw [HP2.out]))
    all_goals
      go_wp2_with fail
      go_returns
      exact ⟨rfl, (by repeat' (first | (with_reducible exact Below.refl _ _) | (with_reducible refine Below.adds_ ?_ ?_ _ _) | (with_reducible refine Below.alloc ?_ ?_ _) | (with_reducible refine Below.drew ?_) | (with_reducible refine Below.setCell ?_ ?_ _) | (with_reducible assumption) | go_size | (simp only [size_addsW, World.size_alloc, World.size_drew, World.size_setCell]; omega)))⟩
  · rw [show halfV a b zs x y = (p1 + p2 + p3 + p4 + 2) / 4 from by rw [hE]; simp [px, py]]
    have k1 : (x + 1) / 2 = X + 1 := by omega
    have k2 : (y + 1) / 2 = Y + 1 := by omega
    have t1 : (X == X + 1) = false := by simp; omega
    have t2 : (Y == Y + 1) = false := by simp; omega
    clear hE px py
    have s1 : IntKind.i64.wrap (p1 + p2) = p1 + p2 := IntWalk.i64_in _ (by omega)
    have s2 : IntKind.i64.wrap (p1 + p2 + p3) = p1 + p2 + p3 := IntWalk.i64_in _ (by omega)
    have s3 : IntKind.i64.wrap (p1 + p2 + p3 + p4) = p1 + p2 + p3 + p4 := IntWalk.i64_in _ (by omega)
    have s4 : IntKind.i64.wrap (p1 + p2 + p3 + p4 + 2) = p1 + p2 + p3 + p4 + 2 := IntWalk.i64_in _ (by omega)
    have s5 : (p1 + p2 + p3 + p4 + 2).tdiv 4 = (p1 + p2 + p3 + p4 + 2) / 4 := Int.tdiv_eq_ediv_of_nonneg (by omega)
    have s6 : IntKind.i64.wrap ((p1 + p2 + p3 + p4 + 2) / 4) = (p1 + p2 + p3 + p4 + 2) / 4 := IntWalk.i64_in _ (by omega)
    go_enter Tryd.func38, Tryd.ntmps38
    go_wp2_with fail
    go_region_held3 (fun w' => w'.cell? ⟨w.heap.size, 0, none⟩ = some (.int .i64 a) ∧ w'.cell? ⟨w.heap.size, 1, none⟩ = some (.int .i64 b) ∧ w'.cell? ⟨w.heap.size, 2, none⟩ = some (.slice A zs.length c)) (first | (go_simp; done) | (go_keep; done)) (first | (go_at_call 42; (with_reducible refine (I_at a b (X) (Y) _ _ zs _ (HR.out.keep (by repeat' (first | (with_reducible exact Below.refl _ _) | (with_reducible refine Below.adds_ ?_ ?_ _ _) | (with_reducible refine Below.alloc ?_ ?_ _) | (with_reducible refine Below.drew ?_) | (with_reducible refine Below.setCell ?_ ?_ _) | (with_reducible assumption) | go_size | (simp only [size_addsW, World.size_alloc, World.size_drew, World.size_setCell]; omega)))) HA.out HB.out HZ.out).mono ?_); rintro e w' ⟨rfl, hb⟩; obtain ⟨o1, n1, rfl⟩ := below_adds hb; clear hb; rw [HP1.out]) | (go_at_call 42; (with_reducible refine (I_at a b (X + 1) (Y) _ _ zs _ (HR.out.keep (by repeat' (first | (with_reducible exact Below.refl _ _) | (with_reducible refine Below.adds_ ?_ ?_ _ _) | (with_reducible refine Below.alloc ?_ ?_ _) | (with_reducible refine Below.drew ?_) | (with_reducible refine Below.setCell ?_ ?_ _) | (with_reducible assumption) | go_size | (simp only [size_addsW, World.size_alloc, World.size_drew, World.size_setCell]; omega)))) HA.out HB.out HZ.out).mono ?_); rintro e w' ⟨rfl, hb⟩; obtain ⟨o1, n1, rfl⟩ := below_adds hb; clear hb; rw [HP2.out]) | (go_at_call 42; (with_reducible refine (I_at a b (X) (Y + 1) _ _ zs _ (HR.out.keep (by repeat' (first | (with_reducible exact Below.refl _ _) | (with_reducible refine Below.adds_ ?_ ?_ _ _) | (with_reducible refine Below.alloc ?_ ?_ _) | (with_reducible refine Below.drew ?_) | (with_reducible refine Below.setCell ?_ ?_ _) | (with_reducible assumption) | go_size | (simp only [size_addsW, World.size_alloc, World.size_drew, World.size_setCell]; omega)))) HA.out HB.out HZ.out).mono ?_); rintro e w' ⟨rfl, hb⟩; obtain ⟨o1, n1, rfl⟩ := below_adds hb; clear hb; rw [HP3.out]) | (go_at_call 42; (with_reducible refine (I_at a b (X + 1) (Y + 1) _ _ zs _ (HR.out.keep (by repeat' (first | (with_reducible exact Below.refl _ _) | (with_reducible refine Below.adds_ ?_ ?_ _ _) | (with_reducible refine Below.alloc ?_ ?_ _) | (with_reducible refine Below.drew ?_) | (with_reducible refine Below.setCell ?_ ?_ _) | (with_reducible assumption) | go_size | (simp only [size_addsW, World.size_alloc, World.size_drew, World.size_setCell]; omega)))) HA.out HB.out HZ.out).mono ?_); rintro e w' ⟨rfl, hb⟩; obtain ⟨o1, n1, rfl⟩ := below_adds hb; clear hb; rw [HP4.out]))
    all_goals
      go_wp2_with fail
      go_returns
      exact ⟨rfl, (by repeat' (first | (with_reducible exact Below.refl _ _) | (with_reducible refine Below.adds_ ?_ ?_ _ _) | (with_reducible refine Below.alloc ?_ ?_ _) | (with_reducible refine Below.drew ?_) | (with_reducible refine Below.setCell ?_ ?_ _) | (with_reducible assumption) | go_size | (simp only [size_addsW, World.size_alloc, World.size_drew, World.size_setCell]; omega)))⟩

set_option maxHeartbeats 2000000 in
theorem S_l7Half (a b x y : Int) (A : Option Addr) (c : Nat) (zs : List Int) (w : World) (hr : RowAt .i64 w A zs) (hv : picB a b zs = true) (hx : -100000 ≤ x ∧ x ≤ 100000) (hy : -100000 ≤ y ∧ y ≤ 100000) :
    Calls Tryd.prog 44 #[.agg #[.int .i64 a, .int .i64 b, .slice A zs.length c], .int .i64 x, .int .i64 y] w fun e w' => e = .returned (.int .i64 (halfV a b zs x y)) ∧ Below w.heap.size w w' := by
  obtain ⟨h1, h2, h3, h4⟩ := picB_iff.1 hv
  have ha := sideB_bd h1
  have hb := sideB_bd h2
  have HA := Lib.hid (show 8 ≤ a ∧ a ≤ 32 by omega)
  have HB := Lib.hid (show 8 ≤ b ∧ b ≤ 32 by omega)
  have HZ := Lib.hid h3
  have HS := Lib.hid h4
  have HR := Lib.hid hr
  clear h1 h2 h3 h4 ha hb hv hr
  obtain ⟨X, hX⟩ : ∃ X : Int, x / 2 = X := ⟨_, rfl⟩
  obtain ⟨Y, hY⟩ : ∃ Y : Int, y / 2 = Y := ⟨_, rfl⟩
  have b1 := pix_bd (a := a) (b := b) HS.out X Y
  have b2 := pix_bd (a := a) (b := b) HS.out (X + 1) Y
  have b3 := pix_bd (a := a) (b := b) HS.out X (Y + 1)
  have b4 := pix_bd (a := a) (b := b) HS.out (X + 1) (Y + 1)
  have hE := halfV_eq a b zs x y X Y hX hY
  generalize q1 : pix a b zs X Y = p1 at b1 hE
  generalize q2 : pix a b zs (X + 1) Y = p2 at b2 hE
  generalize q3 : pix a b zs X (Y + 1) = p3 at b3 hE
  generalize q4 : pix a b zs (X + 1) (Y + 1) = p4 at b4 hE
  have HP1 := Lib.hid q1
  have HP2 := Lib.hid q2
  have HP3 := Lib.hid q3
  have HP4 := Lib.hid q4
  clear q1 q2 q3 q4 HS
  have HX := Lib.hid hX
  have HY := Lib.hid hY
  clear hX hY
  rcases (show x % 2 = 0 ∨ x % 2 = 1 by omega) with px | px
  all_goals
    rcases (show y % 2 = 0 ∨ y % 2 = 1 by omega) with py | py
  · rw [show halfV a b zs x y = p1 from by rw [hE]; simp [px, py]]
    have u1 : (x.tmod 2 == 0) = true := tmod_even px
    have u2 : (y.tmod 2 == 0) = true := tmod_even py
    have XB : -50001 ≤ X ∧ X ≤ 50001 := by have := HX.out; omega
    have YB : -50001 ≤ Y ∧ Y ≤ 50001 := by have := HY.out; omega
    clear hE px py
    go_enter Tryd.func44, Tryd.ntmps44
    go_wp2_with (first | (go_at_call 54; (with_reducible refine (S_l7Floor2 x _ (by omega)).mono ?_); rintro e w' ⟨rfl, rfl⟩; rw [HX.out]) | (go_at_call 54; (with_reducible refine (S_l7Floor2 y _ (by omega)).mono ?_); rintro e w' ⟨rfl, rfl⟩; rw [HY.out]) | (go_at_call 55; (with_reducible refine (S_l1At a b (X) (Y) _ _ zs _ (HR.out.keep (by repeat' (first | (with_reducible exact Below.refl _ _) | (with_reducible refine Below.adds_ ?_ ?_ _ _) | (with_reducible refine Below.alloc ?_ ?_ _) | (with_reducible refine Below.drew ?_) | (with_reducible refine Below.setCell ?_ ?_ _) | (with_reducible assumption) | go_size | (simp only [size_addsW, World.size_alloc, World.size_drew, World.size_setCell]; omega)))) HA.out HB.out HZ.out).mono ?_); rintro e w' ⟨rfl, hb⟩; obtain ⟨o1, n1, rfl⟩ := below_adds hb; clear hb; rw [HP1.out]))
    go_returns
    exact ⟨rfl, (by repeat' (first | (with_reducible exact Below.refl _ _) | (with_reducible refine Below.adds_ ?_ ?_ _ _) | (with_reducible refine Below.alloc ?_ ?_ _) | (with_reducible refine Below.drew ?_) | (with_reducible refine Below.setCell ?_ ?_ _) | (with_reducible assumption) | go_size | (simp only [size_addsW, World.size_alloc, World.size_drew, World.size_setCell]; omega)))⟩
  · rw [show halfV a b zs x y = (p1 + p3 + 1) / 2 from by rw [hE]; simp [px, py]]
    have u1 : (x.tmod 2 == 0) = true := tmod_even px
    have u2 : (y.tmod 2 == 0) = false := tmod_odd py
    have XB : -50001 ≤ X ∧ X ≤ 50001 := by have := HX.out; omega
    have YB : -50001 ≤ Y ∧ Y ≤ 50001 := by have := HY.out; omega
    clear hE px py
    go_enter Tryd.func44, Tryd.ntmps44
    go_wp2_with (first | (go_at_call 54; (with_reducible refine (S_l7Floor2 x _ (by omega)).mono ?_); rintro e w' ⟨rfl, rfl⟩; rw [HX.out]) | (go_at_call 54; (with_reducible refine (S_l7Floor2 y _ (by omega)).mono ?_); rintro e w' ⟨rfl, rfl⟩; rw [HY.out]) | (go_at_call 55; (with_reducible refine (S_l1At a b (X) (Y) _ _ zs _ (HR.out.keep (by repeat' (first | (with_reducible exact Below.refl _ _) | (with_reducible refine Below.adds_ ?_ ?_ _ _) | (with_reducible refine Below.alloc ?_ ?_ _) | (with_reducible refine Below.drew ?_) | (with_reducible refine Below.setCell ?_ ?_ _) | (with_reducible assumption) | go_size | (simp only [size_addsW, World.size_alloc, World.size_drew, World.size_setCell]; omega)))) HA.out HB.out HZ.out).mono ?_); rintro e w' ⟨rfl, hb⟩; obtain ⟨o1, n1, rfl⟩ := below_adds hb; clear hb; rw [HP1.out]) | (go_at_call 55; (with_reducible refine (S_l1At a b (X) (Y + 1) _ _ zs _ (HR.out.keep (by repeat' (first | (with_reducible exact Below.refl _ _) | (with_reducible refine Below.adds_ ?_ ?_ _ _) | (with_reducible refine Below.alloc ?_ ?_ _) | (with_reducible refine Below.drew ?_) | (with_reducible refine Below.setCell ?_ ?_ _) | (with_reducible assumption) | go_size | (simp only [size_addsW, World.size_alloc, World.size_drew, World.size_setCell]; omega)))) HA.out HB.out HZ.out).mono ?_); rintro e w' ⟨rfl, hb⟩; obtain ⟨o1, n1, rfl⟩ := below_adds hb; clear hb; rw [HP3.out]))
    go_returns
    exact ⟨rfl, (by repeat' (first | (with_reducible exact Below.refl _ _) | (with_reducible refine Below.adds_ ?_ ?_ _ _) | (with_reducible refine Below.alloc ?_ ?_ _) | (with_reducible refine Below.drew ?_) | (with_reducible refine Below.setCell ?_ ?_ _) | (with_reducible assumption) | go_size | (simp only [size_addsW, World.size_alloc, World.size_drew, World.size_setCell]; omega)))⟩
  · rw [show halfV a b zs x y = (p1 + p2 + 1) / 2 from by rw [hE]; simp [px, py]]
    have u1 : (x.tmod 2 == 0) = false := tmod_odd px
    have u2 : (y.tmod 2 == 0) = true := tmod_even py
    have XB : -50001 ≤ X ∧ X ≤ 50001 := by have := HX.out; omega
    have YB : -50001 ≤ Y ∧ Y ≤ 50001 := by have := HY.out; omega
    clear hE px py
    go_enter Tryd.func44, Tryd.ntmps44
    go_wp2_with (first | (go_at_call 54; (with_reducible refine (S_l7Floor2 x _ (by omega)).mono ?_); rintro e w' ⟨rfl, rfl⟩; rw [HX.out]) | (go_at_call 54; (with_reducible refine (S_l7Floor2 y _ (by omega)).mono ?_); rintro e w' ⟨rfl, rfl⟩; rw [HY.out]) | (go_at_call 55; (with_reducible refine (S_l1At a b (X) (Y) _ _ zs _ (HR.out.keep (by repeat' (first | (with_reducible exact Below.refl _ _) | (with_reducible refine Below.adds_ ?_ ?_ _ _) | (with_reducible refine Below.alloc ?_ ?_ _) | (with_reducible refine Below.drew ?_) | (with_reducible refine Below.setCell ?_ ?_ _) | (with_reducible assumption) | go_size | (simp only [size_addsW, World.size_alloc, World.size_drew, World.size_setCell]; omega)))) HA.out HB.out HZ.out).mono ?_); rintro e w' ⟨rfl, hb⟩; obtain ⟨o1, n1, rfl⟩ := below_adds hb; clear hb; rw [HP1.out]) | (go_at_call 55; (with_reducible refine (S_l1At a b (X + 1) (Y) _ _ zs _ (HR.out.keep (by repeat' (first | (with_reducible exact Below.refl _ _) | (with_reducible refine Below.adds_ ?_ ?_ _ _) | (with_reducible refine Below.alloc ?_ ?_ _) | (with_reducible refine Below.drew ?_) | (with_reducible refine Below.setCell ?_ ?_ _) | (with_reducible assumption) | go_size | (simp only [size_addsW, World.size_alloc, World.size_drew, World.size_setCell]; omega)))) HA.out HB.out HZ.out).mono ?_); rintro e w' ⟨rfl, hb⟩; obtain ⟨o1, n1, rfl⟩ := below_adds hb; clear hb; rw [HP2.out]))
    go_returns
    exact ⟨rfl, (by repeat' (first | (with_reducible exact Below.refl _ _) | (with_reducible refine Below.adds_ ?_ ?_ _ _) | (with_reducible refine Below.alloc ?_ ?_ _) | (with_reducible refine Below.drew ?_) | (with_reducible refine Below.setCell ?_ ?_ _) | (with_reducible assumption) | go_size | (simp only [size_addsW, World.size_alloc, World.size_drew, World.size_setCell]; omega)))⟩
  · rw [show halfV a b zs x y = (p1 + p2 + p3 + p4 + 2) / 4 from by rw [hE]; simp [px, py]]
    have u1 : (x.tmod 2 == 0) = false := tmod_odd px
    have u2 : (y.tmod 2 == 0) = false := tmod_odd py
    have XB : -50001 ≤ X ∧ X ≤ 50001 := by have := HX.out; omega
    have YB : -50001 ≤ Y ∧ Y ≤ 50001 := by have := HY.out; omega
    clear hE px py
    have s0 : IntKind.i64.wrap (X + 1) = X + 1 := IntWalk.i64_in _ (by omega)
    have s00 : IntKind.i64.wrap (Y + 1) = Y + 1 := IntWalk.i64_in _ (by omega)
    have s1 : IntKind.i64.wrap (p1 + p2) = p1 + p2 := IntWalk.i64_in _ (by omega)
    have s2 : IntKind.i64.wrap (p1 + p2 + p3) = p1 + p2 + p3 := IntWalk.i64_in _ (by omega)
    have s3 : IntKind.i64.wrap (p1 + p2 + p3 + p4) = p1 + p2 + p3 + p4 := IntWalk.i64_in _ (by omega)
    have s4 : IntKind.i64.wrap (p1 + p2 + p3 + p4 + 2) = p1 + p2 + p3 + p4 + 2 := IntWalk.i64_in _ (by omega)
    have s5 : (p1 + p2 + p3 + p4 + 2).tdiv 4 = (p1 + p2 + p3 + p4 + 2) / 4 := Int.tdiv_eq_ediv_of_nonneg (by omega)
    have s6 : IntKind.i64.wrap ((p1 + p2 + p3 + p4 + 2) / 4) = (p1 + p2 + p3 + p4 + 2) / 4 := IntWalk.i64_in _ (by omega)
    go_enter Tryd.func44, Tryd.ntmps44
    go_wp2_with (first | (go_at_call 54; (with_reducible refine (S_l7Floor2 x _ (by omega)).mono ?_); rintro e w' ⟨rfl, rfl⟩; rw [HX.out]) | (go_at_call 54; (with_reducible refine (S_l7Floor2 y _ (by omega)).mono ?_); rintro e w' ⟨rfl, rfl⟩; rw [HY.out]) | (go_at_call 55; (with_reducible refine (S_l1At a b (X) (Y) _ _ zs _ (HR.out.keep (by repeat' (first | (with_reducible exact Below.refl _ _) | (with_reducible refine Below.adds_ ?_ ?_ _ _) | (with_reducible refine Below.alloc ?_ ?_ _) | (with_reducible refine Below.drew ?_) | (with_reducible refine Below.setCell ?_ ?_ _) | (with_reducible assumption) | go_size | (simp only [size_addsW, World.size_alloc, World.size_drew, World.size_setCell]; omega)))) HA.out HB.out HZ.out).mono ?_); rintro e w' ⟨rfl, hb⟩; obtain ⟨o1, n1, rfl⟩ := below_adds hb; clear hb; rw [HP1.out]))
    go_region_held3 (fun w' => w'.cell? ⟨w.heap.size, 0, none⟩ = some (.int .i64 a) ∧ w'.cell? ⟨w.heap.size, 1, none⟩ = some (.int .i64 b) ∧ w'.cell? ⟨w.heap.size, 2, none⟩ = some (.slice A zs.length c)) (first | (go_simp; done) | (go_keep; done)) (first | (go_at_call 55; (with_reducible refine (S_l1At a b (X) (Y) _ _ zs _ (HR.out.keep (by repeat' (first | (with_reducible exact Below.refl _ _) | (with_reducible refine Below.adds_ ?_ ?_ _ _) | (with_reducible refine Below.alloc ?_ ?_ _) | (with_reducible refine Below.drew ?_) | (with_reducible refine Below.setCell ?_ ?_ _) | (with_reducible assumption) | go_size | (simp only [size_addsW, World.size_alloc, World.size_drew, World.size_setCell]; omega)))) HA.out HB.out HZ.out).mono ?_); rintro e w' ⟨rfl, hb⟩; obtain ⟨o1, n1, rfl⟩ := below_adds hb; clear hb; rw [HP1.out]) | (go_at_call 55; (with_reducible refine (S_l1At a b (X + 1) (Y) _ _ zs _ (HR.out.keep (by repeat' (first | (with_reducible exact Below.refl _ _) | (with_reducible refine Below.adds_ ?_ ?_ _ _) | (with_reducible refine Below.alloc ?_ ?_ _) | (with_reducible refine Below.drew ?_) | (with_reducible refine Below.setCell ?_ ?_ _) | (with_reducible assumption) | go_size | (simp only [size_addsW, World.size_alloc, World.size_drew, World.size_setCell]; omega)))) HA.out HB.out HZ.out).mono ?_); rintro e w' ⟨rfl, hb⟩; obtain ⟨o1, n1, rfl⟩ := below_adds hb; clear hb; rw [HP2.out]) | (go_at_call 55; (with_reducible refine (S_l1At a b (X) (Y + 1) _ _ zs _ (HR.out.keep (by repeat' (first | (with_reducible exact Below.refl _ _) | (with_reducible refine Below.adds_ ?_ ?_ _ _) | (with_reducible refine Below.alloc ?_ ?_ _) | (with_reducible refine Below.drew ?_) | (with_reducible refine Below.setCell ?_ ?_ _) | (with_reducible assumption) | go_size | (simp only [size_addsW, World.size_alloc, World.size_drew, World.size_setCell]; omega)))) HA.out HB.out HZ.out).mono ?_); rintro e w' ⟨rfl, hb⟩; obtain ⟨o1, n1, rfl⟩ := below_adds hb; clear hb; rw [HP3.out]) | (go_at_call 55; (with_reducible refine (S_l1At a b (X + 1) (Y + 1) _ _ zs _ (HR.out.keep (by repeat' (first | (with_reducible exact Below.refl _ _) | (with_reducible refine Below.adds_ ?_ ?_ _ _) | (with_reducible refine Below.alloc ?_ ?_ _) | (with_reducible refine Below.drew ?_) | (with_reducible refine Below.setCell ?_ ?_ _) | (with_reducible assumption) | go_size | (simp only [size_addsW, World.size_alloc, World.size_drew, World.size_setCell]; omega)))) HA.out HB.out HZ.out).mono ?_); rintro e w' ⟨rfl, hb⟩; obtain ⟨o1, n1, rfl⟩ := below_adds hb; clear hb; rw [HP4.out]))
    all_goals
      go_wp2_with fail
      go_returns
      exact ⟨rfl, (by repeat' (first | (with_reducible exact Below.refl _ _) | (with_reducible refine Below.adds_ ?_ ?_ _ _) | (with_reducible refine Below.alloc ?_ ?_ _) | (with_reducible refine Below.drew ?_) | (with_reducible refine Below.setCell ?_ ?_ _) | (with_reducible assumption) | go_size | (simp only [size_addsW, World.size_alloc, World.size_drew, World.size_setCell]; omega)))⟩

/-- what HalfSample answers -/
def halfB (a b : Int) (zs : List Int) (x y : Int) : Bool := picB a b zs && M.inB x (-1000) 1000 && M.inB y (-1000) 1000
def halfS (a b : Int) (zs : List Int) (x y : Int) : Int := if halfB a b zs x y then halfV a b zs x y else 0

end Go.Proofs.YtijccageaingjaaDoor
