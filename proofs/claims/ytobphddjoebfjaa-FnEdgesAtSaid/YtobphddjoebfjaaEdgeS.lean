/- The edges of a block: the reference's walk. -/
import Derived.Test.YtobphddjoebfjaaEdge
namespace Go.Proofs.Ytobphddjoebfjaa
open Go.RowKit
set_option linter.unusedVariables false
set_option linter.unusedSimpArgs false

attribute [local go_sem] size_addsW cell?_addsW frozen?_addsW setCell_addsW drew_addsW adds_addsW setCell_twice alloc_adds0 size_adds0 adds_adds0 sel2 sel3 sel4 sel5 sel6 sel7 sel8 sel9 lt_more lt_more2 lt_more3 lt_more4 adds_drew adds_drewN drewN_addsW ltA_1_1 ltA_1_2 ltA_1_3 ltA_1_4 ltA_1_5 ltA_1_6 ltA_2_1 ltA_2_2 ltA_2_3 ltA_2_4 ltA_2_5 ltA_2_6 ltA_3_1 ltA_3_2 ltA_3_3 ltA_3_4 ltA_3_5 ltA_3_6 ltA_4_1 ltA_4_2 ltA_4_3 ltA_4_4 ltA_4_5 ltA_4_6 ltA_5_1 ltA_5_2 ltA_5_3 ltA_5_4 ltA_5_5 ltA_5_6 ltA_6_1 ltA_6_2 ltA_6_3 ltA_6_4 ltA_6_5 ltA_6_6 ltA_7_1 ltA_7_2 ltA_7_3 ltA_7_4 ltA_7_5 ltA_7_6 ltA_8_1 ltA_8_2 ltA_8_3 ltA_8_4 ltA_8_5 ltA_8_6 ltA_9_1 ltA_9_2 ltA_9_3 ltA_9_4 ltA_9_5 ltA_9_6 ltA_10_1 ltA_10_2 ltA_10_3 ltA_10_4 ltA_10_5 ltA_10_6 ltA_11_1 ltA_11_2 ltA_11_3 ltA_11_4 ltA_11_5 ltA_11_6 ltA_12_1 ltA_12_2 ltA_12_3 ltA_12_4 ltA_12_5 ltA_12_6

theorem pix_in {a b : Int} {zs : List Int} {X Y : Int} {i : Nat} (hX : 0 ≤ X ∧ X < a) (hY : 0 ≤ Y ∧ Y < b) (hi : Y * a + X = (i : Int)) : zs.getD i 0 = pix a b zs X Y := by
  rw [pix, show min (max Y 0) (b - 1) = Y by omega, show min (max X 0) (a - 1) = X by omega, hi, Int.toNat_natCast]
theorem row_idx {a b X Y : Int} {n : Nat} (ha : 8 ≤ a ∧ a ≤ 32) (hb : 8 ≤ b ∧ b ≤ 32) (hn : (n : Int) = a * b) (hX : 0 ≤ X ∧ X < a) (hY : 0 ≤ Y ∧ Y < b) : ∃ M i : Nat, Y * a = (M : Int) ∧ (M : Int) + X = (i : Int) ∧ i < n ∧ M ≤ 1024 ∧ n ≤ 1024 := by
  have h0 : 0 ≤ Y * a := Int.mul_nonneg hY.1 (by omega)
  have h1 : (Y + 1) * a ≤ b * a := Int.mul_le_mul_of_nonneg_right (by omega) (by omega)
  have h2 : b * a ≤ 32 * 32 := Int.mul_le_mul hb.2 ha.2 (by omega) (by omega)
  rw [Int.add_mul, Int.one_mul, Int.mul_comm b a] at h1
  rw [Int.mul_comm b a] at h2
  exact ⟨(Y * a).toNat, (Y * a + X).toNat, by omega, by omega, by omega, by omega, by omega⟩

set_option maxRecDepth 100000 in
set_option maxHeartbeats 4000000 in
theorem S_l6Edges (a b x y t : Int) (A : Option Addr) (c : Nat) (zs : List Int) (w : World) (hr : RowAt .i64 w A zs) (ha : 8 ≤ a ∧ a ≤ 32) (hbb : 8 ≤ b ∧ b ≤ 32) (hz : (zs.length : Int) = a * b) (hx : 0 ≤ x ∧ x + 3 < a) (hy : 0 ≤ y ∧ y + 3 < b) (ht : 0 ≤ t) :
    Calls Try.prog 63 #[.agg #[.int .i64 a, .int .i64 b, .slice A zs.length c], .int .i64 x, .int .i64 y, .int .i64 t] w fun e w' => e = .returned (.agg (edA a b zs x y t)) ∧ Below w.heap.size w w' := by
  have HR := Lib.hid hr
  have HZ := Lib.hid hz
  clear hr hz
  have hwg : w.heap.size ≤ w.heap.size := Nat.le_refl _
  have T0 : EdS w.heap.size a b (.slice A zs.length c) w (fun _ => 0) (fun _ => 0) 128 (decide (t < y)) (decide (0 < x)) (((w.alloc (.cells #[.int .i64 a, .int .i64 b, .slice A zs.length c] 27)).alloc (.cells e0 38)).alloc (.cells (eA (fun _ => 0) (fun _ => 0) 128 (decide (t < y)) (decide (0 < x))) 38)) :=
    ⟨((Blk.new w _ _ _ rfl).alloc _).alloc _, (Blk.new _ _ _ _ (by simp)).alloc _, Blk.new _ _ _ _ (by simp), (by repeat' (first | (with_reducible exact Below.refl _ _) | (with_reducible refine Below.adds_ ?_ ?_ _ _) | (with_reducible refine Below.alloc ?_ ?_ _) | (with_reducible refine Below.drew ?_) | (with_reducible refine Below.setCell ?_ ?_ _) | (with_reducible assumption) | go_size | (simp only [size_addsW, World.size_alloc, World.size_drew, World.size_setCell]; omega)))⟩
  have HT0 := Lib.hid T0
  clear T0
  go_enter Try.func63, Try.ntmps63
  go_wp2_with fail
  revert HT0
  obtain ⟨u, hu⟩ : ∃ u, u = decide (t < y) := ⟨_, rfl⟩
  obtain ⟨l, hl⟩ : ∃ l, l = decide (0 < x) := ⟨_, rfl⟩
  have HU := Lib.hid hu
  have HL := Lib.hid hl
  rw [← hu, ← hl]
  clear hu hl
  intro HT0
  go_loopw [10] (fun v wr => ∃ (k : Nat) (f g : Nat → Int), v = .int .i64 (k : Int) ∧ k ≤ 4 ∧ (∀ i, i < k → f i = eUp a b zs x y t i) ∧ (∀ i, i < k → g i = eLe a b zs x y i) ∧ EdS w.heap.size a b (.slice A zs.length c) w f g 128 u l wr) (fun v _ => 4 - (intOf v).toNat)
  case atStart => exact ⟨0, _, _, rfl, by omega, fun i hi => by omega, fun i hi => by omega, HT0.out⟩
  case round =>
    clear HT0
    obtain ⟨k, f, g, rfl, hk, hf, hg, hst⟩ := hrel
    have HF := Lib.hid hf
    have HG := Lib.hid hg
    have HST := Lib.hid hst
    clear hf hg
    have e9 : wr.cell? ⟨w.heap.size + 1 + 1, 9, none⟩ = some (.bool u) := hst.e.get rfl
    have e10 : wr.cell? ⟨w.heap.size + 1 + 1, 10, none⟩ = some (.bool l) := hst.e.get rfl
    have le := hst.e.lt
    have lp := hst.p.lt
    by_cases hlt : k < 4
    · have hd1 : (k : Int) < 4 := by omega
      have p0 := hst.p.get (i := 0) rfl
      have p1 := hst.p.get (i := 1) rfl
      have p2 := hst.p.get (i := 2) rfl
      have eu := hst.e.get (eA_up hlt)
      have el := hst.e.get (eA_left hlt)
      have fu := hst.e.hot k
      have fl := hst.e.hot (4 + k)
      have q1 : ¬ k = 9 := by omega
      have q2 : ¬ 9 = k := by omega
      have q3 : ¬ 4 + k = 9 := by omega
      have q4 : ¬ 9 = 4 + k := by omega
      have q5 : ¬ k = 10 := by omega
      have q6 : ¬ 10 = k := by omega
      have q7 : ¬ 4 + k = 10 := by omega
      have q8 : ¬ 10 = 4 + k := by omega
      have q9 : ¬ k = 4 + k := by omega
      have q0 : ¬ 4 + k = k := by omega
      have hbw := hst.below
      clear hst
      cases u
      · cases l
        · clear hbw
          go_wp2_with fail
          go_roundw
          case rel => exact ⟨k + 1, _, _, by go_num, by omega, upd_ok HF.out (by have := HU.out; simp at this; rw [eUp, if_neg (by omega)]), upd_ok HG.out (by have := HL.out; simp at this; rw [eLe, if_neg (by omega)]), (HST.out.setU hwg hlt 128).setL hwg hlt 128⟩
          case measure => simp [intOf]; omega
        · obtain ⟨N, J, hN, hJ, hJn, hNb, hnb2⟩ := row_idx ha hbb HZ.out (X := x - 1) (Y := y + (k : Int)) (by have := HL.out; simp at this; omega) (by omega)
          obtain ⟨N1, hN1⟩ : ∃ N1 : Nat, (N : Int) + x = (N1 : Int) := ⟨(N : Int).toNat + x.toNat, by omega⟩
          have hJ2 : (N1 : Int) - 1 = (J : Int) := by omega
          obtain ⟨bl2, off2, z2, e2, hbl2, hzv2, hcl3⟩ := HR.out.at_ hJn
          have hcl2 := (hbw.cell (p := ⟨bl2, off2 + J, none⟩) hbl2).trans hcl3
          have hn3 : ¬ bl2 = w.heap.size + 1 + 1 := by omega
          have hn4 : ¬ w.heap.size + 1 + 1 = bl2 := by omega
          clear hcl3
          have hJl : (J : Int) < (zs.length : Int) := by omega
          rw [pix_in (i := J) (X := x - 1) (Y := y + (k : Int)) (a := a) (b := b) (by have := HL.out; simp at this; omega) (by omega) (by omega)] at hzv2
          have HZV2 := Lib.hid hzv2
          clear hzv2 hJ
          subst e2
          clear hbw
          go_wp2_with fail
          go_roundw
          case rel => exact ⟨k + 1, _, _, by go_num, by omega, upd_ok HF.out (by have := HU.out; simp at this; rw [eUp, if_neg (by omega)]), upd_ok HG.out (by have := HL.out; simp at this; rw [eLe, if_pos (by omega)]; exact HZV2.out), (HST.out.setU hwg hlt 128).setL hwg hlt _⟩
          case measure => simp [intOf]; omega
      · cases l
        · obtain ⟨M, I, hM, hI, hIn, hMb, hnb⟩ := row_idx ha hbb HZ.out (X := x + (k : Int)) (Y := y - 1) (by omega) (by have := HU.out; simp at this; omega)
          obtain ⟨M1, hM1⟩ : ∃ M1 : Nat, (M : Int) + x = (M1 : Int) := ⟨(M : Int).toNat + x.toNat, by omega⟩
          have hI2 : (M1 : Int) + (k : Int) = (I : Int) := by omega
          obtain ⟨bl, off, z, rfl, hbl, hzv, hcl0⟩ := HR.out.at_ hIn
          have hcl := (hbw.cell (p := ⟨bl, off + I, none⟩) hbl).trans hcl0
          have hn1 : ¬ bl = w.heap.size + 1 + 1 := by omega
          have hn2 : ¬ w.heap.size + 1 + 1 = bl := by omega
          clear hcl0
          have hIl : (I : Int) < (zs.length : Int) := by omega
          rw [pix_in (i := I) (X := x + (k : Int)) (Y := y - 1) (a := a) (b := b) (by omega) (by have := HU.out; simp at this; omega) (by omega)] at hzv
          have HZV := Lib.hid hzv
          clear hzv hI
          clear hbw
          go_wp2_with fail
          go_roundw
          case rel => exact ⟨k + 1, _, _, by go_num, by omega, upd_ok (upd_low HF.out 128) (by have := HU.out; simp at this; rw [eUp, if_pos (by omega)]; exact HZV.out), upd_ok HG.out (by have := HL.out; simp at this; rw [eLe, if_neg (by omega)]), ((HST.out.setU hwg hlt 128).setL hwg hlt 128).setU hwg hlt _⟩
          case measure => simp [intOf]; omega
        · obtain ⟨M, I, hM, hI, hIn, hMb, hnb⟩ := row_idx ha hbb HZ.out (X := x + (k : Int)) (Y := y - 1) (by omega) (by have := HU.out; simp at this; omega)
          obtain ⟨M1, hM1⟩ : ∃ M1 : Nat, (M : Int) + x = (M1 : Int) := ⟨(M : Int).toNat + x.toNat, by omega⟩
          have hI2 : (M1 : Int) + (k : Int) = (I : Int) := by omega
          obtain ⟨bl, off, z, rfl, hbl, hzv, hcl0⟩ := HR.out.at_ hIn
          have hcl := (hbw.cell (p := ⟨bl, off + I, none⟩) hbl).trans hcl0
          have hn1 : ¬ bl = w.heap.size + 1 + 1 := by omega
          have hn2 : ¬ w.heap.size + 1 + 1 = bl := by omega
          clear hcl0
          have hIl : (I : Int) < (zs.length : Int) := by omega
          rw [pix_in (i := I) (X := x + (k : Int)) (Y := y - 1) (a := a) (b := b) (by omega) (by have := HU.out; simp at this; omega) (by omega)] at hzv
          have HZV := Lib.hid hzv
          clear hzv hI
          obtain ⟨N, J, hN, hJ, hJn, hNb, hnb2⟩ := row_idx ha hbb HZ.out (X := x - 1) (Y := y + (k : Int)) (by have := HL.out; simp at this; omega) (by omega)
          obtain ⟨N1, hN1⟩ : ∃ N1 : Nat, (N : Int) + x = (N1 : Int) := ⟨(N : Int).toNat + x.toNat, by omega⟩
          have hJ2 : (N1 : Int) - 1 = (J : Int) := by omega
          obtain ⟨bl2, off2, z2, e2, hbl2, hzv2, hcl3⟩ := HR.out.at_ hJn
          have hcl2 := (hbw.cell (p := ⟨bl2, off2 + J, none⟩) hbl2).trans hcl3
          have hn3 : ¬ bl2 = w.heap.size + 1 + 1 := by omega
          have hn4 : ¬ w.heap.size + 1 + 1 = bl2 := by omega
          clear hcl3
          have hJl : (J : Int) < (zs.length : Int) := by omega
          rw [pix_in (i := J) (X := x - 1) (Y := y + (k : Int)) (a := a) (b := b) (by have := HL.out; simp at this; omega) (by omega) (by omega)] at hzv2
          have HZV2 := Lib.hid hzv2
          clear hzv2 hJ
          injection e2 with e2
          injection e2 with e3 e4
          subst e3 e4
          clear hbw
          go_wp2_with fail
          go_roundw
          case rel => exact ⟨k + 1, _, _, by go_num, by omega, upd_ok (upd_low HF.out 128) (by have := HU.out; simp at this; rw [eUp, if_pos (by omega)]; exact HZV.out), upd_ok (upd_low HG.out 128) (by have := HL.out; simp at this; rw [eLe, if_pos (by omega)]; exact HZV2.out), (((HST.out.setU hwg hlt 128).setL hwg hlt 128).setU hwg hlt _).setL hwg hlt _⟩
          case measure => simp [intOf]; omega
    · obtain rfl : k = 4 := by omega
      have hbw := hst.below
      have e0 : wr.cell? ⟨w.heap.size + 1 + 1, 0, none⟩ = some (.int .i64 (f 0)) := hst.e.get rfl
      have e1 : wr.cell? ⟨w.heap.size + 1 + 1, 1, none⟩ = some (.int .i64 (f 1)) := hst.e.get rfl
      have e2 : wr.cell? ⟨w.heap.size + 1 + 1, 2, none⟩ = some (.int .i64 (f 2)) := hst.e.get rfl
      have e3 : wr.cell? ⟨w.heap.size + 1 + 1, 3, none⟩ = some (.int .i64 (f 3)) := hst.e.get rfl
      have e4 : wr.cell? ⟨w.heap.size + 1 + 1, 4, none⟩ = some (.int .i64 (g 0)) := hst.e.get rfl
      have e5 : wr.cell? ⟨w.heap.size + 1 + 1, 5, none⟩ = some (.int .i64 (g 1)) := hst.e.get rfl
      have e6 : wr.cell? ⟨w.heap.size + 1 + 1, 6, none⟩ = some (.int .i64 (g 2)) := hst.e.get rfl
      have e7 : wr.cell? ⟨w.heap.size + 1 + 1, 7, none⟩ = some (.int .i64 (g 3)) := hst.e.get rfl
      have e8 : wr.cell? ⟨w.heap.size + 1 + 1, 8, none⟩ = some (.int .i64 128) := hst.e.get rfl
      have r0 : wr.cell? ⟨w.heap.size + 1, 0, none⟩ = some (.int .i64 0) := hst.r.get rfl
      have r1 : wr.cell? ⟨w.heap.size + 1, 1, none⟩ = some (.int .i64 0) := hst.r.get rfl
      have r2 : wr.cell? ⟨w.heap.size + 1, 2, none⟩ = some (.int .i64 0) := hst.r.get rfl
      have r3 : wr.cell? ⟨w.heap.size + 1, 3, none⟩ = some (.int .i64 0) := hst.r.get rfl
      have r4 : wr.cell? ⟨w.heap.size + 1, 4, none⟩ = some (.int .i64 0) := hst.r.get rfl
      have r5 : wr.cell? ⟨w.heap.size + 1, 5, none⟩ = some (.int .i64 0) := hst.r.get rfl
      have r6 : wr.cell? ⟨w.heap.size + 1, 6, none⟩ = some (.int .i64 0) := hst.r.get rfl
      have r7 : wr.cell? ⟨w.heap.size + 1, 7, none⟩ = some (.int .i64 0) := hst.r.get rfl
      have r8 : wr.cell? ⟨w.heap.size + 1, 8, none⟩ = some (.int .i64 0) := hst.r.get rfl
      have r9 : wr.cell? ⟨w.heap.size + 1, 9, none⟩ = some (.bool false) := hst.r.get rfl
      have r10 : wr.cell? ⟨w.heap.size + 1, 10, none⟩ = some (.bool false) := hst.r.get rfl
      have s0 := hst.r.hot 0
      have s1 := hst.r.hot 1
      have s2 := hst.r.hot 2
      have s3 := hst.r.hot 3
      have s4 := hst.r.hot 4
      have s5 := hst.r.hot 5
      have s6 := hst.r.hot 6
      have s7 := hst.r.hot 7
      have s8 := hst.r.hot 8
      have s9 := hst.r.hot 9
      have s10 := hst.r.hot 10
      have s8e := hst.e.hot 8
      have p0 := hst.p.get (i := 0) rfl
      have p1 := hst.p.get (i := 1) rfl
      have p2 := hst.p.get (i := 2) rfl
      have lr := hst.r.lt
      have HE : ∀ c', c' = eCo a b zs x y t → eA f g c' u l = edA a b zs x y t := fun c' h => by
        rw [edA, h, ← HU.out, ← HL.out]; exact eA_congr HF.out HG.out
      have HEE := Lib.hid HE
      clear HE hst
      cases u
      · have hco : eCo a b zs x y t = 128 := by have := HU.out; simp at this; rw [eCo, if_neg (by omega)]
        go_wp2_with fail
        refine bodyPost_ret (v := .agg (edA a b zs x y t)) (by rw [← HEE.out 128 hco.symm]; exact results_cell_row Try.results63 _ _ (w.heap.size + 1) 38 _ (0, 0) _ rfl (HST.out.r.put11 f g 128 _ _) Try.underlying38 rfl (by kernel_rfl)) rfl ?_
        exact ⟨rfl, (by repeat' (first | (with_reducible exact Below.refl _ _) | (with_reducible refine Below.adds_ ?_ ?_ _ _) | (with_reducible refine Below.alloc ?_ ?_ _) | (with_reducible refine Below.drew ?_) | (with_reducible refine Below.setCell ?_ ?_ _) | (with_reducible assumption) | go_size | (simp only [size_addsW, World.size_alloc, World.size_drew, World.size_setCell]; omega)))⟩
      · cases l
        · have hco : eCo a b zs x y t = 128 := by have := HL.out; simp at this; rw [eCo, if_neg (by omega)]
          go_wp2_with fail
          refine bodyPost_ret (v := .agg (edA a b zs x y t)) (by rw [← HEE.out 128 hco.symm]; exact results_cell_row Try.results63 _ _ (w.heap.size + 1) 38 _ (0, 0) _ rfl (HST.out.r.put11 f g 128 _ _) Try.underlying38 rfl (by kernel_rfl)) rfl ?_
          exact ⟨rfl, (by repeat' (first | (with_reducible exact Below.refl _ _) | (with_reducible refine Below.adds_ ?_ ?_ _ _) | (with_reducible refine Below.alloc ?_ ?_ _) | (with_reducible refine Below.drew ?_) | (with_reducible refine Below.setCell ?_ ?_ _) | (with_reducible assumption) | go_size | (simp only [size_addsW, World.size_alloc, World.size_drew, World.size_setCell]; omega)))⟩
        · have hco : eCo a b zs x y t = pix a b zs (x - 1) (y - 1) := by have h1 := HL.out; have h2 := HU.out; simp at h1 h2; rw [eCo, if_pos ⟨h2, h1⟩]
          obtain ⟨M, I, hM, hI, hIn, hMb, hnb⟩ := row_idx ha hbb HZ.out (X := x - 1) (Y := y - 1) (by have := HL.out; simp at this; omega) (by have := HU.out; simp at this; omega)
          obtain ⟨M1, hM1⟩ : ∃ M1 : Nat, (M : Int) + x = (M1 : Int) := ⟨(M : Int).toNat + x.toNat, by omega⟩
          have hI2 : (M1 : Int) - 1 = (I : Int) := by omega
          obtain ⟨bl, off, z, rfl, hbl, hzv, hcl⟩ := (HR.out.keep hbw).at_ hIn
          have hIl : (I : Int) < (zs.length : Int) := by omega
          rw [pix_in (i := I) (X := x - 1) (Y := y - 1) (a := a) (b := b) (by have := HL.out; simp at this; omega) (by have := HU.out; simp at this; omega) (by omega), ← hco] at hzv
          have HZV := Lib.hid hzv
          clear hzv hI hco
          go_wp2_with fail
          refine bodyPost_ret (v := .agg (edA a b zs x y t)) (by rw [← HEE.out _ HZV.out]; exact results_cell_row Try.results63 _ _ (w.heap.size + 1) 38 _ (0, 0) _ rfl ((HST.out.r.other (by simp) _).put11 f g _ _ _) Try.underlying38 rfl (by kernel_rfl)) rfl ?_
          exact ⟨rfl, (by repeat' (first | (with_reducible exact Below.refl _ _) | (with_reducible refine Below.adds_ ?_ ?_ _ _) | (with_reducible refine Below.alloc ?_ ?_ _) | (with_reducible refine Below.drew ?_) | (with_reducible refine Below.setCell ?_ ?_ _) | (with_reducible assumption) | go_size | (simp only [size_addsW, World.size_alloc, World.size_drew, World.size_setCell]; omega)))⟩

end Go.Proofs.Ytobphddjoebfjaa
