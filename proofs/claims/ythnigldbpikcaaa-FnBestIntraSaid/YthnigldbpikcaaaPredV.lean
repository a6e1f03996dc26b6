/- PredictIntra and EdgesValid, the program's. -/
import Derived.Test.YthnigldbpikcaaaPredM
namespace Go.Proofs.Ythnigldbpikcaaa
open Go.RowKit
set_option linter.unusedVariables false
set_option linter.unusedSimpArgs false

attribute [local go_sem] size_addsW cell?_addsW frozen?_addsW setCell_addsW drew_addsW adds_addsW setCell_twice alloc_adds0 size_adds0 adds_adds0 sel2 sel3 sel4 sel5 sel6 sel7 sel8 sel9 lt_more lt_more2 lt_more3 lt_more4 adds_drew adds_drewN drewN_addsW ltA_1_1 ltA_1_2 ltA_1_3 ltA_1_4 ltA_1_5 ltA_1_6 ltA_2_1 ltA_2_2 ltA_2_3 ltA_2_4 ltA_2_5 ltA_2_6 ltA_3_1 ltA_3_2 ltA_3_3 ltA_3_4 ltA_3_5 ltA_3_6 ltA_4_1 ltA_4_2 ltA_4_3 ltA_4_4 ltA_4_5 ltA_4_6 ltA_5_1 ltA_5_2 ltA_5_3 ltA_5_4 ltA_5_5 ltA_5_6 ltA_6_1 ltA_6_2 ltA_6_3 ltA_6_4 ltA_6_5 ltA_6_6 ltA_7_1 ltA_7_2 ltA_7_3 ltA_7_4 ltA_7_5 ltA_7_6 ltA_8_1 ltA_8_2 ltA_8_3 ltA_8_4 ltA_8_5 ltA_8_6 ltA_9_1 ltA_9_2 ltA_9_3 ltA_9_4 ltA_9_5 ltA_9_6 ltA_10_1 ltA_10_2 ltA_10_3 ltA_10_4 ltA_10_5 ltA_10_6 ltA_11_1 ltA_11_2 ltA_11_3 ltA_11_4 ltA_11_5 ltA_11_6 ltA_12_1 ltA_12_2 ltA_12_3 ltA_12_4 ltA_12_5 ltA_12_6

theorem row4 {W : World} {g k : Nat} {z0 z1 z2 z3 : Int} (hl : g < W.heap.size) (h0 : W.cell? ⟨g, k, none⟩ = some (.int .i64 z0)) (h1 : W.cell? ⟨g, k + 1, none⟩ = some (.int .i64 z1)) (h2 : W.cell? ⟨g, k + 2, none⟩ = some (.int .i64 z2)) (h3 : W.cell? ⟨g, k + 3, none⟩ = some (.int .i64 z3)) :
    RowAt .i64 W (some ⟨g, k, none⟩) [z0, z1, z2, z3] := fun _ => ⟨g, k, rfl, hl, fun i hi => by
  match i, hi with
  | 0, _ => exact h0
  | 1, _ => exact h1
  | 2, _ => exact h2
  | 3, _ => exact h3⟩
def evB (f g : Nat → Int) (c : Int) : Bool := M.samplesB [f 0, f 1, f 2, f 3] && M.samplesB [g 0, g 1, g 2, g 3] && M.inB c 0 255
theorem evB_ok {f g : Nat → Int} {c : Int} (h : evB f g c = true) : eOk f g c := by
  simp only [evB, M.samplesB, List.all_cons, List.all_nil, Bool.and_true, Bool.and_eq_true, M.inB, decide_eq_true_eq] at h
  obtain ⟨⟨⟨a0, a1, a2, a3⟩, b0, b1, b2, b3⟩, hc⟩ := h
  refine ⟨fun i hi => ?_, fun i hi => ?_, hc⟩
  · match i, hi with
    | 0, _ => exact a0
    | 1, _ => exact a1
    | 2, _ => exact a2
    | 3, _ => exact a3
  · match i, hi with
    | 0, _ => exact b0
    | 1, _ => exact b1
    | 2, _ => exact b2
    | 3, _ => exact b3

set_option maxRecDepth 100000 in
set_option maxHeartbeats 2000000 in
theorem I_EdgesValid (f g : Nat → Int) (c : Int) (u l : Bool) (w : World) :
    Calls Try.prog 21 #[.agg (eA f g c u l)] w fun e w' => e = .returned (.bool (evB f g c)) ∧ Below w.heap.size w w' := by
  have hB : Blk (w.alloc (.cells (eA f g c u l) 25)) w.heap.size (eA f g c u l) 25 := Blk.new w _ _ _ rfl
  have hr1 : RowAt .i64 (w.alloc (.cells (eA f g c u l) 25)) (some ⟨w.heap.size, 0, none⟩) [f 0, f 1, f 2, f 3] := row4 hB.lt (hB.get rfl) (hB.get rfl) (hB.get rfl) (hB.get rfl)
  have hr2 : RowAt .i64 (w.alloc (.cells (eA f g c u l) 25)) (some ⟨w.heap.size, 4, none⟩) [g 0, g 1, g 2, g 3] := row4 hB.lt (hB.get rfl) (hB.get rfl) (hB.get rfl) (hB.get rfl)
  have m8 : (w.alloc (.cells (eA f g c u l) 25)).cell? ⟨w.heap.size, 8, none⟩ = some (.int .i64 c) := hB.get rfl
  have lt := hB.lt
  have hb : Below w.heap.size w (w.alloc (.cells (eA f g c u l) 25)) := (by repeat' (first | (with_reducible exact Below.refl _ _) | (with_reducible refine Below.adds_ ?_ ?_ _ _) | (with_reducible refine Below.alloc ?_ ?_ _) | (with_reducible refine Below.drew ?_) | (with_reducible refine Below.setCell ?_ ?_ _) | (with_reducible assumption) | go_size | (simp only [size_addsW, World.size_alloc, World.size_drew, World.size_setCell]; omega)))
  obtain ⟨p, hp⟩ : ∃ p, p = M.samplesB [f 0, f 1, f 2, f 3] := ⟨_, rfl⟩
  obtain ⟨q, hq⟩ : ∃ q, q = M.samplesB [g 0, g 1, g 2, g 3] := ⟨_, rfl⟩
  obtain ⟨r, hr⟩ : ∃ r, r = M.inB c 0 255 := ⟨_, rfl⟩
  rw [evB, ← hp, ← hq, ← hr]
  have C1 : Calls Try.prog 28 #[.slice (some ⟨w.heap.size, 0, none⟩) 4 4] (w.alloc (.cells (eA f g c u l) 25)) fun e w' => e = .returned (.bool p) ∧ (w.alloc (.cells (eA f g c u l) 25)) = w' := by
    rw [hp]; exact I_samplesIn _ 4 _ _ hr1 (by simp)
  have C2 : Calls Try.prog 28 #[.slice (some ⟨w.heap.size, 4, none⟩) 4 4] (w.alloc (.cells (eA f g c u l) 25)) fun e w' => e = .returned (.bool q) ∧ (w.alloc (.cells (eA f g c u l) 25)) = w' := by
    rw [hq]; exact I_samplesIn _ 4 _ _ hr2 (by simp)
  have C3 : ∀ W, Calls Try.prog 34 #[.int .i64 c] W fun e w' => e = .returned (.bool r) ∧ W = w' := fun W => by rw [hr]; exact I_sampleValid c W
  obtain ⟨W, hW⟩ : ∃ W, W = w.alloc (.cells (eA f g c u l) 25) := ⟨_, rfl⟩
  rw [← hW] at C1 C2 m8 lt hb
  have D1 := Lib.hid C1
  have D2 := Lib.hid C2
  have D3 := Lib.hid C3
  have HW := Lib.hid hW
  clear hr1 hr2 hB hp hq hr C1 C2 C3 hW
  unfold eA at HW ⊢
  go_enter Try.func21, Try.ntmps21
  go_upto_region 1 with fail
  rw [← HW.out]
  cases p <;> cases q
  all_goals
    go_wp2_with (first | (go_at_call 28; (first | with_reducible refine D1.out.mono ?_ | with_reducible refine D2.out.mono ?_); rintro e w' ⟨rfl, rfl⟩) | (go_at_call 34; refine (D3.out _).mono ?_; rintro e w' ⟨rfl, rfl⟩))
    go_returns
    exact ⟨rfl, hb⟩

def prL (m : Int) (f g : Nat → Int) (c : Int) (u l : Bool) : List Int := if 0 ≤ m ∧ m ≤ 4 ∧ evB f g c = true then pL m.toNat f g c u l else z16
theorem prL_len (m : Int) (f g : Nat → Int) (c : Int) (u l : Bool) : (prL m f g c u l).length = 16 := by
  unfold prL; split
  · exact pL_len _ _ _ _ _ _
  · rfl

set_option maxRecDepth 100000 in
set_option maxHeartbeats 4000000 in
theorem I_PredictIntra (m : Int) (f g : Nat → Int) (c : Int) (u l : Bool) (w : World) :
    Calls Try.prog 8 #[.int .i64 m, .agg (eA f g c u l)] w fun e w' => e = .returned (.agg (rowI (prL m f g c u l))) ∧ Below w.heap.size w w' := by
  obtain ⟨p, hp⟩ : ∃ p, p = evB f g c := ⟨_, rfl⟩
  have CE := Lib.hid (show ∀ W, Calls Try.prog 21 #[.agg (eA f g c u l)] W fun e w' => e = .returned (.bool p) ∧ Below W.heap.size W w' from fun W => by rw [hp]; exact I_EdgesValid f g c u l W)
  by_cases hok : 0 ≤ m ∧ m ≤ 4 ∧ evB f g c = true
  · rw [prL, if_pos hok]
    obtain ⟨h1, h2, h3⟩ := hok
    have HP := Lib.hid (fun W => I_predict m.toNat (by omega) f g c u l W (evB_ok h3))
    rw [show ((m.toNat : Nat) : Int) = m by omega] at HP
    have HL := Lib.hid (pL_len m.toNat f g c u l)
    obtain rfl : p = true := hp.trans h3
    generalize pL m.toNat f g c u l = zs at HP HL ⊢
    have n1 : ¬ m < 0 := by omega
    have n2 : ¬ 4 < m := by omega
    clear hp h3
    have T0 : Blk (((w.alloc (.cells (eA f g c u l) 25)).alloc (.cells (rowI z16) 28))) w.heap.size (eA f g c u l) 25 := (Blk.new w _ _ _ rfl).alloc _
    have T1 : Blk (((w.alloc (.cells (eA f g c u l) 25)).alloc (.cells (rowI z16) 28))) (w.heap.size + 1) (rowI z16) 28 := Blk.new _ _ _ _ (by simp)
    have T2 : Below w.heap.size w ((w.alloc (.cells (eA f g c u l) 25)).alloc (.cells (rowI z16) 28)) := (by repeat' (first | (with_reducible exact Below.refl _ _) | (with_reducible refine Below.adds_ ?_ ?_ _ _) | (with_reducible refine Below.alloc ?_ ?_ _) | (with_reducible refine Below.drew ?_) | (with_reducible refine Below.setCell ?_ ?_ _) | (with_reducible assumption) | go_size | (simp only [size_addsW, World.size_alloc, World.size_drew, World.size_setCell]; omega)))
    have H0 := Lib.hid T0
    have H1 := Lib.hid T1
    have H2 := Lib.hid T2
    clear T0 T1 T2
    unfold eA at CE HP ⊢
    go_enter Try.func8, Try.ntmps8
    go_upto_region 3 with (go_at_call 21; refine (CE.out _).mono ?_; rintro e w' ⟨rfl, hb⟩; obtain ⟨o1, m1, rfl⟩ := below_adds hb; clear hb)
    refine all_add' ?_
    intro Z hZ
    have hE : Blk Z w.heap.size (eA f g c u l) 25 := hZ ▸ H0.out.adds _ _
    have hR : Blk Z (w.heap.size + 1) (rowI z16) 28 := hZ ▸ H1.out.adds _ _
    have hB : Below w.heap.size w Z := hZ ▸ Below.adds_ H2.out H2.out.size _ _
    clear hZ
    have e0 : Z.cell? ⟨w.heap.size, 0, none⟩ = some (.int .i64 (f 0)) := hE.get rfl
    have e1 : Z.cell? ⟨w.heap.size, 1, none⟩ = some (.int .i64 (f 1)) := hE.get rfl
    have e2 : Z.cell? ⟨w.heap.size, 2, none⟩ = some (.int .i64 (f 2)) := hE.get rfl
    have e3 : Z.cell? ⟨w.heap.size, 3, none⟩ = some (.int .i64 (f 3)) := hE.get rfl
    have e4 : Z.cell? ⟨w.heap.size, 4, none⟩ = some (.int .i64 (g 0)) := hE.get rfl
    have e5 : Z.cell? ⟨w.heap.size, 5, none⟩ = some (.int .i64 (g 1)) := hE.get rfl
    have e6 : Z.cell? ⟨w.heap.size, 6, none⟩ = some (.int .i64 (g 2)) := hE.get rfl
    have e7 : Z.cell? ⟨w.heap.size, 7, none⟩ = some (.int .i64 (g 3)) := hE.get rfl
    have e8 : Z.cell? ⟨w.heap.size, 8, none⟩ = some (.int .i64 c) := hE.get rfl
    have e9 : Z.cell? ⟨w.heap.size, 9, none⟩ = some (.bool u) := hE.get rfl
    have e10 : Z.cell? ⟨w.heap.size, 10, none⟩ = some (.bool l) := hE.get rfl
    go_wp2_with (go_at_call 22; refine (HP.out _).mono ?_; rintro e w' ⟨rfl, hb⟩; obtain ⟨o2, m2, rfl⟩ := below_adds hb; clear hb; rename_i hKK; refine hKK _ _ ?_; refine wpList_store_sub rfl 28 (.tmp 4) (.tmp 19) rfl (w.heap.size + 1) 0 zs rfl rfl 28 z16 (hR.adds _ _) (by rw [HL.out]; exact infoA16) (by rw [HL.out]; decide) ?_; rw [spl_full (by rw [HL.out]; rfl)])
    refine bodyPost_ret (v := .agg (rowI zs)) (by exact results_cell_row Try.results8 _ _ (w.heap.size + 1) 28 (rowI zs) (0, 0) _ rfl ((hR.adds _ _).row (rowI zs)) Try.underlying28 rfl (by rw [rowI_size, HL.out]; exact infoA16)) rfl ?_
    exact ⟨rfl, below_row (Below.adds_ hB hB.size _ _) (by rw [size_addsW]; have := hB.size; omega) (by omega) _⟩
  · rw [prL, if_neg hok]
    rcases (show m < 0 ∨ (¬ m < 0 ∧ 4 < m) ∨ (¬ m < 0 ∧ ¬ 4 < m ∧ p = false) by
      by_cases h1 : m < 0
      · exact .inl h1
      · by_cases h2 : 4 < m
        · exact .inr (.inl ⟨h1, h2⟩)
        · refine .inr (.inr ⟨h1, h2, ?_⟩)
          cases p
          · rfl
          · exact (hok ⟨by omega, by omega, hp.symm⟩).elim) with h1 | ⟨h1, h2⟩ | ⟨h1, h2, rfl⟩
    all_goals
      clear hok hp
      unfold eA at CE ⊢
      go_enter Try.func8, Try.ntmps8
      go_wp2_with (go_at_call 21; refine (CE.out _).mono ?_; rintro e w' ⟨rfl, hb⟩; obtain ⟨o1, m1, rfl⟩ := below_adds hb; clear hb)
      go_returns
      exact ⟨rfl, (by repeat' (first | (with_reducible exact Below.refl _ _) | (with_reducible refine Below.adds_ ?_ ?_ _ _) | (with_reducible refine Below.alloc ?_ ?_ _) | (with_reducible refine Below.drew ?_) | (with_reducible refine Below.setCell ?_ ?_ _) | (with_reducible assumption) | go_size | (simp only [size_addsW, World.size_alloc, World.size_drew, World.size_setCell]; omega)))⟩

end Go.Proofs.Ythnigldbpikcaaa
