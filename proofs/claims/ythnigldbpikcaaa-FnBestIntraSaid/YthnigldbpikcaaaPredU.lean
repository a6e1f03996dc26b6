/- PredictIntra, the reference's. -/
import Derived.Test.YthnigldbpikcaaaPredT
namespace Go.Proofs.Ythnigldbpikcaaa
open Go.RowKit
set_option linter.unusedVariables false
set_option linter.unusedSimpArgs false

attribute [local go_sem] size_addsW cell?_addsW frozen?_addsW setCell_addsW drew_addsW adds_addsW setCell_twice alloc_adds0 size_adds0 adds_adds0 sel2 sel3 sel4 sel5 sel6 sel7 sel8 sel9 lt_more lt_more2 lt_more3 lt_more4 adds_drew adds_drewN drewN_addsW ltA_1_1 ltA_1_2 ltA_1_3 ltA_1_4 ltA_1_5 ltA_1_6 ltA_2_1 ltA_2_2 ltA_2_3 ltA_2_4 ltA_2_5 ltA_2_6 ltA_3_1 ltA_3_2 ltA_3_3 ltA_3_4 ltA_3_5 ltA_3_6 ltA_4_1 ltA_4_2 ltA_4_3 ltA_4_4 ltA_4_5 ltA_4_6 ltA_5_1 ltA_5_2 ltA_5_3 ltA_5_4 ltA_5_5 ltA_5_6 ltA_6_1 ltA_6_2 ltA_6_3 ltA_6_4 ltA_6_5 ltA_6_6 ltA_7_1 ltA_7_2 ltA_7_3 ltA_7_4 ltA_7_5 ltA_7_6 ltA_8_1 ltA_8_2 ltA_8_3 ltA_8_4 ltA_8_5 ltA_8_6 ltA_9_1 ltA_9_2 ltA_9_3 ltA_9_4 ltA_9_5 ltA_9_6 ltA_10_1 ltA_10_2 ltA_10_3 ltA_10_4 ltA_10_5 ltA_10_6 ltA_11_1 ltA_11_2 ltA_11_3 ltA_11_4 ltA_11_5 ltA_11_6 ltA_12_1 ltA_12_2 ltA_12_3 ltA_12_4 ltA_12_5 ltA_12_6

set_option maxRecDepth 100000 in
set_option maxHeartbeats 4000000 in
theorem S_PredictIntra (m : Int) (f g : Nat → Int) (c : Int) (u l : Bool) (w : World) :
    Calls Try.prog 9 #[.int .i64 m, .agg (eA f g c u l)] w fun e w' => e = .returned (.agg (rowI (prL m f g c u l))) ∧ Below w.heap.size w w' := by
  obtain ⟨p, hp⟩ : ∃ p, p = evB f g c := ⟨_, rfl⟩
  have CE := Lib.hid (show ∀ W, Calls Try.prog 10 #[.agg (eA f g c u l)] W fun e w' => e = .returned (.bool p) ∧ Below W.heap.size W w' from fun W => by rw [hp]; exact S_EdgesValid f g c u l W)
  by_cases hok : 0 ≤ m ∧ m ≤ 4 ∧ evB f g c = true
  · rw [prL, if_pos hok]
    obtain ⟨h1, h2, h3⟩ := hok
    have HP := Lib.hid (fun W => S_l6Predict m.toNat (by omega) f g c u l W (evB_ok h3))
    rw [show ((m.toNat : Nat) : Int) = m by omega] at HP
    have HL := Lib.hid (pL_len m.toNat f g c u l)
    obtain rfl : p = true := hp.trans h3
    generalize pL m.toNat f g c u l = zs at HP HL ⊢
    have n1 : ¬ m < 0 := by omega
    have n3 : M.inB m 0 4 = true := by simp [M.inB]; omega
    have n2 : ¬ 4 < m := by omega
    clear hp h3
    have T0 : Blk (((w.alloc (.cells (eA f g c u l) 25)).alloc (.cells (rowI z16) 28))) w.heap.size (eA f g c u l) 25 := (Blk.new w _ _ _ rfl).alloc _
    have T1 : Blk (((w.alloc (.cells (eA f g c u l) 25)).alloc (.cells (rowI z16) 28))) (w.heap.size + 1) (rowI z16) 28 := Blk.new _ _ _ _ (by simp)
    have T2 : Below w.heap.size w ((w.alloc (.cells (eA f g c u l) 25)).alloc (.cells (rowI z16) 28)) := (by repeat' (first | (with_reducible exact Below.refl _ _) | (with_reducible refine Below.adds_ ?_ ?_ _ _) | (with_reducible refine Below.alloc ?_ ?_ _) | (with_reducible refine Below.drew ?_) | (with_reducible refine Below.setCell ?_ ?_ _) | (with_reducible assumption) | go_size | (simp only [size_addsW, World.size_alloc, World.size_drew, World.size_setCell]; omega)))
    have H0 := Lib.hid T0
    have H1 := Lib.hid T1
    have H2 := Lib.hid T2
    clear T0 T1 T2
    unfold eA at CE HP ⊢
    go_enter Try.func9, Try.ntmps9
    go_upto_region 3 with (first | (go_at_call 10; refine (CE.out _).mono ?_; rintro e w' ⟨rfl, hb⟩; obtain ⟨o1, m1, rfl⟩ := below_adds hb; clear hb) | (go_at_call 23; refine (S_l1In _ _ _ _).mono ?_; rintro e w' ⟨rfl, rfl⟩))
    refine all_add' ?_
    intro Z hZ
    have hE : Blk Z w.heap.size (eA f g c u l) 25 := hZ ▸ H0.out.adds _ _
    have hR : Blk Z (w.heap.size + 1) (rowI z16) 28 := hZ ▸ H1.out.adds _ _
    have hB : Below w.heap.size w Z := hZ ▸ Below.adds_ H2.out H2.out.size _ _
    clear hZ
    have e0 : Z.cell? ⟨w.heap.size, 0, none⟩ = some (.int .i64 (f 0)) := hE.get rfl
    have e1 : Z.cell? ⟨w.heap.size, 1, none⟩ = some (.int .i64 (f 1)) := hE.get rfl
    have e2 : Z.cell? ⟨w.heap.size, 2, none⟩ = some (.int .i64 (f 2)) := hE.get rfl
    have e3 : Z.cell? ⟨w.heap.size, 3, none⟩ = some (.int .i64 (f 3)) := hE.get rfl
    have e4 : Z.cell? ⟨w.heap.size, 4, none⟩ = some (.int .i64 (g 0)) := hE.get rfl
    have e5 : Z.cell? ⟨w.heap.size, 5, none⟩ = some (.int .i64 (g 1)) := hE.get rfl
    have e6 : Z.cell? ⟨w.heap.size, 6, none⟩ = some (.int .i64 (g 2)) := hE.get rfl
    have e7 : Z.cell? ⟨w.heap.size, 7, none⟩ = some (.int .i64 (g 3)) := hE.get rfl
    have e8 : Z.cell? ⟨w.heap.size, 8, none⟩ = some (.int .i64 c) := hE.get rfl
    have e9 : Z.cell? ⟨w.heap.size, 9, none⟩ = some (.bool u) := hE.get rfl
    have e10 : Z.cell? ⟨w.heap.size, 10, none⟩ = some (.bool l) := hE.get rfl
    go_wp2_with (go_at_call 24; refine (HP.out _).mono ?_; rintro e w' ⟨rfl, hb⟩; obtain ⟨o2, m2, rfl⟩ := below_adds hb; clear hb; rename_i hKK; refine hKK _ _ ?_; refine wpList_store_sub rfl 28 (.tmp 4) (.tmp 16) rfl (w.heap.size + 1) 0 zs rfl rfl 28 z16 (hR.adds _ _) (by rw [HL.out]; exact infoA16) (by rw [HL.out]; decide) ?_; rw [spl_full (by rw [HL.out]; rfl)])
    refine bodyPost_ret (v := .agg (rowI zs)) (by exact results_cell_row Try.results9 _ _ (w.heap.size + 1) 28 (rowI zs) (0, 0) _ rfl ((hR.adds _ _).row (rowI zs)) Try.underlying28 rfl (by rw [rowI_size, HL.out]; exact infoA16)) rfl ?_
    exact ⟨rfl, below_row (Below.adds_ hB hB.size _ _) (by rw [size_addsW]; have := hB.size; omega) (by omega) _⟩
  · rw [prL, if_neg hok]
    rcases (show p = false ∨ (p = true ∧ M.inB m 0 4 = false) by
      cases p
      · exact .inl rfl
      · refine .inr ⟨rfl, ?_⟩
        simp only [M.inB, decide_eq_false_iff_not]
        exact fun h => hok ⟨h.1, h.2, hp.symm⟩) with rfl | ⟨rfl, h2⟩
    all_goals
      clear hok hp
      unfold eA at CE ⊢
      go_enter Try.func9, Try.ntmps9
      go_wp2_with (first | (go_at_call 10; refine (CE.out _).mono ?_; rintro e w' ⟨rfl, hb⟩; obtain ⟨o1, m1, rfl⟩ := below_adds hb; clear hb) | (go_at_call 23; refine (S_l1In _ _ _ _).mono ?_; rintro e w' ⟨rfl, rfl⟩))
      go_returns
      exact ⟨rfl, (by repeat' (first | (with_reducible exact Below.refl _ _) | (with_reducible refine Below.adds_ ?_ ?_ _ _) | (with_reducible refine Below.alloc ?_ ?_ _) | (with_reducible refine Below.drew ?_) | (with_reducible refine Below.setCell ?_ ?_ _) | (with_reducible assumption) | go_size | (simp only [size_addsW, World.size_alloc, World.size_drew, World.size_setCell]; omega)))⟩

end Go.Proofs.Ythnigldbpikcaaa
