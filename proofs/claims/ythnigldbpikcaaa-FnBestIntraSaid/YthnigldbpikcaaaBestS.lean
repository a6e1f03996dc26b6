/- The best of five modes, the reference's. -/
import Derived.Test.YthnigldbpikcaaaBest
import Derived.Test.YthnigldbpikcaaaTrfT
import Derived.Test.YthnigldbpikcaaaPredT
namespace Go.Proofs.Ythnigldbpikcaaa
open Go.RowKit
set_option linter.unusedVariables false
set_option linter.unusedSimpArgs false

attribute [local go_sem] size_addsW cell?_addsW frozen?_addsW setCell_addsW drew_addsW adds_addsW setCell_twice alloc_adds0 size_adds0 adds_adds0 sel2 sel3 sel4 sel5 sel6 sel7 sel8 sel9 lt_more lt_more2 lt_more3 lt_more4 adds_drew adds_drewN drewN_addsW ltA_1_1 ltA_1_2 ltA_1_3 ltA_1_4 ltA_1_5 ltA_1_6 ltA_2_1 ltA_2_2 ltA_2_3 ltA_2_4 ltA_2_5 ltA_2_6 ltA_3_1 ltA_3_2 ltA_3_3 ltA_3_4 ltA_3_5 ltA_3_6 ltA_4_1 ltA_4_2 ltA_4_3 ltA_4_4 ltA_4_5 ltA_4_6 ltA_5_1 ltA_5_2 ltA_5_3 ltA_5_4 ltA_5_5 ltA_5_6 ltA_6_1 ltA_6_2 ltA_6_3 ltA_6_4 ltA_6_5 ltA_6_6 ltA_7_1 ltA_7_2 ltA_7_3 ltA_7_4 ltA_7_5 ltA_7_6 ltA_8_1 ltA_8_2 ltA_8_3 ltA_8_4 ltA_8_5 ltA_8_6 ltA_9_1 ltA_9_2 ltA_9_3 ltA_9_4 ltA_9_5 ltA_9_6 ltA_10_1 ltA_10_2 ltA_10_3 ltA_10_4 ltA_10_5 ltA_10_6 ltA_11_1 ltA_11_2 ltA_11_3 ltA_11_4 ltA_11_5 ltA_11_6 ltA_12_1 ltA_12_2 ltA_12_3 ltA_12_4 ltA_12_5 ltA_12_6

theorem tcV_self (xs : List Int) : (M.samplesB xs = true → 0 ≤ tcV xs xs) ∧ (M.samplesB xs = false → tcV xs xs = -1) := by
  constructor
  · intro h
    have := asum_bd (h2_bd' (dfL_bd h h) (show 4 ≤ 4 by omega)) 16
    unfold tcV
    rw [if_pos ⟨h, h⟩]
    omega
  · intro h
    unfold tcV
    rw [if_neg (by rw [h]; simp)]

set_option maxRecDepth 100000 in
set_option maxHeartbeats 4000000 in
theorem S_BestIntra (xs : List Int) (f g : Nat → Int) (c : Int) (u l : Bool) (w : World) (hx : xs.length = 16) :
    Calls Try.prog 12 #[.agg (rowI xs), .agg (eA f g c u l)] w fun e w' => e = .returned (.int .i64 (biV xs f g c u l)) ∧ Below w.heap.size w w' := by
  have HX := Lib.hid hx
  obtain ⟨p, hp⟩ : ∃ p, p = M.samplesB xs := ⟨_, rfl⟩
  obtain ⟨q, hq⟩ : ∃ q, q = evB f g c := ⟨_, rfl⟩
  have C2 := Lib.hid (show ∀ W, Calls Try.prog 10 #[.agg (eA f g c u l)] W fun e w' => e = .returned (.bool q) ∧ Below W.heap.size W w' from fun W => by rw [hq]; exact S_EdgesValid f g c u l W)
  obtain ⟨n, hn⟩ : ∃ n, n = tcV xs xs := ⟨_, rfl⟩
  have CC := Lib.hid (show ∀ W, Calls Try.prog 26 #[.agg (rowI xs), .agg (rowI xs)] W fun e w' => e = .returned (.int .i64 n) ∧ Below W.heap.size W w' from fun W => by rw [hn]; exact S_TransformCost xs xs W hx hx)
  have HN1 := Lib.hid (show p = true → 0 ≤ n from fun h => by rw [hn]; exact (tcV_self xs).1 (hp.symm.trans h))
  have HN2 := Lib.hid (show p = false → n < 0 from fun h => by rw [hn, (tcV_self xs).2 (hp.symm.trans h)]; decide)
  clear hn
  clear hx
  have HPQ := Lib.hid (show biV xs f g c u l = if p = true ∧ q = true then (bsG (0, 0) (coV xs f g c u l) 5).1 else -1 by rw [hp, hq]; rfl)
  have HOK := Lib.hid (show q = true → eOk f g c from fun h => evB_ok (hq.symm.trans h))
  clear hp hq
  have HT0 := Lib.hid (E2.start w xs f g c u l)
  obtain ⟨A, hA⟩ : ∃ A, A = eA f g c u l := ⟨_, rfl⟩
  unfold eA at C2
  unfold eA
  go_enter Try.func12, Try.ntmps12
  go_upto_region 1 with fail
  refine all_add' ?_
  intro Z hZ
  have T1 := Lib.hid (show E2 w.heap.size xs f g c u l w Z from hZ ▸ HT0.out)
  clear hZ HT0
  have hst := T1.out
  have lz : w.heap.size + 1 < Z.heap.size := hst.e.lt
  have e0 : Z.cell? ⟨w.heap.size + 1, 0, none⟩ = some (.int .i64 (f 0)) := hst.e.get rfl
  have e1 : Z.cell? ⟨w.heap.size + 1, 1, none⟩ = some (.int .i64 (f 1)) := hst.e.get rfl
  have e2 : Z.cell? ⟨w.heap.size + 1, 2, none⟩ = some (.int .i64 (f 2)) := hst.e.get rfl
  have e3 : Z.cell? ⟨w.heap.size + 1, 3, none⟩ = some (.int .i64 (f 3)) := hst.e.get rfl
  have e4 : Z.cell? ⟨w.heap.size + 1, 4, none⟩ = some (.int .i64 (g 0)) := hst.e.get rfl
  have e5 : Z.cell? ⟨w.heap.size + 1, 5, none⟩ = some (.int .i64 (g 1)) := hst.e.get rfl
  have e6 : Z.cell? ⟨w.heap.size + 1, 6, none⟩ = some (.int .i64 (g 2)) := hst.e.get rfl
  have e7 : Z.cell? ⟨w.heap.size + 1, 7, none⟩ = some (.int .i64 (g 3)) := hst.e.get rfl
  have e8 : Z.cell? ⟨w.heap.size + 1, 8, none⟩ = some (.int .i64 c) := hst.e.get rfl
  have e9 : Z.cell? ⟨w.heap.size + 1, 9, none⟩ = some (.bool u) := hst.e.get rfl
  have e10 : Z.cell? ⟨w.heap.size + 1, 10, none⟩ = some (.bool l) := hst.e.get rfl
  clear hst hA
  cases q
  · go_wp2_with (first | (go_at_call 10; refine (C2.out _).mono ?_; rintro e w' ⟨rfl, hb⟩; obtain ⟨o1, n1, rfl⟩ := below_adds hb; clear hb) | (focus ((with_reducible refine wpList_wanted ?_ (fun K hK => ?_)); rotate_left; (refine wp_load_sub 28 (.tmp 2) ?ho w.heap.size 0 16 ?hx 28 xs (0, 0) _ ?hg Try.underlying28 rfl infoA16 ?hs (hK _ _ ?_)); (case ho => with_reducible rfl); (case hx => rfl); (case hg => first | exact T1.out.a | exact (T1.out.adds _ _).a); (case hs => rw [HX.out]; exact Nat.le_refl _); rw [show sub xs 0 16 = xs by rw [← HX.out]; exact sub_all xs]; rotate_left; rfl)) | (go_at_call 26; refine (CC.out _).mono ?_; rintro e w' ⟨rfl, hb⟩; obtain ⟨o1, n1, rfl⟩ := below_adds hb; clear hb))
    go_returns
    exact ⟨by rw [HPQ.out]; cases p <;> rfl, (T1.out.adds _ _).below⟩
  · cases p
    · have hn0 := HN2.out (by first | rfl | trivial)
      go_wp2_with (first | (go_at_call 10; refine (C2.out _).mono ?_; rintro e w' ⟨rfl, hb⟩; obtain ⟨o1, n1, rfl⟩ := below_adds hb; clear hb) | (focus ((with_reducible refine wpList_wanted ?_ (fun K hK => ?_)); rotate_left; (refine wp_load_sub 28 (.tmp 2) ?ho w.heap.size 0 16 ?hx 28 xs (0, 0) _ ?hg Try.underlying28 rfl infoA16 ?hs (hK _ _ ?_)); (case ho => with_reducible rfl); (case hx => rfl); (case hg => first | exact T1.out.a | exact (T1.out.adds _ _).a); (case hs => rw [HX.out]; exact Nat.le_refl _); rw [show sub xs 0 16 = xs by rw [← HX.out]; exact sub_all xs]; rotate_left; rfl)) | (go_at_call 26; refine (CC.out _).mono ?_; rintro e w' ⟨rfl, hb⟩; obtain ⟨o1, n1, rfl⟩ := below_adds hb; clear hb))
      go_returns
      exact ⟨by rw [HPQ.out]; rfl, (T1.out.adds _ _).below⟩
    · obtain ⟨C, hC⟩ : ∃ C, C = coV xs f g c u l := ⟨_, rfl⟩
      have HV := Lib.hid (show biV xs f g c u l = (bsG (-1, 0) C 5).1 by rw [HPQ.out, hC, bsG_same (-1, 0) (0, 0)]; rfl)
      have HC := Lib.hid hC
      have hn0 := HN1.out (by first | rfl | trivial)
      clear hC
      go_upto_region 5 with (first | (go_at_call 10; refine (C2.out _).mono ?_; rintro e w' ⟨rfl, hb⟩; obtain ⟨o1, n1, rfl⟩ := below_adds hb; clear hb) | (focus ((with_reducible refine wpList_wanted ?_ (fun K hK => ?_)); rotate_left; (refine wp_load_sub 28 (.tmp 2) ?ho w.heap.size 0 16 ?hx 28 xs (0, 0) _ ?hg Try.underlying28 rfl infoA16 ?hs (hK _ _ ?_)); (case ho => with_reducible rfl); (case hx => rfl); (case hg => first | exact T1.out.a | exact (T1.out.adds _ _).a); (case hs => rw [HX.out]; exact Nat.le_refl _); rw [show sub xs 0 16 = xs by rw [← HX.out]; exact sub_all xs]; rotate_left; rfl)) | (go_at_call 26; refine (CC.out _).mono ?_; rintro e w' ⟨rfl, hb⟩; obtain ⟨o1, n1, rfl⟩ := below_adds hb; clear hb))
      refine all_add' ?_
      intro Y hY
      have T2 := Lib.hid (show E2 w.heap.size xs f g c u l w Y from hY ▸ T1.out.adds _ _)
      clear hY T1 C2 CC hn0 e0 e1 e2 e3 e4 e5 e6 e7 e8 e9 e10 lz
      go_wp2_with fail
      go_loopw [5, 6, 7] (fun b t v wr => ∃ k : Nat, b = .int .i64 (bsG (-1, 0) C k).1 ∧ t = .int .i64 (bsG (-1, 0) C k).2 ∧ v = .int .i64 (k : Int) ∧ k ≤ 5 ∧ E2 w.heap.size xs f g c u l w wr) (fun _ _ v _ => 5 - (intOf v).toNat)
      case atStart => exact ⟨0, rfl, rfl, rfl, by omega, T2.out⟩
      case round =>
        clear T2
        obtain ⟨k, rfl, rfl, rfl, hk, hst⟩ := hrel
        have HST := Lib.hid hst
        have lw := hst.e.lt
        clear hst
        by_cases hlt : k < 5
        · have hd1 : (k : Int) ≤ 4 := by omega
          obtain ⟨ys, hys⟩ : ∃ ys, ys = pL k f g c u l := ⟨_, rfl⟩
          obtain ⟨v, hv⟩ : ∃ v, v = C k := ⟨_, rfl⟩
          have CP := Lib.hid (show ∀ W, Calls Try.prog 24 #[.int .i64 (k : Int), .agg (eA f g c u l)] W fun e w' => e = .returned (.agg (rowI ys)) ∧ Below W.heap.size W w' from fun W => by rw [hys]; exact S_l6Predict k (by omega) f g c u l W (HOK.out (by first | rfl | trivial)))
          have CT := Lib.hid (show ∀ W, Calls Try.prog 26 #[.agg (rowI xs), .agg (rowI ys)] W fun e w' => e = .returned (.int .i64 v) ∧ Below W.heap.size W w' from fun W => by rw [hv, HC.out, coV, hys]; exact S_TransformCost xs _ W HX.out (pL_len _ _ _ _ _ _))
          clear hys
          unfold eA at CP
          rcases (show (k = 0) ∨ (k ≠ 0 ∧ C k < (bsG (-1, 0) C k).2) ∨ (k ≠ 0 ∧ ¬ C k < (bsG (-1, 0) C k).2) by omega) with h0 | ⟨h0, h1⟩ | ⟨h0, h1⟩
          · have hb0 : (bsG (-1, 0) C k).1 < 0 := by rw [h0]; exact (by decide : (-1 : Int) < 0)
            have HB1 := Lib.hid (show (bsG (-1, 0) C (k + 1)).1 = (k : Int) by rw [bsG, if_pos (.inl h0)])
            have HB2 := Lib.hid (show (bsG (-1, 0) C (k + 1)).2 = v by rw [bsG, if_pos (.inl h0), hv])
            generalize (bsG (-1, 0) C k).1 = b at *
            generalize (bsG (-1, 0) C k).2 = t at *
            clear h0 hv
            go_upto_region 8 with fail
            refine wp_region_held_drew (S := (fun w' => E2 w.heap.size xs f g c u l w w')) (by kernel_rfl) ?_ (fun hHeld => ?_)
            · (first | exact HST.out | assumption | exact E2.adds (by assumption) _ _ | exact E2.drew (by assumption))
            refine wpAnyH_take (i := 1) (oi := _) (v := ?_) rfl (by kernel_rfl) (by kernel_rfl) (by kernel_rfl) (fun _ _ _ h => h) (Or.inl ⟨by rfl, ?_⟩) (by assumption) ?_
            rotate_left
            · intro w hSw; (try dsimp only at hSw); go_simp; (try with_reducible rfl)
            try dsimp only [List.getElem_toArray, List.getElem_cons_succ, List.getElem_cons_zero]
            simp only [Act.put, List.setIfInBounds_toArray, List.set_cons_zero, List.set_cons_succ]
            refine wpAnyH_ready (rs := [0, 2]) (by kernel_rfl) (by simp) ?_
            refine AllReadyH.cons (o := _) rfl (fun K hK => ?_) ?_
            · (try dsimp only [List.getElem_toArray, List.getElem_cons_succ, List.getElem_cons_zero])
              (rw [if_pos (by rfl)]; first | (refine wp_load_row 25 (.tmp 3) (by with_reducible rfl) (w.heap.size + 1) (by rfl) 25 (eA f g c u l) (0, 0) _ hHeld.e Try.underlying25 rfl (infoEd f g c u l) ?_) | (refine wp_load_row 28 (.tmp 2) (by with_reducible rfl) w.heap.size (by rfl) 28 (rowI xs) (0, 0) _ hHeld.a Try.underlying28 rfl (by rw [rowI_size, HX.out]; exact infoA16) ?_))
              refine hK.out _ _ ?_ (fun hHeld => ?_)
              · (first | exact HST.out | assumption | exact E2.adds (by assumption) _ _ | exact E2.drew (by assumption))
              clear hK K
              try simp only [Act.put, List.setIfInBounds_toArray, List.set_cons_zero, List.set_cons_succ]
              refine wpAnyH_ready (rs := [2]) (by kernel_rfl) (by simp) ?_
              refine AllReadyH.cons (o := _) rfl (fun K hK => ?_) ?_
              · (try dsimp only [List.getElem_toArray, List.getElem_cons_succ, List.getElem_cons_zero])
                (rw [if_pos (by rfl)]; first | (refine wp_load_row 25 (.tmp 3) (by with_reducible rfl) (w.heap.size + 1) (by rfl) 25 (eA f g c u l) (0, 0) _ hHeld.e Try.underlying25 rfl (infoEd f g c u l) ?_) | (refine wp_load_row 28 (.tmp 2) (by with_reducible rfl) w.heap.size (by rfl) 28 (rowI xs) (0, 0) _ hHeld.a Try.underlying28 rfl (by rw [rowI_size, HX.out]; exact infoA16) ?_))
                refine hK.out _ _ ?_ (fun hHeld => ?_)
                · (first | exact HST.out | assumption | exact E2.adds (by assumption) _ _ | exact E2.drew (by assumption))
                clear hK K
                try simp only [Act.put, List.setIfInBounds_toArray, List.set_cons_zero, List.set_cons_succ]
                refine wpAnyH_ready (rs := [3]) (by kernel_rfl) (by simp) ?_
                refine AllReadyH.cons (o := _) rfl (fun K hK => ?_) ?_
                · (try dsimp only [List.getElem_toArray, List.getElem_cons_succ, List.getElem_cons_zero]); go_simp
                  (first | (go_at_call 24; refine (CP.out _).mono ?_; rintro e w' ⟨rfl, hb⟩; obtain ⟨o2, n2, rfl⟩ := below_adds hb; clear hb) | (go_at_call 26; refine (CT.out _).mono ?_; rintro e w' ⟨rfl, hb⟩; obtain ⟨o2, n2, rfl⟩ := below_adds hb; clear hb))
                  try go_wp2_with fail
                  refine hK.out _ _ ?_ (fun hHeld => ?_)
                  · (first | exact HST.out | assumption | exact E2.adds (by assumption) _ _ | exact E2.drew (by assumption))
                  clear hK K
                  try simp only [Act.put, List.setIfInBounds_toArray, List.set_cons_zero, List.set_cons_succ]
                  refine wpAnyH_ready (rs := [4]) (by kernel_rfl) (by simp) ?_
                  refine AllReadyH.cons (o := _) rfl (fun K hK => ?_) ?_
                  · (try dsimp only [List.getElem_toArray, List.getElem_cons_succ, List.getElem_cons_zero]); go_simp
                    (first | (go_at_call 24; refine (CP.out _).mono ?_; rintro e w' ⟨rfl, hb⟩; obtain ⟨o2, n2, rfl⟩ := below_adds hb; clear hb) | (go_at_call 26; refine (CT.out _).mono ?_; rintro e w' ⟨rfl, hb⟩; obtain ⟨o2, n2, rfl⟩ := below_adds hb; clear hb))
                    try go_wp2_with fail
                    refine hK.out _ _ ?_ (fun hHeld => ?_)
                    · (first | exact HST.out | assumption | exact E2.adds (by assumption) _ _ | exact E2.drew (by assumption))
                    clear hK K
                    try simp only [Act.put, List.setIfInBounds_toArray, List.set_cons_zero, List.set_cons_succ]
                    refine wpAnyH_take (i := 5) (oi := _) (v := ?_) rfl (by kernel_rfl) (by kernel_rfl) (by kernel_rfl) (fun _ _ _ h => h) (Or.inl ⟨by rfl, ?_⟩) (by assumption) ?_
                    rotate_left
                    · intro w hSw; (try dsimp only at hSw); go_simp; (try with_reducible rfl)
                    try dsimp only [List.getElem_toArray, List.getElem_cons_succ, List.getElem_cons_zero]
                    simp only [Act.put, List.setIfInBounds_toArray, List.set_cons_zero, List.set_cons_succ]
                    refine wpAnyH_done (by kernel_rfl) ?_ _
                    go_wp2_with fail
                    go_roundw
                    case rel => exact ⟨k + 1, by rw [HB1.out], by rw [HB2.out], by go_num, by omega, by repeat (first | exact HST.out | (with_reducible apply E2.adds) | (with_reducible apply E2.drew))⟩
                    case measure => simp [intOf]; omega
                  exact AllReadyH.nil
                exact AllReadyH.nil
              exact AllReadyH.nil
            refine AllReadyH.cons (o := _) rfl (fun K hK => ?_) ?_
            · (try dsimp only [List.getElem_toArray, List.getElem_cons_succ, List.getElem_cons_zero])
              (rw [if_pos (by rfl)]; first | (refine wp_load_row 25 (.tmp 3) (by with_reducible rfl) (w.heap.size + 1) (by rfl) 25 (eA f g c u l) (0, 0) _ hHeld.e Try.underlying25 rfl (infoEd f g c u l) ?_) | (refine wp_load_row 28 (.tmp 2) (by with_reducible rfl) w.heap.size (by rfl) 28 (rowI xs) (0, 0) _ hHeld.a Try.underlying28 rfl (by rw [rowI_size, HX.out]; exact infoA16) ?_))
              refine hK.out _ _ ?_ (fun hHeld => ?_)
              · (first | exact HST.out | assumption | exact E2.adds (by assumption) _ _ | exact E2.drew (by assumption))
              clear hK K
              try simp only [Act.put, List.setIfInBounds_toArray, List.set_cons_zero, List.set_cons_succ]
              refine wpAnyH_ready (rs := [0, 3]) (by kernel_rfl) (by simp) ?_
              refine AllReadyH.cons (o := _) rfl (fun K hK => ?_) ?_
              · (try dsimp only [List.getElem_toArray, List.getElem_cons_succ, List.getElem_cons_zero])
                (rw [if_pos (by rfl)]; first | (refine wp_load_row 25 (.tmp 3) (by with_reducible rfl) (w.heap.size + 1) (by rfl) 25 (eA f g c u l) (0, 0) _ hHeld.e Try.underlying25 rfl (infoEd f g c u l) ?_) | (refine wp_load_row 28 (.tmp 2) (by with_reducible rfl) w.heap.size (by rfl) 28 (rowI xs) (0, 0) _ hHeld.a Try.underlying28 rfl (by rw [rowI_size, HX.out]; exact infoA16) ?_))
                refine hK.out _ _ ?_ (fun hHeld => ?_)
                · (first | exact HST.out | assumption | exact E2.adds (by assumption) _ _ | exact E2.drew (by assumption))
                clear hK K
                try simp only [Act.put, List.setIfInBounds_toArray, List.set_cons_zero, List.set_cons_succ]
                refine wpAnyH_ready (rs := [3]) (by kernel_rfl) (by simp) ?_
                refine AllReadyH.cons (o := _) rfl (fun K hK => ?_) ?_
                · (try dsimp only [List.getElem_toArray, List.getElem_cons_succ, List.getElem_cons_zero]); go_simp
                  (first | (go_at_call 24; refine (CP.out _).mono ?_; rintro e w' ⟨rfl, hb⟩; obtain ⟨o2, n2, rfl⟩ := below_adds hb; clear hb) | (go_at_call 26; refine (CT.out _).mono ?_; rintro e w' ⟨rfl, hb⟩; obtain ⟨o2, n2, rfl⟩ := below_adds hb; clear hb))
                  try go_wp2_with fail
                  refine hK.out _ _ ?_ (fun hHeld => ?_)
                  · (first | exact HST.out | assumption | exact E2.adds (by assumption) _ _ | exact E2.drew (by assumption))
                  clear hK K
                  try simp only [Act.put, List.setIfInBounds_toArray, List.set_cons_zero, List.set_cons_succ]
                  refine wpAnyH_ready (rs := [4]) (by kernel_rfl) (by simp) ?_
                  refine AllReadyH.cons (o := _) rfl (fun K hK => ?_) ?_
                  · (try dsimp only [List.getElem_toArray, List.getElem_cons_succ, List.getElem_cons_zero]); go_simp
                    (first | (go_at_call 24; refine (CP.out _).mono ?_; rintro e w' ⟨rfl, hb⟩; obtain ⟨o2, n2, rfl⟩ := below_adds hb; clear hb) | (go_at_call 26; refine (CT.out _).mono ?_; rintro e w' ⟨rfl, hb⟩; obtain ⟨o2, n2, rfl⟩ := below_adds hb; clear hb))
                    try go_wp2_with fail
                    refine hK.out _ _ ?_ (fun hHeld => ?_)
                    · (first | exact HST.out | assumption | exact E2.adds (by assumption) _ _ | exact E2.drew (by assumption))
                    clear hK K
                    try simp only [Act.put, List.setIfInBounds_toArray, List.set_cons_zero, List.set_cons_succ]
                    refine wpAnyH_take (i := 5) (oi := _) (v := ?_) rfl (by kernel_rfl) (by kernel_rfl) (by kernel_rfl) (fun _ _ _ h => h) (Or.inl ⟨by rfl, ?_⟩) (by assumption) ?_
                    rotate_left
                    · intro w hSw; (try dsimp only at hSw); go_simp; (try with_reducible rfl)
                    try dsimp only [List.getElem_toArray, List.getElem_cons_succ, List.getElem_cons_zero]
                    simp only [Act.put, List.setIfInBounds_toArray, List.set_cons_zero, List.set_cons_succ]
                    refine wpAnyH_done (by kernel_rfl) ?_ _
                    go_wp2_with fail
                    go_roundw
                    case rel => exact ⟨k + 1, by rw [HB1.out], by rw [HB2.out], by go_num, by omega, by repeat (first | exact HST.out | (with_reducible apply E2.adds) | (with_reducible apply E2.drew))⟩
                    case measure => simp [intOf]; omega
                  exact AllReadyH.nil
                exact AllReadyH.nil
              refine AllReadyH.cons (o := _) rfl (fun K hK => ?_) ?_
              · (try dsimp only [List.getElem_toArray, List.getElem_cons_succ, List.getElem_cons_zero]); go_simp
                (first | (go_at_call 24; refine (CP.out _).mono ?_; rintro e w' ⟨rfl, hb⟩; obtain ⟨o2, n2, rfl⟩ := below_adds hb; clear hb) | (go_at_call 26; refine (CT.out _).mono ?_; rintro e w' ⟨rfl, hb⟩; obtain ⟨o2, n2, rfl⟩ := below_adds hb; clear hb))
                try go_wp2_with fail
                refine hK.out _ _ ?_ (fun hHeld => ?_)
                · (first | exact HST.out | assumption | exact E2.adds (by assumption) _ _ | exact E2.drew (by assumption))
                clear hK K
                try simp only [Act.put, List.setIfInBounds_toArray, List.set_cons_zero, List.set_cons_succ]
                refine wpAnyH_ready (rs := [0]) (by kernel_rfl) (by simp) ?_
                refine AllReadyH.cons (o := _) rfl (fun K hK => ?_) ?_
                · (try dsimp only [List.getElem_toArray, List.getElem_cons_succ, List.getElem_cons_zero])
                  (rw [if_pos (by rfl)]; first | (refine wp_load_row 25 (.tmp 3) (by with_reducible rfl) (w.heap.size + 1) (by rfl) 25 (eA f g c u l) (0, 0) _ hHeld.e Try.underlying25 rfl (infoEd f g c u l) ?_) | (refine wp_load_row 28 (.tmp 2) (by with_reducible rfl) w.heap.size (by rfl) 28 (rowI xs) (0, 0) _ hHeld.a Try.underlying28 rfl (by rw [rowI_size, HX.out]; exact infoA16) ?_))
                  refine hK.out _ _ ?_ (fun hHeld => ?_)
                  · (first | exact HST.out | assumption | exact E2.adds (by assumption) _ _ | exact E2.drew (by assumption))
                  clear hK K
                  try simp only [Act.put, List.setIfInBounds_toArray, List.set_cons_zero, List.set_cons_succ]
                  refine wpAnyH_ready (rs := [4]) (by kernel_rfl) (by simp) ?_
                  refine AllReadyH.cons (o := _) rfl (fun K hK => ?_) ?_
                  · (try dsimp only [List.getElem_toArray, List.getElem_cons_succ, List.getElem_cons_zero]); go_simp
                    (first | (go_at_call 24; refine (CP.out _).mono ?_; rintro e w' ⟨rfl, hb⟩; obtain ⟨o2, n2, rfl⟩ := below_adds hb; clear hb) | (go_at_call 26; refine (CT.out _).mono ?_; rintro e w' ⟨rfl, hb⟩; obtain ⟨o2, n2, rfl⟩ := below_adds hb; clear hb))
                    try go_wp2_with fail
                    refine hK.out _ _ ?_ (fun hHeld => ?_)
                    · (first | exact HST.out | assumption | exact E2.adds (by assumption) _ _ | exact E2.drew (by assumption))
                    clear hK K
                    try simp only [Act.put, List.setIfInBounds_toArray, List.set_cons_zero, List.set_cons_succ]
                    refine wpAnyH_take (i := 5) (oi := _) (v := ?_) rfl (by kernel_rfl) (by kernel_rfl) (by kernel_rfl) (fun _ _ _ h => h) (Or.inl ⟨by rfl, ?_⟩) (by assumption) ?_
                    rotate_left
                    · intro w hSw; (try dsimp only at hSw); go_simp; (try with_reducible rfl)
                    try dsimp only [List.getElem_toArray, List.getElem_cons_succ, List.getElem_cons_zero]
                    simp only [Act.put, List.setIfInBounds_toArray, List.set_cons_zero, List.set_cons_succ]
                    refine wpAnyH_done (by kernel_rfl) ?_ _
                    go_wp2_with fail
                    go_roundw
                    case rel => exact ⟨k + 1, by rw [HB1.out], by rw [HB2.out], by go_num, by omega, by repeat (first | exact HST.out | (with_reducible apply E2.adds) | (with_reducible apply E2.drew))⟩
                    case measure => simp [intOf]; omega
                  exact AllReadyH.nil
                exact AllReadyH.nil
              exact AllReadyH.nil
            exact AllReadyH.nil
          · have hb0 : 0 ≤ (bsG (-1, 0) C k).1 := by
              obtain ⟨j, hj⟩ : ∃ j, k = j + 1 := ⟨k - 1, by omega⟩
              rw [hj]; exact (bsG_in _ C j).1
            have HB1 := Lib.hid (show (bsG (-1, 0) C (k + 1)).1 = (k : Int) by rw [bsG, if_pos (.inr h1)])
            have HB2 := Lib.hid (show (bsG (-1, 0) C (k + 1)).2 = v by rw [bsG, if_pos (.inr h1), hv])
            rw [← hv] at h1
            generalize (bsG (-1, 0) C k).1 = b at *
            generalize (bsG (-1, 0) C k).2 = t at *
            clear h0 hv
            go_upto_region 8 with fail
            refine wp_region_held_drew (S := (fun w' => E2 w.heap.size xs f g c u l w w')) (by kernel_rfl) ?_ (fun hHeld => ?_)
            · (first | exact HST.out | assumption | exact E2.adds (by assumption) _ _ | exact E2.drew (by assumption))
            refine wpAnyH_take (i := 1) (oi := _) (v := ?_) rfl (by kernel_rfl) (by kernel_rfl) (by kernel_rfl) (fun _ _ _ h => h) (Or.inl ⟨by rfl, ?_⟩) (by assumption) ?_
            rotate_left
            · intro w hSw; (try dsimp only at hSw); go_simp; (try with_reducible rfl)
            try dsimp only [List.getElem_toArray, List.getElem_cons_succ, List.getElem_cons_zero]
            simp only [Act.put, List.setIfInBounds_toArray, List.set_cons_zero, List.set_cons_succ]
            refine wpAnyH_ready (rs := [0, 2]) (by kernel_rfl) (by simp) ?_
            refine AllReadyH.cons (o := _) rfl (fun K hK => ?_) ?_
            · (try dsimp only [List.getElem_toArray, List.getElem_cons_succ, List.getElem_cons_zero])
              (rw [if_pos (by rfl)]; first | (refine wp_load_row 25 (.tmp 3) (by with_reducible rfl) (w.heap.size + 1) (by rfl) 25 (eA f g c u l) (0, 0) _ hHeld.e Try.underlying25 rfl (infoEd f g c u l) ?_) | (refine wp_load_row 28 (.tmp 2) (by with_reducible rfl) w.heap.size (by rfl) 28 (rowI xs) (0, 0) _ hHeld.a Try.underlying28 rfl (by rw [rowI_size, HX.out]; exact infoA16) ?_))
              refine hK.out _ _ ?_ (fun hHeld => ?_)
              · (first | exact HST.out | assumption | exact E2.adds (by assumption) _ _ | exact E2.drew (by assumption))
              clear hK K
              try simp only [Act.put, List.setIfInBounds_toArray, List.set_cons_zero, List.set_cons_succ]
              refine wpAnyH_ready (rs := [2]) (by kernel_rfl) (by simp) ?_
              refine AllReadyH.cons (o := _) rfl (fun K hK => ?_) ?_
              · (try dsimp only [List.getElem_toArray, List.getElem_cons_succ, List.getElem_cons_zero])
                (rw [if_pos (by rfl)]; first | (refine wp_load_row 25 (.tmp 3) (by with_reducible rfl) (w.heap.size + 1) (by rfl) 25 (eA f g c u l) (0, 0) _ hHeld.e Try.underlying25 rfl (infoEd f g c u l) ?_) | (refine wp_load_row 28 (.tmp 2) (by with_reducible rfl) w.heap.size (by rfl) 28 (rowI xs) (0, 0) _ hHeld.a Try.underlying28 rfl (by rw [rowI_size, HX.out]; exact infoA16) ?_))
                refine hK.out _ _ ?_ (fun hHeld => ?_)
                · (first | exact HST.out | assumption | exact E2.adds (by assumption) _ _ | exact E2.drew (by assumption))
                clear hK K
                try simp only [Act.put, List.setIfInBounds_toArray, List.set_cons_zero, List.set_cons_succ]
                refine wpAnyH_ready (rs := [3]) (by kernel_rfl) (by simp) ?_
                refine AllReadyH.cons (o := _) rfl (fun K hK => ?_) ?_
                · (try dsimp only [List.getElem_toArray, List.getElem_cons_succ, List.getElem_cons_zero]); go_simp
                  (first | (go_at_call 24; refine (CP.out _).mono ?_; rintro e w' ⟨rfl, hb⟩; obtain ⟨o2, n2, rfl⟩ := below_adds hb; clear hb) | (go_at_call 26; refine (CT.out _).mono ?_; rintro e w' ⟨rfl, hb⟩; obtain ⟨o2, n2, rfl⟩ := below_adds hb; clear hb))
                  try go_wp2_with fail
                  refine hK.out _ _ ?_ (fun hHeld => ?_)
                  · (first | exact HST.out | assumption | exact E2.adds (by assumption) _ _ | exact E2.drew (by assumption))
                  clear hK K
                  try simp only [Act.put, List.setIfInBounds_toArray, List.set_cons_zero, List.set_cons_succ]
                  refine wpAnyH_ready (rs := [4]) (by kernel_rfl) (by simp) ?_
                  refine AllReadyH.cons (o := _) rfl (fun K hK => ?_) ?_
                  · (try dsimp only [List.getElem_toArray, List.getElem_cons_succ, List.getElem_cons_zero]); go_simp
                    (first | (go_at_call 24; refine (CP.out _).mono ?_; rintro e w' ⟨rfl, hb⟩; obtain ⟨o2, n2, rfl⟩ := below_adds hb; clear hb) | (go_at_call 26; refine (CT.out _).mono ?_; rintro e w' ⟨rfl, hb⟩; obtain ⟨o2, n2, rfl⟩ := below_adds hb; clear hb))
                    try go_wp2_with fail
                    refine hK.out _ _ ?_ (fun hHeld => ?_)
                    · (first | exact HST.out | assumption | exact E2.adds (by assumption) _ _ | exact E2.drew (by assumption))
                    clear hK K
                    try simp only [Act.put, List.setIfInBounds_toArray, List.set_cons_zero, List.set_cons_succ]
                    refine wpAnyH_take (i := 5) (oi := _) (v := ?_) rfl (by kernel_rfl) (by kernel_rfl) (by kernel_rfl) (fun _ _ _ h => h) (Or.inl ⟨by rfl, ?_⟩) (by assumption) ?_
                    rotate_left
                    · intro w hSw; (try dsimp only at hSw); go_simp; (try with_reducible rfl)
                    try dsimp only [List.getElem_toArray, List.getElem_cons_succ, List.getElem_cons_zero]
                    simp only [Act.put, List.setIfInBounds_toArray, List.set_cons_zero, List.set_cons_succ]
                    refine wpAnyH_done (by kernel_rfl) ?_ _
                    go_wp2_with fail
                    go_roundw
                    case rel => exact ⟨k + 1, by rw [HB1.out], by rw [HB2.out], by go_num, by omega, by repeat (first | exact HST.out | (with_reducible apply E2.adds) | (with_reducible apply E2.drew))⟩
                    case measure => simp [intOf]; omega
                  exact AllReadyH.nil
                exact AllReadyH.nil
              exact AllReadyH.nil
            refine AllReadyH.cons (o := _) rfl (fun K hK => ?_) ?_
            · (try dsimp only [List.getElem_toArray, List.getElem_cons_succ, List.getElem_cons_zero])
              (rw [if_pos (by rfl)]; first | (refine wp_load_row 25 (.tmp 3) (by with_reducible rfl) (w.heap.size + 1) (by rfl) 25 (eA f g c u l) (0, 0) _ hHeld.e Try.underlying25 rfl (infoEd f g c u l) ?_) | (refine wp_load_row 28 (.tmp 2) (by with_reducible rfl) w.heap.size (by rfl) 28 (rowI xs) (0, 0) _ hHeld.a Try.underlying28 rfl (by rw [rowI_size, HX.out]; exact infoA16) ?_))
              refine hK.out _ _ ?_ (fun hHeld => ?_)
              · (first | exact HST.out | assumption | exact E2.adds (by assumption) _ _ | exact E2.drew (by assumption))
              clear hK K
              try simp only [Act.put, List.setIfInBounds_toArray, List.set_cons_zero, List.set_cons_succ]
              refine wpAnyH_ready (rs := [0, 3]) (by kernel_rfl) (by simp) ?_
              refine AllReadyH.cons (o := _) rfl (fun K hK => ?_) ?_
              · (try dsimp only [List.getElem_toArray, List.getElem_cons_succ, List.getElem_cons_zero])
                (rw [if_pos (by rfl)]; first | (refine wp_load_row 25 (.tmp 3) (by with_reducible rfl) (w.heap.size + 1) (by rfl) 25 (eA f g c u l) (0, 0) _ hHeld.e Try.underlying25 rfl (infoEd f g c u l) ?_) | (refine wp_load_row 28 (.tmp 2) (by with_reducible rfl) w.heap.size (by rfl) 28 (rowI xs) (0, 0) _ hHeld.a Try.underlying28 rfl (by rw [rowI_size, HX.out]; exact infoA16) ?_))
                refine hK.out _ _ ?_ (fun hHeld => ?_)
                · (first | exact HST.out | assumption | exact E2.adds (by assumption) _ _ | exact E2.drew (by assumption))
                clear hK K
                try simp only [Act.put, List.setIfInBounds_toArray, List.set_cons_zero, List.set_cons_succ]
                refine wpAnyH_ready (rs := [3]) (by kernel_rfl) (by simp) ?_
                refine AllReadyH.cons (o := _) rfl (fun K hK => ?_) ?_
                · (try dsimp only [List.getElem_toArray, List.getElem_cons_succ, List.getElem_cons_zero]); go_simp
                  (first | (go_at_call 24; refine (CP.out _).mono ?_; rintro e w' ⟨rfl, hb⟩; obtain ⟨o2, n2, rfl⟩ := below_adds hb; clear hb) | (go_at_call 26; refine (CT.out _).mono ?_; rintro e w' ⟨rfl, hb⟩; obtain ⟨o2, n2, rfl⟩ := below_adds hb; clear hb))
                  try go_wp2_with fail
                  refine hK.out _ _ ?_ (fun hHeld => ?_)
                  · (first | exact HST.out | assumption | exact E2.adds (by assumption) _ _ | exact E2.drew (by assumption))
                  clear hK K
                  try simp only [Act.put, List.setIfInBounds_toArray, List.set_cons_zero, List.set_cons_succ]
                  refine wpAnyH_ready (rs := [4]) (by kernel_rfl) (by simp) ?_
                  refine AllReadyH.cons (o := _) rfl (fun K hK => ?_) ?_
                  · (try dsimp only [List.getElem_toArray, List.getElem_cons_succ, List.getElem_cons_zero]); go_simp
                    (first | (go_at_call 24; refine (CP.out _).mono ?_; rintro e w' ⟨rfl, hb⟩; obtain ⟨o2, n2, rfl⟩ := below_adds hb; clear hb) | (go_at_call 26; refine (CT.out _).mono ?_; rintro e w' ⟨rfl, hb⟩; obtain ⟨o2, n2, rfl⟩ := below_adds hb; clear hb))
                    try go_wp2_with fail
                    refine hK.out _ _ ?_ (fun hHeld => ?_)
                    · (first | exact HST.out | assumption | exact E2.adds (by assumption) _ _ | exact E2.drew (by assumption))
                    clear hK K
                    try simp only [Act.put, List.setIfInBounds_toArray, List.set_cons_zero, List.set_cons_succ]
                    refine wpAnyH_take (i := 5) (oi := _) (v := ?_) rfl (by kernel_rfl) (by kernel_rfl) (by kernel_rfl) (fun _ _ _ h => h) (Or.inl ⟨by rfl, ?_⟩) (by assumption) ?_
                    rotate_left
                    · intro w hSw; (try dsimp only at hSw); go_simp; (try with_reducible rfl)
                    try dsimp only [List.getElem_toArray, List.getElem_cons_succ, List.getElem_cons_zero]
                    simp only [Act.put, List.setIfInBounds_toArray, List.set_cons_zero, List.set_cons_succ]
                    refine wpAnyH_done (by kernel_rfl) ?_ _
                    go_wp2_with fail
                    go_roundw
                    case rel => exact ⟨k + 1, by rw [HB1.out], by rw [HB2.out], by go_num, by omega, by repeat (first | exact HST.out | (with_reducible apply E2.adds) | (with_reducible apply E2.drew))⟩
                    case measure => simp [intOf]; omega
                  exact AllReadyH.nil
                exact AllReadyH.nil
              refine AllReadyH.cons (o := _) rfl (fun K hK => ?_) ?_
              · (try dsimp only [List.getElem_toArray, List.getElem_cons_succ, List.getElem_cons_zero]); go_simp
                (first | (go_at_call 24; refine (CP.out _).mono ?_; rintro e w' ⟨rfl, hb⟩; obtain ⟨o2, n2, rfl⟩ := below_adds hb; clear hb) | (go_at_call 26; refine (CT.out _).mono ?_; rintro e w' ⟨rfl, hb⟩; obtain ⟨o2, n2, rfl⟩ := below_adds hb; clear hb))
                try go_wp2_with fail
                refine hK.out _ _ ?_ (fun hHeld => ?_)
                · (first | exact HST.out | assumption | exact E2.adds (by assumption) _ _ | exact E2.drew (by assumption))
                clear hK K
                try simp only [Act.put, List.setIfInBounds_toArray, List.set_cons_zero, List.set_cons_succ]
                refine wpAnyH_ready (rs := [0]) (by kernel_rfl) (by simp) ?_
                refine AllReadyH.cons (o := _) rfl (fun K hK => ?_) ?_
                · (try dsimp only [List.getElem_toArray, List.getElem_cons_succ, List.getElem_cons_zero])
                  (rw [if_pos (by rfl)]; first | (refine wp_load_row 25 (.tmp 3) (by with_reducible rfl) (w.heap.size + 1) (by rfl) 25 (eA f g c u l) (0, 0) _ hHeld.e Try.underlying25 rfl (infoEd f g c u l) ?_) | (refine wp_load_row 28 (.tmp 2) (by with_reducible rfl) w.heap.size (by rfl) 28 (rowI xs) (0, 0) _ hHeld.a Try.underlying28 rfl (by rw [rowI_size, HX.out]; exact infoA16) ?_))
                  refine hK.out _ _ ?_ (fun hHeld => ?_)
                  · (first | exact HST.out | assumption | exact E2.adds (by assumption) _ _ | exact E2.drew (by assumption))
                  clear hK K
                  try simp only [Act.put, List.setIfInBounds_toArray, List.set_cons_zero, List.set_cons_succ]
                  refine wpAnyH_ready (rs := [4]) (by kernel_rfl) (by simp) ?_
                  refine AllReadyH.cons (o := _) rfl (fun K hK => ?_) ?_
                  · (try dsimp only [List.getElem_toArray, List.getElem_cons_succ, List.getElem_cons_zero]); go_simp
                    (first | (go_at_call 24; refine (CP.out _).mono ?_; rintro e w' ⟨rfl, hb⟩; obtain ⟨o2, n2, rfl⟩ := below_adds hb; clear hb) | (go_at_call 26; refine (CT.out _).mono ?_; rintro e w' ⟨rfl, hb⟩; obtain ⟨o2, n2, rfl⟩ := below_adds hb; clear hb))
                    try go_wp2_with fail
                    refine hK.out _ _ ?_ (fun hHeld => ?_)
                    · (first | exact HST.out | assumption | exact E2.adds (by assumption) _ _ | exact E2.drew (by assumption))
                    clear hK K
                    try simp only [Act.put, List.setIfInBounds_toArray, List.set_cons_zero, List.set_cons_succ]
                    refine wpAnyH_take (i := 5) (oi := _) (v := ?_) rfl (by kernel_rfl) (by kernel_rfl) (by kernel_rfl) (fun _ _ _ h => h) (Or.inl ⟨by rfl, ?_⟩) (by assumption) ?_
                    rotate_left
                    · intro w hSw; (try dsimp only at hSw); go_simp; (try with_reducible rfl)
                    try dsimp only [List.getElem_toArray, List.getElem_cons_succ, List.getElem_cons_zero]
                    simp only [Act.put, List.setIfInBounds_toArray, List.set_cons_zero, List.set_cons_succ]
                    refine wpAnyH_done (by kernel_rfl) ?_ _
                    go_wp2_with fail
                    go_roundw
                    case rel => exact ⟨k + 1, by rw [HB1.out], by rw [HB2.out], by go_num, by omega, by repeat (first | exact HST.out | (with_reducible apply E2.adds) | (with_reducible apply E2.drew))⟩
                    case measure => simp [intOf]; omega
                  exact AllReadyH.nil
                exact AllReadyH.nil
              exact AllReadyH.nil
            exact AllReadyH.nil
          · have hb0 : 0 ≤ (bsG (-1, 0) C k).1 := by
              obtain ⟨j, hj⟩ : ∃ j, k = j + 1 := ⟨k - 1, by omega⟩
              rw [hj]; exact (bsG_in _ C j).1
            have HB1 := Lib.hid (show bsG (-1, 0) C (k + 1) = bsG (-1, 0) C k by rw [bsG, if_neg (fun h => h.elim h0 h1)])
            rw [← hv] at h1
            generalize hgb : bsG (-1, 0) C k = bt at h1 hb0 HB1 ⊢
            obtain ⟨b, t⟩ := bt
            clear hgb
            simp only at h1 hb0 ⊢
            clear h0 hv
            go_upto_region 8 with fail
            refine wp_region_held_drew (S := (fun w' => E2 w.heap.size xs f g c u l w w')) (by kernel_rfl) ?_ (fun hHeld => ?_)
            · (first | exact HST.out | assumption | exact E2.adds (by assumption) _ _ | exact E2.drew (by assumption))
            refine wpAnyH_take (i := 1) (oi := _) (v := ?_) rfl (by kernel_rfl) (by kernel_rfl) (by kernel_rfl) (fun _ _ _ h => h) (Or.inl ⟨by rfl, ?_⟩) (by assumption) ?_
            rotate_left
            · intro w hSw; (try dsimp only at hSw); go_simp; (try with_reducible rfl)
            try dsimp only [List.getElem_toArray, List.getElem_cons_succ, List.getElem_cons_zero]
            simp only [Act.put, List.setIfInBounds_toArray, List.set_cons_zero, List.set_cons_succ]
            refine wpAnyH_ready (rs := [0, 2]) (by kernel_rfl) (by simp) ?_
            refine AllReadyH.cons (o := _) rfl (fun K hK => ?_) ?_
            · (try dsimp only [List.getElem_toArray, List.getElem_cons_succ, List.getElem_cons_zero])
              (rw [if_pos (by rfl)]; first | (refine wp_load_row 25 (.tmp 3) (by with_reducible rfl) (w.heap.size + 1) (by rfl) 25 (eA f g c u l) (0, 0) _ hHeld.e Try.underlying25 rfl (infoEd f g c u l) ?_) | (refine wp_load_row 28 (.tmp 2) (by with_reducible rfl) w.heap.size (by rfl) 28 (rowI xs) (0, 0) _ hHeld.a Try.underlying28 rfl (by rw [rowI_size, HX.out]; exact infoA16) ?_))
              refine hK.out _ _ ?_ (fun hHeld => ?_)
              · (first | exact HST.out | assumption | exact E2.adds (by assumption) _ _ | exact E2.drew (by assumption))
              clear hK K
              try simp only [Act.put, List.setIfInBounds_toArray, List.set_cons_zero, List.set_cons_succ]
              refine wpAnyH_ready (rs := [2]) (by kernel_rfl) (by simp) ?_
              refine AllReadyH.cons (o := _) rfl (fun K hK => ?_) ?_
              · (try dsimp only [List.getElem_toArray, List.getElem_cons_succ, List.getElem_cons_zero])
                (rw [if_pos (by rfl)]; first | (refine wp_load_row 25 (.tmp 3) (by with_reducible rfl) (w.heap.size + 1) (by rfl) 25 (eA f g c u l) (0, 0) _ hHeld.e Try.underlying25 rfl (infoEd f g c u l) ?_) | (refine wp_load_row 28 (.tmp 2) (by with_reducible rfl) w.heap.size (by rfl) 28 (rowI xs) (0, 0) _ hHeld.a Try.underlying28 rfl (by rw [rowI_size, HX.out]; exact infoA16) ?_))
                refine hK.out _ _ ?_ (fun hHeld => ?_)
                · (first | exact HST.out | assumption | exact E2.adds (by assumption) _ _ | exact E2.drew (by assumption))
                clear hK K
                try simp only [Act.put, List.setIfInBounds_toArray, List.set_cons_zero, List.set_cons_succ]
                refine wpAnyH_ready (rs := [3]) (by kernel_rfl) (by simp) ?_
                refine AllReadyH.cons (o := _) rfl (fun K hK => ?_) ?_
                · (try dsimp only [List.getElem_toArray, List.getElem_cons_succ, List.getElem_cons_zero]); go_simp
                  (first | (go_at_call 24; refine (CP.out _).mono ?_; rintro e w' ⟨rfl, hb⟩; obtain ⟨o2, n2, rfl⟩ := below_adds hb; clear hb) | (go_at_call 26; refine (CT.out _).mono ?_; rintro e w' ⟨rfl, hb⟩; obtain ⟨o2, n2, rfl⟩ := below_adds hb; clear hb))
                  try go_wp2_with fail
                  refine hK.out _ _ ?_ (fun hHeld => ?_)
                  · (first | exact HST.out | assumption | exact E2.adds (by assumption) _ _ | exact E2.drew (by assumption))
                  clear hK K
                  try simp only [Act.put, List.setIfInBounds_toArray, List.set_cons_zero, List.set_cons_succ]
                  refine wpAnyH_ready (rs := [4]) (by kernel_rfl) (by simp) ?_
                  refine AllReadyH.cons (o := _) rfl (fun K hK => ?_) ?_
                  · (try dsimp only [List.getElem_toArray, List.getElem_cons_succ, List.getElem_cons_zero]); go_simp
                    (first | (go_at_call 24; refine (CP.out _).mono ?_; rintro e w' ⟨rfl, hb⟩; obtain ⟨o2, n2, rfl⟩ := below_adds hb; clear hb) | (go_at_call 26; refine (CT.out _).mono ?_; rintro e w' ⟨rfl, hb⟩; obtain ⟨o2, n2, rfl⟩ := below_adds hb; clear hb))
                    try go_wp2_with fail
                    refine hK.out _ _ ?_ (fun hHeld => ?_)
                    · (first | exact HST.out | assumption | exact E2.adds (by assumption) _ _ | exact E2.drew (by assumption))
                    clear hK K
                    try simp only [Act.put, List.setIfInBounds_toArray, List.set_cons_zero, List.set_cons_succ]
                    refine wpAnyH_take (i := 5) (oi := _) (v := ?_) rfl (by kernel_rfl) (by kernel_rfl) (by kernel_rfl) (fun _ _ _ h => h) (Or.inl ⟨by rfl, ?_⟩) (by assumption) ?_
                    rotate_left
                    · intro w hSw; (try dsimp only at hSw); go_simp; (try with_reducible rfl)
                    try dsimp only [List.getElem_toArray, List.getElem_cons_succ, List.getElem_cons_zero]
                    simp only [Act.put, List.setIfInBounds_toArray, List.set_cons_zero, List.set_cons_succ]
                    refine wpAnyH_done (by kernel_rfl) ?_ _
                    go_wp2_with fail
                    go_roundw
                    case rel => exact ⟨k + 1, by rw [HB1.out], by rw [HB1.out], by go_num, by omega, by repeat (first | exact HST.out | (with_reducible apply E2.adds) | (with_reducible apply E2.drew))⟩
                    case measure => simp [intOf]; omega
                  exact AllReadyH.nil
                exact AllReadyH.nil
              exact AllReadyH.nil
            refine AllReadyH.cons (o := _) rfl (fun K hK => ?_) ?_
            · (try dsimp only [List.getElem_toArray, List.getElem_cons_succ, List.getElem_cons_zero])
              (rw [if_pos (by rfl)]; first | (refine wp_load_row 25 (.tmp 3) (by with_reducible rfl) (w.heap.size + 1) (by rfl) 25 (eA f g c u l) (0, 0) _ hHeld.e Try.underlying25 rfl (infoEd f g c u l) ?_) | (refine wp_load_row 28 (.tmp 2) (by with_reducible rfl) w.heap.size (by rfl) 28 (rowI xs) (0, 0) _ hHeld.a Try.underlying28 rfl (by rw [rowI_size, HX.out]; exact infoA16) ?_))
              refine hK.out _ _ ?_ (fun hHeld => ?_)
              · (first | exact HST.out | assumption | exact E2.adds (by assumption) _ _ | exact E2.drew (by assumption))
              clear hK K
              try simp only [Act.put, List.setIfInBounds_toArray, List.set_cons_zero, List.set_cons_succ]
              refine wpAnyH_ready (rs := [0, 3]) (by kernel_rfl) (by simp) ?_
              refine AllReadyH.cons (o := _) rfl (fun K hK => ?_) ?_
              · (try dsimp only [List.getElem_toArray, List.getElem_cons_succ, List.getElem_cons_zero])
                (rw [if_pos (by rfl)]; first | (refine wp_load_row 25 (.tmp 3) (by with_reducible rfl) (w.heap.size + 1) (by rfl) 25 (eA f g c u l) (0, 0) _ hHeld.e Try.underlying25 rfl (infoEd f g c u l) ?_) | (refine wp_load_row 28 (.tmp 2) (by with_reducible rfl) w.heap.size (by rfl) 28 (rowI xs) (0, 0) _ hHeld.a Try.underlying28 rfl (by rw [rowI_size, HX.out]; exact infoA16) ?_))
                refine hK.out _ _ ?_ (fun hHeld => ?_)
                · (first | exact HST.out | assumption | exact E2.adds (by assumption) _ _ | exact E2.drew (by assumption))
                clear hK K
                try simp only [Act.put, List.setIfInBounds_toArray, List.set_cons_zero, List.set_cons_succ]
                refine wpAnyH_ready (rs := [3]) (by kernel_rfl) (by simp) ?_
                refine AllReadyH.cons (o := _) rfl (fun K hK => ?_) ?_
                · (try dsimp only [List.getElem_toArray, List.getElem_cons_succ, List.getElem_cons_zero]); go_simp
                  (first | (go_at_call 24; refine (CP.out _).mono ?_; rintro e w' ⟨rfl, hb⟩; obtain ⟨o2, n2, rfl⟩ := below_adds hb; clear hb) | (go_at_call 26; refine (CT.out _).mono ?_; rintro e w' ⟨rfl, hb⟩; obtain ⟨o2, n2, rfl⟩ := below_adds hb; clear hb))
                  try go_wp2_with fail
                  refine hK.out _ _ ?_ (fun hHeld => ?_)
                  · (first | exact HST.out | assumption | exact E2.adds (by assumption) _ _ | exact E2.drew (by assumption))
                  clear hK K
                  try simp only [Act.put, List.setIfInBounds_toArray, List.set_cons_zero, List.set_cons_succ]
                  refine wpAnyH_ready (rs := [4]) (by kernel_rfl) (by simp) ?_
                  refine AllReadyH.cons (o := _) rfl (fun K hK => ?_) ?_
                  · (try dsimp only [List.getElem_toArray, List.getElem_cons_succ, List.getElem_cons_zero]); go_simp
                    (first | (go_at_call 24; refine (CP.out _).mono ?_; rintro e w' ⟨rfl, hb⟩; obtain ⟨o2, n2, rfl⟩ := below_adds hb; clear hb) | (go_at_call 26; refine (CT.out _).mono ?_; rintro e w' ⟨rfl, hb⟩; obtain ⟨o2, n2, rfl⟩ := below_adds hb; clear hb))
                    try go_wp2_with fail
                    refine hK.out _ _ ?_ (fun hHeld => ?_)
                    · (first | exact HST.out | assumption | exact E2.adds (by assumption) _ _ | exact E2.drew (by assumption))
                    clear hK K
                    try simp only [Act.put, List.setIfInBounds_toArray, List.set_cons_zero, List.set_cons_succ]
                    refine wpAnyH_take (i := 5) (oi := _) (v := ?_) rfl (by kernel_rfl) (by kernel_rfl) (by kernel_rfl) (fun _ _ _ h => h) (Or.inl ⟨by rfl, ?_⟩) (by assumption) ?_
                    rotate_left
                    · intro w hSw; (try dsimp only at hSw); go_simp; (try with_reducible rfl)
                    try dsimp only [List.getElem_toArray, List.getElem_cons_succ, List.getElem_cons_zero]
                    simp only [Act.put, List.setIfInBounds_toArray, List.set_cons_zero, List.set_cons_succ]
                    refine wpAnyH_done (by kernel_rfl) ?_ _
                    go_wp2_with fail
                    go_roundw
                    case rel => exact ⟨k + 1, by rw [HB1.out], by rw [HB1.out], by go_num, by omega, by repeat (first | exact HST.out | (with_reducible apply E2.adds) | (with_reducible apply E2.drew))⟩
                    case measure => simp [intOf]; omega
                  exact AllReadyH.nil
                exact AllReadyH.nil
              refine AllReadyH.cons (o := _) rfl (fun K hK => ?_) ?_
              · (try dsimp only [List.getElem_toArray, List.getElem_cons_succ, List.getElem_cons_zero]); go_simp
                (first | (go_at_call 24; refine (CP.out _).mono ?_; rintro e w' ⟨rfl, hb⟩; obtain ⟨o2, n2, rfl⟩ := below_adds hb; clear hb) | (go_at_call 26; refine (CT.out _).mono ?_; rintro e w' ⟨rfl, hb⟩; obtain ⟨o2, n2, rfl⟩ := below_adds hb; clear hb))
                try go_wp2_with fail
                refine hK.out _ _ ?_ (fun hHeld => ?_)
                · (first | exact HST.out | assumption | exact E2.adds (by assumption) _ _ | exact E2.drew (by assumption))
                clear hK K
                try simp only [Act.put, List.setIfInBounds_toArray, List.set_cons_zero, List.set_cons_succ]
                refine wpAnyH_ready (rs := [0]) (by kernel_rfl) (by simp) ?_
                refine AllReadyH.cons (o := _) rfl (fun K hK => ?_) ?_
                · (try dsimp only [List.getElem_toArray, List.getElem_cons_succ, List.getElem_cons_zero])
                  (rw [if_pos (by rfl)]; first | (refine wp_load_row 25 (.tmp 3) (by with_reducible rfl) (w.heap.size + 1) (by rfl) 25 (eA f g c u l) (0, 0) _ hHeld.e Try.underlying25 rfl (infoEd f g c u l) ?_) | (refine wp_load_row 28 (.tmp 2) (by with_reducible rfl) w.heap.size (by rfl) 28 (rowI xs) (0, 0) _ hHeld.a Try.underlying28 rfl (by rw [rowI_size, HX.out]; exact infoA16) ?_))
                  refine hK.out _ _ ?_ (fun hHeld => ?_)
                  · (first | exact HST.out | assumption | exact E2.adds (by assumption) _ _ | exact E2.drew (by assumption))
                  clear hK K
                  try simp only [Act.put, List.setIfInBounds_toArray, List.set_cons_zero, List.set_cons_succ]
                  refine wpAnyH_ready (rs := [4]) (by kernel_rfl) (by simp) ?_
                  refine AllReadyH.cons (o := _) rfl (fun K hK => ?_) ?_
                  · (try dsimp only [List.getElem_toArray, List.getElem_cons_succ, List.getElem_cons_zero]); go_simp
                    (first | (go_at_call 24; refine (CP.out _).mono ?_; rintro e w' ⟨rfl, hb⟩; obtain ⟨o2, n2, rfl⟩ := below_adds hb; clear hb) | (go_at_call 26; refine (CT.out _).mono ?_; rintro e w' ⟨rfl, hb⟩; obtain ⟨o2, n2, rfl⟩ := below_adds hb; clear hb))
                    try go_wp2_with fail
                    refine hK.out _ _ ?_ (fun hHeld => ?_)
                    · (first | exact HST.out | assumption | exact E2.adds (by assumption) _ _ | exact E2.drew (by assumption))
                    clear hK K
                    try simp only [Act.put, List.setIfInBounds_toArray, List.set_cons_zero, List.set_cons_succ]
                    refine wpAnyH_take (i := 5) (oi := _) (v := ?_) rfl (by kernel_rfl) (by kernel_rfl) (by kernel_rfl) (fun _ _ _ h => h) (Or.inl ⟨by rfl, ?_⟩) (by assumption) ?_
                    rotate_left
                    · intro w hSw; (try dsimp only at hSw); go_simp; (try with_reducible rfl)
                    try dsimp only [List.getElem_toArray, List.getElem_cons_succ, List.getElem_cons_zero]
                    simp only [Act.put, List.setIfInBounds_toArray, List.set_cons_zero, List.set_cons_succ]
                    refine wpAnyH_done (by kernel_rfl) ?_ _
                    go_wp2_with fail
                    go_roundw
                    case rel => exact ⟨k + 1, by rw [HB1.out], by rw [HB1.out], by go_num, by omega, by repeat (first | exact HST.out | (with_reducible apply E2.adds) | (with_reducible apply E2.drew))⟩
                    case measure => simp [intOf]; omega
                  exact AllReadyH.nil
                exact AllReadyH.nil
              exact AllReadyH.nil
            exact AllReadyH.nil
        · have hd1 : ¬ (k : Int) ≤ 4 := by omega
          have HK5 := Lib.hid (show k = 5 by omega)
          have HE := Lib.hid (show biV xs f g c u l = (bsG (-1, 0) C k).1 by rw [HV.out, HK5.out])
          generalize (bsG (-1, 0) C k).1 = b at HE ⊢
          generalize (bsG (-1, 0) C k).2 = t
          go_wp2_with fail
          go_returns
          exact ⟨by rw [HE.out]; rfl, HST.out.below⟩

end Go.Proofs.Ythnigldbpikcaaa
