/- Two lists of coded pictures compared. -/
import Derived.Test.YtbnccnngcgbklaaMarkL
namespace Go.Proofs.Ytbnccnngcgbklaa
open Go.RowKit Go.Deep
set_option linter.unusedVariables false
set_option linter.unusedSimpArgs false

attribute [local go_sem] size_addsW cell?_addsW frozen?_addsW setCell_addsW drew_addsW adds_addsW setCell_twice alloc_adds0 size_adds0 adds_adds0 sel2 sel3 sel4 sel5 sel6 sel7 sel8 sel9 lt_more lt_more2 lt_more3 lt_more4 adds_drew adds_drewN drewN_addsW ltA_1_1 ltA_1_2 ltA_1_3 ltA_1_4 ltA_1_5 ltA_1_6 ltA_2_1 ltA_2_2 ltA_2_3 ltA_2_4 ltA_2_5 ltA_2_6 ltA_3_1 ltA_3_2 ltA_3_3 ltA_3_4 ltA_3_5 ltA_3_6 ltA_4_1 ltA_4_2 ltA_4_3 ltA_4_4 ltA_4_5 ltA_4_6 ltA_5_1 ltA_5_2 ltA_5_3 ltA_5_4 ltA_5_5 ltA_5_6 ltA_6_1 ltA_6_2 ltA_6_3 ltA_6_4 ltA_6_5 ltA_6_6 ltA_7_1 ltA_7_2 ltA_7_3 ltA_7_4 ltA_7_5 ltA_7_6 ltA_8_1 ltA_8_2 ltA_8_3 ltA_8_4 ltA_8_5 ltA_8_6 ltA_9_1 ltA_9_2 ltA_9_3 ltA_9_4 ltA_9_5 ltA_9_6 ltA_10_1 ltA_10_2 ltA_10_3 ltA_10_4 ltA_10_5 ltA_10_6 ltA_11_1 ltA_11_2 ltA_11_3 ltA_11_4 ltA_11_5 ltA_11_6 ltA_12_1 ltA_12_2 ltA_12_3 ltA_12_4 ltA_12_5 ltA_12_6

set_option maxRecDepth 100000 in
set_option maxHeartbeats 1000000 in
theorem L_eqCodedS (g g' n c c' : Nat) (tb tb' : Nat → Nat) (p p' : Nat → Nat → Nat) (E : Nat → CdE) (w : World) (h : COwn w g n n tb p E) (h' : COwn w g' n n tb' p' E) (hz : lenOk n E) (hn : n + sm (totS E) n ≤ 1048576) :
    Calls Try.prog 16 #[.slice (some ⟨g, 0, none⟩) n c, .slice (some ⟨g', 0, none⟩) n c'] w fun e w' => e = .returned (.bool true) ∧ Below w.heap.size w w' := by
  have HS := Lib.hid h
  have HS' := Lib.hid h'
  have HZ := Lib.hid hz
  have HN := Lib.hid hn
  have hn1 : n ≤ 1048576 := by omega
  clear h h' hn hz
  go_enter Try.func16, Try.ntmps16
  go_wp2_with fail
  go_loopw [5] (fun v wr => ∃ k : Nat, k ≤ n ∧ v = .int .i64 (k : Int) ∧ Below w.heap.size w wr) (fun v _ => n - (intOf v).toNat)
  case atStart => exact ⟨0, by omega, rfl, Below.refl _ _⟩
  case round =>
    obtain ⟨k, hk, rfl, hb⟩ := hrel
    have HB := Lib.hid hb
    by_cases hlt : k < n
    · have hd1 : (k : Int) < (n : Int) := by omega
      have hb1 := (HS.out.below hb).b
      have hb2 := (HS'.out.below hb).b
      have c0 : wr.cell? ⟨g, k * 5, none⟩ = some (.int .i64 (E k).x) := hb1.get (csA_lo (j := 0) hlt hlt (by omega))
      have c1 : wr.cell? ⟨g, k * 5 + 1, none⟩ = some (.int .i64 (E k).y) := hb1.get (csA_lo (j := 1) hlt hlt (by omega))
      have c2 : wr.cell? ⟨g, k * 5 + 2, none⟩ = some (.bool (E k).i) := hb1.get (csA_lo (j := 2) hlt hlt (by omega))
      have c3 : wr.cell? ⟨g, k * 5 + 3, none⟩ = some (.int .i64 (E k).q) := hb1.get (csA_lo (j := 3) hlt hlt (by omega))
      have c4 : wr.cell? ⟨g, k * 5 + 4, none⟩ = some (.slice (some ⟨tb k, 0, none⟩) (E k).n (E k).n) := hb1.get (csA_lo (j := 4) hlt hlt (by omega))
      have d0 : wr.cell? ⟨g', k * 5, none⟩ = some (.int .i64 (E k).x) := hb2.get (csA_lo (j := 0) hlt hlt (by omega))
      have d1 : wr.cell? ⟨g', k * 5 + 1, none⟩ = some (.int .i64 (E k).y) := hb2.get (csA_lo (j := 1) hlt hlt (by omega))
      have d2 : wr.cell? ⟨g', k * 5 + 2, none⟩ = some (.bool (E k).i) := hb2.get (csA_lo (j := 2) hlt hlt (by omega))
      have d3 : wr.cell? ⟨g', k * 5 + 3, none⟩ = some (.int .i64 (E k).q) := hb2.get (csA_lo (j := 3) hlt hlt (by omega))
      have d4 : wr.cell? ⟨g', k * 5 + 4, none⟩ = some (.slice (some ⟨tb' k, 0, none⟩) (E k).n (E k).n) := hb2.get (csA_lo (j := 4) hlt hlt (by omega))
      have hsz := hb.size
      have hg1 : g < wr.heap.size := hb1.lt
      have hg2 : g' < wr.heap.size := hb2.lt
      have CE := Lib.hid (show ∀ W, Below wr.heap.size wr W → Calls Try.prog 10 #[.agg (cdA (E k).x (E k).y (E k).i (E k).q (some ⟨tb k, 0, none⟩) (E k).n (E k).n), .agg (cdA (E k).x (E k).y (E k).i (E k).q (some ⟨tb' k, 0, none⟩) (E k).n (E k).n)] W fun e w' => e = .returned (.bool true) ∧ Below W.heap.size W w' from fun W hW => by
        have hlm : (E k).n + sm (E k).l (E k).n ≤ sm (totS E) n := sm_at (totS E) hlt
        have := HN.out
        exact L_eqCoded _ _ _ _ _ _ _ _ _ _ _ _ _ _ _ W ((((HS.out.below hb).below hW).r k hlt).1.ss (HZ.out k hlt).2) ((((HS'.out.below hb).below hW).r k hlt).1.ss (HZ.out k hlt).2) (by omega))
      clear hb1 hb2 hb
      unfold cdA at CE
      generalize (E k).x = x at *
      generalize (E k).y = y at *
      generalize (E k).i = ii at *
      generalize (E k).q = q at *
      generalize (E k).n = m at *
      generalize tb k = tk at *
      generalize tb' k = tk' at *
      go_upto_region 6 with fail
      refine wp_region_held_drew (S := (fun w' => (w'.cell? ⟨g, k * 5, none⟩ = some (.int .i64 x) ∧ w'.cell? ⟨g, k * 5 + 1, none⟩ = some (.int .i64 y) ∧ w'.cell? ⟨g, k * 5 + 2, none⟩ = some (.bool ii) ∧ w'.cell? ⟨g, k * 5 + 3, none⟩ = some (.int .i64 q) ∧ w'.cell? ⟨g, k * 5 + 4, none⟩ = some (.slice (some ⟨tk, 0, none⟩) m m)) ∧ w'.cell? ⟨g', k * 5, none⟩ = some (.int .i64 x) ∧ w'.cell? ⟨g', k * 5 + 1, none⟩ = some (.int .i64 y) ∧ w'.cell? ⟨g', k * 5 + 2, none⟩ = some (.bool ii) ∧ w'.cell? ⟨g', k * 5 + 3, none⟩ = some (.int .i64 q) ∧ w'.cell? ⟨g', k * 5 + 4, none⟩ = some (.slice (some ⟨tk', 0, none⟩) m m))) (by kernel_rfl) ?_ (fun hHeld => ?_)
      · (first | (go_simp; done) | (go_keep; done))
      refine wpAnyH_take (i := 0) (oi := _) (v := ?_) rfl (by kernel_rfl) (by kernel_rfl) (by kernel_rfl) (fun _ _ _ h => h) (Or.inl ⟨by rfl, ?_⟩) (by assumption) ?_
      rotate_left
      · intro w hSw; (try dsimp only at hSw); go_simp; (try with_reducible rfl)
      try dsimp only [List.getElem_toArray, List.getElem_cons_succ, List.getElem_cons_zero]
      simp only [Act.put, List.setIfInBounds_toArray, List.set_cons_zero, List.set_cons_succ]
      refine wpAnyH_take (i := 1) (oi := _) (v := ?_) rfl (by kernel_rfl) (by kernel_rfl) (by kernel_rfl) (fun _ _ _ h => h) (Or.inl ⟨by rfl, ?_⟩) (by assumption) ?_
      rotate_left
      · intro w hSw; (try dsimp only at hSw); go_simp; (try with_reducible rfl)
      try dsimp only [List.getElem_toArray, List.getElem_cons_succ, List.getElem_cons_zero]
      simp only [Act.put, List.setIfInBounds_toArray, List.set_cons_zero, List.set_cons_succ]
      refine wpAnyH_take (i := 2) (oi := _) (v := ?_) rfl (by kernel_rfl) (by kernel_rfl) (by kernel_rfl) (fun _ _ _ h => h) (Or.inl ⟨by rfl, ?_⟩) (by assumption) ?_
      rotate_left
      · intro w hSw; (try dsimp only at hSw); go_simp; (try with_reducible rfl)
      try dsimp only [List.getElem_toArray, List.getElem_cons_succ, List.getElem_cons_zero]
      simp only [Act.put, List.setIfInBounds_toArray, List.set_cons_zero, List.set_cons_succ]
      refine wpAnyH_take (i := 3) (oi := _) (v := ?_) rfl (by kernel_rfl) (by kernel_rfl) (by kernel_rfl) (fun _ _ _ h => h) (Or.inl ⟨by rfl, ?_⟩) (by assumption) ?_
      rotate_left
      · intro w hSw; (try dsimp only at hSw); go_simp; (try with_reducible rfl)
      try dsimp only [List.getElem_toArray, List.getElem_cons_succ, List.getElem_cons_zero]
      simp only [Act.put, List.setIfInBounds_toArray, List.set_cons_zero, List.set_cons_succ]
      refine wpAnyH_take (i := 4) (oi := _) (v := ?_) rfl (by kernel_rfl) (by kernel_rfl) (by kernel_rfl) (fun _ _ _ h => h) (Or.inl ⟨by rfl, ?_⟩) (by assumption) ?_
      rotate_left
      · intro w hSw; (try dsimp only at hSw); go_simp; (try with_reducible rfl)
      try dsimp only [List.getElem_toArray, List.getElem_cons_succ, List.getElem_cons_zero]
      simp only [Act.put, List.setIfInBounds_toArray, List.set_cons_zero, List.set_cons_succ]
      refine wpAnyH_take (i := 5) (oi := _) (v := ?_) rfl (by kernel_rfl) (by kernel_rfl) (by kernel_rfl) (fun _ _ _ h => h) (Or.inl ⟨by rfl, ?_⟩) (by assumption) ?_
      rotate_left
      · intro w hSw; (try dsimp only at hSw); go_simp; (try with_reducible rfl)
      try dsimp only [List.getElem_toArray, List.getElem_cons_succ, List.getElem_cons_zero]
      simp only [Act.put, List.setIfInBounds_toArray, List.set_cons_zero, List.set_cons_succ]
      refine wpAnyH_take (i := 6) (oi := _) (v := ?_) rfl (by kernel_rfl) (by kernel_rfl) (by kernel_rfl) (fun _ _ _ h => h) (Or.inl ⟨by rfl, ?_⟩) (by assumption) ?_
      rotate_left
      · intro w hSw; (try dsimp only at hSw); go_simp; (try with_reducible rfl)
      try dsimp only [List.getElem_toArray, List.getElem_cons_succ, List.getElem_cons_zero]
      simp only [Act.put, List.setIfInBounds_toArray, List.set_cons_zero, List.set_cons_succ]
      refine wpAnyH_take (i := 7) (oi := _) (v := ?_) rfl (by kernel_rfl) (by kernel_rfl) (by kernel_rfl) (fun _ _ _ h => h) (Or.inl ⟨by rfl, ?_⟩) (by assumption) ?_
      rotate_left
      · intro w hSw; (try dsimp only at hSw); go_simp; (try with_reducible rfl)
      try dsimp only [List.getElem_toArray, List.getElem_cons_succ, List.getElem_cons_zero]
      simp only [Act.put, List.setIfInBounds_toArray, List.set_cons_zero, List.set_cons_succ]
      refine wpAnyH_ready (rs := [8]) (by kernel_rfl) (by simp) ?_
      refine AllReadyH.cons (o := _) rfl (fun K hK => ?_) ?_
      · (try dsimp only [List.getElem_toArray, List.getElem_cons_succ, List.getElem_cons_zero]); go_simp
        (go_at_call 10; refine (CE.out _ (by repeat' (first | (with_reducible exact Below.refl _ _) | (with_reducible refine Below.adds_ ?_ ?_ _ _) | (with_reducible refine Below.alloc ?_ ?_ _) | (with_reducible refine Below.drew ?_) | (with_reducible refine Below.setCell ?_ ?_ _) | (with_reducible assumption) | go_size | (simp only [size_addsW, World.size_alloc, World.size_drew, World.size_setCell]; omega)))).mono ?_; rintro e w' ⟨rfl, hb⟩; obtain ⟨o2, n2, rfl⟩ := below_adds hb; clear hb)
        try go_wp2_with fail
        refine hK.out _ _ ?_ (fun hHeld => ?_)
        · (first | (go_simp; done) | (go_keep; done))
        clear hK K
        try simp only [Act.put, List.setIfInBounds_toArray, List.set_cons_zero, List.set_cons_succ]
        refine wpAnyH_take (i := 9) (oi := _) (v := ?_) rfl (by kernel_rfl) (by kernel_rfl) (by kernel_rfl) (fun _ _ _ h => h) (Or.inl ⟨by rfl, ?_⟩) (by assumption) ?_
        rotate_left
        · intro w hSw; (try dsimp only at hSw); go_simp; (try with_reducible rfl)
        try dsimp only [List.getElem_toArray, List.getElem_cons_succ, List.getElem_cons_zero]
        simp only [Act.put, List.setIfInBounds_toArray, List.set_cons_zero, List.set_cons_succ]
        refine wpAnyH_done (by kernel_rfl) ?_ _
        go_wp2_with fail
        go_roundw
        case rel => exact ⟨k + 1, by omega, by go_num, HB.out.trans ((show Below wr.heap.size wr _ from (by repeat' (first | (with_reducible exact Below.refl _ _) | (with_reducible refine Below.adds_ ?_ ?_ _ _) | (with_reducible refine Below.alloc ?_ ?_ _) | (with_reducible refine Below.drew ?_) | (with_reducible refine Below.setCell ?_ ?_ _) | (with_reducible assumption) | go_size | (simp only [size_addsW, World.size_alloc, World.size_drew, World.size_setCell]; omega)))).mono hsz)⟩
        case measure => simp [intOf]; omega
      exact AllReadyH.nil
    · obtain rfl : k = n := by omega
      clear hb
      go_wp2_with fail
      go_returns
      exact ⟨rfl, HB.out⟩

end Go.Proofs.Ytbnccnngcgbklaa
