/- What the draw of two pictures answers. -/
import Derived.Test.YtobphddjoebfjaaDrawK
namespace Go.Proofs.Ytobphddjoebfjaa
open Go.RowKit
set_option linter.unusedVariables false
set_option linter.unusedSimpArgs false

attribute [local go_sem] size_addsW cell?_addsW frozen?_addsW setCell_addsW drew_addsW adds_addsW setCell_twice alloc_adds0 size_adds0 adds_adds0 sel2 sel3 sel4 sel5 sel6 sel7 sel8 sel9 lt_more lt_more2 lt_more3 lt_more4 adds_drew adds_drewN drewN_addsW ltA_1_1 ltA_1_2 ltA_1_3 ltA_1_4 ltA_1_5 ltA_1_6 ltA_2_1 ltA_2_2 ltA_2_3 ltA_2_4 ltA_2_5 ltA_2_6 ltA_3_1 ltA_3_2 ltA_3_3 ltA_3_4 ltA_3_5 ltA_3_6 ltA_4_1 ltA_4_2 ltA_4_3 ltA_4_4 ltA_4_5 ltA_4_6 ltA_5_1 ltA_5_2 ltA_5_3 ltA_5_4 ltA_5_5 ltA_5_6 ltA_6_1 ltA_6_2 ltA_6_3 ltA_6_4 ltA_6_5 ltA_6_6 ltA_7_1 ltA_7_2 ltA_7_3 ltA_7_4 ltA_7_5 ltA_7_6 ltA_8_1 ltA_8_2 ltA_8_3 ltA_8_4 ltA_8_5 ltA_8_6 ltA_9_1 ltA_9_2 ltA_9_3 ltA_9_4 ltA_9_5 ltA_9_6 ltA_10_1 ltA_10_2 ltA_10_3 ltA_10_4 ltA_10_5 ltA_10_6 ltA_11_1 ltA_11_2 ltA_11_3 ltA_11_4 ltA_11_5 ltA_11_6 ltA_12_1 ltA_12_2 ltA_12_3 ltA_12_4 ltA_12_5 ltA_12_6

theorem RowAt.farL {k : IntKind} {w : World} {A : Option Addr} {zs : List Int} {q : Addr} {v : Value} {lo : Nat} (h : RowAt k w A zs) (hA : ∀ d, A = some d → lo ≤ d.block) (hq : q.block < lo) : RowAt k (w.setCell q v) A zs := fun hne => by
  obtain ⟨b, off, rfl, hb, hc⟩ := h hne
  have h2 : RowAt k w (some ⟨b, off, none⟩) zs := fun _ => ⟨b, off, rfl, hb, hc⟩
  have := hA _ rfl
  exact (h2.far (q := q) (v := v) (by simp at this; omega)) hne

/-- two pictures, valid or not -/
def PairAny (K : Nat) (W : World) (B p : Nat) (e : Ending) (w' : World) : Prop :=
  ∃ (a b : Int) (A : Option Addr) (c : Nat) (zs : List Int) (a' b' : Int) (A' : Option Addr) (c' : Nat) (zs' : List Int),
    e = .returned (.tuple #[.agg #[.int .i64 a, .int .i64 b, .slice A zs.length c], .agg #[.int .i64 a', .int .i64 b', .slice A' zs'.length c']]) ∧
    (-8 ≤ a ∧ a ≤ 40 ∧ 0 ≤ b ∧ b ≤ 40) ∧ zs.length ≤ 1024 ∧ zs'.length ≤ 1024 ∧ zs.length ≤ c ∧ zs'.length ≤ c' ∧ c ≤ maxLen ∧ c' ≤ maxLen ∧ RowAt .i64 w' A zs ∧ RowAt .i64 w' A' zs' ∧ (∀ d, A = some d → W.heap.size ≤ d.block) ∧ (∀ d, A' = some d → W.heap.size ≤ d.block) ∧ Moved W B p K w'

theorem heap_old {w w' : World} {B p K g : Nat} {o : Obj} (hM : Moved w B p K w') (h : w.heap[g]? = some o) (hne : g ≠ B) : w'.heap[g]? = some o :=
  ((moved_grown hM).block g (Array.getElem?_eq_some_iff.1 h).1 (fun e => hne (by injection e))).trans h
theorem heap_oldA {w : World} {g : Nat} {o x : Obj} (h : w.heap[g]? = some o) : (w.alloc x).heap[g]? = some o :=
  (Below.heap_alloc w x g (Array.getElem?_eq_some_iff.1 h).1).trans h

set_option maxRecDepth 100000 in
set_option maxHeartbeats 4000000 in
theorem S_l20Pair (B p : Nat) (n : Int) (w : World) (h : RdAt w B p) (hp : p ≤ 600000000) (hn : -1000000 ≤ n) :
    Calls Try.prog 83 #[.pointer (some ⟨B, 0, none⟩), .int .i64 n] w (PairAny 6000 w B p) := by
  have hB := h.lt
  have hR := Lib.hid h
  clear h
  go_enter Try.func83, Try.ntmps83
  go_wp2_with fail
  refine (S_l20Picture B p _ _ (by repeat (first | (with_reducible exact hR.out) | (with_reducible apply RdAt.adds) | (with_reducible apply RdAt.alloc) | (with_reducible exact RdAt.set hR.out _) | (with_reducible apply RdAt.drew))) (by omega) (by omega)).mono ?_
  rintro e w3 ⟨a, b, A, c, zs, rfl, ha0, ha1, hb0, hb1, hz, hzc, hcm, hrow, hA, hM⟩
  have r1 : w3.heap[w.heap.size]? = some (.cells #[.int .i64 0, .int .i64 0, .slice none 0 0] 27 (0, 0)) := heap_old hM (heap_alloc2_old _ _ _) (by omega)
  have r2 : w3.heap[w.heap.size + 1]? = some (.cells #[.int .i64 0, .int .i64 0, .slice none 0 0] 27 (0, 0)) := heap_old hM (heap_alloc2_new _ _ _) (by omega)
  have hs3 := hM.size
  simp only [World.size_alloc] at hs3 hA
  have hM3 : Moved w B p 1040 w3 := (((Moved.start hR.out 0).alloc _).alloc _).trans hB hM (by omega)
  obtain ⟨q3, hq3, hR3⟩ := Moved.at_ hR.out hM3
  have HM3 := Lib.hid hM3
  have HROW := Lib.hid hrow
  have HA := Lib.hid hA
  have R1 := Lib.hid r1
  have R2 := Lib.hid r2
  have hR := Lib.hid hR3
  clear hM hM3 hrow hA r1 r2 hR3
  go_wp2_with fail
  refine (S_l20Next B q3 a b A c zs _ (by repeat (first | (with_reducible exact hR.out) | (with_reducible apply RdAt.adds) | (with_reducible apply RdAt.alloc) | (with_reducible exact RdAt.set hR.out _) | (with_reducible apply RdAt.drew))) (by omega) (HROW.out.alloc _) (fun d hd => by have := HA.out d hd; omega) hz).mono ?_
  rintro e w4 ⟨a', b', A', c', zs', rfl, ha0', ha1', hb0', hb1', hz', hzc', hcm', hrow', hA', hM⟩
  have hs4 := hM.size
  simp only [World.size_alloc] at hs4 hA'
  have r1 := heap_old hM (heap_oldA R1.out) (by omega)
  have r2 := heap_old hM (heap_oldA R2.out) (by omega)
  have b6 := heap_old hM (heap_alloc_new w3 _) (by omega)
  have hM34 : Moved w3 B q3 1100 w4 := ((Moved.start hR.out 0).alloc _).trans (by omega) hM (by omega)
  obtain ⟨q4, hq4, hR4⟩ := Moved.at_ hR.out hM34
  have HM34 := Lib.hid hM34
  have HROW' := Lib.hid hrow'
  have HA' := Lib.hid hA'
  have R1 := Lib.hid r1
  have R2 := Lib.hid r2
  have B6 := Lib.hid b6
  have hR := Lib.hid hR4
  clear hM hM34 hrow' hA' r1 r2 b6 hR4
  obtain ⟨⟨y0, y1, y2⟩, -⟩ := pic_cells B6.out
  go_wp2_with fail
  refine (S_odd B q4 _ _ (by repeat (first | (with_reducible exact hR.out) | (with_reducible apply RdAt.adds) | (with_reducible apply RdAt.alloc) | (with_reducible exact RdAt.set hR.out _) | (with_reducible apply RdAt.drew))) (by omega) (by omega)).mono ?_
  rintro e w5 ⟨bo, p5, k5, rfl, hp5, hw5⟩
  have hM : Moved (w4.alloc (.cells #[.int .i64 a', .int .i64 b', .slice A' zs'.length c'] 27)) B q4 1 w5 := by rw [hw5]; exact Moved.adds (Moved.base (by omega)) _ _
  clear hw5
  have hs5 := hM.size
  simp only [World.size_alloc] at hs5
  have r1 := heap_old hM (heap_oldA R1.out) (by omega)
  have r2 := heap_old hM (heap_oldA R2.out) (by omega)
  have b6 := heap_old hM (heap_oldA B6.out) (by omega)
  have b7 := heap_old hM (heap_alloc_new w4 _) (by omega)
  have hM35 : Moved w3 B q3 1101 w5 := (HM34.out.alloc _).trans (by omega) hM (by omega)
  obtain ⟨q5, hq5, hR5⟩ := Moved.at_ (hR.out.alloc _) hM
  have ROW' := Lib.hid (RowAt.movedR hM (HROW'.out.alloc _) (fun d hd => by have := HA'.out d hd; omega))
  have HM35 := Lib.hid hM35
  have R1 := Lib.hid r1
  have R2 := Lib.hid r2
  have B6 := Lib.hid b6
  have B7 := Lib.hid b7
  have hR := Lib.hid hR5
  have hwB : ¬ w.heap.size = B := by omega
  clear hM hM35 r1 r2 b6 b7 hR5 y0 y1 y2
  have LO' := Lib.hid (show ∀ d, A' = some d → w.heap.size + 1 + 1 ≤ d.block from fun d hd => by have := HA'.out d hd; omega)
  cases bo
  · have ROW := Lib.hid (RowAt.movedR HM35.out HROW.out (fun d hd => by have := HA.out d hd; omega))
    have HMF := Lib.hid (show Moved w B p 6000 w5 from HM3.out.trans hB HM35.out (by omega))
    have LT7 := HA
    clear HROW HROW' HM3 HM34 HM35
    obtain ⟨⟨y0, y1, y2⟩, -⟩ := pic_cells B6.out
    obtain ⟨⟨x0, x1, x2⟩, h0, h1, h2⟩ := pic_cells B7.out
    obtain ⟨⟨u0, u1, u2⟩, f0, f1, f2⟩ := pic_cells R1.out
    obtain ⟨⟨v0, v1, v2⟩, g0, g1, g2⟩ := pic_cells R2.out
    go_wp2_with fail
    refine wp_region_held_drew (S := (fun w' => w'.cell? ⟨w3.heap.size, 0, none⟩ = some (.int .i64 a) ∧ w'.cell? ⟨w3.heap.size, 1, none⟩ = some (.int .i64 b) ∧ w'.cell? ⟨w3.heap.size, 2, none⟩ = some (.slice A zs.length c) ∧ w'.cell? ⟨w4.heap.size, 0, none⟩ = some (.int .i64 a') ∧ w'.cell? ⟨w4.heap.size, 1, none⟩ = some (.int .i64 b') ∧ w'.cell? ⟨w4.heap.size, 2, none⟩ = some (.slice A' zs'.length c'))) (by kernel_rfl) ?_ (fun hHeld => ?_)
    · (first | (go_simp; done) | (go_keep; done))
    refine wpAnyH_take (i := 0) (oi := _) (v := ?_) rfl (by kernel_rfl) (by kernel_rfl) (by kernel_rfl) (fun _ _ _ h => h) (Or.inl ⟨by rfl, ?_⟩) (by assumption) ?_
    rotate_left
    · intro w hSw; (try dsimp only at hSw); go_simp; (try with_reducible rfl)
    try dsimp only [List.getElem_toArray, List.getElem_cons_succ, List.getElem_cons_zero]
    simp only [Act.put, List.setIfInBounds_toArray, List.set_cons_zero, List.set_cons_succ]
    refine wpAnyH_take (i := 1) (oi := _) (v := ?_) rfl (by kernel_rfl) (by kernel_rfl) (by kernel_rfl) (fun _ _ _ h => h) (Or.inl ⟨by rfl, ?_⟩) (by assumption) ?_
    rotate_left
    · intro w hSw; (try dsimp only at hSw); go_simp; (try with_reducible rfl)
    try dsimp only [List.getElem_toArray, List.getElem_cons_succ, List.getElem_cons_zero]
    simp only [Act.put, List.setIfInBounds_toArray, List.set_cons_zero, List.set_cons_succ]
    refine wpAnyH_ready (rs := [2]) (by kernel_rfl) (by simp) ?_
    refine AllReadyH.cons (o := _) rfl (fun K hK => ?_) ?_
    · (try dsimp only [List.getElem_toArray, List.getElem_cons_succ, List.getElem_cons_zero]); go_simp
      refine hK.out _ _ ?_ (fun hHeld => ?_)
      · (first | (go_simp; done) | (go_keep; done))
      clear hK K
      try simp only [Act.put, List.setIfInBounds_toArray, List.set_cons_zero, List.set_cons_succ]
      refine wpAnyH_ready (rs := [3]) (by kernel_rfl) (by simp) ?_
      refine AllReadyH.cons (o := _) rfl (fun K hK => ?_) ?_
      · (try dsimp only [List.getElem_toArray, List.getElem_cons_succ, List.getElem_cons_zero]); go_simp
        refine hK.out _ _ ?_ (fun hHeld => ?_)
        · (first | (go_simp; done) | (go_keep; done))
        clear hK K
        try simp only [Act.put, List.setIfInBounds_toArray, List.set_cons_zero, List.set_cons_succ]
        refine wpAnyH_done (by kernel_rfl) ?_ _
        go_wp2_with fail
        refine bodyPost_ret (v := .tuple #[.agg #[.int .i64 a, .int .i64 b, .slice A zs.length c], .agg #[.int .i64 a', .int .i64 b', .slice A' zs'.length c']]) (by simp [results, Try.results83, go_sem, u0, u1, u2, f0, f1, f2, v0, v1, v2, g0, g1, g2]) rfl ?_
        exact ⟨a, b, A, c, zs, a', b', A', c', zs', rfl, ⟨ha0, ha1, hb0, hb1⟩, hz, hz', hzc, hzc', hcm, hcm', (by repeat (first | (with_reducible exact ROW.out) | (with_reducible apply RowAt.drew_) | (refine RowAt.farL ?_ HA.out (by simp <;> omega)) | (refine RowAt.farL ?_ LT7.out (by simp <;> omega)))), (by repeat (first | (with_reducible exact ROW'.out) | (with_reducible apply RowAt.drew_) | (refine RowAt.farL ?_ LO'.out (by simp <;> omega)))), fun d hd => by (have := HA.out d hd; omega), fun d hd => by (have := LO'.out d hd; omega), (by repeat (first | (with_reducible exact HMF.out) | (with_reducible apply Moved.drew) | (refine Moved.own hB ?_ (by show w.heap.size ≤ _; simp <;> omega) _)))⟩
      exact AllReadyH.nil
    exact AllReadyH.nil
  · go_wp2_with fail
    refine (S_l20Picture B q5 _ _ (by repeat (first | (with_reducible exact hR.out) | (with_reducible apply RdAt.adds) | (with_reducible apply RdAt.alloc) | (with_reducible exact RdAt.set hR.out _) | (with_reducible apply RdAt.drew))) (by omega) (by omega)).mono ?_
    rintro e w6 ⟨a2, b2, A2, c2, zs2, rfl, ha02, ha12, hb02, hb12, hz2, hzc2, hcm2, hrow2, hA2, hM⟩
    have hs6 := hM.size
    have r1 := heap_old hM R1.out (by omega)
    have r2 := heap_old hM R2.out (by omega)
    have b6 := heap_old hM B6.out (by omega)
    have b7 := heap_old hM B7.out (by omega)
    have HM36 := Lib.hid (show Moved w3 B q3 3000 w6 from HM35.out.trans (by omega) hM (by omega))
    have ROW2 := Lib.hid hrow2
    have LO2 := Lib.hid (show ∀ d, A2 = some d → w4.heap.size + 1 ≤ d.block from fun d hd => by have := hA2 d hd; omega)
    have R1 := Lib.hid r1
    have R2 := Lib.hid r2
    have B6 := Lib.hid b6
    have B7 := Lib.hid b7
    clear hM r1 r2 b6 b7 hrow2 hA2
    have HM37 := Lib.hid (show Moved w3 B q3 3000 (((w6.setCell ⟨w4.heap.size, 0, none⟩ (.int .i64 a2)).setCell ⟨w4.heap.size, 1, none⟩ (.int .i64 b2)).setCell ⟨w4.heap.size, 2, none⟩ (.slice A2 zs2.length c2)) from ((HM36.out.own (by omega) (show w3.heap.size ≤ w4.heap.size by omega) _).own (by omega) (show w3.heap.size ≤ w4.heap.size by omega) _).own (by omega) (show w3.heap.size ≤ w4.heap.size by omega) _)
    have ROW := Lib.hid (RowAt.movedR HM37.out HROW.out (fun d hd => by have := HA.out d hd; omega))
    have HMF := Lib.hid (show Moved w B p 6000 _ from HM3.out.trans hB HM37.out (by omega))
    have LT7 := HA
    clear HROW HROW' HM3 HM34 HM35 HM36 HM37
    obtain ⟨⟨y0, y1, y2⟩, -⟩ := pic_cells B6.out
    obtain ⟨⟨x0, x1, x2⟩, h0, h1, h2⟩ := pic_cells B7.out
    obtain ⟨⟨u0, u1, u2⟩, f0, f1, f2⟩ := pic_cells R1.out
    obtain ⟨⟨v0, v1, v2⟩, g0, g1, g2⟩ := pic_cells R2.out
    go_wp2_with fail
    refine wp_region_held_drew (S := (fun w' => w'.cell? ⟨w3.heap.size, 0, none⟩ = some (.int .i64 a) ∧ w'.cell? ⟨w3.heap.size, 1, none⟩ = some (.int .i64 b) ∧ w'.cell? ⟨w3.heap.size, 2, none⟩ = some (.slice A zs.length c) ∧ w'.cell? ⟨w4.heap.size, 0, none⟩ = some (.int .i64 a2) ∧ w'.cell? ⟨w4.heap.size, 1, none⟩ = some (.int .i64 b2) ∧ w'.cell? ⟨w4.heap.size, 2, none⟩ = some (.slice A2 zs2.length c2))) (by kernel_rfl) ?_ (fun hHeld => ?_)
    · (first | (go_simp; done) | (go_keep; done))
    refine wpAnyH_take (i := 0) (oi := _) (v := ?_) rfl (by kernel_rfl) (by kernel_rfl) (by kernel_rfl) (fun _ _ _ h => h) (Or.inl ⟨by rfl, ?_⟩) (by assumption) ?_
    rotate_left
    · intro w hSw; (try dsimp only at hSw); go_simp; (try with_reducible rfl)
    try dsimp only [List.getElem_toArray, List.getElem_cons_succ, List.getElem_cons_zero]
    simp only [Act.put, List.setIfInBounds_toArray, List.set_cons_zero, List.set_cons_succ]
    refine wpAnyH_take (i := 1) (oi := _) (v := ?_) rfl (by kernel_rfl) (by kernel_rfl) (by kernel_rfl) (fun _ _ _ h => h) (Or.inl ⟨by rfl, ?_⟩) (by assumption) ?_
    rotate_left
    · intro w hSw; (try dsimp only at hSw); go_simp; (try with_reducible rfl)
    try dsimp only [List.getElem_toArray, List.getElem_cons_succ, List.getElem_cons_zero]
    simp only [Act.put, List.setIfInBounds_toArray, List.set_cons_zero, List.set_cons_succ]
    refine wpAnyH_ready (rs := [2]) (by kernel_rfl) (by simp) ?_
    refine AllReadyH.cons (o := _) rfl (fun K hK => ?_) ?_
    · (try dsimp only [List.getElem_toArray, List.getElem_cons_succ, List.getElem_cons_zero]); go_simp
      refine hK.out _ _ ?_ (fun hHeld => ?_)
      · (first | (go_simp; done) | (go_keep; done))
      clear hK K
      try simp only [Act.put, List.setIfInBounds_toArray, List.set_cons_zero, List.set_cons_succ]
      refine wpAnyH_ready (rs := [3]) (by kernel_rfl) (by simp) ?_
      refine AllReadyH.cons (o := _) rfl (fun K hK => ?_) ?_
      · (try dsimp only [List.getElem_toArray, List.getElem_cons_succ, List.getElem_cons_zero]); go_simp
        refine hK.out _ _ ?_ (fun hHeld => ?_)
        · (first | (go_simp; done) | (go_keep; done))
        clear hK K
        try simp only [Act.put, List.setIfInBounds_toArray, List.set_cons_zero, List.set_cons_succ]
        refine wpAnyH_done (by kernel_rfl) ?_ _
        go_wp2_with fail
        refine bodyPost_ret (v := .tuple #[.agg #[.int .i64 a, .int .i64 b, .slice A zs.length c], .agg #[.int .i64 a2, .int .i64 b2, .slice A2 zs2.length c2]]) (by simp [results, Try.results83, go_sem, u0, u1, u2, f0, f1, f2, v0, v1, v2, g0, g1, g2]) rfl ?_
        exact ⟨a, b, A, c, zs, a2, b2, A2, c2, zs2, rfl, ⟨ha0, ha1, hb0, hb1⟩, hz, hz2, hzc, hzc2, hcm, hcm2, (by repeat (first | (with_reducible exact ROW.out) | (with_reducible apply RowAt.drew_) | (refine RowAt.farL ?_ HA.out (by simp <;> omega)) | (refine RowAt.farL ?_ LT7.out (by simp <;> omega)))), (by repeat (first | (with_reducible exact ROW2.out) | (with_reducible apply RowAt.drew_) | (refine RowAt.farL ?_ LO2.out (by simp <;> omega)))), fun d hd => by (have := HA.out d hd; omega), fun d hd => by (have := LO2.out d hd; omega), (by repeat (first | (with_reducible exact HMF.out) | (with_reducible apply Moved.drew) | (refine Moved.own hB ?_ (by show w.heap.size ≤ _; simp <;> omega) _)))⟩
      exact AllReadyH.nil
    exact AllReadyH.nil

end Go.Proofs.Ytobphddjoebfjaa
