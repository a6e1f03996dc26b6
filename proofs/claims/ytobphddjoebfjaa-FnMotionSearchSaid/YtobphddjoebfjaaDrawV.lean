/- What the draw for MotionSearch answers. -/
import Derived.Test.YtobphddjoebfjaaDrawL
namespace Go.Proofs.Ytobphddjoebfjaa
open Go.RowKit
set_option linter.unusedVariables false
set_option linter.unusedSimpArgs false

attribute [local go_sem] size_addsW cell?_addsW frozen?_addsW setCell_addsW drew_addsW adds_addsW setCell_twice alloc_adds0 size_adds0 adds_adds0 sel2 sel3 sel4 sel5 sel6 sel7 sel8 sel9 lt_more lt_more2 lt_more3 lt_more4 adds_drew adds_drewN drewN_addsW ltA_1_1 ltA_1_2 ltA_1_3 ltA_1_4 ltA_1_5 ltA_1_6 ltA_2_1 ltA_2_2 ltA_2_3 ltA_2_4 ltA_2_5 ltA_2_6 ltA_3_1 ltA_3_2 ltA_3_3 ltA_3_4 ltA_3_5 ltA_3_6 ltA_4_1 ltA_4_2 ltA_4_3 ltA_4_4 ltA_4_5 ltA_4_6 ltA_5_1 ltA_5_2 ltA_5_3 ltA_5_4 ltA_5_5 ltA_5_6 ltA_6_1 ltA_6_2 ltA_6_3 ltA_6_4 ltA_6_5 ltA_6_6 ltA_7_1 ltA_7_2 ltA_7_3 ltA_7_4 ltA_7_5 ltA_7_6 ltA_8_1 ltA_8_2 ltA_8_3 ltA_8_4 ltA_8_5 ltA_8_6 ltA_9_1 ltA_9_2 ltA_9_3 ltA_9_4 ltA_9_5 ltA_9_6 ltA_10_1 ltA_10_2 ltA_10_3 ltA_10_4 ltA_10_5 ltA_10_6 ltA_11_1 ltA_11_2 ltA_11_3 ltA_11_4 ltA_11_5 ltA_11_6 ltA_12_1 ltA_12_2 ltA_12_3 ltA_12_4 ltA_12_5 ltA_12_6

/-- two pictures, a position and a range -/
def MsGot (W : World) (e : Ending) (w' : World) : Prop :=
  ∃ (a b : Int) (A : Option Addr) (c : Nat) (zs : List Int) (a' b' : Int) (A' : Option Addr) (c' : Nat) (zs' : List Int) (x y n : Int),
    e = .returned (.tuple #[.agg #[.int .i64 a, .int .i64 b, .slice A zs.length c], .agg #[.int .i64 a', .int .i64 b', .slice A' zs'.length c'], .int .i64 x, .int .i64 y, .int .i64 n]) ∧
    (-8 ≤ x ∧ x ≤ 40 ∧ 0 ≤ y ∧ y ≤ 32) ∧ (-1 ≤ n ∧ n ≤ 9) ∧ zs.length ≤ 1024 ∧ zs'.length ≤ 1024 ∧ zs.length ≤ c ∧ zs'.length ≤ c' ∧ c ≤ maxLen ∧ c' ≤ maxLen ∧ RowAt .i64 w' A zs ∧ RowAt .i64 w' A' zs' ∧ Below W.heap.size W w'

set_option maxRecDepth 100000 in
set_option maxHeartbeats 4000000 in
theorem S_DrawMotionSearch (a0 : Option Addr) (len cap : Nat) (cs : List Int) (w : World) (h : IsRow .u8 w a0 len cap cs) :
    Calls Try.prog 49 #[.slice a0 len cap] w (MsGot w) := by
  have HI := Lib.hid h
  clear h
  go_enter Try.func49, Try.ntmps49
  go_wp2_with fail
  refine (S_l20Open _ _ _ cs _ (IsRow.keep HI.out (by repeat' (first | (with_reducible exact Below.refl _ _) | (with_reducible refine Below.adds_ ?_ ?_ _ _) | (with_reducible refine Below.alloc ?_ ?_ _) | (with_reducible refine Below.drew ?_) | (with_reducible refine Below.setCell ?_ ?_ _) | (with_reducible assumption) | go_size | (simp only [size_addsW, World.size_alloc, World.size_drew, World.size_setCell]; omega))))).mono ?_
  rintro e w1 ⟨rfl, hR', hb, hB⟩
  have r1 : w1.heap[w.heap.size]? = some (.cells #[.int .i64 0, .int .i64 0, .slice none 0 0] 27 (0, 0)) := (hb.block _ (by simp; omega)).trans (heap_alloc2_old _ _ _)
  have r2 : w1.heap[w.heap.size + 1]? = some (.cells #[.int .i64 0, .int .i64 0, .slice none 0 0] 27 (0, 0)) := (hb.block _ (by simp)).trans (heap_alloc2_new _ _ _)
  have HBW := Lib.hid (show Below w.heap.size w w1 from Below.trans (by repeat' (first | (with_reducible exact Below.refl _ _) | (with_reducible refine Below.adds_ ?_ ?_ _ _) | (with_reducible refine Below.alloc ?_ ?_ _) | (with_reducible refine Below.drew ?_) | (with_reducible refine Below.setCell ?_ ?_ _) | (with_reducible assumption) | go_size | (simp only [size_addsW, World.size_alloc, World.size_drew, World.size_setCell]; omega))) (hb.mono (by simp; omega)))
  simp only [World.size_alloc] at hR' hB ⊢
  have hR := Lib.hid hR'
  have R1 := Lib.hid r1
  have R2 := Lib.hid r2
  clear hb r1 r2 hR'
  obtain ⟨B, hBd⟩ : ∃ B, B = w.heap.size + 1 + 1 := ⟨_, rfl⟩
  rw [← hBd] at hR hB ⊢
  have hb0 : w.heap.size < B := by omega
  have hb1 : w.heap.size + 1 < B := by omega
  clear hBd
  go_wp2_with fail
  refine (S_l20Pair B 0 _ _ (by repeat (first | (with_reducible exact hR.out) | (with_reducible apply RdAt.adds) | (with_reducible apply RdAt.alloc) | (with_reducible exact RdAt.set hR.out _) | (with_reducible apply RdAt.drew))) (by omega) (by omega)).mono ?_
  rintro e w2 ⟨a, b, A, c, zs, a', b', A', c', zs', rfl, hab, hz, hz', hzc, hzc', hcm, hcm', hrow, hrow', hA, hA', hM⟩
  have hs2 := hM.size
  have R1 := Lib.hid (heap_old hM R1.out (by omega))
  have R2 := Lib.hid (heap_old hM R2.out (by omega))
  have HM2 := Lib.hid hM
  have ROW := Lib.hid hrow
  have ROW' := Lib.hid hrow'
  have HA := Lib.hid hA
  have HA' := Lib.hid hA'
  obtain ⟨q2, hq2, hR2⟩ := Moved.at_ hR.out hM
  have hR := Lib.hid hR2
  clear hM hrow hrow' hA hA' hR2
  go_wp2_with fail
  refine (S_l20At B q2 a b _ A _ c _ (by repeat (first | (with_reducible exact hR.out) | (with_reducible apply RdAt.adds) | (with_reducible apply RdAt.alloc) | (with_reducible exact RdAt.set hR.out _) | (with_reducible apply RdAt.drew))) (by omega) (by omega) ⟨hab.1, hab.2.1⟩ hab.2.2).mono ?_
  rintro e w3 ⟨x, y, rfl, hx0, hx1, hy0, hy1, hM⟩
  have hs3 := hM.size
  simp only [World.size_alloc] at hs3
  have b8 := heap_old hM (heap_oldA (heap_alloc_new w2 _)) (by omega)
  have b9 := heap_old hM (show ((w2.alloc (.cells #[.int .i64 a, .int .i64 b, .slice A zs.length c] 27)).alloc (.cells #[.int .i64 a', .int .i64 b', .slice A' zs'.length c'] 27)).heap[w2.heap.size + 1]? = _ from heap_alloc2_new _ _ _) (by omega)
  have R1 := Lib.hid (heap_old hM (heap_oldA (heap_oldA R1.out)) (by omega))
  have R2 := Lib.hid (heap_old hM (heap_oldA (heap_oldA R2.out)) (by omega))
  have HM3 := Lib.hid (((HM2.out.alloc _).alloc _).trans (by omega) hM (show q2 + 4 ≤ 0 + 7000 by omega))
  have ROW := Lib.hid (RowAt.movedR hM ((ROW.out.alloc _).alloc _) (fun d hd => by have := HA.out d hd; omega))
  have ROW' := Lib.hid (RowAt.movedR hM ((ROW'.out.alloc _).alloc _) (fun d hd => by have := HA'.out d hd; omega))
  obtain ⟨q3, hq3, hR3⟩ := Moved.at_ ((hR.out.alloc _).alloc _) hM
  have hR := Lib.hid hR3
  clear hM hR3
  obtain ⟨⟨y0, y1, y2⟩, -⟩ := pic_cells b8
  obtain ⟨⟨x0, x1, x2⟩, -⟩ := pic_cells b9
  clear b8 b9
  have hs0 : w.heap.size < w3.heap.size := by omega
  have hs1 : w.heap.size + 1 < w3.heap.size := by omega
  have hs6 : B < w3.heap.size := by omega
  have hn8 : ¬ B = w2.heap.size := by omega
  have hn9 : ¬ B = w2.heap.size + 1 := by omega
  have hBz : w.heap.size < w1.heap.size := by omega
  have hs8 : w2.heap.size < w3.heap.size := by omega
  have hs9 : w2.heap.size + 1 < w3.heap.size := by omega
  have m1 : ¬ w.heap.size = w2.heap.size := by omega
  have m2 : ¬ w.heap.size + 1 = w2.heap.size := by omega
  have m4 : ¬ w.heap.size = w2.heap.size + 1 := by omega
  have m5 : ¬ w.heap.size + 1 = w2.heap.size + 1 := by omega
  have m7 : ¬ w2.heap.size = w.heap.size := by omega
  have m8 : ¬ w2.heap.size = w.heap.size + 1 := by omega
  have l1 : ¬ w2.heap.size + 1 = w.heap.size := by omega
  have l2 : ¬ w2.heap.size + 1 = w.heap.size + 1 := by omega
  have hn8' : ¬ w2.heap.size = B := by omega
  have hn9' : ¬ w2.heap.size + 1 = B := by omega
  obtain ⟨⟨u0, u1, u2⟩, f0, f1, f2⟩ := pic_cells R1.out
  obtain ⟨⟨v0, v1, v2⟩, g0, g1, g2⟩ := pic_cells R2.out
  have m20 : ¬ w3.heap.size = w.heap.size := by omega
  have m21 : ¬ w3.heap.size = w.heap.size + 1 := by omega
  have m22 : ¬ w.heap.size = w3.heap.size := by omega
  have m23 : ¬ w.heap.size + 1 = w3.heap.size := by omega
  have m24 : ¬ B = w3.heap.size := by omega
  have m25 : ¬ w3.heap.size = B := by omega
  have m26 : ¬ w2.heap.size = w3.heap.size := by omega
  have m27 : ¬ w2.heap.size + 1 = w3.heap.size := by omega
  have m28 : ¬ w3.heap.size = w2.heap.size := by omega
  have m29 : ¬ w3.heap.size = w2.heap.size + 1 := by omega
  go_wp2_with fail
  refine wp_region_held_drew (S := (fun w' => w'.cell? ⟨w2.heap.size, 0, none⟩ = some (.int .i64 a) ∧ w'.cell? ⟨w2.heap.size, 1, none⟩ = some (.int .i64 b) ∧ w'.cell? ⟨w2.heap.size, 2, none⟩ = some (.slice A zs.length c) ∧ w'.cell? ⟨w2.heap.size + 1, 0, none⟩ = some (.int .i64 a') ∧ w'.cell? ⟨w2.heap.size + 1, 1, none⟩ = some (.int .i64 b') ∧ w'.cell? ⟨w2.heap.size + 1, 2, none⟩ = some (.slice A' zs'.length c'))) (by kernel_rfl) ?_ (fun hHeld => ?_)
  · (first | (go_simp; done) | (go_keep; done))
  refine wpAnyH_take (i := 0) (oi := _) (v := ?_) rfl (by kernel_rfl) (by kernel_rfl) (by kernel_rfl) (fun _ _ _ h => h) (Or.inl ⟨by rfl, ?_⟩) (by assumption) ?_
  rotate_left
  · intro w hSw; (try dsimp only at hSw); go_simp; (try with_reducible rfl)
  try dsimp only [List.getElem_toArray, List.getElem_cons_succ, List.getElem_cons_zero]
  simp only [Act.put, List.setIfInBounds_toArray, List.set_cons_zero, List.set_cons_succ]
  refine wpAnyH_take (i := 1) (oi := _) (v := ?_) rfl (by kernel_rfl) (by kernel_rfl) (by kernel_rfl) (fun _ _ _ h => h) (Or.inl ⟨by rfl, ?_⟩) (by assumption) ?_
  rotate_left
  · intro w hSw; (try dsimp only at hSw); go_simp; (try with_reducible rfl)
  try dsimp only [List.getElem_toArray, List.getElem_cons_succ, List.getElem_cons_zero]
  simp only [Act.put, List.setIfInBounds_toArray, List.set_cons_zero, List.set_cons_succ]
  refine wpAnyH_take (i := 2) (oi := _) (v := ?_) rfl (by kernel_rfl) (by kernel_rfl) (by kernel_rfl) (fun _ _ _ h => h) (Or.inl ⟨by rfl, ?_⟩) (by assumption) ?_
  rotate_left
  · intro w hSw; (try dsimp only at hSw); go_simp; (try with_reducible rfl)
  try dsimp only [List.getElem_toArray, List.getElem_cons_succ, List.getElem_cons_zero]
  simp only [Act.put, List.setIfInBounds_toArray, List.set_cons_zero, List.set_cons_succ]
  refine wpAnyH_take (i := 3) (oi := _) (v := ?_) rfl (by kernel_rfl) (by kernel_rfl) (by kernel_rfl) (fun _ _ _ h => h) (Or.inl ⟨by rfl, ?_⟩) (by assumption) ?_
  rotate_left
  · intro w hSw; (try dsimp only at hSw); go_simp; (try with_reducible rfl)
  try dsimp only [List.getElem_toArray, List.getElem_cons_succ, List.getElem_cons_zero]
  simp only [Act.put, List.setIfInBounds_toArray, List.set_cons_zero, List.set_cons_succ]
  refine wpAnyH_take (i := 5) (oi := _) (v := ?_) rfl (by kernel_rfl) (by kernel_rfl) (by kernel_rfl) (fun _ _ _ h => h) (Or.inl ⟨by rfl, ?_⟩) (by assumption) ?_
  rotate_left
  · intro w hSw; (try dsimp only at hSw); go_simp; (try with_reducible rfl)
  try dsimp only [List.getElem_toArray, List.getElem_cons_succ, List.getElem_cons_zero]
  simp only [Act.put, List.setIfInBounds_toArray, List.set_cons_zero, List.set_cons_succ]
  refine wpAnyH_ready (rs := [4, 6]) (by kernel_rfl) (by simp) ?_
  refine AllReadyH.cons (o := _) rfl (fun K hK => ?_) ?_
  · (try dsimp only [List.getElem_toArray, List.getElem_cons_succ, List.getElem_cons_zero]); go_simp
    refine hK.out _ _ ?_ (fun hHeld => ?_)
    · (first | (go_simp; done) | (go_keep; done))
    clear hK K
    try simp only [Act.put, List.setIfInBounds_toArray, List.set_cons_zero, List.set_cons_succ]
    refine wpAnyH_ready (rs := [6]) (by kernel_rfl) (by simp) ?_
    refine AllReadyH.cons (o := _) rfl (fun K hK => ?_) ?_
    · (try dsimp only [List.getElem_toArray, List.getElem_cons_succ, List.getElem_cons_zero]); go_simp
      (go_at_call 60; refine (S_pick B _ _ _ (by repeat (first | (with_reducible exact hR.out) | (with_reducible apply RdAt.adds) | (with_reducible apply RdAt.alloc) | (with_reducible exact RdAt.set hR.out _) | (with_reducible apply RdAt.drew))) (by omega)).mono ?_; rintro e w' ⟨v, p1, k1, rfl, hv, hp1, rfl⟩; have hv' := hv.1 (by omega); clear hv)
      try go_wp2_with fail
      refine hK.out _ _ ?_ (fun hHeld => ?_)
      · (first | (go_simp; done) | (go_keep; done))
      clear hK K
      try simp only [Act.put, List.setIfInBounds_toArray, List.set_cons_zero, List.set_cons_succ]
      refine wpAnyH_take (i := 7) (oi := _) (v := ?_) rfl (by kernel_rfl) (by kernel_rfl) (by kernel_rfl) (fun _ _ _ h => h) (Or.inl ⟨by rfl, ?_⟩) (by assumption) ?_
      rotate_left
      · intro w hSw; (try dsimp only at hSw); go_simp; (try with_reducible rfl)
      try dsimp only [List.getElem_toArray, List.getElem_cons_succ, List.getElem_cons_zero]
      simp only [Act.put, List.setIfInBounds_toArray, List.set_cons_zero, List.set_cons_succ]
      refine wpAnyH_ready (rs := [8, 9]) (by kernel_rfl) (by simp) ?_
      refine AllReadyH.cons (o := _) rfl (fun K hK => ?_) ?_
      · (try dsimp only [List.getElem_toArray, List.getElem_cons_succ, List.getElem_cons_zero]); go_simp
        refine hK.out _ _ ?_ (fun hHeld => ?_)
        · (first | (go_simp; done) | (go_keep; done))
        clear hK K
        try simp only [Act.put, List.setIfInBounds_toArray, List.set_cons_zero, List.set_cons_succ]
        refine wpAnyH_ready (rs := [9]) (by kernel_rfl) (by simp) ?_
        refine AllReadyH.cons (o := _) rfl (fun K hK => ?_) ?_
        · (try dsimp only [List.getElem_toArray, List.getElem_cons_succ, List.getElem_cons_zero]); go_simp
          refine hK.out _ _ ?_ (fun hHeld => ?_)
          · (first | (go_simp; done) | (go_keep; done))
          clear hK K
          try simp only [Act.put, List.setIfInBounds_toArray, List.set_cons_zero, List.set_cons_succ]
          refine wpAnyH_ready (rs := [10]) (by kernel_rfl) (by simp) ?_
          refine AllReadyH.cons (o := _) rfl (fun K hK => ?_) ?_
          · (try dsimp only [List.getElem_toArray, List.getElem_cons_succ, List.getElem_cons_zero]); go_simp
            refine hK.out _ _ ?_ (fun hHeld => ?_)
            · (first | (go_simp; done) | (go_keep; done))
            clear hK K
            try simp only [Act.put, List.setIfInBounds_toArray, List.set_cons_zero, List.set_cons_succ]
            refine wpAnyH_take (i := 11) (oi := _) (v := ?_) rfl (by kernel_rfl) (by kernel_rfl) (by kernel_rfl) (fun _ _ _ h => h) (Or.inl ⟨by rfl, ?_⟩) (by assumption) ?_
            rotate_left
            · intro w hSw; (try dsimp only at hSw); go_simp; (try with_reducible rfl)
            try dsimp only [List.getElem_toArray, List.getElem_cons_succ, List.getElem_cons_zero]
            simp only [Act.put, List.setIfInBounds_toArray, List.set_cons_zero, List.set_cons_succ]
            refine wpAnyH_take (i := 12) (oi := _) (v := ?_) rfl (by kernel_rfl) (by kernel_rfl) (by kernel_rfl) (fun _ _ _ h => h) (Or.inl ⟨by rfl, ?_⟩) (by assumption) ?_
            rotate_left
            · intro w hSw; (try dsimp only at hSw); go_simp; (try with_reducible rfl)
            try dsimp only [List.getElem_toArray, List.getElem_cons_succ, List.getElem_cons_zero]
            simp only [Act.put, List.setIfInBounds_toArray, List.set_cons_zero, List.set_cons_succ]
            refine wpAnyH_take (i := 13) (oi := _) (v := ?_) rfl (by kernel_rfl) (by kernel_rfl) (by kernel_rfl) (fun _ _ _ h => h) (Or.inl ⟨by rfl, ?_⟩) (by assumption) ?_
            rotate_left
            · intro w hSw; (try dsimp only at hSw); go_simp; (try with_reducible rfl)
            try dsimp only [List.getElem_toArray, List.getElem_cons_succ, List.getElem_cons_zero]
            simp only [Act.put, List.setIfInBounds_toArray, List.set_cons_zero, List.set_cons_succ]
            refine wpAnyH_done (by kernel_rfl) ?_ _
            have hvl : v.toNat < ([0, 1, 2, 3, 4, -1, 9] : List Int).length := (by simp only [List.length_cons, List.length_nil]; omega)
            have hnb := (show -1 ≤ ([0, 1, 2, 3, 4, -1, 9] : List Int)[v.toNat]'hvl ∧ ([0, 1, 2, 3, 4, -1, 9] : List Int)[v.toNat]'hvl ≤ 9 from selB _ (-1) 9 (by decide))
            revert hnb
            generalize ([0, 1, 2, 3, 4, -1, 9] : List Int)[v.toNat]'hvl = n
            intro hnb
            refine (‹∀ (a : Act) (w_1 : World), Code.wp Try.prog Code.ret (bodyPost Try.prog Try.f49 (MsGot w)) a w_1 → _›) _ _ ?_
            clear hHeld
            refine wp_ret ?_
            refine bodyPost_ret (v := .tuple #[.agg #[.int .i64 a, .int .i64 b, .slice A zs.length c], .agg #[.int .i64 a', .int .i64 b', .slice A' zs'.length c'], .int .i64 x, .int .i64 y, .int .i64 n]) (by simp [results, Try.results49, go_sem, u0, u1, u2, f0, f1, f2, v0, v1, v2, g0, g1, g2, hs0, hs1, hb0, hb1]) rfl ?_
            have HB3 := Lib.hid (HM3.out.below HBW.out (show w.heap.size ≤ B by omega) (by omega))
            exact ⟨a, b, A, c, zs, a', b', A', c', zs', x, y, n, rfl, ⟨hx0, hx1, hy0, hy1⟩, hnb, hz, hz', hzc, hzc', hcm, hcm', (by repeat (first | (with_reducible exact ROW.out) | (with_reducible apply RowAt.adds) | (with_reducible refine RowAt.alloc ?_ _) | (with_reducible refine RowAt.farL ?_ HA.out ?_; rotate_left; (first | (show B < w1.heap.size; omega) | (show w.heap.size < w1.heap.size; omega) | (show w.heap.size + 1 < w1.heap.size; omega))))), (by repeat (first | (with_reducible exact ROW'.out) | (with_reducible apply RowAt.adds) | (with_reducible refine RowAt.alloc ?_ _) | (with_reducible refine RowAt.farL ?_ HA'.out ?_; rotate_left; (first | (show B < w1.heap.size; omega) | (show w.heap.size < w1.heap.size; omega) | (show w.heap.size + 1 < w1.heap.size; omega))))), (by repeat (first | (with_reducible exact HB3.out) | (with_reducible refine Below.adds_ ?_ ?_ _ _; rotate_left; (simp only [World.size_setCell, World.size_alloc]; omega)) | (with_reducible refine Below.alloc ?_ ?_ _; rotate_left; (simp only [World.size_setCell, World.size_alloc]; omega)) | (with_reducible refine Below.setCell ?_ ?_ _; rotate_left; (first | (show w.heap.size ≤ B; omega) | (show w.heap.size ≤ w.heap.size; omega) | (show w.heap.size ≤ w.heap.size + 1; omega)))))⟩
          exact AllReadyH.nil
        exact AllReadyH.nil
      refine AllReadyH.cons (o := _) rfl (fun K hK => ?_) ?_
      · (try dsimp only [List.getElem_toArray, List.getElem_cons_succ, List.getElem_cons_zero]); go_simp
        refine hK.out _ _ ?_ (fun hHeld => ?_)
        · (first | (go_simp; done) | (go_keep; done))
        clear hK K
        try simp only [Act.put, List.setIfInBounds_toArray, List.set_cons_zero, List.set_cons_succ]
        refine wpAnyH_ready (rs := [8, 10]) (by kernel_rfl) (by simp) ?_
        refine AllReadyH.cons (o := _) rfl (fun K hK => ?_) ?_
        · (try dsimp only [List.getElem_toArray, List.getElem_cons_succ, List.getElem_cons_zero]); go_simp
          refine hK.out _ _ ?_ (fun hHeld => ?_)
          · (first | (go_simp; done) | (go_keep; done))
          clear hK K
          try simp only [Act.put, List.setIfInBounds_toArray, List.set_cons_zero, List.set_cons_succ]
          refine wpAnyH_ready (rs := [10]) (by kernel_rfl) (by simp) ?_
          refine AllReadyH.cons (o := _) rfl (fun K hK => ?_) ?_
          · (try dsimp only [List.getElem_toArray, List.getElem_cons_succ, List.getElem_cons_zero]); go_simp
            refine hK.out _ _ ?_ (fun hHeld => ?_)
            · (first | (go_simp; done) | (go_keep; done))
            clear hK K
            try simp only [Act.put, List.setIfInBounds_toArray, List.set_cons_zero, List.set_cons_succ]
            refine wpAnyH_take (i := 11) (oi := _) (v := ?_) rfl (by kernel_rfl) (by kernel_rfl) (by kernel_rfl) (fun _ _ _ h => h) (Or.inl ⟨by rfl, ?_⟩) (by assumption) ?_
            rotate_left
            · intro w hSw; (try dsimp only at hSw); go_simp; (try with_reducible rfl)
            try dsimp only [List.getElem_toArray, List.getElem_cons_succ, List.getElem_cons_zero]
            simp only [Act.put, List.setIfInBounds_toArray, List.set_cons_zero, List.set_cons_succ]
            refine wpAnyH_take (i := 12) (oi := _) (v := ?_) rfl (by kernel_rfl) (by kernel_rfl) (by kernel_rfl) (fun _ _ _ h => h) (Or.inl ⟨by rfl, ?_⟩) (by assumption) ?_
            rotate_left
            · intro w hSw; (try dsimp only at hSw); go_simp; (try with_reducible rfl)
            try dsimp only [List.getElem_toArray, List.getElem_cons_succ, List.getElem_cons_zero]
            simp only [Act.put, List.setIfInBounds_toArray, List.set_cons_zero, List.set_cons_succ]
            refine wpAnyH_take (i := 13) (oi := _) (v := ?_) rfl (by kernel_rfl) (by kernel_rfl) (by kernel_rfl) (fun _ _ _ h => h) (Or.inl ⟨by rfl, ?_⟩) (by assumption) ?_
            rotate_left
            · intro w hSw; (try dsimp only at hSw); go_simp; (try with_reducible rfl)
            try dsimp only [List.getElem_toArray, List.getElem_cons_succ, List.getElem_cons_zero]
            simp only [Act.put, List.setIfInBounds_toArray, List.set_cons_zero, List.set_cons_succ]
            refine wpAnyH_done (by kernel_rfl) ?_ _
            have hvl : v.toNat < ([0, 1, 2, 3, 4, -1, 9] : List Int).length := (by simp only [List.length_cons, List.length_nil]; omega)
            have hnb := (show -1 ≤ ([0, 1, 2, 3, 4, -1, 9] : List Int)[v.toNat]'hvl ∧ ([0, 1, 2, 3, 4, -1, 9] : List Int)[v.toNat]'hvl ≤ 9 from selB _ (-1) 9 (by decide))
            revert hnb
            generalize ([0, 1, 2, 3, 4, -1, 9] : List Int)[v.toNat]'hvl = n
            intro hnb
            refine (‹∀ (a : Act) (w_1 : World), Code.wp Try.prog Code.ret (bodyPost Try.prog Try.f49 (MsGot w)) a w_1 → _›) _ _ ?_
            clear hHeld
            refine wp_ret ?_
            refine bodyPost_ret (v := .tuple #[.agg #[.int .i64 a, .int .i64 b, .slice A zs.length c], .agg #[.int .i64 a', .int .i64 b', .slice A' zs'.length c'], .int .i64 x, .int .i64 y, .int .i64 n]) (by simp [results, Try.results49, go_sem, u0, u1, u2, f0, f1, f2, v0, v1, v2, g0, g1, g2, hs0, hs1, hb0, hb1]) rfl ?_
            have HB3 := Lib.hid (HM3.out.below HBW.out (show w.heap.size ≤ B by omega) (by omega))
            exact ⟨a, b, A, c, zs, a', b', A', c', zs', x, y, n, rfl, ⟨hx0, hx1, hy0, hy1⟩, hnb, hz, hz', hzc, hzc', hcm, hcm', (by repeat (first | (with_reducible exact ROW.out) | (with_reducible apply RowAt.adds) | (with_reducible refine RowAt.alloc ?_ _) | (with_reducible refine RowAt.farL ?_ HA.out ?_; rotate_left; (first | (show B < w1.heap.size; omega) | (show w.heap.size < w1.heap.size; omega) | (show w.heap.size + 1 < w1.heap.size; omega))))), (by repeat (first | (with_reducible exact ROW'.out) | (with_reducible apply RowAt.adds) | (with_reducible refine RowAt.alloc ?_ _) | (with_reducible refine RowAt.farL ?_ HA'.out ?_; rotate_left; (first | (show B < w1.heap.size; omega) | (show w.heap.size < w1.heap.size; omega) | (show w.heap.size + 1 < w1.heap.size; omega))))), (by repeat (first | (with_reducible exact HB3.out) | (with_reducible refine Below.adds_ ?_ ?_ _ _; rotate_left; (simp only [World.size_setCell, World.size_alloc]; omega)) | (with_reducible refine Below.alloc ?_ ?_ _; rotate_left; (simp only [World.size_setCell, World.size_alloc]; omega)) | (with_reducible refine Below.setCell ?_ ?_ _; rotate_left; (first | (show w.heap.size ≤ B; omega) | (show w.heap.size ≤ w.heap.size; omega) | (show w.heap.size ≤ w.heap.size + 1; omega)))))⟩
          exact AllReadyH.nil
        refine AllReadyH.cons (o := _) rfl (fun K hK => ?_) ?_
        · (try dsimp only [List.getElem_toArray, List.getElem_cons_succ, List.getElem_cons_zero]); go_simp
          refine hK.out _ _ ?_ (fun hHeld => ?_)
          · (first | (go_simp; done) | (go_keep; done))
          clear hK K
          try simp only [Act.put, List.setIfInBounds_toArray, List.set_cons_zero, List.set_cons_succ]
          refine wpAnyH_take (i := 11) (oi := _) (v := ?_) rfl (by kernel_rfl) (by kernel_rfl) (by kernel_rfl) (fun _ _ _ h => h) (Or.inl ⟨by rfl, ?_⟩) (by assumption) ?_
          rotate_left
          · intro w hSw; (try dsimp only at hSw); go_simp; (try with_reducible rfl)
          try dsimp only [List.getElem_toArray, List.getElem_cons_succ, List.getElem_cons_zero]
          simp only [Act.put, List.setIfInBounds_toArray, List.set_cons_zero, List.set_cons_succ]
          refine wpAnyH_take (i := 12) (oi := _) (v := ?_) rfl (by kernel_rfl) (by kernel_rfl) (by kernel_rfl) (fun _ _ _ h => h) (Or.inl ⟨by rfl, ?_⟩) (by assumption) ?_
          rotate_left
          · intro w hSw; (try dsimp only at hSw); go_simp; (try with_reducible rfl)
          try dsimp only [List.getElem_toArray, List.getElem_cons_succ, List.getElem_cons_zero]
          simp only [Act.put, List.setIfInBounds_toArray, List.set_cons_zero, List.set_cons_succ]
          refine wpAnyH_ready (rs := [8]) (by kernel_rfl) (by simp) ?_
          refine AllReadyH.cons (o := _) rfl (fun K hK => ?_) ?_
          · (try dsimp only [List.getElem_toArray, List.getElem_cons_succ, List.getElem_cons_zero]); go_simp
            refine hK.out _ _ ?_ (fun hHeld => ?_)
            · (first | (go_simp; done) | (go_keep; done))
            clear hK K
            try simp only [Act.put, List.setIfInBounds_toArray, List.set_cons_zero, List.set_cons_succ]
            refine wpAnyH_take (i := 13) (oi := _) (v := ?_) rfl (by kernel_rfl) (by kernel_rfl) (by kernel_rfl) (fun _ _ _ h => h) (Or.inl ⟨by rfl, ?_⟩) (by assumption) ?_
            rotate_left
            · intro w hSw; (try dsimp only at hSw); go_simp; (try with_reducible rfl)
            try dsimp only [List.getElem_toArray, List.getElem_cons_succ, List.getElem_cons_zero]
            simp only [Act.put, List.setIfInBounds_toArray, List.set_cons_zero, List.set_cons_succ]
            refine wpAnyH_done (by kernel_rfl) ?_ _
            have hvl : v.toNat < ([0, 1, 2, 3, 4, -1, 9] : List Int).length := (by simp only [List.length_cons, List.length_nil]; omega)
            have hnb := (show -1 ≤ ([0, 1, 2, 3, 4, -1, 9] : List Int)[v.toNat]'hvl ∧ ([0, 1, 2, 3, 4, -1, 9] : List Int)[v.toNat]'hvl ≤ 9 from selB _ (-1) 9 (by decide))
            revert hnb
            generalize ([0, 1, 2, 3, 4, -1, 9] : List Int)[v.toNat]'hvl = n
            intro hnb
            refine (‹∀ (a : Act) (w_1 : World), Code.wp Try.prog Code.ret (bodyPost Try.prog Try.f49 (MsGot w)) a w_1 → _›) _ _ ?_
            clear hHeld
            refine wp_ret ?_
            refine bodyPost_ret (v := .tuple #[.agg #[.int .i64 a, .int .i64 b, .slice A zs.length c], .agg #[.int .i64 a', .int .i64 b', .slice A' zs'.length c'], .int .i64 x, .int .i64 y, .int .i64 n]) (by simp [results, Try.results49, go_sem, u0, u1, u2, f0, f1, f2, v0, v1, v2, g0, g1, g2, hs0, hs1, hb0, hb1]) rfl ?_
            have HB3 := Lib.hid (HM3.out.below HBW.out (show w.heap.size ≤ B by omega) (by omega))
            exact ⟨a, b, A, c, zs, a', b', A', c', zs', x, y, n, rfl, ⟨hx0, hx1, hy0, hy1⟩, hnb, hz, hz', hzc, hzc', hcm, hcm', (by repeat (first | (with_reducible exact ROW.out) | (with_reducible apply RowAt.adds) | (with_reducible refine RowAt.alloc ?_ _) | (with_reducible refine RowAt.farL ?_ HA.out ?_; rotate_left; (first | (show B < w1.heap.size; omega) | (show w.heap.size < w1.heap.size; omega) | (show w.heap.size + 1 < w1.heap.size; omega))))), (by repeat (first | (with_reducible exact ROW'.out) | (with_reducible apply RowAt.adds) | (with_reducible refine RowAt.alloc ?_ _) | (with_reducible refine RowAt.farL ?_ HA'.out ?_; rotate_left; (first | (show B < w1.heap.size; omega) | (show w.heap.size < w1.heap.size; omega) | (show w.heap.size + 1 < w1.heap.size; omega))))), (by repeat (first | (with_reducible exact HB3.out) | (with_reducible refine Below.adds_ ?_ ?_ _ _; rotate_left; (simp only [World.size_setCell, World.size_alloc]; omega)) | (with_reducible refine Below.alloc ?_ ?_ _; rotate_left; (simp only [World.size_setCell, World.size_alloc]; omega)) | (with_reducible refine Below.setCell ?_ ?_ _; rotate_left; (first | (show w.heap.size ≤ B; omega) | (show w.heap.size ≤ w.heap.size; omega) | (show w.heap.size ≤ w.heap.size + 1; omega)))))⟩
          exact AllReadyH.nil
        exact AllReadyH.nil
      exact AllReadyH.nil
    exact AllReadyH.nil
  refine AllReadyH.cons (o := _) rfl (fun K hK => ?_) ?_
  · (try dsimp only [List.getElem_toArray, List.getElem_cons_succ, List.getElem_cons_zero]); go_simp
    (go_at_call 60; refine (S_pick B _ _ _ (by repeat (first | (with_reducible exact hR.out) | (with_reducible apply RdAt.adds) | (with_reducible apply RdAt.alloc) | (with_reducible exact RdAt.set hR.out _) | (with_reducible apply RdAt.drew))) (by omega)).mono ?_; rintro e w' ⟨v, p1, k1, rfl, hv, hp1, rfl⟩; have hv' := hv.1 (by omega); clear hv)
    try go_wp2_with fail
    refine hK.out _ _ ?_ (fun hHeld => ?_)
    · (first | (go_simp; done) | (go_keep; done))
    clear hK K
    try simp only [Act.put, List.setIfInBounds_toArray, List.set_cons_zero, List.set_cons_succ]
    refine wpAnyH_ready (rs := [4, 9]) (by kernel_rfl) (by simp) ?_
    refine AllReadyH.cons (o := _) rfl (fun K hK => ?_) ?_
    · (try dsimp only [List.getElem_toArray, List.getElem_cons_succ, List.getElem_cons_zero]); go_simp
      refine hK.out _ _ ?_ (fun hHeld => ?_)
      · (first | (go_simp; done) | (go_keep; done))
      clear hK K
      try simp only [Act.put, List.setIfInBounds_toArray, List.set_cons_zero, List.set_cons_succ]
      refine wpAnyH_take (i := 7) (oi := _) (v := ?_) rfl (by kernel_rfl) (by kernel_rfl) (by kernel_rfl) (fun _ _ _ h => h) (Or.inl ⟨by rfl, ?_⟩) (by assumption) ?_
      rotate_left
      · intro w hSw; (try dsimp only at hSw); go_simp; (try with_reducible rfl)
      try dsimp only [List.getElem_toArray, List.getElem_cons_succ, List.getElem_cons_zero]
      simp only [Act.put, List.setIfInBounds_toArray, List.set_cons_zero, List.set_cons_succ]
      refine wpAnyH_ready (rs := [8, 9]) (by kernel_rfl) (by simp) ?_
      refine AllReadyH.cons (o := _) rfl (fun K hK => ?_) ?_
      · (try dsimp only [List.getElem_toArray, List.getElem_cons_succ, List.getElem_cons_zero]); go_simp
        refine hK.out _ _ ?_ (fun hHeld => ?_)
        · (first | (go_simp; done) | (go_keep; done))
        clear hK K
        try simp only [Act.put, List.setIfInBounds_toArray, List.set_cons_zero, List.set_cons_succ]
        refine wpAnyH_ready (rs := [9]) (by kernel_rfl) (by simp) ?_
        refine AllReadyH.cons (o := _) rfl (fun K hK => ?_) ?_
        · (try dsimp only [List.getElem_toArray, List.getElem_cons_succ, List.getElem_cons_zero]); go_simp
          refine hK.out _ _ ?_ (fun hHeld => ?_)
          · (first | (go_simp; done) | (go_keep; done))
          clear hK K
          try simp only [Act.put, List.setIfInBounds_toArray, List.set_cons_zero, List.set_cons_succ]
          refine wpAnyH_ready (rs := [10]) (by kernel_rfl) (by simp) ?_
          refine AllReadyH.cons (o := _) rfl (fun K hK => ?_) ?_
          · (try dsimp only [List.getElem_toArray, List.getElem_cons_succ, List.getElem_cons_zero]); go_simp
            refine hK.out _ _ ?_ (fun hHeld => ?_)
            · (first | (go_simp; done) | (go_keep; done))
            clear hK K
            try simp only [Act.put, List.setIfInBounds_toArray, List.set_cons_zero, List.set_cons_succ]
            refine wpAnyH_take (i := 11) (oi := _) (v := ?_) rfl (by kernel_rfl) (by kernel_rfl) (by kernel_rfl) (fun _ _ _ h => h) (Or.inl ⟨by rfl, ?_⟩) (by assumption) ?_
            rotate_left
            · intro w hSw; (try dsimp only at hSw); go_simp; (try with_reducible rfl)
            try dsimp only [List.getElem_toArray, List.getElem_cons_succ, List.getElem_cons_zero]
            simp only [Act.put, List.setIfInBounds_toArray, List.set_cons_zero, List.set_cons_succ]
            refine wpAnyH_take (i := 12) (oi := _) (v := ?_) rfl (by kernel_rfl) (by kernel_rfl) (by kernel_rfl) (fun _ _ _ h => h) (Or.inl ⟨by rfl, ?_⟩) (by assumption) ?_
            rotate_left
            · intro w hSw; (try dsimp only at hSw); go_simp; (try with_reducible rfl)
            try dsimp only [List.getElem_toArray, List.getElem_cons_succ, List.getElem_cons_zero]
            simp only [Act.put, List.setIfInBounds_toArray, List.set_cons_zero, List.set_cons_succ]
            refine wpAnyH_take (i := 13) (oi := _) (v := ?_) rfl (by kernel_rfl) (by kernel_rfl) (by kernel_rfl) (fun _ _ _ h => h) (Or.inl ⟨by rfl, ?_⟩) (by assumption) ?_
            rotate_left
            · intro w hSw; (try dsimp only at hSw); go_simp; (try with_reducible rfl)
            try dsimp only [List.getElem_toArray, List.getElem_cons_succ, List.getElem_cons_zero]
            simp only [Act.put, List.setIfInBounds_toArray, List.set_cons_zero, List.set_cons_succ]
            refine wpAnyH_done (by kernel_rfl) ?_ _
            have hvl : v.toNat < ([0, 1, 2, 3, 4, -1, 9] : List Int).length := (by simp only [List.length_cons, List.length_nil]; omega)
            have hnb := (show -1 ≤ ([0, 1, 2, 3, 4, -1, 9] : List Int)[v.toNat]'hvl ∧ ([0, 1, 2, 3, 4, -1, 9] : List Int)[v.toNat]'hvl ≤ 9 from selB _ (-1) 9 (by decide))
            revert hnb
            generalize ([0, 1, 2, 3, 4, -1, 9] : List Int)[v.toNat]'hvl = n
            intro hnb
            refine (‹∀ (a : Act) (w_1 : World), Code.wp Try.prog Code.ret (bodyPost Try.prog Try.f49 (MsGot w)) a w_1 → _›) _ _ ?_
            clear hHeld
            refine wp_ret ?_
            refine bodyPost_ret (v := .tuple #[.agg #[.int .i64 a, .int .i64 b, .slice A zs.length c], .agg #[.int .i64 a', .int .i64 b', .slice A' zs'.length c'], .int .i64 x, .int .i64 y, .int .i64 n]) (by simp [results, Try.results49, go_sem, u0, u1, u2, f0, f1, f2, v0, v1, v2, g0, g1, g2, hs0, hs1, hb0, hb1]) rfl ?_
            have HB3 := Lib.hid (HM3.out.below HBW.out (show w.heap.size ≤ B by omega) (by omega))
            exact ⟨a, b, A, c, zs, a', b', A', c', zs', x, y, n, rfl, ⟨hx0, hx1, hy0, hy1⟩, hnb, hz, hz', hzc, hzc', hcm, hcm', (by repeat (first | (with_reducible exact ROW.out) | (with_reducible apply RowAt.adds) | (with_reducible refine RowAt.alloc ?_ _) | (with_reducible refine RowAt.farL ?_ HA.out ?_; rotate_left; (first | (show B < w1.heap.size; omega) | (show w.heap.size < w1.heap.size; omega) | (show w.heap.size + 1 < w1.heap.size; omega))))), (by repeat (first | (with_reducible exact ROW'.out) | (with_reducible apply RowAt.adds) | (with_reducible refine RowAt.alloc ?_ _) | (with_reducible refine RowAt.farL ?_ HA'.out ?_; rotate_left; (first | (show B < w1.heap.size; omega) | (show w.heap.size < w1.heap.size; omega) | (show w.heap.size + 1 < w1.heap.size; omega))))), (by repeat (first | (with_reducible exact HB3.out) | (with_reducible refine Below.adds_ ?_ ?_ _ _; rotate_left; (simp only [World.size_setCell, World.size_alloc]; omega)) | (with_reducible refine Below.alloc ?_ ?_ _; rotate_left; (simp only [World.size_setCell, World.size_alloc]; omega)) | (with_reducible refine Below.setCell ?_ ?_ _; rotate_left; (first | (show w.heap.size ≤ B; omega) | (show w.heap.size ≤ w.heap.size; omega) | (show w.heap.size ≤ w.heap.size + 1; omega)))))⟩
          exact AllReadyH.nil
        exact AllReadyH.nil
      refine AllReadyH.cons (o := _) rfl (fun K hK => ?_) ?_
      · (try dsimp only [List.getElem_toArray, List.getElem_cons_succ, List.getElem_cons_zero]); go_simp
        refine hK.out _ _ ?_ (fun hHeld => ?_)
        · (first | (go_simp; done) | (go_keep; done))
        clear hK K
        try simp only [Act.put, List.setIfInBounds_toArray, List.set_cons_zero, List.set_cons_succ]
        refine wpAnyH_ready (rs := [8, 10]) (by kernel_rfl) (by simp) ?_
        refine AllReadyH.cons (o := _) rfl (fun K hK => ?_) ?_
        · (try dsimp only [List.getElem_toArray, List.getElem_cons_succ, List.getElem_cons_zero]); go_simp
          refine hK.out _ _ ?_ (fun hHeld => ?_)
          · (first | (go_simp; done) | (go_keep; done))
          clear hK K
          try simp only [Act.put, List.setIfInBounds_toArray, List.set_cons_zero, List.set_cons_succ]
          refine wpAnyH_ready (rs := [10]) (by kernel_rfl) (by simp) ?_
          refine AllReadyH.cons (o := _) rfl (fun K hK => ?_) ?_
          · (try dsimp only [List.getElem_toArray, List.getElem_cons_succ, List.getElem_cons_zero]); go_simp
            refine hK.out _ _ ?_ (fun hHeld => ?_)
            · (first | (go_simp; done) | (go_keep; done))
            clear hK K
            try simp only [Act.put, List.setIfInBounds_toArray, List.set_cons_zero, List.set_cons_succ]
            refine wpAnyH_take (i := 11) (oi := _) (v := ?_) rfl (by kernel_rfl) (by kernel_rfl) (by kernel_rfl) (fun _ _ _ h => h) (Or.inl ⟨by rfl, ?_⟩) (by assumption) ?_
            rotate_left
            · intro w hSw; (try dsimp only at hSw); go_simp; (try with_reducible rfl)
            try dsimp only [List.getElem_toArray, List.getElem_cons_succ, List.getElem_cons_zero]
            simp only [Act.put, List.setIfInBounds_toArray, List.set_cons_zero, List.set_cons_succ]
            refine wpAnyH_take (i := 12) (oi := _) (v := ?_) rfl (by kernel_rfl) (by kernel_rfl) (by kernel_rfl) (fun _ _ _ h => h) (Or.inl ⟨by rfl, ?_⟩) (by assumption) ?_
            rotate_left
            · intro w hSw; (try dsimp only at hSw); go_simp; (try with_reducible rfl)
            try dsimp only [List.getElem_toArray, List.getElem_cons_succ, List.getElem_cons_zero]
            simp only [Act.put, List.setIfInBounds_toArray, List.set_cons_zero, List.set_cons_succ]
            refine wpAnyH_take (i := 13) (oi := _) (v := ?_) rfl (by kernel_rfl) (by kernel_rfl) (by kernel_rfl) (fun _ _ _ h => h) (Or.inl ⟨by rfl, ?_⟩) (by assumption) ?_
            rotate_left
            · intro w hSw; (try dsimp only at hSw); go_simp; (try with_reducible rfl)
            try dsimp only [List.getElem_toArray, List.getElem_cons_succ, List.getElem_cons_zero]
            simp only [Act.put, List.setIfInBounds_toArray, List.set_cons_zero, List.set_cons_succ]
            refine wpAnyH_done (by kernel_rfl) ?_ _
            have hvl : v.toNat < ([0, 1, 2, 3, 4, -1, 9] : List Int).length := (by simp only [List.length_cons, List.length_nil]; omega)
            have hnb := (show -1 ≤ ([0, 1, 2, 3, 4, -1, 9] : List Int)[v.toNat]'hvl ∧ ([0, 1, 2, 3, 4, -1, 9] : List Int)[v.toNat]'hvl ≤ 9 from selB _ (-1) 9 (by decide))
            revert hnb
            generalize ([0, 1, 2, 3, 4, -1, 9] : List Int)[v.toNat]'hvl = n
            intro hnb
            refine (‹∀ (a : Act) (w_1 : World), Code.wp Try.prog Code.ret (bodyPost Try.prog Try.f49 (MsGot w)) a w_1 → _›) _ _ ?_
            clear hHeld
            refine wp_ret ?_
            refine bodyPost_ret (v := .tuple #[.agg #[.int .i64 a, .int .i64 b, .slice A zs.length c], .agg #[.int .i64 a', .int .i64 b', .slice A' zs'.length c'], .int .i64 x, .int .i64 y, .int .i64 n]) (by simp [results, Try.results49, go_sem, u0, u1, u2, f0, f1, f2, v0, v1, v2, g0, g1, g2, hs0, hs1, hb0, hb1]) rfl ?_
            have HB3 := Lib.hid (HM3.out.below HBW.out (show w.heap.size ≤ B by omega) (by omega))
            exact ⟨a, b, A, c, zs, a', b', A', c', zs', x, y, n, rfl, ⟨hx0, hx1, hy0, hy1⟩, hnb, hz, hz', hzc, hzc', hcm, hcm', (by repeat (first | (with_reducible exact ROW.out) | (with_reducible apply RowAt.adds) | (with_reducible refine RowAt.alloc ?_ _) | (with_reducible refine RowAt.farL ?_ HA.out ?_; rotate_left; (first | (show B < w1.heap.size; omega) | (show w.heap.size < w1.heap.size; omega) | (show w.heap.size + 1 < w1.heap.size; omega))))), (by repeat (first | (with_reducible exact ROW'.out) | (with_reducible apply RowAt.adds) | (with_reducible refine RowAt.alloc ?_ _) | (with_reducible refine RowAt.farL ?_ HA'.out ?_; rotate_left; (first | (show B < w1.heap.size; omega) | (show w.heap.size < w1.heap.size; omega) | (show w.heap.size + 1 < w1.heap.size; omega))))), (by repeat (first | (with_reducible exact HB3.out) | (with_reducible refine Below.adds_ ?_ ?_ _ _; rotate_left; (simp only [World.size_setCell, World.size_alloc]; omega)) | (with_reducible refine Below.alloc ?_ ?_ _; rotate_left; (simp only [World.size_setCell, World.size_alloc]; omega)) | (with_reducible refine Below.setCell ?_ ?_ _; rotate_left; (first | (show w.heap.size ≤ B; omega) | (show w.heap.size ≤ w.heap.size; omega) | (show w.heap.size ≤ w.heap.size + 1; omega)))))⟩
          exact AllReadyH.nil
        refine AllReadyH.cons (o := _) rfl (fun K hK => ?_) ?_
        · (try dsimp only [List.getElem_toArray, List.getElem_cons_succ, List.getElem_cons_zero]); go_simp
          refine hK.out _ _ ?_ (fun hHeld => ?_)
          · (first | (go_simp; done) | (go_keep; done))
          clear hK K
          try simp only [Act.put, List.setIfInBounds_toArray, List.set_cons_zero, List.set_cons_succ]
          refine wpAnyH_take (i := 11) (oi := _) (v := ?_) rfl (by kernel_rfl) (by kernel_rfl) (by kernel_rfl) (fun _ _ _ h => h) (Or.inl ⟨by rfl, ?_⟩) (by assumption) ?_
          rotate_left
          · intro w hSw; (try dsimp only at hSw); go_simp; (try with_reducible rfl)
          try dsimp only [List.getElem_toArray, List.getElem_cons_succ, List.getElem_cons_zero]
          simp only [Act.put, List.setIfInBounds_toArray, List.set_cons_zero, List.set_cons_succ]
          refine wpAnyH_take (i := 12) (oi := _) (v := ?_) rfl (by kernel_rfl) (by kernel_rfl) (by kernel_rfl) (fun _ _ _ h => h) (Or.inl ⟨by rfl, ?_⟩) (by assumption) ?_
          rotate_left
          · intro w hSw; (try dsimp only at hSw); go_simp; (try with_reducible rfl)
          try dsimp only [List.getElem_toArray, List.getElem_cons_succ, List.getElem_cons_zero]
          simp only [Act.put, List.setIfInBounds_toArray, List.set_cons_zero, List.set_cons_succ]
          refine wpAnyH_ready (rs := [8]) (by kernel_rfl) (by simp) ?_
          refine AllReadyH.cons (o := _) rfl (fun K hK => ?_) ?_
          · (try dsimp only [List.getElem_toArray, List.getElem_cons_succ, List.getElem_cons_zero]); go_simp
            refine hK.out _ _ ?_ (fun hHeld => ?_)
            · (first | (go_simp; done) | (go_keep; done))
            clear hK K
            try simp only [Act.put, List.setIfInBounds_toArray, List.set_cons_zero, List.set_cons_succ]
            refine wpAnyH_take (i := 13) (oi := _) (v := ?_) rfl (by kernel_rfl) (by kernel_rfl) (by kernel_rfl) (fun _ _ _ h => h) (Or.inl ⟨by rfl, ?_⟩) (by assumption) ?_
            rotate_left
            · intro w hSw; (try dsimp only at hSw); go_simp; (try with_reducible rfl)
            try dsimp only [List.getElem_toArray, List.getElem_cons_succ, List.getElem_cons_zero]
            simp only [Act.put, List.setIfInBounds_toArray, List.set_cons_zero, List.set_cons_succ]
            refine wpAnyH_done (by kernel_rfl) ?_ _
            have hvl : v.toNat < ([0, 1, 2, 3, 4, -1, 9] : List Int).length := (by simp only [List.length_cons, List.length_nil]; omega)
            have hnb := (show -1 ≤ ([0, 1, 2, 3, 4, -1, 9] : List Int)[v.toNat]'hvl ∧ ([0, 1, 2, 3, 4, -1, 9] : List Int)[v.toNat]'hvl ≤ 9 from selB _ (-1) 9 (by decide))
            revert hnb
            generalize ([0, 1, 2, 3, 4, -1, 9] : List Int)[v.toNat]'hvl = n
            intro hnb
            refine (‹∀ (a : Act) (w_1 : World), Code.wp Try.prog Code.ret (bodyPost Try.prog Try.f49 (MsGot w)) a w_1 → _›) _ _ ?_
            clear hHeld
            refine wp_ret ?_
            refine bodyPost_ret (v := .tuple #[.agg #[.int .i64 a, .int .i64 b, .slice A zs.length c], .agg #[.int .i64 a', .int .i64 b', .slice A' zs'.length c'], .int .i64 x, .int .i64 y, .int .i64 n]) (by simp [results, Try.results49, go_sem, u0, u1, u2, f0, f1, f2, v0, v1, v2, g0, g1, g2, hs0, hs1, hb0, hb1]) rfl ?_
            have HB3 := Lib.hid (HM3.out.below HBW.out (show w.heap.size ≤ B by omega) (by omega))
            exact ⟨a, b, A, c, zs, a', b', A', c', zs', x, y, n, rfl, ⟨hx0, hx1, hy0, hy1⟩, hnb, hz, hz', hzc, hzc', hcm, hcm', (by repeat (first | (with_reducible exact ROW.out) | (with_reducible apply RowAt.adds) | (with_reducible refine RowAt.alloc ?_ _) | (with_reducible refine RowAt.farL ?_ HA.out ?_; rotate_left; (first | (show B < w1.heap.size; omega) | (show w.heap.size < w1.heap.size; omega) | (show w.heap.size + 1 < w1.heap.size; omega))))), (by repeat (first | (with_reducible exact ROW'.out) | (with_reducible apply RowAt.adds) | (with_reducible refine RowAt.alloc ?_ _) | (with_reducible refine RowAt.farL ?_ HA'.out ?_; rotate_left; (first | (show B < w1.heap.size; omega) | (show w.heap.size < w1.heap.size; omega) | (show w.heap.size + 1 < w1.heap.size; omega))))), (by repeat (first | (with_reducible exact HB3.out) | (with_reducible refine Below.adds_ ?_ ?_ _ _; rotate_left; (simp only [World.size_setCell, World.size_alloc]; omega)) | (with_reducible refine Below.alloc ?_ ?_ _; rotate_left; (simp only [World.size_setCell, World.size_alloc]; omega)) | (with_reducible refine Below.setCell ?_ ?_ _; rotate_left; (first | (show w.heap.size ≤ B; omega) | (show w.heap.size ≤ w.heap.size; omega) | (show w.heap.size ≤ w.heap.size + 1; omega)))))⟩
          exact AllReadyH.nil
        exact AllReadyH.nil
      exact AllReadyH.nil
    refine AllReadyH.cons (o := _) rfl (fun K hK => ?_) ?_
    · (try dsimp only [List.getElem_toArray, List.getElem_cons_succ, List.getElem_cons_zero]); go_simp
      refine hK.out _ _ ?_ (fun hHeld => ?_)
      · (first | (go_simp; done) | (go_keep; done))
      clear hK K
      try simp only [Act.put, List.setIfInBounds_toArray, List.set_cons_zero, List.set_cons_succ]
      refine wpAnyH_ready (rs := [4, 10]) (by kernel_rfl) (by simp) ?_
      refine AllReadyH.cons (o := _) rfl (fun K hK => ?_) ?_
      · (try dsimp only [List.getElem_toArray, List.getElem_cons_succ, List.getElem_cons_zero]); go_simp
        refine hK.out _ _ ?_ (fun hHeld => ?_)
        · (first | (go_simp; done) | (go_keep; done))
        clear hK K
        try simp only [Act.put, List.setIfInBounds_toArray, List.set_cons_zero, List.set_cons_succ]
        refine wpAnyH_take (i := 7) (oi := _) (v := ?_) rfl (by kernel_rfl) (by kernel_rfl) (by kernel_rfl) (fun _ _ _ h => h) (Or.inl ⟨by rfl, ?_⟩) (by assumption) ?_
        rotate_left
        · intro w hSw; (try dsimp only at hSw); go_simp; (try with_reducible rfl)
        try dsimp only [List.getElem_toArray, List.getElem_cons_succ, List.getElem_cons_zero]
        simp only [Act.put, List.setIfInBounds_toArray, List.set_cons_zero, List.set_cons_succ]
        refine wpAnyH_ready (rs := [8, 10]) (by kernel_rfl) (by simp) ?_
        refine AllReadyH.cons (o := _) rfl (fun K hK => ?_) ?_
        · (try dsimp only [List.getElem_toArray, List.getElem_cons_succ, List.getElem_cons_zero]); go_simp
          refine hK.out _ _ ?_ (fun hHeld => ?_)
          · (first | (go_simp; done) | (go_keep; done))
          clear hK K
          try simp only [Act.put, List.setIfInBounds_toArray, List.set_cons_zero, List.set_cons_succ]
          refine wpAnyH_ready (rs := [10]) (by kernel_rfl) (by simp) ?_
          refine AllReadyH.cons (o := _) rfl (fun K hK => ?_) ?_
          · (try dsimp only [List.getElem_toArray, List.getElem_cons_succ, List.getElem_cons_zero]); go_simp
            refine hK.out _ _ ?_ (fun hHeld => ?_)
            · (first | (go_simp; done) | (go_keep; done))
            clear hK K
            try simp only [Act.put, List.setIfInBounds_toArray, List.set_cons_zero, List.set_cons_succ]
            refine wpAnyH_take (i := 11) (oi := _) (v := ?_) rfl (by kernel_rfl) (by kernel_rfl) (by kernel_rfl) (fun _ _ _ h => h) (Or.inl ⟨by rfl, ?_⟩) (by assumption) ?_
            rotate_left
            · intro w hSw; (try dsimp only at hSw); go_simp; (try with_reducible rfl)
            try dsimp only [List.getElem_toArray, List.getElem_cons_succ, List.getElem_cons_zero]
            simp only [Act.put, List.setIfInBounds_toArray, List.set_cons_zero, List.set_cons_succ]
            refine wpAnyH_take (i := 12) (oi := _) (v := ?_) rfl (by kernel_rfl) (by kernel_rfl) (by kernel_rfl) (fun _ _ _ h => h) (Or.inl ⟨by rfl, ?_⟩) (by assumption) ?_
            rotate_left
            · intro w hSw; (try dsimp only at hSw); go_simp; (try with_reducible rfl)
            try dsimp only [List.getElem_toArray, List.getElem_cons_succ, List.getElem_cons_zero]
            simp only [Act.put, List.setIfInBounds_toArray, List.set_cons_zero, List.set_cons_succ]
            refine wpAnyH_take (i := 13) (oi := _) (v := ?_) rfl (by kernel_rfl) (by kernel_rfl) (by kernel_rfl) (fun _ _ _ h => h) (Or.inl ⟨by rfl, ?_⟩) (by assumption) ?_
            rotate_left
            · intro w hSw; (try dsimp only at hSw); go_simp; (try with_reducible rfl)
            try dsimp only [List.getElem_toArray, List.getElem_cons_succ, List.getElem_cons_zero]
            simp only [Act.put, List.setIfInBounds_toArray, List.set_cons_zero, List.set_cons_succ]
            refine wpAnyH_done (by kernel_rfl) ?_ _
            have hvl : v.toNat < ([0, 1, 2, 3, 4, -1, 9] : List Int).length := (by simp only [List.length_cons, List.length_nil]; omega)
            have hnb := (show -1 ≤ ([0, 1, 2, 3, 4, -1, 9] : List Int)[v.toNat]'hvl ∧ ([0, 1, 2, 3, 4, -1, 9] : List Int)[v.toNat]'hvl ≤ 9 from selB _ (-1) 9 (by decide))
            revert hnb
            generalize ([0, 1, 2, 3, 4, -1, 9] : List Int)[v.toNat]'hvl = n
            intro hnb
            refine (‹∀ (a : Act) (w_1 : World), Code.wp Try.prog Code.ret (bodyPost Try.prog Try.f49 (MsGot w)) a w_1 → _›) _ _ ?_
            clear hHeld
            refine wp_ret ?_
            refine bodyPost_ret (v := .tuple #[.agg #[.int .i64 a, .int .i64 b, .slice A zs.length c], .agg #[.int .i64 a', .int .i64 b', .slice A' zs'.length c'], .int .i64 x, .int .i64 y, .int .i64 n]) (by simp [results, Try.results49, go_sem, u0, u1, u2, f0, f1, f2, v0, v1, v2, g0, g1, g2, hs0, hs1, hb0, hb1]) rfl ?_
            have HB3 := Lib.hid (HM3.out.below HBW.out (show w.heap.size ≤ B by omega) (by omega))
            exact ⟨a, b, A, c, zs, a', b', A', c', zs', x, y, n, rfl, ⟨hx0, hx1, hy0, hy1⟩, hnb, hz, hz', hzc, hzc', hcm, hcm', (by repeat (first | (with_reducible exact ROW.out) | (with_reducible apply RowAt.adds) | (with_reducible refine RowAt.alloc ?_ _) | (with_reducible refine RowAt.farL ?_ HA.out ?_; rotate_left; (first | (show B < w1.heap.size; omega) | (show w.heap.size < w1.heap.size; omega) | (show w.heap.size + 1 < w1.heap.size; omega))))), (by repeat (first | (with_reducible exact ROW'.out) | (with_reducible apply RowAt.adds) | (with_reducible refine RowAt.alloc ?_ _) | (with_reducible refine RowAt.farL ?_ HA'.out ?_; rotate_left; (first | (show B < w1.heap.size; omega) | (show w.heap.size < w1.heap.size; omega) | (show w.heap.size + 1 < w1.heap.size; omega))))), (by repeat (first | (with_reducible exact HB3.out) | (with_reducible refine Below.adds_ ?_ ?_ _ _; rotate_left; (simp only [World.size_setCell, World.size_alloc]; omega)) | (with_reducible refine Below.alloc ?_ ?_ _; rotate_left; (simp only [World.size_setCell, World.size_alloc]; omega)) | (with_reducible refine Below.setCell ?_ ?_ _; rotate_left; (first | (show w.heap.size ≤ B; omega) | (show w.heap.size ≤ w.heap.size; omega) | (show w.heap.size ≤ w.heap.size + 1; omega)))))⟩
          exact AllReadyH.nil
        refine AllReadyH.cons (o := _) rfl (fun K hK => ?_) ?_
        · (try dsimp only [List.getElem_toArray, List.getElem_cons_succ, List.getElem_cons_zero]); go_simp
          refine hK.out _ _ ?_ (fun hHeld => ?_)
          · (first | (go_simp; done) | (go_keep; done))
          clear hK K
          try simp only [Act.put, List.setIfInBounds_toArray, List.set_cons_zero, List.set_cons_succ]
          refine wpAnyH_take (i := 11) (oi := _) (v := ?_) rfl (by kernel_rfl) (by kernel_rfl) (by kernel_rfl) (fun _ _ _ h => h) (Or.inl ⟨by rfl, ?_⟩) (by assumption) ?_
          rotate_left
          · intro w hSw; (try dsimp only at hSw); go_simp; (try with_reducible rfl)
          try dsimp only [List.getElem_toArray, List.getElem_cons_succ, List.getElem_cons_zero]
          simp only [Act.put, List.setIfInBounds_toArray, List.set_cons_zero, List.set_cons_succ]
          refine wpAnyH_take (i := 12) (oi := _) (v := ?_) rfl (by kernel_rfl) (by kernel_rfl) (by kernel_rfl) (fun _ _ _ h => h) (Or.inl ⟨by rfl, ?_⟩) (by assumption) ?_
          rotate_left
          · intro w hSw; (try dsimp only at hSw); go_simp; (try with_reducible rfl)
          try dsimp only [List.getElem_toArray, List.getElem_cons_succ, List.getElem_cons_zero]
          simp only [Act.put, List.setIfInBounds_toArray, List.set_cons_zero, List.set_cons_succ]
          refine wpAnyH_ready (rs := [8]) (by kernel_rfl) (by simp) ?_
          refine AllReadyH.cons (o := _) rfl (fun K hK => ?_) ?_
          · (try dsimp only [List.getElem_toArray, List.getElem_cons_succ, List.getElem_cons_zero]); go_simp
            refine hK.out _ _ ?_ (fun hHeld => ?_)
            · (first | (go_simp; done) | (go_keep; done))
            clear hK K
            try simp only [Act.put, List.setIfInBounds_toArray, List.set_cons_zero, List.set_cons_succ]
            refine wpAnyH_take (i := 13) (oi := _) (v := ?_) rfl (by kernel_rfl) (by kernel_rfl) (by kernel_rfl) (fun _ _ _ h => h) (Or.inl ⟨by rfl, ?_⟩) (by assumption) ?_
            rotate_left
            · intro w hSw; (try dsimp only at hSw); go_simp; (try with_reducible rfl)
            try dsimp only [List.getElem_toArray, List.getElem_cons_succ, List.getElem_cons_zero]
            simp only [Act.put, List.setIfInBounds_toArray, List.set_cons_zero, List.set_cons_succ]
            refine wpAnyH_done (by kernel_rfl) ?_ _
            have hvl : v.toNat < ([0, 1, 2, 3, 4, -1, 9] : List Int).length := (by simp only [List.length_cons, List.length_nil]; omega)
            have hnb := (show -1 ≤ ([0, 1, 2, 3, 4, -1, 9] : List Int)[v.toNat]'hvl ∧ ([0, 1, 2, 3, 4, -1, 9] : List Int)[v.toNat]'hvl ≤ 9 from selB _ (-1) 9 (by decide))
            revert hnb
            generalize ([0, 1, 2, 3, 4, -1, 9] : List Int)[v.toNat]'hvl = n
            intro hnb
            refine (‹∀ (a : Act) (w_1 : World), Code.wp Try.prog Code.ret (bodyPost Try.prog Try.f49 (MsGot w)) a w_1 → _›) _ _ ?_
            clear hHeld
            refine wp_ret ?_
            refine bodyPost_ret (v := .tuple #[.agg #[.int .i64 a, .int .i64 b, .slice A zs.length c], .agg #[.int .i64 a', .int .i64 b', .slice A' zs'.length c'], .int .i64 x, .int .i64 y, .int .i64 n]) (by simp [results, Try.results49, go_sem, u0, u1, u2, f0, f1, f2, v0, v1, v2, g0, g1, g2, hs0, hs1, hb0, hb1]) rfl ?_
            have HB3 := Lib.hid (HM3.out.below HBW.out (show w.heap.size ≤ B by omega) (by omega))
            exact ⟨a, b, A, c, zs, a', b', A', c', zs', x, y, n, rfl, ⟨hx0, hx1, hy0, hy1⟩, hnb, hz, hz', hzc, hzc', hcm, hcm', (by repeat (first | (with_reducible exact ROW.out) | (with_reducible apply RowAt.adds) | (with_reducible refine RowAt.alloc ?_ _) | (with_reducible refine RowAt.farL ?_ HA.out ?_; rotate_left; (first | (show B < w1.heap.size; omega) | (show w.heap.size < w1.heap.size; omega) | (show w.heap.size + 1 < w1.heap.size; omega))))), (by repeat (first | (with_reducible exact ROW'.out) | (with_reducible apply RowAt.adds) | (with_reducible refine RowAt.alloc ?_ _) | (with_reducible refine RowAt.farL ?_ HA'.out ?_; rotate_left; (first | (show B < w1.heap.size; omega) | (show w.heap.size < w1.heap.size; omega) | (show w.heap.size + 1 < w1.heap.size; omega))))), (by repeat (first | (with_reducible exact HB3.out) | (with_reducible refine Below.adds_ ?_ ?_ _ _; rotate_left; (simp only [World.size_setCell, World.size_alloc]; omega)) | (with_reducible refine Below.alloc ?_ ?_ _; rotate_left; (simp only [World.size_setCell, World.size_alloc]; omega)) | (with_reducible refine Below.setCell ?_ ?_ _; rotate_left; (first | (show w.heap.size ≤ B; omega) | (show w.heap.size ≤ w.heap.size; omega) | (show w.heap.size ≤ w.heap.size + 1; omega)))))⟩
          exact AllReadyH.nil
        exact AllReadyH.nil
      refine AllReadyH.cons (o := _) rfl (fun K hK => ?_) ?_
      · (try dsimp only [List.getElem_toArray, List.getElem_cons_succ, List.getElem_cons_zero]); go_simp
        refine hK.out _ _ ?_ (fun hHeld => ?_)
        · (first | (go_simp; done) | (go_keep; done))
        clear hK K
        try simp only [Act.put, List.setIfInBounds_toArray, List.set_cons_zero, List.set_cons_succ]
        refine wpAnyH_take (i := 11) (oi := _) (v := ?_) rfl (by kernel_rfl) (by kernel_rfl) (by kernel_rfl) (fun _ _ _ h => h) (Or.inl ⟨by rfl, ?_⟩) (by assumption) ?_
        rotate_left
        · intro w hSw; (try dsimp only at hSw); go_simp; (try with_reducible rfl)
        try dsimp only [List.getElem_toArray, List.getElem_cons_succ, List.getElem_cons_zero]
        simp only [Act.put, List.setIfInBounds_toArray, List.set_cons_zero, List.set_cons_succ]
        refine wpAnyH_take (i := 12) (oi := _) (v := ?_) rfl (by kernel_rfl) (by kernel_rfl) (by kernel_rfl) (fun _ _ _ h => h) (Or.inl ⟨by rfl, ?_⟩) (by assumption) ?_
        rotate_left
        · intro w hSw; (try dsimp only at hSw); go_simp; (try with_reducible rfl)
        try dsimp only [List.getElem_toArray, List.getElem_cons_succ, List.getElem_cons_zero]
        simp only [Act.put, List.setIfInBounds_toArray, List.set_cons_zero, List.set_cons_succ]
        refine wpAnyH_ready (rs := [4]) (by kernel_rfl) (by simp) ?_
        refine AllReadyH.cons (o := _) rfl (fun K hK => ?_) ?_
        · (try dsimp only [List.getElem_toArray, List.getElem_cons_succ, List.getElem_cons_zero]); go_simp
          refine hK.out _ _ ?_ (fun hHeld => ?_)
          · (first | (go_simp; done) | (go_keep; done))
          clear hK K
          try simp only [Act.put, List.setIfInBounds_toArray, List.set_cons_zero, List.set_cons_succ]
          refine wpAnyH_take (i := 7) (oi := _) (v := ?_) rfl (by kernel_rfl) (by kernel_rfl) (by kernel_rfl) (fun _ _ _ h => h) (Or.inl ⟨by rfl, ?_⟩) (by assumption) ?_
          rotate_left
          · intro w hSw; (try dsimp only at hSw); go_simp; (try with_reducible rfl)
          try dsimp only [List.getElem_toArray, List.getElem_cons_succ, List.getElem_cons_zero]
          simp only [Act.put, List.setIfInBounds_toArray, List.set_cons_zero, List.set_cons_succ]
          refine wpAnyH_ready (rs := [8]) (by kernel_rfl) (by simp) ?_
          refine AllReadyH.cons (o := _) rfl (fun K hK => ?_) ?_
          · (try dsimp only [List.getElem_toArray, List.getElem_cons_succ, List.getElem_cons_zero]); go_simp
            refine hK.out _ _ ?_ (fun hHeld => ?_)
            · (first | (go_simp; done) | (go_keep; done))
            clear hK K
            try simp only [Act.put, List.setIfInBounds_toArray, List.set_cons_zero, List.set_cons_succ]
            refine wpAnyH_take (i := 13) (oi := _) (v := ?_) rfl (by kernel_rfl) (by kernel_rfl) (by kernel_rfl) (fun _ _ _ h => h) (Or.inl ⟨by rfl, ?_⟩) (by assumption) ?_
            rotate_left
            · intro w hSw; (try dsimp only at hSw); go_simp; (try with_reducible rfl)
            try dsimp only [List.getElem_toArray, List.getElem_cons_succ, List.getElem_cons_zero]
            simp only [Act.put, List.setIfInBounds_toArray, List.set_cons_zero, List.set_cons_succ]
            refine wpAnyH_done (by kernel_rfl) ?_ _
            have hvl : v.toNat < ([0, 1, 2, 3, 4, -1, 9] : List Int).length := (by simp only [List.length_cons, List.length_nil]; omega)
            have hnb := (show -1 ≤ ([0, 1, 2, 3, 4, -1, 9] : List Int)[v.toNat]'hvl ∧ ([0, 1, 2, 3, 4, -1, 9] : List Int)[v.toNat]'hvl ≤ 9 from selB _ (-1) 9 (by decide))
            revert hnb
            generalize ([0, 1, 2, 3, 4, -1, 9] : List Int)[v.toNat]'hvl = n
            intro hnb
            refine (‹∀ (a : Act) (w_1 : World), Code.wp Try.prog Code.ret (bodyPost Try.prog Try.f49 (MsGot w)) a w_1 → _›) _ _ ?_
            clear hHeld
            refine wp_ret ?_
            refine bodyPost_ret (v := .tuple #[.agg #[.int .i64 a, .int .i64 b, .slice A zs.length c], .agg #[.int .i64 a', .int .i64 b', .slice A' zs'.length c'], .int .i64 x, .int .i64 y, .int .i64 n]) (by simp [results, Try.results49, go_sem, u0, u1, u2, f0, f1, f2, v0, v1, v2, g0, g1, g2, hs0, hs1, hb0, hb1]) rfl ?_
            have HB3 := Lib.hid (HM3.out.below HBW.out (show w.heap.size ≤ B by omega) (by omega))
            exact ⟨a, b, A, c, zs, a', b', A', c', zs', x, y, n, rfl, ⟨hx0, hx1, hy0, hy1⟩, hnb, hz, hz', hzc, hzc', hcm, hcm', (by repeat (first | (with_reducible exact ROW.out) | (with_reducible apply RowAt.adds) | (with_reducible refine RowAt.alloc ?_ _) | (with_reducible refine RowAt.farL ?_ HA.out ?_; rotate_left; (first | (show B < w1.heap.size; omega) | (show w.heap.size < w1.heap.size; omega) | (show w.heap.size + 1 < w1.heap.size; omega))))), (by repeat (first | (with_reducible exact ROW'.out) | (with_reducible apply RowAt.adds) | (with_reducible refine RowAt.alloc ?_ _) | (with_reducible refine RowAt.farL ?_ HA'.out ?_; rotate_left; (first | (show B < w1.heap.size; omega) | (show w.heap.size < w1.heap.size; omega) | (show w.heap.size + 1 < w1.heap.size; omega))))), (by repeat (first | (with_reducible exact HB3.out) | (with_reducible refine Below.adds_ ?_ ?_ _ _; rotate_left; (simp only [World.size_setCell, World.size_alloc]; omega)) | (with_reducible refine Below.alloc ?_ ?_ _; rotate_left; (simp only [World.size_setCell, World.size_alloc]; omega)) | (with_reducible refine Below.setCell ?_ ?_ _; rotate_left; (first | (show w.heap.size ≤ B; omega) | (show w.heap.size ≤ w.heap.size; omega) | (show w.heap.size ≤ w.heap.size + 1; omega)))))⟩
          exact AllReadyH.nil
        exact AllReadyH.nil
      exact AllReadyH.nil
    exact AllReadyH.nil
  exact AllReadyH.nil

end Go.Proofs.Ytobphddjoebfjaa
