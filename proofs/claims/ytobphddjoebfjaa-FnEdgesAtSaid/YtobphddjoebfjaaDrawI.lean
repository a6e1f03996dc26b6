/- What the draws of a picture and a position in half samples answer. -/
import Derived.Test.YtobphddjoebfjaaDrawH
namespace Go.Proofs.Ytobphddjoebfjaa
open Go.RowKit
set_option linter.unusedVariables false
set_option linter.unusedSimpArgs false

attribute [local go_sem] size_addsW cell?_addsW frozen?_addsW setCell_addsW drew_addsW adds_addsW setCell_twice alloc_adds0 size_adds0 adds_adds0 sel2 sel3 sel4 sel5 sel6 sel7 sel8 sel9 lt_more lt_more2 lt_more3 lt_more4 adds_drew adds_drewN drewN_addsW ltA_1_1 ltA_1_2 ltA_1_3 ltA_1_4 ltA_1_5 ltA_1_6 ltA_2_1 ltA_2_2 ltA_2_3 ltA_2_4 ltA_2_5 ltA_2_6 ltA_3_1 ltA_3_2 ltA_3_3 ltA_3_4 ltA_3_5 ltA_3_6 ltA_4_1 ltA_4_2 ltA_4_3 ltA_4_4 ltA_4_5 ltA_4_6 ltA_5_1 ltA_5_2 ltA_5_3 ltA_5_4 ltA_5_5 ltA_5_6 ltA_6_1 ltA_6_2 ltA_6_3 ltA_6_4 ltA_6_5 ltA_6_6 ltA_7_1 ltA_7_2 ltA_7_3 ltA_7_4 ltA_7_5 ltA_7_6 ltA_8_1 ltA_8_2 ltA_8_3 ltA_8_4 ltA_8_5 ltA_8_6 ltA_9_1 ltA_9_2 ltA_9_3 ltA_9_4 ltA_9_5 ltA_9_6 ltA_10_1 ltA_10_2 ltA_10_3 ltA_10_4 ltA_10_5 ltA_10_6 ltA_11_1 ltA_11_2 ltA_11_3 ltA_11_4 ltA_11_5 ltA_11_6 ltA_12_1 ltA_12_2 ltA_12_3 ltA_12_4 ltA_12_5 ltA_12_6

theorem RowAt.deepA {k : IntKind} {W W' : World} {oo : Array Obj} {nn nn' : Nat} {A : Option Addr} {zs : List Int} (h : RowAt k (addsW W oo nn) A zs) (hs : W'.heap.size = W.heap.size) (hg : ∀ d, A = some d → W.heap.size ≤ d.block) : RowAt k (addsW W' oo nn') A zs := fun hne => by
  obtain ⟨b, off, rfl, hb, hc⟩ := h hne
  exact ⟨b, off, rfl, by simp only [size_addsW] at hb ⊢; omega, fun j hj => (cell_swap hs (hg _ rfl)).trans (hc j hj)⟩

/-- a picture and two numbers -/
def PicTwo (lo hi : Int) (W : World) (e : Ending) (w' : World) : Prop :=
  ∃ (a b x y : Int) (A : Option Addr) (c : Nat) (zs : List Int), e = .returned (.tuple #[.agg #[.int .i64 a, .int .i64 b, .slice A zs.length c], .int .i64 x, .int .i64 y]) ∧ lo ≤ x ∧ x ≤ hi ∧ lo ≤ y ∧ y ≤ hi ∧ -8 ≤ a ∧ a ≤ 40 ∧ 0 ≤ b ∧ b ≤ 40 ∧ zs.length ≤ 1024 ∧ zs.length ≤ c ∧ c ≤ maxLen ∧ RowAt .i64 w' A zs ∧ Below W.heap.size W w'

set_option maxHeartbeats 4000000 in
theorem S_DrawHalfSample (a : Option Addr) (len cap : Nat) (zs : List Int) (w : World) (h : IsRow .u8 w a len cap zs) :
    Calls Try.prog 29 #[.slice a len cap] w (PicTwo (-1001) 1001 w) := by
  have HI := Lib.hid h
  clear h
  go_enter Try.func29, Try.ntmps29
  go_wp2_with (go_at_call 58; refine (S_l20Open _ _ _ zs _ (IsRow.keep HI.out (by repeat' (first | (with_reducible exact Below.refl _ _) | (with_reducible refine Below.adds_ ?_ ?_ _ _) | (with_reducible refine Below.alloc ?_ ?_ _) | (with_reducible refine Below.drew ?_) | (with_reducible refine Below.setCell ?_ ?_ _) | (with_reducible assumption) | go_size | (simp only [size_addsW, World.size_alloc, World.size_drew, World.size_setCell]; omega))))).mono ?_; rintro e w1 ⟨rfl, hR', hb, hB⟩; (try simp only [World.size_alloc] at hR' hB); have hR := Lib.hid hR'; clear hR'; have hbw : Below w.heap.size w w1 := Below.trans (by repeat' (first | (with_reducible exact Below.refl _ _) | (with_reducible refine Below.adds_ ?_ ?_ _ _) | (with_reducible refine Below.alloc ?_ ?_ _) | (with_reducible refine Below.drew ?_) | (with_reducible refine Below.setCell ?_ ?_ _) | (with_reducible assumption) | go_size | (simp only [size_addsW, World.size_alloc, World.size_drew, World.size_setCell]; omega))) (hb.mono (by simp <;> omega)); have hx0 := hb.cell (p := ⟨w.heap.size, 0, none⟩) (by simp <;> omega); have hy0 := hb.frozen (p := ⟨w.heap.size, 0, none⟩) (by simp <;> omega); simp [go_sem] at hx0 hy0; have hx1 := hb.cell (p := ⟨w.heap.size, 1, none⟩) (by simp <;> omega); have hy1 := hb.frozen (p := ⟨w.heap.size, 1, none⟩) (by simp <;> omega); simp [go_sem] at hx1 hy1; have hx2 := hb.cell (p := ⟨w.heap.size, 2, none⟩) (by simp <;> omega); have hy2 := hb.frozen (p := ⟨w.heap.size, 2, none⟩) (by simp <;> omega); simp [go_sem] at hx2 hy2; have hB0 : w.heap.size < w1.heap.size := (by omega); clear hb)
  refine (S_l20Picture (w.heap.size + 1) _ _ _ (by repeat (first | (with_reducible exact hR.out) | (with_reducible apply RdAt.adds) | (with_reducible apply RdAt.alloc) | (with_reducible exact RdAt.set hR.out _) | (with_reducible apply RdAt.drew))) (by omega) (by omega)).mono ?_
  rintro e w' ⟨a, b, A, c, zs, rfl, ha0, ha1, hb0, hb1, hz, hzc, hcm, hrow, hA, hM⟩
  obtain ⟨q, oo, nn, hq, rfl⟩ := hM
  have HR := Lib.hid hrow
  have HA := Lib.hid hA
  clear hrow hA
  go_wp2_with fail
  refine (S_odd (w.heap.size + 1) _ _ _ (by repeat (first | (with_reducible exact hR.out) | (with_reducible apply RdAt.adds) | (with_reducible apply RdAt.alloc) | (with_reducible exact RdAt.set hR.out _) | (with_reducible apply RdAt.drew))) (by omega) (by omega)).mono ?_
  rintro e w' ⟨v, p1, k1, rfl, hp1, rfl⟩
  cases v
  · go_wp2_with fail
    go_region_held3 (fun w' => w'.cell? ⟨w1.heap.size + oo.size, 0, none⟩ = some (.int .i64 a) ∧ w'.cell? ⟨w1.heap.size + oo.size, 1, none⟩ = some (.int .i64 b) ∧ w'.cell? ⟨w1.heap.size + oo.size, 2, none⟩ = some (.slice A zs.length c)) (first | (go_simp; done) | (go_keep; done)) (first | (go_at_call 60; refine (S_pick (w.heap.size + 1) _ _ _ (by repeat (first | (with_reducible exact hR.out) | (with_reducible apply RdAt.adds) | (with_reducible apply RdAt.alloc) | (with_reducible exact RdAt.set hR.out _) | (with_reducible apply RdAt.drew))) (by omega)).mono ?_; rintro e w' ⟨v, p1, k1, rfl, hv, hp1, rfl⟩; have hv' := hv.1 (by omega); clear hv))
    all_goals
      go_wp2_with fail
      refine bodyPost_ret (v := _) (by simp [results, Try.results29, go_sem, hx0, hx1, hx2, hB0]; rfl) rfl ?_
      exact ⟨a, b, _, _, A, c, zs, rfl, (by first | omega | ((try simp only [IntKind.wrap_i64]); omega) | exact (selB _ (-1001) 1001 (by decide)).1), (by first | omega | ((try simp only [IntKind.wrap_i64]); omega) | exact (selB _ (-1001) 1001 (by decide)).2), (by first | omega | ((try simp only [IntKind.wrap_i64]); omega) | exact (selB _ (-1001) 1001 (by decide)).1), (by first | omega | ((try simp only [IntKind.wrap_i64]); omega) | exact (selB _ (-1001) 1001 (by decide)).2), ha0, ha1, hb0, hb1, hz, hzc, hcm, (by repeat (first | (with_reducible exact HR.out.deepA (by simp) (fun d hd => by rw [World.size_setCell]; exact HA.out d hd)) | (with_reducible apply RowAt.adds) | (with_reducible apply RowAt.alloc))), (by repeat' (first | (with_reducible exact Below.refl _ _) | (with_reducible refine Below.adds_ ?_ ?_ _ _) | (with_reducible refine Below.alloc ?_ ?_ _) | (with_reducible refine Below.drew ?_) | (with_reducible refine Below.setCell ?_ ?_ _) | (with_reducible assumption) | go_size | (simp only [size_addsW, World.size_alloc, World.size_drew, World.size_setCell]; omega)))⟩
  · go_wp2_with fail
    refine wp_region_held_drew (S := (fun w' => w'.cell? ⟨w1.heap.size + oo.size, 0, none⟩ = some (.int .i64 a) ∧ w'.cell? ⟨w1.heap.size + oo.size, 1, none⟩ = some (.int .i64 b) ∧ w'.cell? ⟨w1.heap.size + oo.size, 2, none⟩ = some (.slice A zs.length c))) (by kernel_rfl) ?_ (fun hHeld => ?_)
    · (first | (go_simp; done) | (go_keep; done))
    refine wpAnyH_take (i := 0) (oi := _) (v := ?_) rfl (by kernel_rfl) (by kernel_rfl) (by kernel_rfl) (fun _ _ _ h => h) (Or.inl ⟨by rfl, ?_⟩) (by assumption) ?_
    rotate_left
    · intro w hSw; (try dsimp only at hSw); go_simp; (try with_reducible rfl)
    try dsimp only [List.getElem_toArray, List.getElem_cons_succ, List.getElem_cons_zero]
    simp only [Act.put, List.setIfInBounds_toArray, List.set_cons_zero, List.set_cons_succ]
    refine wpAnyH_take (i := 2) (oi := _) (v := ?_) rfl (by kernel_rfl) (by kernel_rfl) (by kernel_rfl) (fun _ _ _ h => h) (Or.inl ⟨by rfl, ?_⟩) (by assumption) ?_
    rotate_left
    · intro w hSw; (try dsimp only at hSw); go_simp; (try with_reducible rfl)
    try dsimp only [List.getElem_toArray, List.getElem_cons_succ, List.getElem_cons_zero]
    simp only [Act.put, List.setIfInBounds_toArray, List.set_cons_zero, List.set_cons_succ]
    refine wpAnyH_take (i := 6) (oi := _) (v := ?_) rfl (by kernel_rfl) (by kernel_rfl) (by kernel_rfl) (fun _ _ _ h => h) (Or.inl ⟨by rfl, ?_⟩) (by assumption) ?_
    rotate_left
    · intro w hSw; (try dsimp only at hSw); go_simp; (try with_reducible rfl)
    try dsimp only [List.getElem_toArray, List.getElem_cons_succ, List.getElem_cons_zero]
    simp only [Act.put, List.setIfInBounds_toArray, List.set_cons_zero, List.set_cons_succ]
    refine wpAnyH_ready (rs := [1, 3]) (by kernel_rfl) (by simp) ?_
    refine AllReadyH.cons (o := _) rfl (fun K hK => ?_) ?_
    · (try dsimp only [List.getElem_toArray, List.getElem_cons_succ, List.getElem_cons_zero]); go_simp
      refine hK.out _ _ ?_ (fun hHeld => ?_)
      · (first | (go_simp; done) | (go_keep; done))
      clear hK K
      try simp only [Act.put, List.setIfInBounds_toArray, List.set_cons_zero, List.set_cons_succ]
      refine wpAnyH_ready (rs := [3]) (by kernel_rfl) (by simp) ?_
      refine AllReadyH.cons (o := _) rfl (fun K hK => ?_) ?_
      · (try dsimp only [List.getElem_toArray, List.getElem_cons_succ, List.getElem_cons_zero]); go_simp
        (first | (go_at_call 60; refine (S_pick (w.heap.size + 1) _ _ _ (by repeat (first | (with_reducible exact hR.out) | (with_reducible apply RdAt.adds) | (with_reducible apply RdAt.alloc) | (with_reducible exact RdAt.set hR.out _) | (with_reducible apply RdAt.drew))) (by omega)).mono ?_; rintro e w' ⟨v, p1, k1, rfl, hv, hp1, rfl⟩; have hv' := hv.1 (by omega); clear hv))
        try go_wp2_with fail
        refine hK.out _ _ ?_ (fun hHeld => ?_)
        · (first | (go_simp; done) | (go_keep; done))
        clear hK K
        try simp only [Act.put, List.setIfInBounds_toArray, List.set_cons_zero, List.set_cons_succ]
        refine wpAnyH_take (i := 4) (oi := _) (v := ?_) rfl (by kernel_rfl) (by kernel_rfl) (by kernel_rfl) (fun _ _ _ h => h) (Or.inl ⟨by rfl, ?_⟩) (by assumption) ?_
        rotate_left
        · intro w hSw; (try dsimp only at hSw); go_simp; (try with_reducible rfl)
        try dsimp only [List.getElem_toArray, List.getElem_cons_succ, List.getElem_cons_zero]
        simp only [Act.put, List.setIfInBounds_toArray, List.set_cons_zero, List.set_cons_succ]
        refine wpAnyH_ready (rs := [5, 7]) (by kernel_rfl) (by simp) ?_
        refine AllReadyH.cons (o := _) rfl (fun K hK => ?_) ?_
        · (try dsimp only [List.getElem_toArray, List.getElem_cons_succ, List.getElem_cons_zero]); go_simp
          refine hK.out _ _ ?_ (fun hHeld => ?_)
          · (first | (go_simp; done) | (go_keep; done))
          clear hK K
          try simp only [Act.put, List.setIfInBounds_toArray, List.set_cons_zero, List.set_cons_succ]
          refine wpAnyH_ready (rs := [7]) (by kernel_rfl) (by simp) ?_
          refine AllReadyH.cons (o := _) rfl (fun K hK => ?_) ?_
          · (try dsimp only [List.getElem_toArray, List.getElem_cons_succ, List.getElem_cons_zero]); go_simp
            (first | (go_at_call 60; refine (S_pick (w.heap.size + 1) _ _ _ (by repeat (first | (with_reducible exact hR.out) | (with_reducible apply RdAt.adds) | (with_reducible apply RdAt.alloc) | (with_reducible exact RdAt.set hR.out _) | (with_reducible apply RdAt.drew))) (by omega)).mono ?_; rintro e w' ⟨v, p1, k1, rfl, hv, hp1, rfl⟩; have hv' := hv.1 (by omega); clear hv))
            try go_wp2_with fail
            refine hK.out _ _ ?_ (fun hHeld => ?_)
            · (first | (go_simp; done) | (go_keep; done))
            clear hK K
            try simp only [Act.put, List.setIfInBounds_toArray, List.set_cons_zero, List.set_cons_succ]
            refine wpAnyH_ready (rs := [8]) (by kernel_rfl) (by simp) ?_
            refine AllReadyH.cons (o := _) rfl (fun K hK => ?_) ?_
            · (try dsimp only [List.getElem_toArray, List.getElem_cons_succ, List.getElem_cons_zero]); go_simp
              refine hK.out _ _ ?_ (fun hHeld => ?_)
              · (first | (go_simp; done) | (go_keep; done))
              clear hK K
              try simp only [Act.put, List.setIfInBounds_toArray, List.set_cons_zero, List.set_cons_succ]
              refine wpAnyH_take (i := 9) (oi := _) (v := ?_) rfl (by kernel_rfl) (by kernel_rfl) (by kernel_rfl) (fun _ _ _ h => h) (Or.inl ⟨by rfl, ?_⟩) (by assumption) ?_
              rotate_left
              · intro w hSw; (try dsimp only at hSw); go_simp; (try with_reducible rfl)
              try dsimp only [List.getElem_toArray, List.getElem_cons_succ, List.getElem_cons_zero]
              simp only [Act.put, List.setIfInBounds_toArray, List.set_cons_zero, List.set_cons_succ]
              refine wpAnyH_take (i := 10) (oi := _) (v := ?_) rfl (by kernel_rfl) (by kernel_rfl) (by kernel_rfl) (fun _ _ _ h => h) (Or.inl ⟨by rfl, ?_⟩) (by assumption) ?_
              rotate_left
              · intro w hSw; (try dsimp only at hSw); go_simp; (try with_reducible rfl)
              try dsimp only [List.getElem_toArray, List.getElem_cons_succ, List.getElem_cons_zero]
              simp only [Act.put, List.setIfInBounds_toArray, List.set_cons_zero, List.set_cons_succ]
              refine wpAnyH_done (by kernel_rfl) ?_ _
              go_wp2_with fail
              refine bodyPost_ret (v := _) (by simp [results, Try.results29, go_sem, hx0, hx1, hx2, hB0]; rfl) rfl ?_
              exact ⟨a, b, _, _, A, c, zs, rfl, (by first | omega | ((try simp only [IntKind.wrap_i64]); omega) | exact (selB _ (-1001) 1001 (by decide)).1), (by first | omega | ((try simp only [IntKind.wrap_i64]); omega) | exact (selB _ (-1001) 1001 (by decide)).2), (by first | omega | ((try simp only [IntKind.wrap_i64]); omega) | exact (selB _ (-1001) 1001 (by decide)).1), (by first | omega | ((try simp only [IntKind.wrap_i64]); omega) | exact (selB _ (-1001) 1001 (by decide)).2), ha0, ha1, hb0, hb1, hz, hzc, hcm, (by repeat (first | (with_reducible exact HR.out.deepA (by simp) (fun d hd => by rw [World.size_setCell]; exact HA.out d hd)) | (with_reducible apply RowAt.adds) | (with_reducible apply RowAt.alloc))), (by repeat' (first | (with_reducible exact Below.refl _ _) | (with_reducible refine Below.adds_ ?_ ?_ _ _) | (with_reducible refine Below.alloc ?_ ?_ _) | (with_reducible refine Below.drew ?_) | (with_reducible refine Below.setCell ?_ ?_ _) | (with_reducible assumption) | go_size | (simp only [size_addsW, World.size_alloc, World.size_drew, World.size_setCell]; omega)))⟩
            exact AllReadyH.nil
          exact AllReadyH.nil
        refine AllReadyH.cons (o := _) rfl (fun K hK => ?_) ?_
        · (try dsimp only [List.getElem_toArray, List.getElem_cons_succ, List.getElem_cons_zero]); go_simp
          (first | (go_at_call 60; refine (S_pick (w.heap.size + 1) _ _ _ (by repeat (first | (with_reducible exact hR.out) | (with_reducible apply RdAt.adds) | (with_reducible apply RdAt.alloc) | (with_reducible exact RdAt.set hR.out _) | (with_reducible apply RdAt.drew))) (by omega)).mono ?_; rintro e w' ⟨v, p1, k1, rfl, hv, hp1, rfl⟩; have hv' := hv.1 (by omega); clear hv))
          try go_wp2_with fail
          refine hK.out _ _ ?_ (fun hHeld => ?_)
          · (first | (go_simp; done) | (go_keep; done))
          clear hK K
          try simp only [Act.put, List.setIfInBounds_toArray, List.set_cons_zero, List.set_cons_succ]
          refine wpAnyH_ready (rs := [5, 8]) (by kernel_rfl) (by simp) ?_
          refine AllReadyH.cons (o := _) rfl (fun K hK => ?_) ?_
          · (try dsimp only [List.getElem_toArray, List.getElem_cons_succ, List.getElem_cons_zero]); go_simp
            refine hK.out _ _ ?_ (fun hHeld => ?_)
            · (first | (go_simp; done) | (go_keep; done))
            clear hK K
            try simp only [Act.put, List.setIfInBounds_toArray, List.set_cons_zero, List.set_cons_succ]
            refine wpAnyH_ready (rs := [8]) (by kernel_rfl) (by simp) ?_
            refine AllReadyH.cons (o := _) rfl (fun K hK => ?_) ?_
            · (try dsimp only [List.getElem_toArray, List.getElem_cons_succ, List.getElem_cons_zero]); go_simp
              refine hK.out _ _ ?_ (fun hHeld => ?_)
              · (first | (go_simp; done) | (go_keep; done))
              clear hK K
              try simp only [Act.put, List.setIfInBounds_toArray, List.set_cons_zero, List.set_cons_succ]
              refine wpAnyH_take (i := 9) (oi := _) (v := ?_) rfl (by kernel_rfl) (by kernel_rfl) (by kernel_rfl) (fun _ _ _ h => h) (Or.inl ⟨by rfl, ?_⟩) (by assumption) ?_
              rotate_left
              · intro w hSw; (try dsimp only at hSw); go_simp; (try with_reducible rfl)
              try dsimp only [List.getElem_toArray, List.getElem_cons_succ, List.getElem_cons_zero]
              simp only [Act.put, List.setIfInBounds_toArray, List.set_cons_zero, List.set_cons_succ]
              refine wpAnyH_take (i := 10) (oi := _) (v := ?_) rfl (by kernel_rfl) (by kernel_rfl) (by kernel_rfl) (fun _ _ _ h => h) (Or.inl ⟨by rfl, ?_⟩) (by assumption) ?_
              rotate_left
              · intro w hSw; (try dsimp only at hSw); go_simp; (try with_reducible rfl)
              try dsimp only [List.getElem_toArray, List.getElem_cons_succ, List.getElem_cons_zero]
              simp only [Act.put, List.setIfInBounds_toArray, List.set_cons_zero, List.set_cons_succ]
              refine wpAnyH_done (by kernel_rfl) ?_ _
              go_wp2_with fail
              refine bodyPost_ret (v := _) (by simp [results, Try.results29, go_sem, hx0, hx1, hx2, hB0]; rfl) rfl ?_
              exact ⟨a, b, _, _, A, c, zs, rfl, (by first | omega | ((try simp only [IntKind.wrap_i64]); omega) | exact (selB _ (-1001) 1001 (by decide)).1), (by first | omega | ((try simp only [IntKind.wrap_i64]); omega) | exact (selB _ (-1001) 1001 (by decide)).2), (by first | omega | ((try simp only [IntKind.wrap_i64]); omega) | exact (selB _ (-1001) 1001 (by decide)).1), (by first | omega | ((try simp only [IntKind.wrap_i64]); omega) | exact (selB _ (-1001) 1001 (by decide)).2), ha0, ha1, hb0, hb1, hz, hzc, hcm, (by repeat (first | (with_reducible exact HR.out.deepA (by simp) (fun d hd => by rw [World.size_setCell]; exact HA.out d hd)) | (with_reducible apply RowAt.adds) | (with_reducible apply RowAt.alloc))), (by repeat' (first | (with_reducible exact Below.refl _ _) | (with_reducible refine Below.adds_ ?_ ?_ _ _) | (with_reducible refine Below.alloc ?_ ?_ _) | (with_reducible refine Below.drew ?_) | (with_reducible refine Below.setCell ?_ ?_ _) | (with_reducible assumption) | go_size | (simp only [size_addsW, World.size_alloc, World.size_drew, World.size_setCell]; omega)))⟩
            exact AllReadyH.nil
          refine AllReadyH.cons (o := _) rfl (fun K hK => ?_) ?_
          · (try dsimp only [List.getElem_toArray, List.getElem_cons_succ, List.getElem_cons_zero]); go_simp
            refine hK.out _ _ ?_ (fun hHeld => ?_)
            · (first | (go_simp; done) | (go_keep; done))
            clear hK K
            try simp only [Act.put, List.setIfInBounds_toArray, List.set_cons_zero, List.set_cons_succ]
            refine wpAnyH_ready (rs := [5]) (by kernel_rfl) (by simp) ?_
            refine AllReadyH.cons (o := _) rfl (fun K hK => ?_) ?_
            · (try dsimp only [List.getElem_toArray, List.getElem_cons_succ, List.getElem_cons_zero]); go_simp
              refine hK.out _ _ ?_ (fun hHeld => ?_)
              · (first | (go_simp; done) | (go_keep; done))
              clear hK K
              try simp only [Act.put, List.setIfInBounds_toArray, List.set_cons_zero, List.set_cons_succ]
              refine wpAnyH_take (i := 9) (oi := _) (v := ?_) rfl (by kernel_rfl) (by kernel_rfl) (by kernel_rfl) (fun _ _ _ h => h) (Or.inl ⟨by rfl, ?_⟩) (by assumption) ?_
              rotate_left
              · intro w hSw; (try dsimp only at hSw); go_simp; (try with_reducible rfl)
              try dsimp only [List.getElem_toArray, List.getElem_cons_succ, List.getElem_cons_zero]
              simp only [Act.put, List.setIfInBounds_toArray, List.set_cons_zero, List.set_cons_succ]
              refine wpAnyH_take (i := 10) (oi := _) (v := ?_) rfl (by kernel_rfl) (by kernel_rfl) (by kernel_rfl) (fun _ _ _ h => h) (Or.inl ⟨by rfl, ?_⟩) (by assumption) ?_
              rotate_left
              · intro w hSw; (try dsimp only at hSw); go_simp; (try with_reducible rfl)
              try dsimp only [List.getElem_toArray, List.getElem_cons_succ, List.getElem_cons_zero]
              simp only [Act.put, List.setIfInBounds_toArray, List.set_cons_zero, List.set_cons_succ]
              refine wpAnyH_done (by kernel_rfl) ?_ _
              go_wp2_with fail
              refine bodyPost_ret (v := _) (by simp [results, Try.results29, go_sem, hx0, hx1, hx2, hB0]; rfl) rfl ?_
              exact ⟨a, b, _, _, A, c, zs, rfl, (by first | omega | ((try simp only [IntKind.wrap_i64]); omega) | exact (selB _ (-1001) 1001 (by decide)).1), (by first | omega | ((try simp only [IntKind.wrap_i64]); omega) | exact (selB _ (-1001) 1001 (by decide)).2), (by first | omega | ((try simp only [IntKind.wrap_i64]); omega) | exact (selB _ (-1001) 1001 (by decide)).1), (by first | omega | ((try simp only [IntKind.wrap_i64]); omega) | exact (selB _ (-1001) 1001 (by decide)).2), ha0, ha1, hb0, hb1, hz, hzc, hcm, (by repeat (first | (with_reducible exact HR.out.deepA (by simp) (fun d hd => by rw [World.size_setCell]; exact HA.out d hd)) | (with_reducible apply RowAt.adds) | (with_reducible apply RowAt.alloc))), (by repeat' (first | (with_reducible exact Below.refl _ _) | (with_reducible refine Below.adds_ ?_ ?_ _ _) | (with_reducible refine Below.alloc ?_ ?_ _) | (with_reducible refine Below.drew ?_) | (with_reducible refine Below.setCell ?_ ?_ _) | (with_reducible assumption) | go_size | (simp only [size_addsW, World.size_alloc, World.size_drew, World.size_setCell]; omega)))⟩
            exact AllReadyH.nil
          exact AllReadyH.nil
        exact AllReadyH.nil
      exact AllReadyH.nil
    refine AllReadyH.cons (o := _) rfl (fun K hK => ?_) ?_
    · (try dsimp only [List.getElem_toArray, List.getElem_cons_succ, List.getElem_cons_zero]); go_simp
      (first | (go_at_call 60; refine (S_pick (w.heap.size + 1) _ _ _ (by repeat (first | (with_reducible exact hR.out) | (with_reducible apply RdAt.adds) | (with_reducible apply RdAt.alloc) | (with_reducible exact RdAt.set hR.out _) | (with_reducible apply RdAt.drew))) (by omega)).mono ?_; rintro e w' ⟨v, p1, k1, rfl, hv, hp1, rfl⟩; have hv' := hv.1 (by omega); clear hv))
      try go_wp2_with fail
      refine hK.out _ _ ?_ (fun hHeld => ?_)
      · (first | (go_simp; done) | (go_keep; done))
      clear hK K
      try simp only [Act.put, List.setIfInBounds_toArray, List.set_cons_zero, List.set_cons_succ]
      refine wpAnyH_ready (rs := [1, 7]) (by kernel_rfl) (by simp) ?_
      refine AllReadyH.cons (o := _) rfl (fun K hK => ?_) ?_
      · (try dsimp only [List.getElem_toArray, List.getElem_cons_succ, List.getElem_cons_zero]); go_simp
        refine hK.out _ _ ?_ (fun hHeld => ?_)
        · (first | (go_simp; done) | (go_keep; done))
        clear hK K
        try simp only [Act.put, List.setIfInBounds_toArray, List.set_cons_zero, List.set_cons_succ]
        refine wpAnyH_take (i := 4) (oi := _) (v := ?_) rfl (by kernel_rfl) (by kernel_rfl) (by kernel_rfl) (fun _ _ _ h => h) (Or.inl ⟨by rfl, ?_⟩) (by assumption) ?_
        rotate_left
        · intro w hSw; (try dsimp only at hSw); go_simp; (try with_reducible rfl)
        try dsimp only [List.getElem_toArray, List.getElem_cons_succ, List.getElem_cons_zero]
        simp only [Act.put, List.setIfInBounds_toArray, List.set_cons_zero, List.set_cons_succ]
        refine wpAnyH_ready (rs := [5, 7]) (by kernel_rfl) (by simp) ?_
        refine AllReadyH.cons (o := _) rfl (fun K hK => ?_) ?_
        · (try dsimp only [List.getElem_toArray, List.getElem_cons_succ, List.getElem_cons_zero]); go_simp
          refine hK.out _ _ ?_ (fun hHeld => ?_)
          · (first | (go_simp; done) | (go_keep; done))
          clear hK K
          try simp only [Act.put, List.setIfInBounds_toArray, List.set_cons_zero, List.set_cons_succ]
          refine wpAnyH_ready (rs := [7]) (by kernel_rfl) (by simp) ?_
          refine AllReadyH.cons (o := _) rfl (fun K hK => ?_) ?_
          · (try dsimp only [List.getElem_toArray, List.getElem_cons_succ, List.getElem_cons_zero]); go_simp
            (first | (go_at_call 60; refine (S_pick (w.heap.size + 1) _ _ _ (by repeat (first | (with_reducible exact hR.out) | (with_reducible apply RdAt.adds) | (with_reducible apply RdAt.alloc) | (with_reducible exact RdAt.set hR.out _) | (with_reducible apply RdAt.drew))) (by omega)).mono ?_; rintro e w' ⟨v, p1, k1, rfl, hv, hp1, rfl⟩; have hv' := hv.1 (by omega); clear hv))
            try go_wp2_with fail
            refine hK.out _ _ ?_ (fun hHeld => ?_)
            · (first | (go_simp; done) | (go_keep; done))
            clear hK K
            try simp only [Act.put, List.setIfInBounds_toArray, List.set_cons_zero, List.set_cons_succ]
            refine wpAnyH_ready (rs := [8]) (by kernel_rfl) (by simp) ?_
            refine AllReadyH.cons (o := _) rfl (fun K hK => ?_) ?_
            · (try dsimp only [List.getElem_toArray, List.getElem_cons_succ, List.getElem_cons_zero]); go_simp
              refine hK.out _ _ ?_ (fun hHeld => ?_)
              · (first | (go_simp; done) | (go_keep; done))
              clear hK K
              try simp only [Act.put, List.setIfInBounds_toArray, List.set_cons_zero, List.set_cons_succ]
              refine wpAnyH_take (i := 9) (oi := _) (v := ?_) rfl (by kernel_rfl) (by kernel_rfl) (by kernel_rfl) (fun _ _ _ h => h) (Or.inl ⟨by rfl, ?_⟩) (by assumption) ?_
              rotate_left
              · intro w hSw; (try dsimp only at hSw); go_simp; (try with_reducible rfl)
              try dsimp only [List.getElem_toArray, List.getElem_cons_succ, List.getElem_cons_zero]
              simp only [Act.put, List.setIfInBounds_toArray, List.set_cons_zero, List.set_cons_succ]
              refine wpAnyH_take (i := 10) (oi := _) (v := ?_) rfl (by kernel_rfl) (by kernel_rfl) (by kernel_rfl) (fun _ _ _ h => h) (Or.inl ⟨by rfl, ?_⟩) (by assumption) ?_
              rotate_left
              · intro w hSw; (try dsimp only at hSw); go_simp; (try with_reducible rfl)
              try dsimp only [List.getElem_toArray, List.getElem_cons_succ, List.getElem_cons_zero]
              simp only [Act.put, List.setIfInBounds_toArray, List.set_cons_zero, List.set_cons_succ]
              refine wpAnyH_done (by kernel_rfl) ?_ _
              go_wp2_with fail
              refine bodyPost_ret (v := _) (by simp [results, Try.results29, go_sem, hx0, hx1, hx2, hB0]; rfl) rfl ?_
              exact ⟨a, b, _, _, A, c, zs, rfl, (by first | omega | ((try simp only [IntKind.wrap_i64]); omega) | exact (selB _ (-1001) 1001 (by decide)).1), (by first | omega | ((try simp only [IntKind.wrap_i64]); omega) | exact (selB _ (-1001) 1001 (by decide)).2), (by first | omega | ((try simp only [IntKind.wrap_i64]); omega) | exact (selB _ (-1001) 1001 (by decide)).1), (by first | omega | ((try simp only [IntKind.wrap_i64]); omega) | exact (selB _ (-1001) 1001 (by decide)).2), ha0, ha1, hb0, hb1, hz, hzc, hcm, (by repeat (first | (with_reducible exact HR.out.deepA (by simp) (fun d hd => by rw [World.size_setCell]; exact HA.out d hd)) | (with_reducible apply RowAt.adds) | (with_reducible apply RowAt.alloc))), (by repeat' (first | (with_reducible exact Below.refl _ _) | (with_reducible refine Below.adds_ ?_ ?_ _ _) | (with_reducible refine Below.alloc ?_ ?_ _) | (with_reducible refine Below.drew ?_) | (with_reducible refine Below.setCell ?_ ?_ _) | (with_reducible assumption) | go_size | (simp only [size_addsW, World.size_alloc, World.size_drew, World.size_setCell]; omega)))⟩
            exact AllReadyH.nil
          exact AllReadyH.nil
        refine AllReadyH.cons (o := _) rfl (fun K hK => ?_) ?_
        · (try dsimp only [List.getElem_toArray, List.getElem_cons_succ, List.getElem_cons_zero]); go_simp
          (first | (go_at_call 60; refine (S_pick (w.heap.size + 1) _ _ _ (by repeat (first | (with_reducible exact hR.out) | (with_reducible apply RdAt.adds) | (with_reducible apply RdAt.alloc) | (with_reducible exact RdAt.set hR.out _) | (with_reducible apply RdAt.drew))) (by omega)).mono ?_; rintro e w' ⟨v, p1, k1, rfl, hv, hp1, rfl⟩; have hv' := hv.1 (by omega); clear hv))
          try go_wp2_with fail
          refine hK.out _ _ ?_ (fun hHeld => ?_)
          · (first | (go_simp; done) | (go_keep; done))
          clear hK K
          try simp only [Act.put, List.setIfInBounds_toArray, List.set_cons_zero, List.set_cons_succ]
          refine wpAnyH_ready (rs := [5, 8]) (by kernel_rfl) (by simp) ?_
          refine AllReadyH.cons (o := _) rfl (fun K hK => ?_) ?_
          · (try dsimp only [List.getElem_toArray, List.getElem_cons_succ, List.getElem_cons_zero]); go_simp
            refine hK.out _ _ ?_ (fun hHeld => ?_)
            · (first | (go_simp; done) | (go_keep; done))
            clear hK K
            try simp only [Act.put, List.setIfInBounds_toArray, List.set_cons_zero, List.set_cons_succ]
            refine wpAnyH_ready (rs := [8]) (by kernel_rfl) (by simp) ?_
            refine AllReadyH.cons (o := _) rfl (fun K hK => ?_) ?_
            · (try dsimp only [List.getElem_toArray, List.getElem_cons_succ, List.getElem_cons_zero]); go_simp
              refine hK.out _ _ ?_ (fun hHeld => ?_)
              · (first | (go_simp; done) | (go_keep; done))
              clear hK K
              try simp only [Act.put, List.setIfInBounds_toArray, List.set_cons_zero, List.set_cons_succ]
              refine wpAnyH_take (i := 9) (oi := _) (v := ?_) rfl (by kernel_rfl) (by kernel_rfl) (by kernel_rfl) (fun _ _ _ h => h) (Or.inl ⟨by rfl, ?_⟩) (by assumption) ?_
              rotate_left
              · intro w hSw; (try dsimp only at hSw); go_simp; (try with_reducible rfl)
              try dsimp only [List.getElem_toArray, List.getElem_cons_succ, List.getElem_cons_zero]
              simp only [Act.put, List.setIfInBounds_toArray, List.set_cons_zero, List.set_cons_succ]
              refine wpAnyH_take (i := 10) (oi := _) (v := ?_) rfl (by kernel_rfl) (by kernel_rfl) (by kernel_rfl) (fun _ _ _ h => h) (Or.inl ⟨by rfl, ?_⟩) (by assumption) ?_
              rotate_left
              · intro w hSw; (try dsimp only at hSw); go_simp; (try with_reducible rfl)
              try dsimp only [List.getElem_toArray, List.getElem_cons_succ, List.getElem_cons_zero]
              simp only [Act.put, List.setIfInBounds_toArray, List.set_cons_zero, List.set_cons_succ]
              refine wpAnyH_done (by kernel_rfl) ?_ _
              go_wp2_with fail
              refine bodyPost_ret (v := _) (by simp [results, Try.results29, go_sem, hx0, hx1, hx2, hB0]; rfl) rfl ?_
              exact ⟨a, b, _, _, A, c, zs, rfl, (by first | omega | ((try simp only [IntKind.wrap_i64]); omega) | exact (selB _ (-1001) 1001 (by decide)).1), (by first | omega | ((try simp only [IntKind.wrap_i64]); omega) | exact (selB _ (-1001) 1001 (by decide)).2), (by first | omega | ((try simp only [IntKind.wrap_i64]); omega) | exact (selB _ (-1001) 1001 (by decide)).1), (by first | omega | ((try simp only [IntKind.wrap_i64]); omega) | exact (selB _ (-1001) 1001 (by decide)).2), ha0, ha1, hb0, hb1, hz, hzc, hcm, (by repeat (first | (with_reducible exact HR.out.deepA (by simp) (fun d hd => by rw [World.size_setCell]; exact HA.out d hd)) | (with_reducible apply RowAt.adds) | (with_reducible apply RowAt.alloc))), (by repeat' (first | (with_reducible exact Below.refl _ _) | (with_reducible refine Below.adds_ ?_ ?_ _ _) | (with_reducible refine Below.alloc ?_ ?_ _) | (with_reducible refine Below.drew ?_) | (with_reducible refine Below.setCell ?_ ?_ _) | (with_reducible assumption) | go_size | (simp only [size_addsW, World.size_alloc, World.size_drew, World.size_setCell]; omega)))⟩
            exact AllReadyH.nil
          refine AllReadyH.cons (o := _) rfl (fun K hK => ?_) ?_
          · (try dsimp only [List.getElem_toArray, List.getElem_cons_succ, List.getElem_cons_zero]); go_simp
            refine hK.out _ _ ?_ (fun hHeld => ?_)
            · (first | (go_simp; done) | (go_keep; done))
            clear hK K
            try simp only [Act.put, List.setIfInBounds_toArray, List.set_cons_zero, List.set_cons_succ]
            refine wpAnyH_ready (rs := [5]) (by kernel_rfl) (by simp) ?_
            refine AllReadyH.cons (o := _) rfl (fun K hK => ?_) ?_
            · (try dsimp only [List.getElem_toArray, List.getElem_cons_succ, List.getElem_cons_zero]); go_simp
              refine hK.out _ _ ?_ (fun hHeld => ?_)
              · (first | (go_simp; done) | (go_keep; done))
              clear hK K
              try simp only [Act.put, List.setIfInBounds_toArray, List.set_cons_zero, List.set_cons_succ]
              refine wpAnyH_take (i := 9) (oi := _) (v := ?_) rfl (by kernel_rfl) (by kernel_rfl) (by kernel_rfl) (fun _ _ _ h => h) (Or.inl ⟨by rfl, ?_⟩) (by assumption) ?_
              rotate_left
              · intro w hSw; (try dsimp only at hSw); go_simp; (try with_reducible rfl)
              try dsimp only [List.getElem_toArray, List.getElem_cons_succ, List.getElem_cons_zero]
              simp only [Act.put, List.setIfInBounds_toArray, List.set_cons_zero, List.set_cons_succ]
              refine wpAnyH_take (i := 10) (oi := _) (v := ?_) rfl (by kernel_rfl) (by kernel_rfl) (by kernel_rfl) (fun _ _ _ h => h) (Or.inl ⟨by rfl, ?_⟩) (by assumption) ?_
              rotate_left
              · intro w hSw; (try dsimp only at hSw); go_simp; (try with_reducible rfl)
              try dsimp only [List.getElem_toArray, List.getElem_cons_succ, List.getElem_cons_zero]
              simp only [Act.put, List.setIfInBounds_toArray, List.set_cons_zero, List.set_cons_succ]
              refine wpAnyH_done (by kernel_rfl) ?_ _
              go_wp2_with fail
              refine bodyPost_ret (v := _) (by simp [results, Try.results29, go_sem, hx0, hx1, hx2, hB0]; rfl) rfl ?_
              exact ⟨a, b, _, _, A, c, zs, rfl, (by first | omega | ((try simp only [IntKind.wrap_i64]); omega) | exact (selB _ (-1001) 1001 (by decide)).1), (by first | omega | ((try simp only [IntKind.wrap_i64]); omega) | exact (selB _ (-1001) 1001 (by decide)).2), (by first | omega | ((try simp only [IntKind.wrap_i64]); omega) | exact (selB _ (-1001) 1001 (by decide)).1), (by first | omega | ((try simp only [IntKind.wrap_i64]); omega) | exact (selB _ (-1001) 1001 (by decide)).2), ha0, ha1, hb0, hb1, hz, hzc, hcm, (by repeat (first | (with_reducible exact HR.out.deepA (by simp) (fun d hd => by rw [World.size_setCell]; exact HA.out d hd)) | (with_reducible apply RowAt.adds) | (with_reducible apply RowAt.alloc))), (by repeat' (first | (with_reducible exact Below.refl _ _) | (with_reducible refine Below.adds_ ?_ ?_ _ _) | (with_reducible refine Below.alloc ?_ ?_ _) | (with_reducible refine Below.drew ?_) | (with_reducible refine Below.setCell ?_ ?_ _) | (with_reducible assumption) | go_size | (simp only [size_addsW, World.size_alloc, World.size_drew, World.size_setCell]; omega)))⟩
            exact AllReadyH.nil
          exact AllReadyH.nil
        exact AllReadyH.nil
      refine AllReadyH.cons (o := _) rfl (fun K hK => ?_) ?_
      · (try dsimp only [List.getElem_toArray, List.getElem_cons_succ, List.getElem_cons_zero]); go_simp
        (first | (go_at_call 60; refine (S_pick (w.heap.size + 1) _ _ _ (by repeat (first | (with_reducible exact hR.out) | (with_reducible apply RdAt.adds) | (with_reducible apply RdAt.alloc) | (with_reducible exact RdAt.set hR.out _) | (with_reducible apply RdAt.drew))) (by omega)).mono ?_; rintro e w' ⟨v, p1, k1, rfl, hv, hp1, rfl⟩; have hv' := hv.1 (by omega); clear hv))
        try go_wp2_with fail
        refine hK.out _ _ ?_ (fun hHeld => ?_)
        · (first | (go_simp; done) | (go_keep; done))
        clear hK K
        try simp only [Act.put, List.setIfInBounds_toArray, List.set_cons_zero, List.set_cons_succ]
        refine wpAnyH_ready (rs := [1, 8]) (by kernel_rfl) (by simp) ?_
        refine AllReadyH.cons (o := _) rfl (fun K hK => ?_) ?_
        · (try dsimp only [List.getElem_toArray, List.getElem_cons_succ, List.getElem_cons_zero]); go_simp
          refine hK.out _ _ ?_ (fun hHeld => ?_)
          · (first | (go_simp; done) | (go_keep; done))
          clear hK K
          try simp only [Act.put, List.setIfInBounds_toArray, List.set_cons_zero, List.set_cons_succ]
          refine wpAnyH_take (i := 4) (oi := _) (v := ?_) rfl (by kernel_rfl) (by kernel_rfl) (by kernel_rfl) (fun _ _ _ h => h) (Or.inl ⟨by rfl, ?_⟩) (by assumption) ?_
          rotate_left
          · intro w hSw; (try dsimp only at hSw); go_simp; (try with_reducible rfl)
          try dsimp only [List.getElem_toArray, List.getElem_cons_succ, List.getElem_cons_zero]
          simp only [Act.put, List.setIfInBounds_toArray, List.set_cons_zero, List.set_cons_succ]
          refine wpAnyH_ready (rs := [5, 8]) (by kernel_rfl) (by simp) ?_
          refine AllReadyH.cons (o := _) rfl (fun K hK => ?_) ?_
          · (try dsimp only [List.getElem_toArray, List.getElem_cons_succ, List.getElem_cons_zero]); go_simp
            refine hK.out _ _ ?_ (fun hHeld => ?_)
            · (first | (go_simp; done) | (go_keep; done))
            clear hK K
            try simp only [Act.put, List.setIfInBounds_toArray, List.set_cons_zero, List.set_cons_succ]
            refine wpAnyH_ready (rs := [8]) (by kernel_rfl) (by simp) ?_
            refine AllReadyH.cons (o := _) rfl (fun K hK => ?_) ?_
            · (try dsimp only [List.getElem_toArray, List.getElem_cons_succ, List.getElem_cons_zero]); go_simp
              refine hK.out _ _ ?_ (fun hHeld => ?_)
              · (first | (go_simp; done) | (go_keep; done))
              clear hK K
              try simp only [Act.put, List.setIfInBounds_toArray, List.set_cons_zero, List.set_cons_succ]
              refine wpAnyH_take (i := 9) (oi := _) (v := ?_) rfl (by kernel_rfl) (by kernel_rfl) (by kernel_rfl) (fun _ _ _ h => h) (Or.inl ⟨by rfl, ?_⟩) (by assumption) ?_
              rotate_left
              · intro w hSw; (try dsimp only at hSw); go_simp; (try with_reducible rfl)
              try dsimp only [List.getElem_toArray, List.getElem_cons_succ, List.getElem_cons_zero]
              simp only [Act.put, List.setIfInBounds_toArray, List.set_cons_zero, List.set_cons_succ]
              refine wpAnyH_take (i := 10) (oi := _) (v := ?_) rfl (by kernel_rfl) (by kernel_rfl) (by kernel_rfl) (fun _ _ _ h => h) (Or.inl ⟨by rfl, ?_⟩) (by assumption) ?_
              rotate_left
              · intro w hSw; (try dsimp only at hSw); go_simp; (try with_reducible rfl)
              try dsimp only [List.getElem_toArray, List.getElem_cons_succ, List.getElem_cons_zero]
              simp only [Act.put, List.setIfInBounds_toArray, List.set_cons_zero, List.set_cons_succ]
              refine wpAnyH_done (by kernel_rfl) ?_ _
              go_wp2_with fail
              refine bodyPost_ret (v := _) (by simp [results, Try.results29, go_sem, hx0, hx1, hx2, hB0]; rfl) rfl ?_
              exact ⟨a, b, _, _, A, c, zs, rfl, (by first | omega | ((try simp only [IntKind.wrap_i64]); omega) | exact (selB _ (-1001) 1001 (by decide)).1), (by first | omega | ((try simp only [IntKind.wrap_i64]); omega) | exact (selB _ (-1001) 1001 (by decide)).2), (by first | omega | ((try simp only [IntKind.wrap_i64]); omega) | exact (selB _ (-1001) 1001 (by decide)).1), (by first | omega | ((try simp only [IntKind.wrap_i64]); omega) | exact (selB _ (-1001) 1001 (by decide)).2), ha0, ha1, hb0, hb1, hz, hzc, hcm, (by repeat (first | (with_reducible exact HR.out.deepA (by simp) (fun d hd => by rw [World.size_setCell]; exact HA.out d hd)) | (with_reducible apply RowAt.adds) | (with_reducible apply RowAt.alloc))), (by repeat' (first | (with_reducible exact Below.refl _ _) | (with_reducible refine Below.adds_ ?_ ?_ _ _) | (with_reducible refine Below.alloc ?_ ?_ _) | (with_reducible refine Below.drew ?_) | (with_reducible refine Below.setCell ?_ ?_ _) | (with_reducible assumption) | go_size | (simp only [size_addsW, World.size_alloc, World.size_drew, World.size_setCell]; omega)))⟩
            exact AllReadyH.nil
          refine AllReadyH.cons (o := _) rfl (fun K hK => ?_) ?_
          · (try dsimp only [List.getElem_toArray, List.getElem_cons_succ, List.getElem_cons_zero]); go_simp
            refine hK.out _ _ ?_ (fun hHeld => ?_)
            · (first | (go_simp; done) | (go_keep; done))
            clear hK K
            try simp only [Act.put, List.setIfInBounds_toArray, List.set_cons_zero, List.set_cons_succ]
            refine wpAnyH_ready (rs := [5]) (by kernel_rfl) (by simp) ?_
            refine AllReadyH.cons (o := _) rfl (fun K hK => ?_) ?_
            · (try dsimp only [List.getElem_toArray, List.getElem_cons_succ, List.getElem_cons_zero]); go_simp
              refine hK.out _ _ ?_ (fun hHeld => ?_)
              · (first | (go_simp; done) | (go_keep; done))
              clear hK K
              try simp only [Act.put, List.setIfInBounds_toArray, List.set_cons_zero, List.set_cons_succ]
              refine wpAnyH_take (i := 9) (oi := _) (v := ?_) rfl (by kernel_rfl) (by kernel_rfl) (by kernel_rfl) (fun _ _ _ h => h) (Or.inl ⟨by rfl, ?_⟩) (by assumption) ?_
              rotate_left
              · intro w hSw; (try dsimp only at hSw); go_simp; (try with_reducible rfl)
              try dsimp only [List.getElem_toArray, List.getElem_cons_succ, List.getElem_cons_zero]
              simp only [Act.put, List.setIfInBounds_toArray, List.set_cons_zero, List.set_cons_succ]
              refine wpAnyH_take (i := 10) (oi := _) (v := ?_) rfl (by kernel_rfl) (by kernel_rfl) (by kernel_rfl) (fun _ _ _ h => h) (Or.inl ⟨by rfl, ?_⟩) (by assumption) ?_
              rotate_left
              · intro w hSw; (try dsimp only at hSw); go_simp; (try with_reducible rfl)
              try dsimp only [List.getElem_toArray, List.getElem_cons_succ, List.getElem_cons_zero]
              simp only [Act.put, List.setIfInBounds_toArray, List.set_cons_zero, List.set_cons_succ]
              refine wpAnyH_done (by kernel_rfl) ?_ _
              go_wp2_with fail
              refine bodyPost_ret (v := _) (by simp [results, Try.results29, go_sem, hx0, hx1, hx2, hB0]; rfl) rfl ?_
              exact ⟨a, b, _, _, A, c, zs, rfl, (by first | omega | ((try simp only [IntKind.wrap_i64]); omega) | exact (selB _ (-1001) 1001 (by decide)).1), (by first | omega | ((try simp only [IntKind.wrap_i64]); omega) | exact (selB _ (-1001) 1001 (by decide)).2), (by first | omega | ((try simp only [IntKind.wrap_i64]); omega) | exact (selB _ (-1001) 1001 (by decide)).1), (by first | omega | ((try simp only [IntKind.wrap_i64]); omega) | exact (selB _ (-1001) 1001 (by decide)).2), ha0, ha1, hb0, hb1, hz, hzc, hcm, (by repeat (first | (with_reducible exact HR.out.deepA (by simp) (fun d hd => by rw [World.size_setCell]; exact HA.out d hd)) | (with_reducible apply RowAt.adds) | (with_reducible apply RowAt.alloc))), (by repeat' (first | (with_reducible exact Below.refl _ _) | (with_reducible refine Below.adds_ ?_ ?_ _ _) | (with_reducible refine Below.alloc ?_ ?_ _) | (with_reducible refine Below.drew ?_) | (with_reducible refine Below.setCell ?_ ?_ _) | (with_reducible assumption) | go_size | (simp only [size_addsW, World.size_alloc, World.size_drew, World.size_setCell]; omega)))⟩
            exact AllReadyH.nil
          exact AllReadyH.nil
        refine AllReadyH.cons (o := _) rfl (fun K hK => ?_) ?_
        · (try dsimp only [List.getElem_toArray, List.getElem_cons_succ, List.getElem_cons_zero]); go_simp
          refine hK.out _ _ ?_ (fun hHeld => ?_)
          · (first | (go_simp; done) | (go_keep; done))
          clear hK K
          try simp only [Act.put, List.setIfInBounds_toArray, List.set_cons_zero, List.set_cons_succ]
          refine wpAnyH_ready (rs := [1]) (by kernel_rfl) (by simp) ?_
          refine AllReadyH.cons (o := _) rfl (fun K hK => ?_) ?_
          · (try dsimp only [List.getElem_toArray, List.getElem_cons_succ, List.getElem_cons_zero]); go_simp
            refine hK.out _ _ ?_ (fun hHeld => ?_)
            · (first | (go_simp; done) | (go_keep; done))
            clear hK K
            try simp only [Act.put, List.setIfInBounds_toArray, List.set_cons_zero, List.set_cons_succ]
            refine wpAnyH_take (i := 4) (oi := _) (v := ?_) rfl (by kernel_rfl) (by kernel_rfl) (by kernel_rfl) (fun _ _ _ h => h) (Or.inl ⟨by rfl, ?_⟩) (by assumption) ?_
            rotate_left
            · intro w hSw; (try dsimp only at hSw); go_simp; (try with_reducible rfl)
            try dsimp only [List.getElem_toArray, List.getElem_cons_succ, List.getElem_cons_zero]
            simp only [Act.put, List.setIfInBounds_toArray, List.set_cons_zero, List.set_cons_succ]
            refine wpAnyH_ready (rs := [5]) (by kernel_rfl) (by simp) ?_
            refine AllReadyH.cons (o := _) rfl (fun K hK => ?_) ?_
            · (try dsimp only [List.getElem_toArray, List.getElem_cons_succ, List.getElem_cons_zero]); go_simp
              refine hK.out _ _ ?_ (fun hHeld => ?_)
              · (first | (go_simp; done) | (go_keep; done))
              clear hK K
              try simp only [Act.put, List.setIfInBounds_toArray, List.set_cons_zero, List.set_cons_succ]
              refine wpAnyH_take (i := 9) (oi := _) (v := ?_) rfl (by kernel_rfl) (by kernel_rfl) (by kernel_rfl) (fun _ _ _ h => h) (Or.inl ⟨by rfl, ?_⟩) (by assumption) ?_
              rotate_left
              · intro w hSw; (try dsimp only at hSw); go_simp; (try with_reducible rfl)
              try dsimp only [List.getElem_toArray, List.getElem_cons_succ, List.getElem_cons_zero]
              simp only [Act.put, List.setIfInBounds_toArray, List.set_cons_zero, List.set_cons_succ]
              refine wpAnyH_take (i := 10) (oi := _) (v := ?_) rfl (by kernel_rfl) (by kernel_rfl) (by kernel_rfl) (fun _ _ _ h => h) (Or.inl ⟨by rfl, ?_⟩) (by assumption) ?_
              rotate_left
              · intro w hSw; (try dsimp only at hSw); go_simp; (try with_reducible rfl)
              try dsimp only [List.getElem_toArray, List.getElem_cons_succ, List.getElem_cons_zero]
              simp only [Act.put, List.setIfInBounds_toArray, List.set_cons_zero, List.set_cons_succ]
              refine wpAnyH_done (by kernel_rfl) ?_ _
              go_wp2_with fail
              refine bodyPost_ret (v := _) (by simp [results, Try.results29, go_sem, hx0, hx1, hx2, hB0]; rfl) rfl ?_
              exact ⟨a, b, _, _, A, c, zs, rfl, (by first | omega | ((try simp only [IntKind.wrap_i64]); omega) | exact (selB _ (-1001) 1001 (by decide)).1), (by first | omega | ((try simp only [IntKind.wrap_i64]); omega) | exact (selB _ (-1001) 1001 (by decide)).2), (by first | omega | ((try simp only [IntKind.wrap_i64]); omega) | exact (selB _ (-1001) 1001 (by decide)).1), (by first | omega | ((try simp only [IntKind.wrap_i64]); omega) | exact (selB _ (-1001) 1001 (by decide)).2), ha0, ha1, hb0, hb1, hz, hzc, hcm, (by repeat (first | (with_reducible exact HR.out.deepA (by simp) (fun d hd => by rw [World.size_setCell]; exact HA.out d hd)) | (with_reducible apply RowAt.adds) | (with_reducible apply RowAt.alloc))), (by repeat' (first | (with_reducible exact Below.refl _ _) | (with_reducible refine Below.adds_ ?_ ?_ _ _) | (with_reducible refine Below.alloc ?_ ?_ _) | (with_reducible refine Below.drew ?_) | (with_reducible refine Below.setCell ?_ ?_ _) | (with_reducible assumption) | go_size | (simp only [size_addsW, World.size_alloc, World.size_drew, World.size_setCell]; omega)))⟩
            exact AllReadyH.nil
          exact AllReadyH.nil
        exact AllReadyH.nil
      exact AllReadyH.nil
    exact AllReadyH.nil

end Go.Proofs.Ytobphddjoebfjaa
