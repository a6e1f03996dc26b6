/- What the draws of positions answer. -/
import Derived.Test.YtobphddjoebfjaaDrawI
import Derived.Test.YtobphddjoebfjaaDrawA
namespace Go.Proofs.Ytobphddjoebfjaa
open Go.RowKit
set_option linter.unusedVariables false
set_option linter.unusedSimpArgs false

attribute [local go_sem] size_addsW cell?_addsW frozen?_addsW setCell_addsW drew_addsW adds_addsW setCell_twice alloc_adds0 size_adds0 adds_adds0 sel2 sel3 sel4 sel5 sel6 sel7 sel8 sel9 lt_more lt_more2 lt_more3 lt_more4 adds_drew adds_drewN drewN_addsW ltA_1_1 ltA_1_2 ltA_1_3 ltA_1_4 ltA_1_5 ltA_1_6 ltA_2_1 ltA_2_2 ltA_2_3 ltA_2_4 ltA_2_5 ltA_2_6 ltA_3_1 ltA_3_2 ltA_3_3 ltA_3_4 ltA_3_5 ltA_3_6 ltA_4_1 ltA_4_2 ltA_4_3 ltA_4_4 ltA_4_5 ltA_4_6 ltA_5_1 ltA_5_2 ltA_5_3 ltA_5_4 ltA_5_5 ltA_5_6 ltA_6_1 ltA_6_2 ltA_6_3 ltA_6_4 ltA_6_5 ltA_6_6 ltA_7_1 ltA_7_2 ltA_7_3 ltA_7_4 ltA_7_5 ltA_7_6 ltA_8_1 ltA_8_2 ltA_8_3 ltA_8_4 ltA_8_5 ltA_8_6 ltA_9_1 ltA_9_2 ltA_9_3 ltA_9_4 ltA_9_5 ltA_9_6 ltA_10_1 ltA_10_2 ltA_10_3 ltA_10_4 ltA_10_5 ltA_10_6 ltA_11_1 ltA_11_2 ltA_11_3 ltA_11_4 ltA_11_5 ltA_11_6 ltA_12_1 ltA_12_2 ltA_12_3 ltA_12_4 ltA_12_5 ltA_12_6

theorem tdiv8 {a : Int} (h : -8 ≤ a ∧ a ≤ 40) : -1 ≤ a.tdiv 8 ∧ a.tdiv 8 ≤ 5 := by
  by_cases h0 : 0 ≤ a
  · rw [Int.tdiv_eq_ediv_of_nonneg h0]; omega
  · have : a.tdiv 8 = -((-a) / 8) := by rw [← Int.tdiv_eq_ediv_of_nonneg (show 0 ≤ -a by omega), Int.neg_tdiv]; omega
    omega
theorem tdiv4 {a : Int} (h : -8 ≤ a ∧ a ≤ 40) : -2 ≤ a.tdiv 4 ∧ a.tdiv 4 ≤ 10 := by
  by_cases h0 : 0 ≤ a
  · rw [Int.tdiv_eq_ediv_of_nonneg h0]; omega
  · have : a.tdiv 4 = -((-a) / 4) := by rw [← Int.tdiv_eq_ediv_of_nonneg (show 0 ≤ -a by omega), Int.neg_tdiv]; omega
    omega

/-- a position drawn -/
def AtDrawn (W : World) (B p : Nat) (e : Ending) (w' : World) : Prop :=
  ∃ x y : Int, e = .returned (.tuple #[.int .i64 x, .int .i64 y]) ∧ -8 ≤ x ∧ x ≤ 40 ∧ 0 ≤ y ∧ y ≤ 32 ∧ Moved W B p 4 w'

set_option maxHeartbeats 4000000 in
theorem S_l20At (B p : Nat) (a b n : Int) (A : Option Addr) (len c : Nat) (w : World) (h : RdAt w B p) (hp : p ≤ 900000000) (hn : -1000000 ≤ n) (ha : -8 ≤ a ∧ a ≤ 40) (hb : 0 ≤ b ∧ b ≤ 40) :
    Calls Try.prog 81 #[.pointer (some ⟨B, 0, none⟩), .agg #[.int .i64 a, .int .i64 b, .slice A len c], .int .i64 n] w (AtDrawn w B p) := by
  have hB := h.lt
  have hR := Lib.hid h
  clear h
  have t1 := tdiv8 ha
  have t2 := tdiv8 (show -8 ≤ b ∧ b ≤ 40 by omega)
  go_enter Try.func81, Try.ntmps81
  go_wp2_with fail
  all_goals
    refine (S_pick B _ _ _ (by repeat (first | (with_reducible exact hR.out) | (with_reducible apply RdAt.adds) | (with_reducible apply RdAt.alloc) | (with_reducible exact RdAt.set hR.out _) | (with_reducible apply RdAt.drew))) (by omega)).mono ?_
    rintro e w' ⟨v1, p1, k1, rfl, hv, hp1, rfl⟩
    have hv1 : 0 ≤ v1 ∧ v1 ≤ 4 := by have := hv.1 (by omega); omega
    clear hv
    go_wp2_with fail
    all_goals
      refine (S_pick B _ _ _ (by repeat (first | (with_reducible exact hR.out) | (with_reducible apply RdAt.adds) | (with_reducible apply RdAt.alloc) | (with_reducible exact RdAt.set hR.out _) | (with_reducible apply RdAt.drew))) (by omega)).mono ?_
      rintro e w' ⟨v2, p2, k2, rfl, hv, hp2, rfl⟩
      have hv2 : 0 ≤ v2 ∧ v2 ≤ 4 := by have := hv.1 (by omega); omega
      clear hv
      go_wp2_with fail
      refine (S_odd B _ _ _ (by repeat (first | (with_reducible exact hR.out) | (with_reducible apply RdAt.adds) | (with_reducible apply RdAt.alloc) | (with_reducible exact RdAt.set hR.out _) | (with_reducible apply RdAt.drew))) (by omega) (by omega)).mono ?_
      rintro e w' ⟨v, p3, k3, rfl, hp3, rfl⟩
      cases v
      · go_wp2_with fail
        go_returns
        exact ⟨_, _, rfl, by omega, by omega, by omega, by omega, (by repeat (first | (with_reducible apply Moved.adds) | (with_reducible apply Moved.alloc) | (with_reducible apply Moved.drew) | (exact Moved.base (by omega))))⟩
      · go_wp2_with fail
        refine wp_region_held_drew (S := (fun w' => w'.cell? ⟨w.heap.size, 0, none⟩ = some (.int .i64 a))) (by kernel_rfl) ?_ (fun hHeld => ?_)
        · (first | (go_simp; done) | (go_keep; done))
        refine wpAnyH_take (i := 0) (oi := _) (v := ?_) rfl (by kernel_rfl) (by kernel_rfl) (by kernel_rfl) (fun _ _ _ h => h) (Or.inl ⟨by rfl, ?_⟩) (by assumption) ?_
        rotate_left
        · intro w hSw; (try dsimp only at hSw); go_simp; (try with_reducible rfl)
        try dsimp only [List.getElem_toArray, List.getElem_cons_succ, List.getElem_cons_zero]
        simp only [Act.put, List.setIfInBounds_toArray, List.set_cons_zero, List.set_cons_succ]
        refine wpAnyH_take (i := 1) (oi := _) (v := ?_) rfl (by kernel_rfl) (by kernel_rfl) (by kernel_rfl) (fun _ _ _ h => h) (Or.inl ⟨by rfl, ?_⟩) (by assumption) ?_
        rotate_left
        · intro w hSw; (try dsimp only at hSw); go_simp; (try with_reducible rfl)
        try dsimp only [List.getElem_toArray, List.getElem_cons_succ, List.getElem_cons_zero]
        simp only [Act.put, List.setIfInBounds_toArray, List.set_cons_zero, List.set_cons_succ]
        refine wpAnyH_take (i := 2) (oi := _) (v := ?_) rfl (by kernel_rfl) (by kernel_rfl) (by kernel_rfl) (fun _ _ _ h => h) (Or.inl ⟨by rfl, ?_⟩) (by assumption) ?_
        rotate_left
        · intro w hSw; (try dsimp only at hSw); go_simp; (try with_reducible rfl)
        try dsimp only [List.getElem_toArray, List.getElem_cons_succ, List.getElem_cons_zero]
        simp only [Act.put, List.setIfInBounds_toArray, List.set_cons_zero, List.set_cons_succ]
        refine wpAnyH_take (i := 3) (oi := _) (v := ?_) rfl (by kernel_rfl) (by kernel_rfl) (by kernel_rfl) (fun _ _ _ h => h) (Or.inl ⟨by rfl, ?_⟩) (by assumption) ?_
        rotate_left
        · intro w hSw; (try dsimp only at hSw); go_simp; (try with_reducible rfl)
        try dsimp only [List.getElem_toArray, List.getElem_cons_succ, List.getElem_cons_zero]
        simp only [Act.put, List.setIfInBounds_toArray, List.set_cons_zero, List.set_cons_succ]
        refine wpAnyH_take (i := 5) (oi := _) (v := ?_) rfl (by kernel_rfl) (by kernel_rfl) (by kernel_rfl) (fun _ _ _ h => h) (Or.inl ⟨by rfl, ?_⟩) (by assumption) ?_
        rotate_left
        · intro w hSw; (try dsimp only at hSw); go_simp; (try with_reducible rfl)
        try dsimp only [List.getElem_toArray, List.getElem_cons_succ, List.getElem_cons_zero]
        simp only [Act.put, List.setIfInBounds_toArray, List.set_cons_zero, List.set_cons_succ]
        refine wpAnyH_take (i := 9) (oi := _) (v := ?_) rfl (by kernel_rfl) (by kernel_rfl) (by kernel_rfl) (fun _ _ _ h => h) (Or.inl ⟨by rfl, ?_⟩) (by assumption) ?_
        rotate_left
        · intro w hSw; (try dsimp only at hSw); go_simp; (try with_reducible rfl)
        try dsimp only [List.getElem_toArray, List.getElem_cons_succ, List.getElem_cons_zero]
        simp only [Act.put, List.setIfInBounds_toArray, List.set_cons_zero, List.set_cons_succ]
        refine wpAnyH_ready (rs := [4, 6]) (by kernel_rfl) (by simp) ?_
        refine AllReadyH.cons (o := _) rfl (fun K hK => ?_) ?_
        · (try dsimp only [List.getElem_toArray, List.getElem_cons_succ, List.getElem_cons_zero]); go_simp
          refine hK.out _ _ ?_ (fun hHeld => ?_)
          · (first | (go_simp; done) | (go_keep; done))
          clear hK K
          try simp only [Act.put, List.setIfInBounds_toArray, List.set_cons_zero, List.set_cons_succ]
          refine wpAnyH_ready (rs := [6]) (by kernel_rfl) (by simp) ?_
          refine AllReadyH.cons (o := _) rfl (fun K hK => ?_) ?_
          · (try dsimp only [List.getElem_toArray, List.getElem_cons_succ, List.getElem_cons_zero]); go_simp
            (first | (go_at_call 60; refine (S_pick B _ _ _ (by repeat (first | (with_reducible exact hR.out) | (with_reducible apply RdAt.adds) | (with_reducible apply RdAt.alloc) | (with_reducible exact RdAt.set hR.out _) | (with_reducible apply RdAt.drew))) (by omega)).mono ?_; rintro e w' ⟨v, p1, k1, rfl, hv, hp1, rfl⟩; have hv' := hv.1 (by omega); clear hv))
            try go_wp2_with fail
            refine hK.out _ _ ?_ (fun hHeld => ?_)
            · (first | (go_simp; done) | (go_keep; done))
            clear hK K
            try simp only [Act.put, List.setIfInBounds_toArray, List.set_cons_zero, List.set_cons_succ]
            refine wpAnyH_take (i := 7) (oi := _) (v := ?_) rfl (by kernel_rfl) (by kernel_rfl) (by kernel_rfl) (fun _ _ _ h => h) (Or.inl ⟨by rfl, ?_⟩) (by assumption) ?_
            rotate_left
            · intro w hSw; (try dsimp only at hSw); go_simp; (try with_reducible rfl)
            try dsimp only [List.getElem_toArray, List.getElem_cons_succ, List.getElem_cons_zero]
            simp only [Act.put, List.setIfInBounds_toArray, List.set_cons_zero, List.set_cons_succ]
            refine wpAnyH_ready (rs := [8]) (by kernel_rfl) (by simp) ?_
            refine AllReadyH.cons (o := _) rfl (fun K hK => ?_) ?_
            · (try dsimp only [List.getElem_toArray, List.getElem_cons_succ, List.getElem_cons_zero]); go_simp
              refine hK.out _ _ ?_ (fun hHeld => ?_)
              · (first | (go_simp; done) | (go_keep; done))
              clear hK K
              try simp only [Act.put, List.setIfInBounds_toArray, List.set_cons_zero, List.set_cons_succ]
              refine wpAnyH_take (i := 10) (oi := _) (v := ?_) rfl (by kernel_rfl) (by kernel_rfl) (by kernel_rfl) (fun _ _ _ h => h) (Or.inl ⟨by rfl, ?_⟩) (by assumption) ?_
              rotate_left
              · intro w hSw; (try dsimp only at hSw); go_simp; (try with_reducible rfl)
              try dsimp only [List.getElem_toArray, List.getElem_cons_succ, List.getElem_cons_zero]
              simp only [Act.put, List.setIfInBounds_toArray, List.set_cons_zero, List.set_cons_succ]
              refine wpAnyH_take (i := 11) (oi := _) (v := ?_) rfl (by kernel_rfl) (by kernel_rfl) (by kernel_rfl) (fun _ _ _ h => h) (Or.inl ⟨by rfl, ?_⟩) (by assumption) ?_
              rotate_left
              · intro w hSw; (try dsimp only at hSw); go_simp; (try with_reducible rfl)
              try dsimp only [List.getElem_toArray, List.getElem_cons_succ, List.getElem_cons_zero]
              simp only [Act.put, List.setIfInBounds_toArray, List.set_cons_zero, List.set_cons_succ]
              refine wpAnyH_done (by kernel_rfl) ?_ _
              go_wp2_with fail
              go_returns
              exact ⟨_, _, rfl, (by first | omega | ((try simp only [IntKind.wrap_i64]); omega) | exact (selB _ (-8) (40) (by intro x hx; (try simp only [IntKind.wrap_i64] at hx); simp only [List.mem_cons, List.not_mem_nil, or_false] at hx; (try simp only [IntKind.wrap_i64] at hx); omega)).1), (by first | omega | ((try simp only [IntKind.wrap_i64]); omega) | exact (selB _ (-8) (40) (by intro x hx; (try simp only [IntKind.wrap_i64] at hx); simp only [List.mem_cons, List.not_mem_nil, or_false] at hx; (try simp only [IntKind.wrap_i64] at hx); omega)).2), by omega, by omega, (by repeat (first | (with_reducible apply Moved.adds) | (with_reducible apply Moved.alloc) | (with_reducible apply Moved.drew) | (exact Moved.base (by omega))))⟩
            exact AllReadyH.nil
          exact AllReadyH.nil
        refine AllReadyH.cons (o := _) rfl (fun K hK => ?_) ?_
        · (try dsimp only [List.getElem_toArray, List.getElem_cons_succ, List.getElem_cons_zero]); go_simp
          (first | (go_at_call 60; refine (S_pick B _ _ _ (by repeat (first | (with_reducible exact hR.out) | (with_reducible apply RdAt.adds) | (with_reducible apply RdAt.alloc) | (with_reducible exact RdAt.set hR.out _) | (with_reducible apply RdAt.drew))) (by omega)).mono ?_; rintro e w' ⟨v, p1, k1, rfl, hv, hp1, rfl⟩; have hv' := hv.1 (by omega); clear hv))
          try go_wp2_with fail
          refine hK.out _ _ ?_ (fun hHeld => ?_)
          · (first | (go_simp; done) | (go_keep; done))
          clear hK K
          try simp only [Act.put, List.setIfInBounds_toArray, List.set_cons_zero, List.set_cons_succ]
          refine wpAnyH_ready (rs := [4]) (by kernel_rfl) (by simp) ?_
          refine AllReadyH.cons (o := _) rfl (fun K hK => ?_) ?_
          · (try dsimp only [List.getElem_toArray, List.getElem_cons_succ, List.getElem_cons_zero]); go_simp
            refine hK.out _ _ ?_ (fun hHeld => ?_)
            · (first | (go_simp; done) | (go_keep; done))
            clear hK K
            try simp only [Act.put, List.setIfInBounds_toArray, List.set_cons_zero, List.set_cons_succ]
            refine wpAnyH_take (i := 7) (oi := _) (v := ?_) rfl (by kernel_rfl) (by kernel_rfl) (by kernel_rfl) (fun _ _ _ h => h) (Or.inl ⟨by rfl, ?_⟩) (by assumption) ?_
            rotate_left
            · intro w hSw; (try dsimp only at hSw); go_simp; (try with_reducible rfl)
            try dsimp only [List.getElem_toArray, List.getElem_cons_succ, List.getElem_cons_zero]
            simp only [Act.put, List.setIfInBounds_toArray, List.set_cons_zero, List.set_cons_succ]
            refine wpAnyH_ready (rs := [8]) (by kernel_rfl) (by simp) ?_
            refine AllReadyH.cons (o := _) rfl (fun K hK => ?_) ?_
            · (try dsimp only [List.getElem_toArray, List.getElem_cons_succ, List.getElem_cons_zero]); go_simp
              refine hK.out _ _ ?_ (fun hHeld => ?_)
              · (first | (go_simp; done) | (go_keep; done))
              clear hK K
              try simp only [Act.put, List.setIfInBounds_toArray, List.set_cons_zero, List.set_cons_succ]
              refine wpAnyH_take (i := 10) (oi := _) (v := ?_) rfl (by kernel_rfl) (by kernel_rfl) (by kernel_rfl) (fun _ _ _ h => h) (Or.inl ⟨by rfl, ?_⟩) (by assumption) ?_
              rotate_left
              · intro w hSw; (try dsimp only at hSw); go_simp; (try with_reducible rfl)
              try dsimp only [List.getElem_toArray, List.getElem_cons_succ, List.getElem_cons_zero]
              simp only [Act.put, List.setIfInBounds_toArray, List.set_cons_zero, List.set_cons_succ]
              refine wpAnyH_take (i := 11) (oi := _) (v := ?_) rfl (by kernel_rfl) (by kernel_rfl) (by kernel_rfl) (fun _ _ _ h => h) (Or.inl ⟨by rfl, ?_⟩) (by assumption) ?_
              rotate_left
              · intro w hSw; (try dsimp only at hSw); go_simp; (try with_reducible rfl)
              try dsimp only [List.getElem_toArray, List.getElem_cons_succ, List.getElem_cons_zero]
              simp only [Act.put, List.setIfInBounds_toArray, List.set_cons_zero, List.set_cons_succ]
              refine wpAnyH_done (by kernel_rfl) ?_ _
              go_wp2_with fail
              go_returns
              exact ⟨_, _, rfl, (by first | omega | ((try simp only [IntKind.wrap_i64]); omega) | exact (selB _ (-8) (40) (by intro x hx; (try simp only [IntKind.wrap_i64] at hx); simp only [List.mem_cons, List.not_mem_nil, or_false] at hx; (try simp only [IntKind.wrap_i64] at hx); omega)).1), (by first | omega | ((try simp only [IntKind.wrap_i64]); omega) | exact (selB _ (-8) (40) (by intro x hx; (try simp only [IntKind.wrap_i64] at hx); simp only [List.mem_cons, List.not_mem_nil, or_false] at hx; (try simp only [IntKind.wrap_i64] at hx); omega)).2), by omega, by omega, (by repeat (first | (with_reducible apply Moved.adds) | (with_reducible apply Moved.alloc) | (with_reducible apply Moved.drew) | (exact Moved.base (by omega))))⟩
            exact AllReadyH.nil
          exact AllReadyH.nil
        exact AllReadyH.nil

/-- a picture, a position and a vector -/
def MBGot (W : World) (e : Ending) (w' : World) : Prop :=
  ∃ (a b x y u v : Int) (A : Option Addr) (c : Nat) (zs : List Int), e = .returned (.tuple #[.agg #[.int .i64 a, .int .i64 b, .slice A zs.length c], .int .i64 x, .int .i64 y, .agg #[.int .i64 u, .int .i64 v]]) ∧ -8 ≤ x ∧ x ≤ 40 ∧ 0 ≤ y ∧ y ≤ 32 ∧ -17 ≤ u ∧ u ≤ 17 ∧ -17 ≤ v ∧ v ≤ 17 ∧ -8 ≤ a ∧ a ≤ 40 ∧ 0 ≤ b ∧ b ≤ 40 ∧ zs.length ≤ 1024 ∧ zs.length ≤ c ∧ c ≤ maxLen ∧ RowAt .i64 w' A zs ∧ Below W.heap.size W w'

set_option maxHeartbeats 4000000 in
theorem S_DrawMotionBlock (a : Option Addr) (len cap : Nat) (zs : List Int) (w : World) (h : IsRow .u8 w a len cap zs) :
    Calls Try.prog 46 #[.slice a len cap] w (MBGot w) := by
  have HI := Lib.hid h
  clear h
  go_enter Try.func46, Try.ntmps46
  go_wp2_with (go_at_call 58; refine (S_l20Open _ _ _ zs _ (IsRow.keep HI.out (by repeat' (first | (with_reducible exact Below.refl _ _) | (with_reducible refine Below.adds_ ?_ ?_ _ _) | (with_reducible refine Below.alloc ?_ ?_ _) | (with_reducible refine Below.drew ?_) | (with_reducible refine Below.setCell ?_ ?_ _) | (with_reducible assumption) | go_size | (simp only [size_addsW, World.size_alloc, World.size_drew, World.size_setCell]; omega))))).mono ?_; rintro e w1 ⟨rfl, hR', hb, hB⟩; (try simp only [World.size_alloc] at hR' hB); have hR := Lib.hid hR'; clear hR'; have hbw : Below w.heap.size w w1 := Below.trans (by repeat' (first | (with_reducible exact Below.refl _ _) | (with_reducible refine Below.adds_ ?_ ?_ _ _) | (with_reducible refine Below.alloc ?_ ?_ _) | (with_reducible refine Below.drew ?_) | (with_reducible refine Below.setCell ?_ ?_ _) | (with_reducible assumption) | go_size | (simp only [size_addsW, World.size_alloc, World.size_drew, World.size_setCell]; omega))) (hb.mono (by simp <;> omega)); have hx00 := hb.cell (p := ⟨w.heap.size, 0, none⟩) (by simp <;> omega); have hy00 := hb.frozen (p := ⟨w.heap.size, 0, none⟩) (by simp <;> omega); simp [go_sem] at hx00 hy00; have hx01 := hb.cell (p := ⟨w.heap.size, 1, none⟩) (by simp <;> omega); have hy01 := hb.frozen (p := ⟨w.heap.size, 1, none⟩) (by simp <;> omega); simp [go_sem] at hx01 hy01; have hx02 := hb.cell (p := ⟨w.heap.size, 2, none⟩) (by simp <;> omega); have hy02 := hb.frozen (p := ⟨w.heap.size, 2, none⟩) (by simp <;> omega); simp [go_sem] at hx02 hy02; have hB0 : w.heap.size < w1.heap.size := (by omega); have hx10 := hb.cell (p := ⟨w.heap.size + 1, 0, none⟩) (by simp <;> omega); have hy10 := hb.frozen (p := ⟨w.heap.size + 1, 0, none⟩) (by simp <;> omega); simp [go_sem] at hx10 hy10; have hx11 := hb.cell (p := ⟨w.heap.size + 1, 1, none⟩) (by simp <;> omega); have hy11 := hb.frozen (p := ⟨w.heap.size + 1, 1, none⟩) (by simp <;> omega); simp [go_sem] at hx11 hy11; have hB1 : w.heap.size + 1 < w1.heap.size := (by omega); clear hb)
  refine (S_l20Picture (w.heap.size + 1 + 1) _ _ _ (by repeat (first | (with_reducible exact hR.out) | (with_reducible apply RdAt.adds) | (with_reducible apply RdAt.alloc) | (with_reducible exact RdAt.set hR.out _) | (with_reducible apply RdAt.drew))) (by omega) (by omega)).mono ?_
  rintro e w' ⟨a, b, A, c, zs, rfl, ha0, ha1, hb0, hb1, hz, hzc, hcm, hrow, hA, hM⟩
  obtain ⟨q, oo, nn, hq, rfl⟩ := hM
  have HR := Lib.hid hrow
  have HA := Lib.hid hA
  clear hrow hA
  go_wp2_with fail
  refine (S_l20At (w.heap.size + 1 + 1) _ _ _ _ _ _ _ _ (by repeat (first | (with_reducible exact hR.out) | (with_reducible apply RdAt.adds) | (with_reducible apply RdAt.alloc) | (with_reducible exact RdAt.set hR.out _) | (with_reducible apply RdAt.drew))) (by omega) (by omega) (by omega) (by omega)).mono ?_
  rintro e w' ⟨x, y, rfl, hx0_, hx1_, hy0_, hy1_, q2, o2, k2, hq2, rfl⟩
  go_wp2_with fail
  go_region_held3 (fun w' => w'.cell? ⟨w1.heap.size + oo.size, 0, none⟩ = some (.int .i64 a) ∧ w'.cell? ⟨w1.heap.size + oo.size, 1, none⟩ = some (.int .i64 b) ∧ w'.cell? ⟨w1.heap.size + oo.size, 2, none⟩ = some (.slice A zs.length c)) (first | (go_simp; done) | (go_keep; done)) (first | (go_at_call 82; refine (S_l20Vector (w.heap.size + 1 + 1) _ _ _ (by repeat (first | (with_reducible exact hR.out) | (with_reducible apply RdAt.adds) | (with_reducible apply RdAt.alloc) | (with_reducible exact RdAt.set hR.out _) | (with_reducible apply RdAt.drew))) (by omega) (by omega)).mono ?_; rintro e w' ⟨u, v, rfl, hu0, hu1, hv0, hv1, q3, o3, k3, hq3, rfl⟩))
  all_goals
    go_wp2_with fail
    refine bodyPost_ret (v := _) (by simp [results, Try.results46, go_sem, hx00, hx01, hx02, hx10, hx11, hB0, hB1]; rfl) rfl ?_
    exact ⟨a, b, x, y, _, _, A, c, zs, rfl, hx0_, hx1_, hy0_, hy1_, by omega, by omega, by omega, by omega, ha0, ha1, hb0, hb1, hz, hzc, hcm, (by repeat (first | (with_reducible exact HR.out.deepA (by simp) (fun d hd => by rw [World.size_setCell]; exact HA.out d hd)) | (with_reducible apply RowAt.adds) | (with_reducible apply RowAt.alloc))), (by repeat' (first | (with_reducible exact Below.refl _ _) | (with_reducible refine Below.adds_ ?_ ?_ _ _) | (with_reducible refine Below.alloc ?_ ?_ _) | (with_reducible refine Below.drew ?_) | (with_reducible refine Below.setCell ?_ ?_ _) | (with_reducible assumption) | go_size | (simp only [size_addsW, World.size_alloc, World.size_drew, World.size_setCell]; omega)))⟩

/-- a picture -/
def PicGotD (W : World) (e : Ending) (w' : World) : Prop :=
  ∃ (a b : Int) (A : Option Addr) (c : Nat) (zs : List Int), e = .returned (.agg #[.int .i64 a, .int .i64 b, .slice A zs.length c]) ∧ -8 ≤ a ∧ a ≤ 40 ∧ 0 ≤ b ∧ b ≤ 40 ∧ zs.length ≤ 1024 ∧ zs.length ≤ c ∧ c ≤ maxLen ∧ RowAt .i64 w' A zs ∧ Below W.heap.size W w'

set_option maxHeartbeats 4000000 in
theorem S_DrawBlockiness (a : Option Addr) (len cap : Nat) (zs : List Int) (w : World) (h : IsRow .u8 w a len cap zs) :
    Calls Try.prog 31 #[.slice a len cap] w (PicGotD w) := by
  have HI := Lib.hid h
  clear h
  go_enter Try.func31, Try.ntmps31
  go_wp2_with (go_at_call 58; refine (S_l20Open _ _ _ zs _ (IsRow.keep HI.out (by repeat' (first | (with_reducible exact Below.refl _ _) | (with_reducible refine Below.adds_ ?_ ?_ _ _) | (with_reducible refine Below.alloc ?_ ?_ _) | (with_reducible refine Below.drew ?_) | (with_reducible refine Below.setCell ?_ ?_ _) | (with_reducible assumption) | go_size | (simp only [size_addsW, World.size_alloc, World.size_drew, World.size_setCell]; omega))))).mono ?_; rintro e w1 ⟨rfl, hR', hb, hB⟩; (try simp only [World.size_alloc] at hR' hB); have hR := Lib.hid hR'; clear hR'; have hbw : Below w.heap.size w w1 := Below.trans (by repeat' (first | (with_reducible exact Below.refl _ _) | (with_reducible refine Below.adds_ ?_ ?_ _ _) | (with_reducible refine Below.alloc ?_ ?_ _) | (with_reducible refine Below.drew ?_) | (with_reducible refine Below.setCell ?_ ?_ _) | (with_reducible assumption) | go_size | (simp only [size_addsW, World.size_alloc, World.size_drew, World.size_setCell]; omega))) (hb.mono (by simp <;> omega)); have hx0 := hb.cell (p := ⟨w.heap.size, 0, none⟩) (by simp <;> omega); have hy0 := hb.frozen (p := ⟨w.heap.size, 0, none⟩) (by simp <;> omega); simp [go_sem] at hx0 hy0; have hx1 := hb.cell (p := ⟨w.heap.size, 1, none⟩) (by simp <;> omega); have hy1 := hb.frozen (p := ⟨w.heap.size, 1, none⟩) (by simp <;> omega); simp [go_sem] at hx1 hy1; have hx2 := hb.cell (p := ⟨w.heap.size, 2, none⟩) (by simp <;> omega); have hy2 := hb.frozen (p := ⟨w.heap.size, 2, none⟩) (by simp <;> omega); simp [go_sem] at hx2 hy2; have hB0 : w.heap.size < w1.heap.size := (by omega); clear hb)
  refine (S_l20Picture (w.heap.size + 1) _ _ _ (by repeat (first | (with_reducible exact hR.out) | (with_reducible apply RdAt.adds) | (with_reducible apply RdAt.alloc) | (with_reducible exact RdAt.set hR.out _) | (with_reducible apply RdAt.drew))) (by omega) (by omega)).mono ?_
  rintro e w' ⟨a, b, A, c, zs, rfl, ha0, ha1, hb0, hb1, hz, hzc, hcm, hrow, hA, hM⟩
  obtain ⟨q, oo, nn, hq, rfl⟩ := hM
  have HR := Lib.hid hrow
  have HA := Lib.hid hA
  clear hrow hA
  go_wp2_with fail
  refine bodyPost_ret (v := _) (by simp [results, Try.results31, go_sem, hx0, hx1, hx2, hB0]; rfl) rfl ?_
  exact ⟨a, b, A, c, zs, rfl, ha0, ha1, hb0, hb1, hz, hzc, hcm, (by repeat (first | (with_reducible exact HR.out.deepA (by simp) (fun d hd => by rw [World.size_setCell]; exact HA.out d hd)) | (with_reducible apply RowAt.adds) | (with_reducible apply RowAt.alloc))), (by repeat' (first | (with_reducible exact Below.refl _ _) | (with_reducible refine Below.adds_ ?_ ?_ _ _) | (with_reducible refine Below.alloc ?_ ?_ _) | (with_reducible refine Below.drew ?_) | (with_reducible refine Below.setCell ?_ ?_ _) | (with_reducible assumption) | go_size | (simp only [size_addsW, World.size_alloc, World.size_drew, World.size_setCell]; omega)))⟩

/-- a picture and three numbers -/
def PicThree (W : World) (e : Ending) (w' : World) : Prop :=
  ∃ (a b x y t : Int) (A : Option Addr) (c : Nat) (zs : List Int), e = .returned (.tuple #[.agg #[.int .i64 a, .int .i64 b, .slice A zs.length c], .int .i64 x, .int .i64 y, .int .i64 t]) ∧ -8 ≤ x ∧ x ≤ 40 ∧ 0 ≤ y ∧ y ≤ 40 ∧ 0 ≤ t ∧ t ≤ 40 ∧ -8 ≤ a ∧ a ≤ 40 ∧ 0 ≤ b ∧ b ≤ 40 ∧ zs.length ≤ 1024 ∧ zs.length ≤ c ∧ c ≤ maxLen ∧ RowAt .i64 w' A zs ∧ Below W.heap.size W w'

set_option maxHeartbeats 4000000 in
theorem S_DrawEdgesAt (a : Option Addr) (len cap : Nat) (zs : List Int) (w : World) (h : IsRow .u8 w a len cap zs) :
    Calls Try.prog 22 #[.slice a len cap] w (PicThree w) := by
  have HI := Lib.hid h
  clear h
  go_enter Try.func22, Try.ntmps22
  go_wp2_with (go_at_call 58; refine (S_l20Open _ _ _ zs _ (IsRow.keep HI.out (by repeat' (first | (with_reducible exact Below.refl _ _) | (with_reducible refine Below.adds_ ?_ ?_ _ _) | (with_reducible refine Below.alloc ?_ ?_ _) | (with_reducible refine Below.drew ?_) | (with_reducible refine Below.setCell ?_ ?_ _) | (with_reducible assumption) | go_size | (simp only [size_addsW, World.size_alloc, World.size_drew, World.size_setCell]; omega))))).mono ?_; rintro e w1 ⟨rfl, hR', hb, hB⟩; (try simp only [World.size_alloc] at hR' hB); have hR := Lib.hid hR'; clear hR'; have hbw : Below w.heap.size w w1 := Below.trans (by repeat' (first | (with_reducible exact Below.refl _ _) | (with_reducible refine Below.adds_ ?_ ?_ _ _) | (with_reducible refine Below.alloc ?_ ?_ _) | (with_reducible refine Below.drew ?_) | (with_reducible refine Below.setCell ?_ ?_ _) | (with_reducible assumption) | go_size | (simp only [size_addsW, World.size_alloc, World.size_drew, World.size_setCell]; omega))) (hb.mono (by simp <;> omega)); have hx0 := hb.cell (p := ⟨w.heap.size, 0, none⟩) (by simp <;> omega); have hy0 := hb.frozen (p := ⟨w.heap.size, 0, none⟩) (by simp <;> omega); simp [go_sem] at hx0 hy0; have hx1 := hb.cell (p := ⟨w.heap.size, 1, none⟩) (by simp <;> omega); have hy1 := hb.frozen (p := ⟨w.heap.size, 1, none⟩) (by simp <;> omega); simp [go_sem] at hx1 hy1; have hx2 := hb.cell (p := ⟨w.heap.size, 2, none⟩) (by simp <;> omega); have hy2 := hb.frozen (p := ⟨w.heap.size, 2, none⟩) (by simp <;> omega); simp [go_sem] at hx2 hy2; have hB0 : w.heap.size < w1.heap.size := (by omega); clear hb)
  refine (S_l20Picture (w.heap.size + 1) _ _ _ (by repeat (first | (with_reducible exact hR.out) | (with_reducible apply RdAt.adds) | (with_reducible apply RdAt.alloc) | (with_reducible exact RdAt.set hR.out _) | (with_reducible apply RdAt.drew))) (by omega) (by omega)).mono ?_
  rintro e w' ⟨a, b, A, c, zs, rfl, ha0, ha1, hb0, hb1, hz, hzc, hcm, hrow, hA, hM⟩
  obtain ⟨q, oo, nn, hq, rfl⟩ := hM
  have HR := Lib.hid hrow
  have HA := Lib.hid hA
  clear hrow hA
  have t1 := tdiv4 (show -8 ≤ a ∧ a ≤ 40 by omega)
  go_wp2_with fail
  (refine (S_pick (w.heap.size + 1) _ _ _ (by repeat (first | (with_reducible exact hR.out) | (with_reducible apply RdAt.adds) | (with_reducible apply RdAt.alloc) | (with_reducible exact RdAt.set hR.out _) | (with_reducible apply RdAt.drew))) (by omega)).mono ?_; rintro e w' ⟨v1, p1, k1, rfl, hv, hp1, rfl⟩; have hv1 := hv.1 (by omega); clear hv)
  go_wp2_with fail
  refine (S_odd (w.heap.size + 1) _ _ _ (by repeat (first | (with_reducible exact hR.out) | (with_reducible apply RdAt.adds) | (with_reducible apply RdAt.alloc) | (with_reducible exact RdAt.set hR.out _) | (with_reducible apply RdAt.drew))) (by omega) (by omega)).mono ?_
  rintro e w' ⟨v, p2, k2, rfl, hp2, rfl⟩
  cases v
  · have hw4 : IntKind.i64.wrap (a.tdiv 4) = a.tdiv 4 := IntWalk.i64_in _ (by omega)
    go_wp2_with fail
    by_cases ht4 : 1 < a.tdiv 4
    all_goals
      refine wp_region_held_drew (S := (fun w' => w'.cell? ⟨w1.heap.size + oo.size, 0, none⟩ = some (.int .i64 a) ∧ w'.cell? ⟨w1.heap.size + oo.size, 1, none⟩ = some (.int .i64 b) ∧ w'.cell? ⟨w1.heap.size + oo.size, 2, none⟩ = some (.slice A zs.length c))) (by kernel_rfl) ?_ (fun hHeld => ?_)
      · (first | (go_simp; done) | (go_keep; done))
      refine wpAnyH_take (i := 0) (oi := _) (v := ?_) rfl (by kernel_rfl) (by kernel_rfl) (by kernel_rfl) (fun _ _ _ h => h) (Or.inl ⟨by rfl, ?_⟩) (by assumption) ?_
      rotate_left
      · intro w hSw; (try dsimp only at hSw); go_simp; (try with_reducible rfl)
      try dsimp only [List.getElem_toArray, List.getElem_cons_succ, List.getElem_cons_zero]
      simp only [Act.put, List.setIfInBounds_toArray, List.set_cons_zero, List.set_cons_succ]
      refine wpAnyH_take (i := 1) (oi := _) (v := ?_) rfl (by kernel_rfl) (by kernel_rfl) (by kernel_rfl) (fun _ _ _ h => h) (Or.inl ⟨by rfl, ?_⟩) (by assumption) ?_
      rotate_left
      · intro w hSw; (try dsimp only at hSw); go_simp; (try with_reducible rfl)
      try dsimp only [List.getElem_toArray, List.getElem_cons_succ, List.getElem_cons_zero]
      simp only [Act.put, List.setIfInBounds_toArray, List.set_cons_zero, List.set_cons_succ]
      refine wpAnyH_take (i := 2) (oi := _) (v := ?_) rfl (by kernel_rfl) (by kernel_rfl) (by kernel_rfl) (fun _ _ _ h => h) (Or.inl ⟨by rfl, ?_⟩) (by assumption) ?_
      rotate_left
      · intro w hSw; (try dsimp only at hSw); go_simp; (try with_reducible rfl)
      try dsimp only [List.getElem_toArray, List.getElem_cons_succ, List.getElem_cons_zero]
      simp only [Act.put, List.setIfInBounds_toArray, List.set_cons_zero, List.set_cons_succ]
      refine wpAnyH_take (i := 3) (oi := _) (v := ?_) rfl (by kernel_rfl) (by kernel_rfl) (by kernel_rfl) (fun _ _ _ h => h) (Or.inl ⟨by rfl, ?_⟩) (by assumption) ?_
      rotate_left
      · intro w hSw; (try dsimp only at hSw); go_simp; (try with_reducible rfl)
      try dsimp only [List.getElem_toArray, List.getElem_cons_succ, List.getElem_cons_zero]
      simp only [Act.put, List.setIfInBounds_toArray, List.set_cons_zero, List.set_cons_succ]
      refine wpAnyH_take (i := 4) (oi := _) (v := ?_) rfl (by kernel_rfl) (by kernel_rfl) (by kernel_rfl) (fun _ _ _ h => h) (Or.inl ⟨by rfl, ?_⟩) (by assumption) ?_
      rotate_left
      · intro w hSw; (try dsimp only at hSw); go_simp; (try with_reducible rfl)
      try dsimp only [List.getElem_toArray, List.getElem_cons_succ, List.getElem_cons_zero]
      simp only [Act.put, List.setIfInBounds_toArray, List.set_cons_zero, List.set_cons_succ]
      refine wpAnyH_take (i := 5) (oi := _) (v := ?_) rfl (by kernel_rfl) (by kernel_rfl) (by kernel_rfl) (fun _ _ _ h => h) (Or.inl ⟨by rfl, ?_⟩) (by assumption) ?_
      rotate_left
      · intro w hSw; (try dsimp only at hSw); go_simp; (try with_reducible rfl)
      try dsimp only [List.getElem_toArray, List.getElem_cons_succ, List.getElem_cons_zero]
      simp only [Act.put, List.setIfInBounds_toArray, List.set_cons_zero, List.set_cons_succ]
      refine wpAnyH_take (i := 8) (oi := _) (v := ?_) rfl (by kernel_rfl) (by kernel_rfl) (by kernel_rfl) (fun _ _ _ h => h) (Or.inl ⟨by rfl, ?_⟩) (by assumption) ?_
      rotate_left
      · intro w hSw; (try dsimp only at hSw); go_simp; (try with_reducible rfl)
      try dsimp only [List.getElem_toArray, List.getElem_cons_succ, List.getElem_cons_zero]
      simp only [Act.put, List.setIfInBounds_toArray, List.set_cons_zero, List.set_cons_succ]
      refine wpAnyH_take (i := 9) (oi := _) (v := ?_) rfl (by kernel_rfl) (by kernel_rfl) (by kernel_rfl) (fun _ _ _ h => h) (Or.inl ⟨by rfl, ?_⟩) (by assumption) ?_
      rotate_left
      · intro w hSw; (try dsimp only at hSw); go_simp; (try with_reducible rfl)
      try dsimp only [List.getElem_toArray, List.getElem_cons_succ, List.getElem_cons_zero]
      simp only [Act.put, List.setIfInBounds_toArray, List.set_cons_zero, List.set_cons_succ]
      refine wpAnyH_take (i := 10) (oi := _) (v := ?_) rfl (by kernel_rfl) (by kernel_rfl) (by kernel_rfl) (fun _ _ _ h => h) (Or.inl ⟨by rfl, ?_⟩) (by assumption) ?_
      rotate_left
      · intro w hSw; (try dsimp only at hSw); go_simp; (try with_reducible rfl)
      try dsimp only [List.getElem_toArray, List.getElem_cons_succ, List.getElem_cons_zero]
      simp only [Act.put, List.setIfInBounds_toArray, List.set_cons_zero, List.set_cons_succ]
      refine wpAnyH_take (i := 14) (oi := _) (v := ?_) rfl (by kernel_rfl) (by kernel_rfl) (by kernel_rfl) (fun _ _ _ h => h) (Or.inl ⟨by rfl, ?_⟩) (by assumption) ?_
      rotate_left
      · intro w hSw; (try dsimp only at hSw); go_simp; (try with_reducible rfl)
      try dsimp only [List.getElem_toArray, List.getElem_cons_succ, List.getElem_cons_zero]
      simp only [Act.put, List.setIfInBounds_toArray, List.set_cons_zero, List.set_cons_succ]
      refine wpAnyH_ready (rs := [6]) (by kernel_rfl) (by simp) ?_
      refine AllReadyH.cons (o := _) rfl (fun K hK => ?_) ?_
      · (try dsimp only [List.getElem_toArray, List.getElem_cons_succ, List.getElem_cons_zero]); go_simp
        (first | ((go_at_call 60; refine (S_pick (w.heap.size + 1) _ _ _ (by repeat (first | (with_reducible exact hR.out) | (with_reducible apply RdAt.adds) | (with_reducible apply RdAt.alloc) | (with_reducible exact RdAt.set hR.out _) | (with_reducible apply RdAt.drew))) (by omega)).mono ?_; rintro e w' ⟨v, p1, k1, rfl, hv, hp1, rfl⟩; have hv' := hv.1 (by omega); clear hv)))
        try go_wp2_with fail
        refine hK.out _ _ ?_ (fun hHeld => ?_)
        · (first | (go_simp; done) | (go_keep; done))
        clear hK K
        try simp only [Act.put, List.setIfInBounds_toArray, List.set_cons_zero, List.set_cons_succ]
        refine wpAnyH_take (i := 7) (oi := _) (v := ?_) rfl (by kernel_rfl) (by kernel_rfl) (by kernel_rfl) (fun _ _ _ h => h) (Or.inl ⟨by rfl, ?_⟩) (by assumption) ?_
        rotate_left
        · intro w hSw; (try dsimp only at hSw); go_simp; (try with_reducible rfl)
        try dsimp only [List.getElem_toArray, List.getElem_cons_succ, List.getElem_cons_zero]
        simp only [Act.put, List.setIfInBounds_toArray, List.set_cons_zero, List.set_cons_succ]
        refine wpAnyH_ready (rs := [11]) (by kernel_rfl) (by simp) ?_
        refine AllReadyH.cons (o := _) rfl (fun K hK => ?_) ?_
        · (try dsimp only [List.getElem_toArray, List.getElem_cons_succ, List.getElem_cons_zero]); go_simp
          (first | ((go_at_call 60; refine (S_pick (w.heap.size + 1) _ _ _ (by repeat (first | (with_reducible exact hR.out) | (with_reducible apply RdAt.adds) | (with_reducible apply RdAt.alloc) | (with_reducible exact RdAt.set hR.out _) | (with_reducible apply RdAt.drew))) (by omega)).mono ?_; rintro e w' ⟨v, p1, k1, rfl, hv, hp1, rfl⟩; have hv' := hv.1 (by omega); clear hv)))
          try go_wp2_with fail
          refine hK.out _ _ ?_ (fun hHeld => ?_)
          · (first | (go_simp; done) | (go_keep; done))
          clear hK K
          try simp only [Act.put, List.setIfInBounds_toArray, List.set_cons_zero, List.set_cons_succ]
          refine wpAnyH_take (i := 12) (oi := _) (v := ?_) rfl (by kernel_rfl) (by kernel_rfl) (by kernel_rfl) (fun _ _ _ h => h) (Or.inl ⟨by rfl, ?_⟩) (by assumption) ?_
          rotate_left
          · intro w hSw; (try dsimp only at hSw); go_simp; (try with_reducible rfl)
          try dsimp only [List.getElem_toArray, List.getElem_cons_succ, List.getElem_cons_zero]
          simp only [Act.put, List.setIfInBounds_toArray, List.set_cons_zero, List.set_cons_succ]
          refine wpAnyH_ready (rs := [13, 15]) (by kernel_rfl) (by simp) ?_
          refine AllReadyH.cons (o := _) rfl (fun K hK => ?_) ?_
          · (try dsimp only [List.getElem_toArray, List.getElem_cons_succ, List.getElem_cons_zero]); go_simp
            refine hK.out _ _ ?_ (fun hHeld => ?_)
            · (first | (go_simp; done) | (go_keep; done))
            clear hK K
            try simp only [Act.put, List.setIfInBounds_toArray, List.set_cons_zero, List.set_cons_succ]
            refine wpAnyH_ready (rs := [15]) (by kernel_rfl) (by simp) ?_
            refine AllReadyH.cons (o := _) rfl (fun K hK => ?_) ?_
            · (try dsimp only [List.getElem_toArray, List.getElem_cons_succ, List.getElem_cons_zero]); go_simp
              (first | ((go_at_call 60; refine (S_pick (w.heap.size + 1) _ _ _ (by repeat (first | (with_reducible exact hR.out) | (with_reducible apply RdAt.adds) | (with_reducible apply RdAt.alloc) | (with_reducible exact RdAt.set hR.out _) | (with_reducible apply RdAt.drew))) (by omega)).mono ?_; rintro e w' ⟨v, p1, k1, rfl, hv, hp1, rfl⟩; have hv' := hv.1 (by omega); clear hv)))
              try go_wp2_with fail
              refine hK.out _ _ ?_ (fun hHeld => ?_)
              · (first | (go_simp; done) | (go_keep; done))
              clear hK K
              try simp only [Act.put, List.setIfInBounds_toArray, List.set_cons_zero, List.set_cons_succ]
              refine wpAnyH_take (i := 16) (oi := _) (v := ?_) rfl (by kernel_rfl) (by kernel_rfl) (by kernel_rfl) (fun _ _ _ h => h) (Or.inl ⟨by rfl, ?_⟩) (by assumption) ?_
              rotate_left
              · intro w hSw; (try dsimp only at hSw); go_simp; (try with_reducible rfl)
              try dsimp only [List.getElem_toArray, List.getElem_cons_succ, List.getElem_cons_zero]
              simp only [Act.put, List.setIfInBounds_toArray, List.set_cons_zero, List.set_cons_succ]
              refine wpAnyH_ready (rs := [17, 18]) (by kernel_rfl) (by simp) ?_
              refine AllReadyH.cons (o := _) rfl (fun K hK => ?_) ?_
              · (try dsimp only [List.getElem_toArray, List.getElem_cons_succ, List.getElem_cons_zero]); go_simp
                refine hK.out _ _ ?_ (fun hHeld => ?_)
                · (first | (go_simp; done) | (go_keep; done))
                clear hK K
                try simp only [Act.put, List.setIfInBounds_toArray, List.set_cons_zero, List.set_cons_succ]
                refine wpAnyH_ready (rs := [18]) (by kernel_rfl) (by simp) ?_
                refine AllReadyH.cons (o := _) rfl (fun K hK => ?_) ?_
                · (try dsimp only [List.getElem_toArray, List.getElem_cons_succ, List.getElem_cons_zero]); go_simp
                  refine hK.out _ _ ?_ (fun hHeld => ?_)
                  · (first | (go_simp; done) | (go_keep; done))
                  clear hK K
                  try simp only [Act.put, List.setIfInBounds_toArray, List.set_cons_zero, List.set_cons_succ]
                  refine wpAnyH_take (i := 19) (oi := _) (v := ?_) rfl (by kernel_rfl) (by kernel_rfl) (by kernel_rfl) (fun _ _ _ h => h) (Or.inl ⟨by rfl, ?_⟩) (by assumption) ?_
                  rotate_left
                  · intro w hSw; (try dsimp only at hSw); go_simp; (try with_reducible rfl)
                  try dsimp only [List.getElem_toArray, List.getElem_cons_succ, List.getElem_cons_zero]
                  simp only [Act.put, List.setIfInBounds_toArray, List.set_cons_zero, List.set_cons_succ]
                  refine wpAnyH_take (i := 20) (oi := _) (v := ?_) rfl (by kernel_rfl) (by kernel_rfl) (by kernel_rfl) (fun _ _ _ h => h) (Or.inl ⟨by rfl, ?_⟩) (by assumption) ?_
                  rotate_left
                  · intro w hSw; (try dsimp only at hSw); go_simp; (try with_reducible rfl)
                  try dsimp only [List.getElem_toArray, List.getElem_cons_succ, List.getElem_cons_zero]
                  simp only [Act.put, List.setIfInBounds_toArray, List.set_cons_zero, List.set_cons_succ]
                  refine wpAnyH_take (i := 21) (oi := _) (v := ?_) rfl (by kernel_rfl) (by kernel_rfl) (by kernel_rfl) (fun _ _ _ h => h) (Or.inl ⟨by rfl, ?_⟩) (by assumption) ?_
                  rotate_left
                  · intro w hSw; (try dsimp only at hSw); go_simp; (try with_reducible rfl)
                  try dsimp only [List.getElem_toArray, List.getElem_cons_succ, List.getElem_cons_zero]
                  simp only [Act.put, List.setIfInBounds_toArray, List.set_cons_zero, List.set_cons_succ]
                  refine wpAnyH_done (by kernel_rfl) ?_ _
                  go_wp2_with fail
                  refine bodyPost_ret (v := _) (by simp [results, Try.results22, go_sem, hx0, hx1, hx2, hB0]; rfl) rfl ?_
                  exact ⟨a, b, _, _, _, A, c, zs, rfl, (by first | omega | ((try simp only [IntKind.wrap_i64]); omega) | exact (selB _ (-8) (40) (by intro x hx; (try simp only [IntKind.wrap_i64] at hx); simp only [List.mem_cons, List.not_mem_nil, or_false] at hx; (try simp only [IntKind.wrap_i64] at hx); omega)).1), (by first | omega | ((try simp only [IntKind.wrap_i64]); omega) | exact (selB _ (-8) (40) (by intro x hx; (try simp only [IntKind.wrap_i64] at hx); simp only [List.mem_cons, List.not_mem_nil, or_false] at hx; (try simp only [IntKind.wrap_i64] at hx); omega)).2), (by first | omega | ((try simp only [IntKind.wrap_i64]); omega) | exact (selB _ (0) (40) (by intro x hx; (try simp only [IntKind.wrap_i64] at hx); simp only [List.mem_cons, List.not_mem_nil, or_false] at hx; (try simp only [IntKind.wrap_i64] at hx); omega)).1), (by first | omega | ((try simp only [IntKind.wrap_i64]); omega) | exact (selB _ (0) (40) (by intro x hx; (try simp only [IntKind.wrap_i64] at hx); simp only [List.mem_cons, List.not_mem_nil, or_false] at hx; (try simp only [IntKind.wrap_i64] at hx); omega)).2), (by first | omega | ((try simp only [IntKind.wrap_i64]); omega) | exact (selB _ (0) (40) (by intro x hx; (try simp only [IntKind.wrap_i64] at hx); simp only [List.mem_cons, List.not_mem_nil, or_false] at hx; (try simp only [IntKind.wrap_i64] at hx); omega)).1), (by first | omega | ((try simp only [IntKind.wrap_i64]); omega) | exact (selB _ (0) (40) (by intro x hx; (try simp only [IntKind.wrap_i64] at hx); simp only [List.mem_cons, List.not_mem_nil, or_false] at hx; (try simp only [IntKind.wrap_i64] at hx); omega)).2), ha0, ha1, hb0, hb1, hz, hzc, hcm, (by repeat (first | (with_reducible exact HR.out.deepA (by simp) (fun d hd => by rw [World.size_setCell]; exact HA.out d hd)) | (with_reducible apply RowAt.adds) | (with_reducible apply RowAt.alloc))), (by repeat' (first | (with_reducible exact Below.refl _ _) | (with_reducible refine Below.adds_ ?_ ?_ _ _) | (with_reducible refine Below.alloc ?_ ?_ _) | (with_reducible refine Below.drew ?_) | (with_reducible refine Below.setCell ?_ ?_ _) | (with_reducible assumption) | go_size | (simp only [size_addsW, World.size_alloc, World.size_drew, World.size_setCell]; omega)))⟩
                exact AllReadyH.nil
              refine AllReadyH.cons (o := _) rfl (fun K hK => ?_) ?_
              · (try dsimp only [List.getElem_toArray, List.getElem_cons_succ, List.getElem_cons_zero]); go_simp
                refine hK.out _ _ ?_ (fun hHeld => ?_)
                · (first | (go_simp; done) | (go_keep; done))
                clear hK K
                try simp only [Act.put, List.setIfInBounds_toArray, List.set_cons_zero, List.set_cons_succ]
                refine wpAnyH_take (i := 19) (oi := _) (v := ?_) rfl (by kernel_rfl) (by kernel_rfl) (by kernel_rfl) (fun _ _ _ h => h) (Or.inl ⟨by rfl, ?_⟩) (by assumption) ?_
                rotate_left
                · intro w hSw; (try dsimp only at hSw); go_simp; (try with_reducible rfl)
                try dsimp only [List.getElem_toArray, List.getElem_cons_succ, List.getElem_cons_zero]
                simp only [Act.put, List.setIfInBounds_toArray, List.set_cons_zero, List.set_cons_succ]
                refine wpAnyH_take (i := 20) (oi := _) (v := ?_) rfl (by kernel_rfl) (by kernel_rfl) (by kernel_rfl) (fun _ _ _ h => h) (Or.inl ⟨by rfl, ?_⟩) (by assumption) ?_
                rotate_left
                · intro w hSw; (try dsimp only at hSw); go_simp; (try with_reducible rfl)
                try dsimp only [List.getElem_toArray, List.getElem_cons_succ, List.getElem_cons_zero]
                simp only [Act.put, List.setIfInBounds_toArray, List.set_cons_zero, List.set_cons_succ]
                refine wpAnyH_ready (rs := [17]) (by kernel_rfl) (by simp) ?_
                refine AllReadyH.cons (o := _) rfl (fun K hK => ?_) ?_
                · (try dsimp only [List.getElem_toArray, List.getElem_cons_succ, List.getElem_cons_zero]); go_simp
                  refine hK.out _ _ ?_ (fun hHeld => ?_)
                  · (first | (go_simp; done) | (go_keep; done))
                  clear hK K
                  try simp only [Act.put, List.setIfInBounds_toArray, List.set_cons_zero, List.set_cons_succ]
                  refine wpAnyH_take (i := 21) (oi := _) (v := ?_) rfl (by kernel_rfl) (by kernel_rfl) (by kernel_rfl) (fun _ _ _ h => h) (Or.inl ⟨by rfl, ?_⟩) (by assumption) ?_
                  rotate_left
                  · intro w hSw; (try dsimp only at hSw); go_simp; (try with_reducible rfl)
                  try dsimp only [List.getElem_toArray, List.getElem_cons_succ, List.getElem_cons_zero]
                  simp only [Act.put, List.setIfInBounds_toArray, List.set_cons_zero, List.set_cons_succ]
                  refine wpAnyH_done (by kernel_rfl) ?_ _
                  go_wp2_with fail
                  refine bodyPost_ret (v := _) (by simp [results, Try.results22, go_sem, hx0, hx1, hx2, hB0]; rfl) rfl ?_
                  exact ⟨a, b, _, _, _, A, c, zs, rfl, (by first | omega | ((try simp only [IntKind.wrap_i64]); omega) | exact (selB _ (-8) (40) (by intro x hx; (try simp only [IntKind.wrap_i64] at hx); simp only [List.mem_cons, List.not_mem_nil, or_false] at hx; (try simp only [IntKind.wrap_i64] at hx); omega)).1), (by first | omega | ((try simp only [IntKind.wrap_i64]); omega) | exact (selB _ (-8) (40) (by intro x hx; (try simp only [IntKind.wrap_i64] at hx); simp only [List.mem_cons, List.not_mem_nil, or_false] at hx; (try simp only [IntKind.wrap_i64] at hx); omega)).2), (by first | omega | ((try simp only [IntKind.wrap_i64]); omega) | exact (selB _ (0) (40) (by intro x hx; (try simp only [IntKind.wrap_i64] at hx); simp only [List.mem_cons, List.not_mem_nil, or_false] at hx; (try simp only [IntKind.wrap_i64] at hx); omega)).1), (by first | omega | ((try simp only [IntKind.wrap_i64]); omega) | exact (selB _ (0) (40) (by intro x hx; (try simp only [IntKind.wrap_i64] at hx); simp only [List.mem_cons, List.not_mem_nil, or_false] at hx; (try simp only [IntKind.wrap_i64] at hx); omega)).2), (by first | omega | ((try simp only [IntKind.wrap_i64]); omega) | exact (selB _ (0) (40) (by intro x hx; (try simp only [IntKind.wrap_i64] at hx); simp only [List.mem_cons, List.not_mem_nil, or_false] at hx; (try simp only [IntKind.wrap_i64] at hx); omega)).1), (by first | omega | ((try simp only [IntKind.wrap_i64]); omega) | exact (selB _ (0) (40) (by intro x hx; (try simp only [IntKind.wrap_i64] at hx); simp only [List.mem_cons, List.not_mem_nil, or_false] at hx; (try simp only [IntKind.wrap_i64] at hx); omega)).2), ha0, ha1, hb0, hb1, hz, hzc, hcm, (by repeat (first | (with_reducible exact HR.out.deepA (by simp) (fun d hd => by rw [World.size_setCell]; exact HA.out d hd)) | (with_reducible apply RowAt.adds) | (with_reducible apply RowAt.alloc))), (by repeat' (first | (with_reducible exact Below.refl _ _) | (with_reducible refine Below.adds_ ?_ ?_ _ _) | (with_reducible refine Below.alloc ?_ ?_ _) | (with_reducible refine Below.drew ?_) | (with_reducible refine Below.setCell ?_ ?_ _) | (with_reducible assumption) | go_size | (simp only [size_addsW, World.size_alloc, World.size_drew, World.size_setCell]; omega)))⟩
                exact AllReadyH.nil
              exact AllReadyH.nil
            exact AllReadyH.nil
          refine AllReadyH.cons (o := _) rfl (fun K hK => ?_) ?_
          · (try dsimp only [List.getElem_toArray, List.getElem_cons_succ, List.getElem_cons_zero]); go_simp
            (first | ((go_at_call 60; refine (S_pick (w.heap.size + 1) _ _ _ (by repeat (first | (with_reducible exact hR.out) | (with_reducible apply RdAt.adds) | (with_reducible apply RdAt.alloc) | (with_reducible exact RdAt.set hR.out _) | (with_reducible apply RdAt.drew))) (by omega)).mono ?_; rintro e w' ⟨v, p1, k1, rfl, hv, hp1, rfl⟩; have hv' := hv.1 (by omega); clear hv)))
            try go_wp2_with fail
            refine hK.out _ _ ?_ (fun hHeld => ?_)
            · (first | (go_simp; done) | (go_keep; done))
            clear hK K
            try simp only [Act.put, List.setIfInBounds_toArray, List.set_cons_zero, List.set_cons_succ]
            refine wpAnyH_ready (rs := [13, 18]) (by kernel_rfl) (by simp) ?_
            refine AllReadyH.cons (o := _) rfl (fun K hK => ?_) ?_
            · (try dsimp only [List.getElem_toArray, List.getElem_cons_succ, List.getElem_cons_zero]); go_simp
              refine hK.out _ _ ?_ (fun hHeld => ?_)
              · (first | (go_simp; done) | (go_keep; done))
              clear hK K
              try simp only [Act.put, List.setIfInBounds_toArray, List.set_cons_zero, List.set_cons_succ]
              refine wpAnyH_take (i := 16) (oi := _) (v := ?_) rfl (by kernel_rfl) (by kernel_rfl) (by kernel_rfl) (fun _ _ _ h => h) (Or.inl ⟨by rfl, ?_⟩) (by assumption) ?_
              rotate_left
              · intro w hSw; (try dsimp only at hSw); go_simp; (try with_reducible rfl)
              try dsimp only [List.getElem_toArray, List.getElem_cons_succ, List.getElem_cons_zero]
              simp only [Act.put, List.setIfInBounds_toArray, List.set_cons_zero, List.set_cons_succ]
              refine wpAnyH_ready (rs := [17, 18]) (by kernel_rfl) (by simp) ?_
              refine AllReadyH.cons (o := _) rfl (fun K hK => ?_) ?_
              · (try dsimp only [List.getElem_toArray, List.getElem_cons_succ, List.getElem_cons_zero]); go_simp
                refine hK.out _ _ ?_ (fun hHeld => ?_)
                · (first | (go_simp; done) | (go_keep; done))
                clear hK K
                try simp only [Act.put, List.setIfInBounds_toArray, List.set_cons_zero, List.set_cons_succ]
                refine wpAnyH_ready (rs := [18]) (by kernel_rfl) (by simp) ?_
                refine AllReadyH.cons (o := _) rfl (fun K hK => ?_) ?_
                · (try dsimp only [List.getElem_toArray, List.getElem_cons_succ, List.getElem_cons_zero]); go_simp
                  refine hK.out _ _ ?_ (fun hHeld => ?_)
                  · (first | (go_simp; done) | (go_keep; done))
                  clear hK K
                  try simp only [Act.put, List.setIfInBounds_toArray, List.set_cons_zero, List.set_cons_succ]
                  refine wpAnyH_take (i := 19) (oi := _) (v := ?_) rfl (by kernel_rfl) (by kernel_rfl) (by kernel_rfl) (fun _ _ _ h => h) (Or.inl ⟨by rfl, ?_⟩) (by assumption) ?_
                  rotate_left
                  · intro w hSw; (try dsimp only at hSw); go_simp; (try with_reducible rfl)
                  try dsimp only [List.getElem_toArray, List.getElem_cons_succ, List.getElem_cons_zero]
                  simp only [Act.put, List.setIfInBounds_toArray, List.set_cons_zero, List.set_cons_succ]
                  refine wpAnyH_take (i := 20) (oi := _) (v := ?_) rfl (by kernel_rfl) (by kernel_rfl) (by kernel_rfl) (fun _ _ _ h => h) (Or.inl ⟨by rfl, ?_⟩) (by assumption) ?_
                  rotate_left
                  · intro w hSw; (try dsimp only at hSw); go_simp; (try with_reducible rfl)
                  try dsimp only [List.getElem_toArray, List.getElem_cons_succ, List.getElem_cons_zero]
                  simp only [Act.put, List.setIfInBounds_toArray, List.set_cons_zero, List.set_cons_succ]
                  refine wpAnyH_take (i := 21) (oi := _) (v := ?_) rfl (by kernel_rfl) (by kernel_rfl) (by kernel_rfl) (fun _ _ _ h => h) (Or.inl ⟨by rfl, ?_⟩) (by assumption) ?_
                  rotate_left
                  · intro w hSw; (try dsimp only at hSw); go_simp; (try with_reducible rfl)
                  try dsimp only [List.getElem_toArray, List.getElem_cons_succ, List.getElem_cons_zero]
                  simp only [Act.put, List.setIfInBounds_toArray, List.set_cons_zero, List.set_cons_succ]
                  refine wpAnyH_done (by kernel_rfl) ?_ _
                  go_wp2_with fail
                  refine bodyPost_ret (v := _) (by simp [results, Try.results22, go_sem, hx0, hx1, hx2, hB0]; rfl) rfl ?_
                  exact ⟨a, b, _, _, _, A, c, zs, rfl, (by first | omega | ((try simp only [IntKind.wrap_i64]); omega) | exact (selB _ (-8) (40) (by intro x hx; (try simp only [IntKind.wrap_i64] at hx); simp only [List.mem_cons, List.not_mem_nil, or_false] at hx; (try simp only [IntKind.wrap_i64] at hx); omega)).1), (by first | omega | ((try simp only [IntKind.wrap_i64]); omega) | exact (selB _ (-8) (40) (by intro x hx; (try simp only [IntKind.wrap_i64] at hx); simp only [List.mem_cons, List.not_mem_nil, or_false] at hx; (try simp only [IntKind.wrap_i64] at hx); omega)).2), (by first | omega | ((try simp only [IntKind.wrap_i64]); omega) | exact (selB _ (0) (40) (by intro x hx; (try simp only [IntKind.wrap_i64] at hx); simp only [List.mem_cons, List.not_mem_nil, or_false] at hx; (try simp only [IntKind.wrap_i64] at hx); omega)).1), (by first | omega | ((try simp only [IntKind.wrap_i64]); omega) | exact (selB _ (0) (40) (by intro x hx; (try simp only [IntKind.wrap_i64] at hx); simp only [List.mem_cons, List.not_mem_nil, or_false] at hx; (try simp only [IntKind.wrap_i64] at hx); omega)).2), (by first | omega | ((try simp only [IntKind.wrap_i64]); omega) | exact (selB _ (0) (40) (by intro x hx; (try simp only [IntKind.wrap_i64] at hx); simp only [List.mem_cons, List.not_mem_nil, or_false] at hx; (try simp only [IntKind.wrap_i64] at hx); omega)).1), (by first | omega | ((try simp only [IntKind.wrap_i64]); omega) | exact (selB _ (0) (40) (by intro x hx; (try simp only [IntKind.wrap_i64] at hx); simp only [List.mem_cons, List.not_mem_nil, or_false] at hx; (try simp only [IntKind.wrap_i64] at hx); omega)).2), ha0, ha1, hb0, hb1, hz, hzc, hcm, (by repeat (first | (with_reducible exact HR.out.deepA (by simp) (fun d hd => by rw [World.size_setCell]; exact HA.out d hd)) | (with_reducible apply RowAt.adds) | (with_reducible apply RowAt.alloc))), (by repeat' (first | (with_reducible exact Below.refl _ _) | (with_reducible refine Below.adds_ ?_ ?_ _ _) | (with_reducible refine Below.alloc ?_ ?_ _) | (with_reducible refine Below.drew ?_) | (with_reducible refine Below.setCell ?_ ?_ _) | (with_reducible assumption) | go_size | (simp only [size_addsW, World.size_alloc, World.size_drew, World.size_setCell]; omega)))⟩
                exact AllReadyH.nil
              refine AllReadyH.cons (o := _) rfl (fun K hK => ?_) ?_
              · (try dsimp only [List.getElem_toArray, List.getElem_cons_succ, List.getElem_cons_zero]); go_simp
                refine hK.out _ _ ?_ (fun hHeld => ?_)
                · (first | (go_simp; done) | (go_keep; done))
                clear hK K
                try simp only [Act.put, List.setIfInBounds_toArray, List.set_cons_zero, List.set_cons_succ]
                refine wpAnyH_take (i := 19) (oi := _) (v := ?_) rfl (by kernel_rfl) (by kernel_rfl) (by kernel_rfl) (fun _ _ _ h => h) (Or.inl ⟨by rfl, ?_⟩) (by assumption) ?_
                rotate_left
                · intro w hSw; (try dsimp only at hSw); go_simp; (try with_reducible rfl)
                try dsimp only [List.getElem_toArray, List.getElem_cons_succ, List.getElem_cons_zero]
                simp only [Act.put, List.setIfInBounds_toArray, List.set_cons_zero, List.set_cons_succ]
                refine wpAnyH_take (i := 20) (oi := _) (v := ?_) rfl (by kernel_rfl) (by kernel_rfl) (by kernel_rfl) (fun _ _ _ h => h) (Or.inl ⟨by rfl, ?_⟩) (by assumption) ?_
                rotate_left
                · intro w hSw; (try dsimp only at hSw); go_simp; (try with_reducible rfl)
                try dsimp only [List.getElem_toArray, List.getElem_cons_succ, List.getElem_cons_zero]
                simp only [Act.put, List.setIfInBounds_toArray, List.set_cons_zero, List.set_cons_succ]
                refine wpAnyH_ready (rs := [17]) (by kernel_rfl) (by simp) ?_
                refine AllReadyH.cons (o := _) rfl (fun K hK => ?_) ?_
                · (try dsimp only [List.getElem_toArray, List.getElem_cons_succ, List.getElem_cons_zero]); go_simp
                  refine hK.out _ _ ?_ (fun hHeld => ?_)
                  · (first | (go_simp; done) | (go_keep; done))
                  clear hK K
                  try simp only [Act.put, List.setIfInBounds_toArray, List.set_cons_zero, List.set_cons_succ]
                  refine wpAnyH_take (i := 21) (oi := _) (v := ?_) rfl (by kernel_rfl) (by kernel_rfl) (by kernel_rfl) (fun _ _ _ h => h) (Or.inl ⟨by rfl, ?_⟩) (by assumption) ?_
                  rotate_left
                  · intro w hSw; (try dsimp only at hSw); go_simp; (try with_reducible rfl)
                  try dsimp only [List.getElem_toArray, List.getElem_cons_succ, List.getElem_cons_zero]
                  simp only [Act.put, List.setIfInBounds_toArray, List.set_cons_zero, List.set_cons_succ]
                  refine wpAnyH_done (by kernel_rfl) ?_ _
                  go_wp2_with fail
                  refine bodyPost_ret (v := _) (by simp [results, Try.results22, go_sem, hx0, hx1, hx2, hB0]; rfl) rfl ?_
                  exact ⟨a, b, _, _, _, A, c, zs, rfl, (by first | omega | ((try simp only [IntKind.wrap_i64]); omega) | exact (selB _ (-8) (40) (by intro x hx; (try simp only [IntKind.wrap_i64] at hx); simp only [List.mem_cons, List.not_mem_nil, or_false] at hx; (try simp only [IntKind.wrap_i64] at hx); omega)).1), (by first | omega | ((try simp only [IntKind.wrap_i64]); omega) | exact (selB _ (-8) (40) (by intro x hx; (try simp only [IntKind.wrap_i64] at hx); simp only [List.mem_cons, List.not_mem_nil, or_false] at hx; (try simp only [IntKind.wrap_i64] at hx); omega)).2), (by first | omega | ((try simp only [IntKind.wrap_i64]); omega) | exact (selB _ (0) (40) (by intro x hx; (try simp only [IntKind.wrap_i64] at hx); simp only [List.mem_cons, List.not_mem_nil, or_false] at hx; (try simp only [IntKind.wrap_i64] at hx); omega)).1), (by first | omega | ((try simp only [IntKind.wrap_i64]); omega) | exact (selB _ (0) (40) (by intro x hx; (try simp only [IntKind.wrap_i64] at hx); simp only [List.mem_cons, List.not_mem_nil, or_false] at hx; (try simp only [IntKind.wrap_i64] at hx); omega)).2), (by first | omega | ((try simp only [IntKind.wrap_i64]); omega) | exact (selB _ (0) (40) (by intro x hx; (try simp only [IntKind.wrap_i64] at hx); simp only [List.mem_cons, List.not_mem_nil, or_false] at hx; (try simp only [IntKind.wrap_i64] at hx); omega)).1), (by first | omega | ((try simp only [IntKind.wrap_i64]); omega) | exact (selB _ (0) (40) (by intro x hx; (try simp only [IntKind.wrap_i64] at hx); simp only [List.mem_cons, List.not_mem_nil, or_false] at hx; (try simp only [IntKind.wrap_i64] at hx); omega)).2), ha0, ha1, hb0, hb1, hz, hzc, hcm, (by repeat (first | (with_reducible exact HR.out.deepA (by simp) (fun d hd => by rw [World.size_setCell]; exact HA.out d hd)) | (with_reducible apply RowAt.adds) | (with_reducible apply RowAt.alloc))), (by repeat' (first | (with_reducible exact Below.refl _ _) | (with_reducible refine Below.adds_ ?_ ?_ _ _) | (with_reducible refine Below.alloc ?_ ?_ _) | (with_reducible refine Below.drew ?_) | (with_reducible refine Below.setCell ?_ ?_ _) | (with_reducible assumption) | go_size | (simp only [size_addsW, World.size_alloc, World.size_drew, World.size_setCell]; omega)))⟩
                exact AllReadyH.nil
              exact AllReadyH.nil
            refine AllReadyH.cons (o := _) rfl (fun K hK => ?_) ?_
            · (try dsimp only [List.getElem_toArray, List.getElem_cons_succ, List.getElem_cons_zero]); go_simp
              refine hK.out _ _ ?_ (fun hHeld => ?_)
              · (first | (go_simp; done) | (go_keep; done))
              clear hK K
              try simp only [Act.put, List.setIfInBounds_toArray, List.set_cons_zero, List.set_cons_succ]
              refine wpAnyH_take (i := 19) (oi := _) (v := ?_) rfl (by kernel_rfl) (by kernel_rfl) (by kernel_rfl) (fun _ _ _ h => h) (Or.inl ⟨by rfl, ?_⟩) (by assumption) ?_
              rotate_left
              · intro w hSw; (try dsimp only at hSw); go_simp; (try with_reducible rfl)
              try dsimp only [List.getElem_toArray, List.getElem_cons_succ, List.getElem_cons_zero]
              simp only [Act.put, List.setIfInBounds_toArray, List.set_cons_zero, List.set_cons_succ]
              refine wpAnyH_take (i := 20) (oi := _) (v := ?_) rfl (by kernel_rfl) (by kernel_rfl) (by kernel_rfl) (fun _ _ _ h => h) (Or.inl ⟨by rfl, ?_⟩) (by assumption) ?_
              rotate_left
              · intro w hSw; (try dsimp only at hSw); go_simp; (try with_reducible rfl)
              try dsimp only [List.getElem_toArray, List.getElem_cons_succ, List.getElem_cons_zero]
              simp only [Act.put, List.setIfInBounds_toArray, List.set_cons_zero, List.set_cons_succ]
              refine wpAnyH_ready (rs := [13]) (by kernel_rfl) (by simp) ?_
              refine AllReadyH.cons (o := _) rfl (fun K hK => ?_) ?_
              · (try dsimp only [List.getElem_toArray, List.getElem_cons_succ, List.getElem_cons_zero]); go_simp
                refine hK.out _ _ ?_ (fun hHeld => ?_)
                · (first | (go_simp; done) | (go_keep; done))
                clear hK K
                try simp only [Act.put, List.setIfInBounds_toArray, List.set_cons_zero, List.set_cons_succ]
                refine wpAnyH_take (i := 16) (oi := _) (v := ?_) rfl (by kernel_rfl) (by kernel_rfl) (by kernel_rfl) (fun _ _ _ h => h) (Or.inl ⟨by rfl, ?_⟩) (by assumption) ?_
                rotate_left
                · intro w hSw; (try dsimp only at hSw); go_simp; (try with_reducible rfl)
                try dsimp only [List.getElem_toArray, List.getElem_cons_succ, List.getElem_cons_zero]
                simp only [Act.put, List.setIfInBounds_toArray, List.set_cons_zero, List.set_cons_succ]
                refine wpAnyH_ready (rs := [17]) (by kernel_rfl) (by simp) ?_
                refine AllReadyH.cons (o := _) rfl (fun K hK => ?_) ?_
                · (try dsimp only [List.getElem_toArray, List.getElem_cons_succ, List.getElem_cons_zero]); go_simp
                  refine hK.out _ _ ?_ (fun hHeld => ?_)
                  · (first | (go_simp; done) | (go_keep; done))
                  clear hK K
                  try simp only [Act.put, List.setIfInBounds_toArray, List.set_cons_zero, List.set_cons_succ]
                  refine wpAnyH_take (i := 21) (oi := _) (v := ?_) rfl (by kernel_rfl) (by kernel_rfl) (by kernel_rfl) (fun _ _ _ h => h) (Or.inl ⟨by rfl, ?_⟩) (by assumption) ?_
                  rotate_left
                  · intro w hSw; (try dsimp only at hSw); go_simp; (try with_reducible rfl)
                  try dsimp only [List.getElem_toArray, List.getElem_cons_succ, List.getElem_cons_zero]
                  simp only [Act.put, List.setIfInBounds_toArray, List.set_cons_zero, List.set_cons_succ]
                  refine wpAnyH_done (by kernel_rfl) ?_ _
                  go_wp2_with fail
                  refine bodyPost_ret (v := _) (by simp [results, Try.results22, go_sem, hx0, hx1, hx2, hB0]; rfl) rfl ?_
                  exact ⟨a, b, _, _, _, A, c, zs, rfl, (by first | omega | ((try simp only [IntKind.wrap_i64]); omega) | exact (selB _ (-8) (40) (by intro x hx; (try simp only [IntKind.wrap_i64] at hx); simp only [List.mem_cons, List.not_mem_nil, or_false] at hx; (try simp only [IntKind.wrap_i64] at hx); omega)).1), (by first | omega | ((try simp only [IntKind.wrap_i64]); omega) | exact (selB _ (-8) (40) (by intro x hx; (try simp only [IntKind.wrap_i64] at hx); simp only [List.mem_cons, List.not_mem_nil, or_false] at hx; (try simp only [IntKind.wrap_i64] at hx); omega)).2), (by first | omega | ((try simp only [IntKind.wrap_i64]); omega) | exact (selB _ (0) (40) (by intro x hx; (try simp only [IntKind.wrap_i64] at hx); simp only [List.mem_cons, List.not_mem_nil, or_false] at hx; (try simp only [IntKind.wrap_i64] at hx); omega)).1), (by first | omega | ((try simp only [IntKind.wrap_i64]); omega) | exact (selB _ (0) (40) (by intro x hx; (try simp only [IntKind.wrap_i64] at hx); simp only [List.mem_cons, List.not_mem_nil, or_false] at hx; (try simp only [IntKind.wrap_i64] at hx); omega)).2), (by first | omega | ((try simp only [IntKind.wrap_i64]); omega) | exact (selB _ (0) (40) (by intro x hx; (try simp only [IntKind.wrap_i64] at hx); simp only [List.mem_cons, List.not_mem_nil, or_false] at hx; (try simp only [IntKind.wrap_i64] at hx); omega)).1), (by first | omega | ((try simp only [IntKind.wrap_i64]); omega) | exact (selB _ (0) (40) (by intro x hx; (try simp only [IntKind.wrap_i64] at hx); simp only [List.mem_cons, List.not_mem_nil, or_false] at hx; (try simp only [IntKind.wrap_i64] at hx); omega)).2), ha0, ha1, hb0, hb1, hz, hzc, hcm, (by repeat (first | (with_reducible exact HR.out.deepA (by simp) (fun d hd => by rw [World.size_setCell]; exact HA.out d hd)) | (with_reducible apply RowAt.adds) | (with_reducible apply RowAt.alloc))), (by repeat' (first | (with_reducible exact Below.refl _ _) | (with_reducible refine Below.adds_ ?_ ?_ _ _) | (with_reducible refine Below.alloc ?_ ?_ _) | (with_reducible refine Below.drew ?_) | (with_reducible refine Below.setCell ?_ ?_ _) | (with_reducible assumption) | go_size | (simp only [size_addsW, World.size_alloc, World.size_drew, World.size_setCell]; omega)))⟩
                exact AllReadyH.nil
              exact AllReadyH.nil
            exact AllReadyH.nil
          exact AllReadyH.nil
        exact AllReadyH.nil
      exact AllReadyH.nil
  · go_wp2_with fail
    go_region_held3 (fun w' => w'.cell? ⟨w1.heap.size + oo.size, 0, none⟩ = some (.int .i64 a) ∧ w'.cell? ⟨w1.heap.size + oo.size, 1, none⟩ = some (.int .i64 b) ∧ w'.cell? ⟨w1.heap.size + oo.size, 2, none⟩ = some (.slice A zs.length c)) (first | (go_simp; done) | (go_keep; done)) (first | ((go_at_call 60; refine (S_pick (w.heap.size + 1) _ _ _ (by repeat (first | (with_reducible exact hR.out) | (with_reducible apply RdAt.adds) | (with_reducible apply RdAt.alloc) | (with_reducible exact RdAt.set hR.out _) | (with_reducible apply RdAt.drew))) (by omega)).mono ?_; rintro e w' ⟨v, p1, k1, rfl, hv, hp1, rfl⟩; have hv' := hv.1 (by omega); clear hv)))
    all_goals
      go_wp2_with fail
      refine bodyPost_ret (v := _) (by simp [results, Try.results22, go_sem, hx0, hx1, hx2, hB0]; rfl) rfl ?_
      exact ⟨a, b, _, _, _, A, c, zs, rfl, (by first | omega | ((try simp only [IntKind.wrap_i64]); omega) | exact (selB _ (-8) (40) (by intro x hx; (try simp only [IntKind.wrap_i64] at hx); simp only [List.mem_cons, List.not_mem_nil, or_false] at hx; (try simp only [IntKind.wrap_i64] at hx); omega)).1), (by first | omega | ((try simp only [IntKind.wrap_i64]); omega) | exact (selB _ (-8) (40) (by intro x hx; (try simp only [IntKind.wrap_i64] at hx); simp only [List.mem_cons, List.not_mem_nil, or_false] at hx; (try simp only [IntKind.wrap_i64] at hx); omega)).2), (by first | omega | ((try simp only [IntKind.wrap_i64]); omega) | exact (selB _ (0) (40) (by intro x hx; (try simp only [IntKind.wrap_i64] at hx); simp only [List.mem_cons, List.not_mem_nil, or_false] at hx; (try simp only [IntKind.wrap_i64] at hx); omega)).1), (by first | omega | ((try simp only [IntKind.wrap_i64]); omega) | exact (selB _ (0) (40) (by intro x hx; (try simp only [IntKind.wrap_i64] at hx); simp only [List.mem_cons, List.not_mem_nil, or_false] at hx; (try simp only [IntKind.wrap_i64] at hx); omega)).2), (by first | omega | ((try simp only [IntKind.wrap_i64]); omega) | exact (selB _ (0) (40) (by intro x hx; (try simp only [IntKind.wrap_i64] at hx); simp only [List.mem_cons, List.not_mem_nil, or_false] at hx; (try simp only [IntKind.wrap_i64] at hx); omega)).1), (by first | omega | ((try simp only [IntKind.wrap_i64]); omega) | exact (selB _ (0) (40) (by intro x hx; (try simp only [IntKind.wrap_i64] at hx); simp only [List.mem_cons, List.not_mem_nil, or_false] at hx; (try simp only [IntKind.wrap_i64] at hx); omega)).2), ha0, ha1, hb0, hb1, hz, hzc, hcm, (by repeat (first | (with_reducible exact HR.out.deepA (by simp) (fun d hd => by rw [World.size_setCell]; exact HA.out d hd)) | (with_reducible apply RowAt.adds) | (with_reducible apply RowAt.alloc))), (by repeat' (first | (with_reducible exact Below.refl _ _) | (with_reducible refine Below.adds_ ?_ ?_ _ _) | (with_reducible refine Below.alloc ?_ ?_ _) | (with_reducible refine Below.drew ?_) | (with_reducible refine Below.setCell ?_ ?_ _) | (with_reducible assumption) | go_size | (simp only [size_addsW, World.size_alloc, World.size_drew, World.size_setCell]; omega)))⟩

end Go.Proofs.Ytobphddjoebfjaa
