/- Edges drawn, and what DrawPredictIntra answers. -/
import Derived.Test.YthnigldbpikcaaaPredU
namespace Go.Proofs.Ythnigldbpikcaaa
open Go.RowKit
set_option linter.unusedVariables false
set_option linter.unusedSimpArgs false

attribute [local go_sem] size_addsW cell?_addsW frozen?_addsW setCell_addsW drew_addsW adds_addsW setCell_twice alloc_adds0 size_adds0 adds_adds0 sel2 sel3 sel4 sel5 sel6 sel7 sel8 sel9 lt_more lt_more2 lt_more3 lt_more4 adds_drew adds_drewN drewN_addsW ltA_1_1 ltA_1_2 ltA_1_3 ltA_1_4 ltA_1_5 ltA_1_6 ltA_2_1 ltA_2_2 ltA_2_3 ltA_2_4 ltA_2_5 ltA_2_6 ltA_3_1 ltA_3_2 ltA_3_3 ltA_3_4 ltA_3_5 ltA_3_6 ltA_4_1 ltA_4_2 ltA_4_3 ltA_4_4 ltA_4_5 ltA_4_6 ltA_5_1 ltA_5_2 ltA_5_3 ltA_5_4 ltA_5_5 ltA_5_6 ltA_6_1 ltA_6_2 ltA_6_3 ltA_6_4 ltA_6_5 ltA_6_6 ltA_7_1 ltA_7_2 ltA_7_3 ltA_7_4 ltA_7_5 ltA_7_6 ltA_8_1 ltA_8_2 ltA_8_3 ltA_8_4 ltA_8_5 ltA_8_6 ltA_9_1 ltA_9_2 ltA_9_3 ltA_9_4 ltA_9_5 ltA_9_6 ltA_10_1 ltA_10_2 ltA_10_3 ltA_10_4 ltA_10_5 ltA_10_6 ltA_11_1 ltA_11_2 ltA_11_3 ltA_11_4 ltA_11_5 ltA_11_6 ltA_12_1 ltA_12_2 ltA_12_3 ltA_12_4 ltA_12_5 ltA_12_6

theorem eA_size (f g : Nat → Int) (c : Int) (u l : Bool) : (eA f g c u l).size = 11 := rfl
def EdRel (w : World) (B p : Nat) (c : Int) (u l : Bool) (i : Value) (wr : World) : Prop :=
  ∃ (k q : Nat) (f g : Nat → Int) (oo : Array Obj) (nn : Nat), k ≤ 4 ∧ i = .int .i64 (k : Int) ∧ q ≤ p + 10 + 8 * k ∧
    wr = addsW (((w.setCell ⟨B, 1, none⟩ (.int .i64 (q : Int))).alloc (.cells e0 25)).alloc (.cells (eA f g c u l) 25)) oo nn

set_option maxRecDepth 100000 in
set_option maxHeartbeats 4000000 in
theorem S_l20Edges (B p : Nat) (n : Int) (w : World) (h : RdAt w B p) (hp : p ≤ 900000000) (hn : -1000000 ≤ n) :
    Calls Try.prog 20 #[.pointer (some ⟨B, 0, none⟩), .int .i64 n] w fun e w' => ∃ (f g : Nat → Int) (c : Int) (u l : Bool), e = .returned (.agg (eA f g c u l)) ∧ Moved w B p 100 w' := by
  have hB := h.lt
  have hR := Lib.hid h
  clear h
  go_enter Try.func20, Try.ntmps20
  go_wp2_with fail
  (refine (S_pick B _ _ _ (by repeat (first | (with_reducible exact hR.out) | (with_reducible apply RdAt.adds) | (with_reducible apply RdAt.alloc) | (with_reducible exact RdAt.set hR.out _) | (with_reducible apply RdAt.drew))) (by omega)).mono ?_; rintro e w' ⟨v1, p1, k1, rfl, hv, hp1, rfl⟩; have hv1 := hv.1 (by omega); clear hv)
  go_wp2_with fail
  (refine (S_pick B _ _ _ (by repeat (first | (with_reducible exact hR.out) | (with_reducible apply RdAt.adds) | (with_reducible apply RdAt.alloc) | (with_reducible exact RdAt.set hR.out _) | (with_reducible apply RdAt.drew))) (by omega)).mono ?_; rintro e w' ⟨v2, p2, k2, rfl, hv, hp2, rfl⟩; have hv2 := hv.1 (by omega); clear hv)
  go_wp2_with fail
  (refine (S_pick B _ _ _ (by repeat (first | (with_reducible exact hR.out) | (with_reducible apply RdAt.adds) | (with_reducible apply RdAt.alloc) | (with_reducible exact RdAt.set hR.out _) | (with_reducible apply RdAt.drew))) (by omega)).mono ?_; rintro e w' ⟨v3, p3, k3, rfl, hv, hp3, rfl⟩; have hv3 := hv.1 (by omega); clear hv)
  go_upto_region 2 with fail
  obtain ⟨u, hu⟩ : ∃ u, u = decide (0 < v2) := ⟨_, rfl⟩
  obtain ⟨l, hl⟩ : ∃ l, l = decide (0 < v3) := ⟨_, rfl⟩
  rw [← hu, ← hl]
  clear hu hl
  go_wp2_with fail
  (refine (S_pick B _ _ _ (by repeat (first | (with_reducible exact hR.out) | (with_reducible apply RdAt.adds) | (with_reducible apply RdAt.alloc) | (with_reducible exact RdAt.set hR.out _) | (with_reducible apply RdAt.drew))) (by omega)).mono ?_; rintro e w' ⟨v4, p4, k4, rfl, hv, hp4, rfl⟩; have hv4 := hv.1 (by omega); clear hv)
  go_wp2_with fail
  go_loopw [7] (fun i wr => EdRel w B p v1 u l i wr) (fun i _ => 4 - (intOf i).toNat)
  case atStart => exact ⟨0, p4, fun _ => 0, fun _ => 0, #[], _, by omega, rfl, by omega, rfl⟩
  case round =>
    obtain ⟨k, q, f, g, oo, nn, hk, rfl, hq, rfl⟩ := hrel
    by_cases hlt : k < 4
    · have hk4 : (k : Int) < 4 := by omega
      have cu := eA_up (f := f) (g := g) (c := v1) (u := u) (l := l) hlt
      have cl := fun f' : Nat → Int => eA_left (f := f') (g := g) (c := v1) (u := u) (l := l) hlt
      have sz : ∀ f' : Nat → Int, (eA f' g v1 u l).size = 11 := fun _ => rfl
      have s1 : k < 11 := by omega
      have s2 : 4 + k < 11 := by omega
      have hd1 : decide ((k : Int) < 4) = true := by simp; omega
      go_upto_region 7 with (go_at_call 19; refine (S_pick B _ _ _ (by repeat (first | (with_reducible exact hR.out) | (with_reducible apply RdAt.adds) | (with_reducible apply RdAt.alloc) | (with_reducible exact RdAt.set hR.out _) | (with_reducible apply RdAt.drew))) (by omega)).mono ?_; rintro e w' ⟨v, p1, k1, rfl, hv, hp1, rfl⟩; have hv' := hv.1 (by omega); clear hv)
      simp only [eA_setU hlt, alloc_addsW, adds_addsW]
      generalize upd f k _ = f2
      clear cu
      go_wp2_with (go_at_call 19; refine (S_pick B _ _ _ (by repeat (first | (with_reducible exact hR.out) | (with_reducible apply RdAt.adds) | (with_reducible apply RdAt.alloc) | (with_reducible exact RdAt.set hR.out _) | (with_reducible apply RdAt.drew))) (by omega)).mono ?_; rintro e w' ⟨v, p1, k1, rfl, hv, hp1, rfl⟩; have hv' := hv.1 (by omega); clear hv)
      try simp only [eA_setL hlt, alloc_addsW, adds_addsW]
      go_roundw
      case rel => exact ⟨k + 1, p1, f2, upd g k _, _, _, by omega, by go_num, by omega, by (first | rfl | (trace_state; fail))⟩
      case measure => simp [intOf]; omega
    · obtain rfl : k = 4 := by omega
      go_upto_if 47 with (go_at_call 33; refine (S_odd B _ _ _ (by repeat (first | (with_reducible exact hR.out) | (with_reducible apply RdAt.adds) | (with_reducible apply RdAt.alloc) | (with_reducible exact RdAt.set hR.out _) | (with_reducible apply RdAt.drew))) (by omega) (by omega)).mono ?_; rintro e w' ⟨v, p1, k1, rfl, hp1, rfl⟩)
      go_cut [] (fun wx => ∃ (q : Nat) (f' : Nat → Int) (oo' : Array Obj) (nn' : Nat), q ≤ p + 60 ∧ wx = addsW (((w.setCell ⟨B, 1, none⟩ (.int .i64 (q : Int))).alloc (.cells e0 25)).alloc (.cells (eA f' g v1 u l) 25)) oo' nn')
      case first =>
        cases v
        · go_wp2_with fail
          go_meet
          exact ⟨_, f, _, _, by omega, rfl⟩
        · have sz : ∀ f' : Nat → Int, (eA f' g v1 u l).size = 11 := fun _ => rfl
          go_wp2_with fail
          (refine (S_pick B _ _ _ (by repeat (first | (with_reducible exact hR.out) | (with_reducible apply RdAt.adds) | (with_reducible apply RdAt.alloc) | (with_reducible exact RdAt.set hR.out _) | (with_reducible apply RdAt.drew))) (by omega)).mono ?_; rintro e w' ⟨v7, p7, k7, rfl, hv, hp7, rfl⟩; have hv7 := hv.1 (by omega); clear hv)
          have cu := eA_up (f := f) (g := g) (c := v1) (u := u) (l := l) (show v7.toNat < 4 by omega)
          have s1 : v7.toNat < 11 := by omega
          go_wp2_with (go_at_call 19; refine (S_pick B _ _ _ (by repeat (first | (with_reducible exact hR.out) | (with_reducible apply RdAt.adds) | (with_reducible apply RdAt.alloc) | (with_reducible exact RdAt.set hR.out _) | (with_reducible apply RdAt.drew))) (by omega)).mono ?_; rintro e w' ⟨v, p1, k1, rfl, hv, hp1, rfl⟩; have hv' := hv.1 (by omega); clear hv)
          try simp only [alloc_addsW, adds_addsW]
          simp only [eA_setU (show v7.toNat < 4 by omega)]
          go_meet
          exact ⟨_, _, _, _, by omega, rfl⟩
      case rest =>
        obtain ⟨q', f', oo', nn', hq', rfl⟩ := hcut
        simp only [eA, e0]
        go_wp2_with fail
        go_returns
        exact ⟨f', g, v1, u, l, rfl, (by repeat (first | (with_reducible apply Moved.adds) | (with_reducible apply Moved.alloc) | (with_reducible apply Moved.drew) | (exact Moved.base (by omega))))⟩

end Go.Proofs.Ythnigldbpikcaaa
