/- A macroblock drawn. -/
import Derived.Test.YtggkelehjdepkaaDrawN
namespace Go.Proofs.Ytggkelehjdepkaa
open Go.RowKit
set_option linter.unusedVariables false
set_option linter.unusedSimpArgs false

attribute [local go_sem] size_addsW cell?_addsW frozen?_addsW setCell_addsW drew_addsW adds_addsW setCell_twice alloc_adds0 size_adds0 adds_adds0 sel2 sel3 sel4 sel5 sel6 sel7 sel8 sel9 lt_more lt_more2 lt_more3 lt_more4 adds_drew adds_drewN drewN_addsW ltA_1_1 ltA_1_2 ltA_1_3 ltA_1_4 ltA_1_5 ltA_1_6 ltA_2_1 ltA_2_2 ltA_2_3 ltA_2_4 ltA_2_5 ltA_2_6 ltA_3_1 ltA_3_2 ltA_3_3 ltA_3_4 ltA_3_5 ltA_3_6 ltA_4_1 ltA_4_2 ltA_4_3 ltA_4_4 ltA_4_5 ltA_4_6 ltA_5_1 ltA_5_2 ltA_5_3 ltA_5_4 ltA_5_5 ltA_5_6 ltA_6_1 ltA_6_2 ltA_6_3 ltA_6_4 ltA_6_5 ltA_6_6 ltA_7_1 ltA_7_2 ltA_7_3 ltA_7_4 ltA_7_5 ltA_7_6 ltA_8_1 ltA_8_2 ltA_8_3 ltA_8_4 ltA_8_5 ltA_8_6 ltA_9_1 ltA_9_2 ltA_9_3 ltA_9_4 ltA_9_5 ltA_9_6 ltA_10_1 ltA_10_2 ltA_10_3 ltA_10_4 ltA_10_5 ltA_10_6 ltA_11_1 ltA_11_2 ltA_11_3 ltA_11_4 ltA_11_5 ltA_11_6 ltA_12_1 ltA_12_2 ltA_12_3 ltA_12_4 ltA_12_5 ltA_12_6

theorem setRow2y (X : World) (u y cs : Array Value) (t2 t3 : TypeId) (oo : Array Obj) (nn g : Nat) (hg : g = X.heap.size + 1) :
    (addsW ((X.alloc (.cells u t2)).alloc (.cells y t3)) oo nn).setRow g cs = addsW ((X.alloc (.cells u t2)).alloc (.cells cs t3)) oo nn := by
  subst hg; rw [setRow_addsW _ _ _ _ _ (by simp), setRow_alloc _ _ _ _ _ (by simp)]
theorem zcMac : Try.zeroCells29 = rowI (zL 71) := by kernel_rfl
theorem infoMacD : (Try.prog.info? 29).map (·.size) = some 71 := by kernel_rfl

/-- the world while a macroblock is drawn -/
def MacW (w : World) (B p K : Nat) (wx : World) : Prop :=
  ∃ (q : Nat) (zs : List Int) (oo : Array Obj) (nn : Nat), q ≤ p + K ∧ zs.length = 71 ∧
    wx = addsW (((w.setCell ⟨B, 1, none⟩ (.int .i64 (q : Int))).alloc (.cells (rowI (zL 71)) 29)).alloc (.cells (rowI zs) 29)) oo nn

def MacRel (w : World) (B p : Nat) (i : Value) (wr : World) : Prop :=
  ∃ (k q : Nat) (zs : List Int) (oo : Array Obj) (nn : Nat), k ≤ 4 ∧ i = .int .i64 (k : Int) ∧ q ≤ p + 20 + 150 * k ∧ zs.length = 71 ∧
    wr = addsW (((w.setCell ⟨B, 1, none⟩ (.int .i64 (q : Int))).alloc (.cells (rowI (zL 71)) 29)).alloc (.cells (rowI zs) 29)) oo nn

set_option maxRecDepth 100000 in
set_option maxHeartbeats 4000000 in
theorem S_l20Macro (B p : Nat) (b : Bool) (n : Int) (w : World) (h : RdAt w B p) (hp : p ≤ 800000000) (hn : -1000000 ≤ n) :
    Calls Try.prog 32 #[.pointer (some ⟨B, 0, none⟩), .bool b, .int .i64 n] w fun e w' => ∃ zs : List Int, e = .returned (.agg (rowI zs)) ∧ zs.length = 71 ∧ Moved w B p 1000 w' := by
  have hB := h.lt
  have hR := Lib.hid h
  clear h
  go_enter Try.func32, Try.ntmps32
  go_upto_region 2 with (first | (simp only [zcMac, rowI_set]) | (go_at_call 31; refine (S_pick B _ _ _ (by repeat (first | (with_reducible exact hR.out) | (with_reducible apply RdAt.adds) | (with_reducible apply RdAt.alloc) | (with_reducible exact RdAt.set hR.out _) | (with_reducible apply RdAt.drew))) (by omega)).mono ?_; rintro e w' ⟨v, p1, k1, rfl, hv, hp1, rfl⟩; have hv' := hv.1 (by omega); clear hv) | (focus ((with_reducible refine wpList_wanted ?_ (fun K hK => ?_)); rotate_left; (refine wp_store_sub 29 (.tmp 7) (.tmp 11) ?ho (w.heap.size + 1) 0 ?xs ?hx ?hy 29 (zL 71) ?hg ?hi ?hfit (hK _ _ ?_)); (case ho => with_reducible rfl); (case hx => rfl); (case hy => rfl); (case hg => exact (heap2x _ _ _ _ _ _ _ _ (by simp [World.setCell])).2); (case hi => rw [List.length_set, zL_len]; exact infoMacD); (case hfit => rw [List.length_set, zL_len]; exact Nat.le_refl _); rw [spl_full (by rw [List.length_set]), setRow2y _ _ _ _ _ _ _ _ _ (by simp [World.setCell])]; rotate_left; rfl)))
  refine all_ys (N := 71) _ (by simp [zL_len]) ?_
  intro zs hz
  go_upto_if 12 with fail
  go_cut [] (fun wx => MacW w B p 10 wx)
  case first =>
    have hc0 := rowI_get (zs := zs) (j := 0) (by omega)
    have hs0 : 0 < (rowI zs).size := by rw [rowI_size, hz]; decide
    have HZ := Lib.hid hz
    clear hz
    cases b
    all_goals
      go_wp2_with fail
      try simp only [rowI_set]
      go_meet
      exact ⟨_, _, _, _, by omega, by first | exact HZ.out | (rw [List.length_set]; exact HZ.out), rfl⟩
  case rest =>
    clear hz
    clear zs
    obtain ⟨q, zs, oo, nn, hq, hz, rfl⟩ := hcut
    have HZ := Lib.hid hz
    clear hz
    have hc0 := rowI_get (zs := zs) (j := 0) (by rw [HZ.out]; omega)
    have hc1 := rowI_get (zs := zs) (j := 1) (by rw [HZ.out]; omega)
    have hc2 := rowI_get (zs := zs) (j := 2) (by rw [HZ.out]; omega)
    have hs1 : 1 < (rowI zs).size := by rw [rowI_size, HZ.out]; decide
    have hs2 : 2 < (rowI zs).size := by rw [rowI_size, HZ.out]; decide
    generalize zs.getD 0 0 = kd at hc0
    generalize zs.getD 1 0 = x at hc1
    generalize zs.getD 2 0 = y at hc2
    go_upto_if 16 with fail
    go_cut [] (fun wx => MacW w B p 20 wx)
    case first =>
      cases hk1 : (kd == 1)
      all_goals
        go_wp2_with (first | (simp only [rowI_set]) | (go_at_call 48; refine (S_l20Vector B _ _ _ (by repeat (first | (with_reducible exact hR.out) | (with_reducible apply RdAt.adds) | (with_reducible apply RdAt.alloc) | (with_reducible exact RdAt.set hR.out _) | (with_reducible apply RdAt.drew))) (by omega) (by omega)).mono ?_; rintro e w' ⟨u, u2, rfl, q0, q1, q2, q3, p2, o2, k2, hp2, rfl⟩))
        try simp only [rowI_set]
        go_meet
        exact ⟨_, _, _, _, by omega, by first | exact HZ.out | simp [HZ.out], rfl⟩
    case rest =>
      clear hc0 hc1 hc2 hs1 hs2 HZ hq
      clear oo nn q zs kd x y
      obtain ⟨q, zs, oo, nn, hq, hz, rfl⟩ := hcut
      have HZ := Lib.hid hz
      clear hz
      go_wp2_with fail
      go_loopw [8] (fun i wr => MacRel w B p i wr) (fun i _ => 4 - (intOf i).toNat)
      case atStart => exact ⟨0, _, _, _, _, Nat.zero_le _, rfl, by omega, HZ.out, rfl⟩
      case round =>
        clear HZ hq
        clear oo nn q zs
        obtain ⟨k, q, zs, oo, nn, hk, rfl, hq, hz, rfl⟩ := hrel
        have HZ := Lib.hid hz
        clear hz
        by_cases hlt : k < 4
        · have hc0 := rowI_get (zs := zs) (j := 0) (by rw [HZ.out]; omega)
          have hck := rowI_get (zs := zs) (j := 2 + 1 + k) (by rw [HZ.out]; omega)
          have hck2 := rowI_get (zs := zs) (j := 3 + k) (by rw [HZ.out]; omega)
          have hsk : 3 + k < (rowI zs).size := by rw [rowI_size, HZ.out]; omega
          generalize zs.getD 0 0 = kd at hc0
          generalize zs.getD (2 + 1 + k) 0 = kd1 at hck
          generalize zs.getD (3 + k) 0 = kd2 at hck2
          have hd1 : decide ((k : Int) < 4) = true := by simp; omega
          cases hk2 : (kd == 2)
          all_goals
            go_upto_region 11 with (first | (simp only [rowI_set]) | (go_at_call 31; refine (S_pick B _ _ _ (by repeat (first | (with_reducible exact hR.out) | (with_reducible apply RdAt.adds) | (with_reducible apply RdAt.alloc) | (with_reducible exact RdAt.set hR.out _) | (with_reducible apply RdAt.drew))) (by omega)).mono ?_; rintro e w' ⟨v, p1, k1, rfl, hv, hp1, rfl⟩; have hv' := hv.1 (by omega); clear hv))
            try simp only [rowI_set]
            refine all_ys (N := 71) _ (by first | exact HZ.out | simp [HZ.out]) ?_
            clear hc0 hck hck2 hsk HZ
            intro zs hz
            have HZ := Lib.hid hz
            clear hz
            have hc0 := rowI_get (zs := zs) (j := 0) (by rw [HZ.out]; omega)
            generalize zs.getD 0 0 = ke at hc0
            cases hk3 : (ke != 0)
            all_goals
              go_wp2_with (first | (go_at_call 31; refine (S_pick B _ _ _ (by repeat (first | (with_reducible exact hR.out) | (with_reducible apply RdAt.adds) | (with_reducible apply RdAt.alloc) | (with_reducible exact RdAt.set hR.out _) | (with_reducible apply RdAt.drew))) (by omega)).mono ?_; rintro e w' ⟨v, p1, k1, rfl, hv, hp1, rfl⟩; have hv' := hv.1 (by omega); clear hv) | (go_at_call 49; refine (S_l20Block B _ _ _ _ (by repeat (first | (with_reducible exact hR.out) | (with_reducible apply RdAt.adds) | (with_reducible apply RdAt.alloc) | (with_reducible exact RdAt.set hR.out _) | (with_reducible apply RdAt.drew))) (by omega) ⟨(selB _ 0 4080 (by decide)).1, (selB _ 0 4080 (by decide)).2⟩ (by omega)).mono ?_; rintro e w' ⟨bs, rfl, hbl, p2, o2, k2, hp2, rfl⟩) | (focus ((with_reducible refine wpList_wanted ?_ (fun K hK => ?_)); rotate_left; (try simp only [alloc_addsW, adds_addsW]); (refine wp_store_sub 26 (.tmp 49) (.tmp 47) ?ho (w.heap.size + 1) (7 + k * 16) bs ?hx ?hy 29 zs ?hg ?hi ?hfit (hK _ _ ?_)); (case ho => with_reducible rfl); (case hx => rfl); (case hy => rfl); (case hg => exact (heap2x _ _ _ _ _ _ _ _ (by simp [World.setCell])).2); (case hi => rw [hbl]; exact infoA16); (case hfit => rw [hbl, HZ.out]; omega); rw [setRow2y _ _ _ _ _ _ _ _ _ (by simp [World.setCell])]; rotate_left; rfl)))
              all_goals
                go_roundw
                case rel => exact ⟨k + 1, _, _, _, _, by omega, by go_num, by omega, by first | exact HZ.out | (rw [spl_len (by rw [hbl, HZ.out]; omega)]; exact HZ.out), rfl⟩
                case measure => simp [intOf]; omega
        · obtain rfl : k = 4 := by omega
          go_upto_if 52 with (go_at_call 50; refine (S_odd B _ _ _ (by repeat (first | (with_reducible exact hR.out) | (with_reducible apply RdAt.adds) | (with_reducible apply RdAt.alloc) | (with_reducible exact RdAt.set hR.out _) | (with_reducible apply RdAt.drew))) (by omega) (by omega)).mono ?_; rintro e w' ⟨v, p1, k1, rfl, hp1, rfl⟩)
          go_cut [] (fun wx => MacW w B p 700 wx)
          case first =>
            cases v
            · go_wp2_with fail
              go_meet
              exact ⟨_, _, _, _, by omega, HZ.out, rfl⟩
            · have hs0 : 0 < (rowI zs).size := by rw [rowI_size, HZ.out]; decide
              have hs1 : 1 < (rowI zs).size := by rw [rowI_size, HZ.out]; decide
              have hs2 : 2 < (rowI zs).size := by rw [rowI_size, HZ.out]; decide
              go_upto_region 16 with (go_at_call 31; refine (S_pick B _ _ _ (by repeat (first | (with_reducible exact hR.out) | (with_reducible apply RdAt.adds) | (with_reducible apply RdAt.alloc) | (with_reducible exact RdAt.set hR.out _) | (with_reducible apply RdAt.drew))) (by omega)).mono ?_; rintro e w' ⟨v, p1, k1, rfl, hv, hp1, rfl⟩; have hv' := hv.1 (by omega); clear hv)
              rcases (show v = 0 ∨ v = 1 ∨ v = 2 ∨ v = 3 ∨ v = 4 by omega) with rfl | rfl | rfl | rfl | rfl
              · go_wp2_with (first | (simp only [rowI_set]) | (go_at_call 31; refine (S_pick B _ _ _ (by repeat (first | (with_reducible exact hR.out) | (with_reducible apply RdAt.adds) | (with_reducible apply RdAt.alloc) | (with_reducible exact RdAt.set hR.out _) | (with_reducible apply RdAt.drew))) (by omega)).mono ?_; rintro e w' ⟨v, p1, k1, rfl, hv, hp1, rfl⟩; have hv' := hv.1 (by omega); clear hv))
                try simp only [rowI_set, alloc_addsW, adds_addsW]
                go_meet
                exact ⟨_, _, _, _, by omega, by first | exact HZ.out | simp [HZ.out], rfl⟩
              · go_wp2_with fail
                try simp only [rowI_set, alloc_addsW, adds_addsW]
                go_meet
                exact ⟨_, _, _, _, by omega, by first | exact HZ.out | simp [HZ.out], rfl⟩
              · go_wp2_with (first | (simp only [rowI_set]) | ((go_at_call 31; refine (S_pick B _ _ _ (by repeat (first | (with_reducible exact hR.out) | (with_reducible apply RdAt.adds) | (with_reducible apply RdAt.alloc) | (with_reducible exact RdAt.set hR.out _) | (with_reducible apply RdAt.drew))) (by omega)).mono ?_; rintro e w' ⟨v, p1, k1, rfl, hv, hp1, rfl⟩; have hv' := hv.1 (by omega); clear hv); have hsj : 3 + v.toNat < (rowI zs).size := by rw [rowI_size, HZ.out]; omega))
                try simp only [rowI_set, alloc_addsW, adds_addsW]
                go_meet
                exact ⟨_, _, _, _, by omega, by first | exact HZ.out | simp [HZ.out], rfl⟩
              · have hAll : ∀ a b : Int, (0 ≤ a ∧ a < 4) → (0 ≤ b ∧ b < 16) → 7 + a.toNat * 16 + b.toNat < (rowI zs).size := by
                  intro a b ha hb
                  rw [rowI_size, HZ.out]
                  omega
                go_upto_region 23 with fail
                refine wp_region_held_drew (S := (fun w' => True)) (by kernel_rfl) ?_ (fun hHeld => ?_)
                · trivial
                refine wpAnyH_take (i := 0) (oi := _) (v := ?_) rfl (by kernel_rfl) (by kernel_rfl) (by kernel_rfl) (fun _ _ _ h => h) (Or.inl ⟨by rfl, ?_⟩) (by assumption) ?_
                rotate_left
                · intro w hSw; (try dsimp only at hSw); go_simp; (try with_reducible rfl)
                try dsimp only [List.getElem_toArray, List.getElem_cons_succ, List.getElem_cons_zero]
                simp only [Act.put, List.setIfInBounds_toArray, List.set_cons_zero, List.set_cons_succ]
                refine wpAnyH_take (i := 2) (oi := _) (v := ?_) rfl (by kernel_rfl) (by kernel_rfl) (by kernel_rfl) (fun _ _ _ h => h) (Or.inl ⟨by rfl, ?_⟩) (by assumption) ?_
                rotate_left
                · intro w hSw; (try dsimp only at hSw); go_simp; (try with_reducible rfl)
                try dsimp only [List.getElem_toArray, List.getElem_cons_succ, List.getElem_cons_zero]
                simp only [Act.put, List.setIfInBounds_toArray, List.set_cons_zero, List.set_cons_succ]
                refine wpAnyH_take (i := 5) (oi := _) (v := ?_) rfl (by kernel_rfl) (by kernel_rfl) (by kernel_rfl) (fun _ _ _ h => h) (Or.inl ⟨by rfl, ?_⟩) (by assumption) ?_
                rotate_left
                · intro w hSw; (try dsimp only at hSw); go_simp; (try with_reducible rfl)
                try dsimp only [List.getElem_toArray, List.getElem_cons_succ, List.getElem_cons_zero]
                simp only [Act.put, List.setIfInBounds_toArray, List.set_cons_zero, List.set_cons_succ]
                refine wpAnyH_take (i := 9) (oi := _) (v := ?_) rfl (by kernel_rfl) (by kernel_rfl) (by kernel_rfl) (fun _ _ _ h => h) (Or.inl ⟨by rfl, ?_⟩) (by assumption) ?_
                rotate_left
                · intro w hSw; (try dsimp only at hSw); go_simp; (try with_reducible rfl)
                try dsimp only [List.getElem_toArray, List.getElem_cons_succ, List.getElem_cons_zero]
                simp only [Act.put, List.setIfInBounds_toArray, List.set_cons_zero, List.set_cons_succ]
                refine wpAnyH_ready (rs := [1, 4]) (by kernel_rfl) (by simp) ?_
                refine AllReadyH.cons (o := _) rfl (fun K hK => ?_) ?_
                · (try dsimp only [List.getElem_toArray, List.getElem_cons_succ, List.getElem_cons_zero]); go_simp
                  ((go_at_call 31; refine (S_pick B _ _ _ (by repeat (first | (with_reducible exact hR.out) | (with_reducible apply RdAt.adds) | (with_reducible apply RdAt.alloc) | (with_reducible exact RdAt.set hR.out _) | (with_reducible apply RdAt.drew))) (by omega)).mono ?_; rintro e w' ⟨v, p1, k1, rfl, hv, hp1, rfl⟩; have hv' := hv.1 (by omega); clear hv); try have hsj := hAll _ _ (by assumption) hv')
                  try go_wp2_with fail
                  refine hK.out _ _ ?_ (fun hHeld => ?_)
                  · trivial
                  clear hK K
                  try simp only [Act.put, List.setIfInBounds_toArray, List.set_cons_zero, List.set_cons_succ]
                  refine wpAnyH_take (i := 10) (oi := _) (v := ?_) rfl (by kernel_rfl) (by kernel_rfl) (by kernel_rfl) (fun _ _ _ h => h) (Or.inl ⟨by rfl, ?_⟩) (by assumption) ?_
                  rotate_left
                  · intro w hSw; (try dsimp only at hSw); go_simp; (try with_reducible rfl)
                  try dsimp only [List.getElem_toArray, List.getElem_cons_succ, List.getElem_cons_zero]
                  simp only [Act.put, List.setIfInBounds_toArray, List.set_cons_zero, List.set_cons_succ]
                  refine wpAnyH_ready (rs := [3, 4]) (by kernel_rfl) (by simp) ?_
                  refine AllReadyH.cons (o := _) rfl (fun K hK => ?_) ?_
                  · (try dsimp only [List.getElem_toArray, List.getElem_cons_succ, List.getElem_cons_zero]); go_simp
                    ((go_at_call 31; refine (S_pick B _ _ _ (by repeat (first | (with_reducible exact hR.out) | (with_reducible apply RdAt.adds) | (with_reducible apply RdAt.alloc) | (with_reducible exact RdAt.set hR.out _) | (with_reducible apply RdAt.drew))) (by omega)).mono ?_; rintro e w' ⟨v, p1, k1, rfl, hv, hp1, rfl⟩; have hv' := hv.1 (by omega); clear hv); try have hsj := hAll _ _ (by assumption) hv')
                    try go_wp2_with fail
                    refine hK.out _ _ ?_ (fun hHeld => ?_)
                    · trivial
                    clear hK K
                    try simp only [Act.put, List.setIfInBounds_toArray, List.set_cons_zero, List.set_cons_succ]
                    refine wpAnyH_ready (rs := [4, 6]) (by kernel_rfl) (by simp) ?_
                    refine AllReadyH.cons (o := _) rfl (fun K hK => ?_) ?_
                    · (try dsimp only [List.getElem_toArray, List.getElem_cons_succ, List.getElem_cons_zero]); go_simp
                      refine hK.out _ _ ?_ (fun hHeld => ?_)
                      · trivial
                      clear hK K
                      try simp only [Act.put, List.setIfInBounds_toArray, List.set_cons_zero, List.set_cons_succ]
                      refine wpAnyH_ready (rs := [6]) (by kernel_rfl) (by simp) ?_
                      refine AllReadyH.cons (o := _) rfl (fun K hK => ?_) ?_
                      · (try dsimp only [List.getElem_toArray, List.getElem_cons_succ, List.getElem_cons_zero]); go_simp
                        ((go_at_call 31; refine (S_pick B _ _ _ (by repeat (first | (with_reducible exact hR.out) | (with_reducible apply RdAt.adds) | (with_reducible apply RdAt.alloc) | (with_reducible exact RdAt.set hR.out _) | (with_reducible apply RdAt.drew))) (by omega)).mono ?_; rintro e w' ⟨v, p1, k1, rfl, hv, hp1, rfl⟩; have hv' := hv.1 (by omega); clear hv); try have hsj := hAll _ _ (by assumption) hv')
                        try go_wp2_with fail
                        refine hK.out _ _ ?_ (fun hHeld => ?_)
                        · trivial
                        clear hK K
                        try simp only [Act.put, List.setIfInBounds_toArray, List.set_cons_zero, List.set_cons_succ]
                        refine wpAnyH_take (i := 7) (oi := _) (v := ?_) rfl (by kernel_rfl) (by kernel_rfl) (by kernel_rfl) (fun _ _ _ h => h) (Or.inl ⟨by rfl, ?_⟩) (by assumption) ?_
                        rotate_left
                        · intro w hSw; (try dsimp only at hSw); go_simp; (try with_reducible rfl)
                        try dsimp only [List.getElem_toArray, List.getElem_cons_succ, List.getElem_cons_zero]
                        simp only [Act.put, List.setIfInBounds_toArray, List.set_cons_zero, List.set_cons_succ]
                        refine wpAnyH_ready (rs := [8]) (by kernel_rfl) (by simp) ?_
                        refine AllReadyH.cons (o := _) rfl (fun K hK => ?_) ?_
                        · (try dsimp only [List.getElem_toArray, List.getElem_cons_succ, List.getElem_cons_zero]); go_simp
                          refine hK.out _ _ ?_ (fun hHeld => ?_)
                          · trivial
                          clear hK K
                          try simp only [Act.put, List.setIfInBounds_toArray, List.set_cons_zero, List.set_cons_succ]
                          refine wpAnyH_take (i := 11) (oi := _) (v := ?_) rfl (by kernel_rfl) (by kernel_rfl) (by kernel_rfl) (fun _ _ _ h => h) (Or.inl ⟨by rfl, ?_⟩) (by assumption) ?_
                          rotate_left
                          · intro w hSw; (try dsimp only at hSw); go_simp; (try with_reducible rfl)
                          try dsimp only [List.getElem_toArray, List.getElem_cons_succ, List.getElem_cons_zero]
                          simp only [Act.put, List.setIfInBounds_toArray, List.set_cons_zero, List.set_cons_succ]
                          refine wpAnyH_ready (rs := [12]) (by kernel_rfl) (by simp) ?_
                          refine AllReadyH.cons (o := _) rfl (fun K hK => ?_) ?_
                          · (try dsimp only [List.getElem_toArray, List.getElem_cons_succ, List.getElem_cons_zero]); go_simp
                            refine hK.out _ _ ?_ (fun hHeld => ?_)
                            · trivial
                            clear hK K
                            try simp only [Act.put, List.setIfInBounds_toArray, List.set_cons_zero, List.set_cons_succ]
                            refine wpAnyH_done (by kernel_rfl) ?_ _
                            go_wp2_with fail
                            try simp only [rowI_set, alloc_addsW, adds_addsW]
                            go_meet
                            exact ⟨_, _, _, _, by omega, by first | exact HZ.out | simp [HZ.out], rfl⟩
                          exact AllReadyH.nil
                        exact AllReadyH.nil
                      exact AllReadyH.nil
                    refine AllReadyH.cons (o := _) rfl (fun K hK => ?_) ?_
                    · (try dsimp only [List.getElem_toArray, List.getElem_cons_succ, List.getElem_cons_zero]); go_simp
                      ((go_at_call 31; refine (S_pick B _ _ _ (by repeat (first | (with_reducible exact hR.out) | (with_reducible apply RdAt.adds) | (with_reducible apply RdAt.alloc) | (with_reducible exact RdAt.set hR.out _) | (with_reducible apply RdAt.drew))) (by omega)).mono ?_; rintro e w' ⟨v, p1, k1, rfl, hv, hp1, rfl⟩; have hv' := hv.1 (by omega); clear hv); try have hsj := hAll _ _ (by assumption) hv')
                      try go_wp2_with fail
                      refine hK.out _ _ ?_ (fun hHeld => ?_)
                      · trivial
                      clear hK K
                      try simp only [Act.put, List.setIfInBounds_toArray, List.set_cons_zero, List.set_cons_succ]
                      refine wpAnyH_ready (rs := [4]) (by kernel_rfl) (by simp) ?_
                      refine AllReadyH.cons (o := _) rfl (fun K hK => ?_) ?_
                      · (try dsimp only [List.getElem_toArray, List.getElem_cons_succ, List.getElem_cons_zero]); go_simp
                        refine hK.out _ _ ?_ (fun hHeld => ?_)
                        · trivial
                        clear hK K
                        try simp only [Act.put, List.setIfInBounds_toArray, List.set_cons_zero, List.set_cons_succ]
                        refine wpAnyH_take (i := 7) (oi := _) (v := ?_) rfl (by kernel_rfl) (by kernel_rfl) (by kernel_rfl) (fun _ _ _ h => h) (Or.inl ⟨by rfl, ?_⟩) (by assumption) ?_
                        rotate_left
                        · intro w hSw; (try dsimp only at hSw); go_simp; (try with_reducible rfl)
                        try dsimp only [List.getElem_toArray, List.getElem_cons_succ, List.getElem_cons_zero]
                        simp only [Act.put, List.setIfInBounds_toArray, List.set_cons_zero, List.set_cons_succ]
                        refine wpAnyH_ready (rs := [8]) (by kernel_rfl) (by simp) ?_
                        refine AllReadyH.cons (o := _) rfl (fun K hK => ?_) ?_
                        · (try dsimp only [List.getElem_toArray, List.getElem_cons_succ, List.getElem_cons_zero]); go_simp
                          refine hK.out _ _ ?_ (fun hHeld => ?_)
                          · trivial
                          clear hK K
                          try simp only [Act.put, List.setIfInBounds_toArray, List.set_cons_zero, List.set_cons_succ]
                          refine wpAnyH_take (i := 11) (oi := _) (v := ?_) rfl (by kernel_rfl) (by kernel_rfl) (by kernel_rfl) (fun _ _ _ h => h) (Or.inl ⟨by rfl, ?_⟩) (by assumption) ?_
                          rotate_left
                          · intro w hSw; (try dsimp only at hSw); go_simp; (try with_reducible rfl)
                          try dsimp only [List.getElem_toArray, List.getElem_cons_succ, List.getElem_cons_zero]
                          simp only [Act.put, List.setIfInBounds_toArray, List.set_cons_zero, List.set_cons_succ]
                          refine wpAnyH_ready (rs := [12]) (by kernel_rfl) (by simp) ?_
                          refine AllReadyH.cons (o := _) rfl (fun K hK => ?_) ?_
                          · (try dsimp only [List.getElem_toArray, List.getElem_cons_succ, List.getElem_cons_zero]); go_simp
                            refine hK.out _ _ ?_ (fun hHeld => ?_)
                            · trivial
                            clear hK K
                            try simp only [Act.put, List.setIfInBounds_toArray, List.set_cons_zero, List.set_cons_succ]
                            refine wpAnyH_done (by kernel_rfl) ?_ _
                            go_wp2_with fail
                            try simp only [rowI_set, alloc_addsW, adds_addsW]
                            go_meet
                            exact ⟨_, _, _, _, by omega, by first | exact HZ.out | simp [HZ.out], rfl⟩
                          exact AllReadyH.nil
                        exact AllReadyH.nil
                      exact AllReadyH.nil
                    exact AllReadyH.nil
                  refine AllReadyH.cons (o := _) rfl (fun K hK => ?_) ?_
                  · (try dsimp only [List.getElem_toArray, List.getElem_cons_succ, List.getElem_cons_zero]); go_simp
                    refine hK.out _ _ ?_ (fun hHeld => ?_)
                    · trivial
                    clear hK K
                    try simp only [Act.put, List.setIfInBounds_toArray, List.set_cons_zero, List.set_cons_succ]
                    refine wpAnyH_ready (rs := [3]) (by kernel_rfl) (by simp) ?_
                    refine AllReadyH.cons (o := _) rfl (fun K hK => ?_) ?_
                    · (try dsimp only [List.getElem_toArray, List.getElem_cons_succ, List.getElem_cons_zero]); go_simp
                      ((go_at_call 31; refine (S_pick B _ _ _ (by repeat (first | (with_reducible exact hR.out) | (with_reducible apply RdAt.adds) | (with_reducible apply RdAt.alloc) | (with_reducible exact RdAt.set hR.out _) | (with_reducible apply RdAt.drew))) (by omega)).mono ?_; rintro e w' ⟨v, p1, k1, rfl, hv, hp1, rfl⟩; have hv' := hv.1 (by omega); clear hv); try have hsj := hAll _ _ (by assumption) hv')
                      try go_wp2_with fail
                      refine hK.out _ _ ?_ (fun hHeld => ?_)
                      · trivial
                      clear hK K
                      try simp only [Act.put, List.setIfInBounds_toArray, List.set_cons_zero, List.set_cons_succ]
                      refine wpAnyH_ready (rs := [6]) (by kernel_rfl) (by simp) ?_
                      refine AllReadyH.cons (o := _) rfl (fun K hK => ?_) ?_
                      · (try dsimp only [List.getElem_toArray, List.getElem_cons_succ, List.getElem_cons_zero]); go_simp
                        ((go_at_call 31; refine (S_pick B _ _ _ (by repeat (first | (with_reducible exact hR.out) | (with_reducible apply RdAt.adds) | (with_reducible apply RdAt.alloc) | (with_reducible exact RdAt.set hR.out _) | (with_reducible apply RdAt.drew))) (by omega)).mono ?_; rintro e w' ⟨v, p1, k1, rfl, hv, hp1, rfl⟩; have hv' := hv.1 (by omega); clear hv); try have hsj := hAll _ _ (by assumption) hv')
                        try go_wp2_with fail
                        refine hK.out _ _ ?_ (fun hHeld => ?_)
                        · trivial
                        clear hK K
                        try simp only [Act.put, List.setIfInBounds_toArray, List.set_cons_zero, List.set_cons_succ]
                        refine wpAnyH_take (i := 7) (oi := _) (v := ?_) rfl (by kernel_rfl) (by kernel_rfl) (by kernel_rfl) (fun _ _ _ h => h) (Or.inl ⟨by rfl, ?_⟩) (by assumption) ?_
                        rotate_left
                        · intro w hSw; (try dsimp only at hSw); go_simp; (try with_reducible rfl)
                        try dsimp only [List.getElem_toArray, List.getElem_cons_succ, List.getElem_cons_zero]
                        simp only [Act.put, List.setIfInBounds_toArray, List.set_cons_zero, List.set_cons_succ]
                        refine wpAnyH_ready (rs := [8]) (by kernel_rfl) (by simp) ?_
                        refine AllReadyH.cons (o := _) rfl (fun K hK => ?_) ?_
                        · (try dsimp only [List.getElem_toArray, List.getElem_cons_succ, List.getElem_cons_zero]); go_simp
                          refine hK.out _ _ ?_ (fun hHeld => ?_)
                          · trivial
                          clear hK K
                          try simp only [Act.put, List.setIfInBounds_toArray, List.set_cons_zero, List.set_cons_succ]
                          refine wpAnyH_take (i := 11) (oi := _) (v := ?_) rfl (by kernel_rfl) (by kernel_rfl) (by kernel_rfl) (fun _ _ _ h => h) (Or.inl ⟨by rfl, ?_⟩) (by assumption) ?_
                          rotate_left
                          · intro w hSw; (try dsimp only at hSw); go_simp; (try with_reducible rfl)
                          try dsimp only [List.getElem_toArray, List.getElem_cons_succ, List.getElem_cons_zero]
                          simp only [Act.put, List.setIfInBounds_toArray, List.set_cons_zero, List.set_cons_succ]
                          refine wpAnyH_ready (rs := [12]) (by kernel_rfl) (by simp) ?_
                          refine AllReadyH.cons (o := _) rfl (fun K hK => ?_) ?_
                          · (try dsimp only [List.getElem_toArray, List.getElem_cons_succ, List.getElem_cons_zero]); go_simp
                            refine hK.out _ _ ?_ (fun hHeld => ?_)
                            · trivial
                            clear hK K
                            try simp only [Act.put, List.setIfInBounds_toArray, List.set_cons_zero, List.set_cons_succ]
                            refine wpAnyH_done (by kernel_rfl) ?_ _
                            go_wp2_with fail
                            try simp only [rowI_set, alloc_addsW, adds_addsW]
                            go_meet
                            exact ⟨_, _, _, _, by omega, by first | exact HZ.out | simp [HZ.out], rfl⟩
                          exact AllReadyH.nil
                        exact AllReadyH.nil
                      exact AllReadyH.nil
                    exact AllReadyH.nil
                  exact AllReadyH.nil
                refine AllReadyH.cons (o := _) rfl (fun K hK => ?_) ?_
                · (try dsimp only [List.getElem_toArray, List.getElem_cons_succ, List.getElem_cons_zero]); go_simp
                  refine hK.out _ _ ?_ (fun hHeld => ?_)
                  · trivial
                  clear hK K
                  try simp only [Act.put, List.setIfInBounds_toArray, List.set_cons_zero, List.set_cons_succ]
                  refine wpAnyH_ready (rs := [1]) (by kernel_rfl) (by simp) ?_
                  refine AllReadyH.cons (o := _) rfl (fun K hK => ?_) ?_
                  · (try dsimp only [List.getElem_toArray, List.getElem_cons_succ, List.getElem_cons_zero]); go_simp
                    ((go_at_call 31; refine (S_pick B _ _ _ (by repeat (first | (with_reducible exact hR.out) | (with_reducible apply RdAt.adds) | (with_reducible apply RdAt.alloc) | (with_reducible exact RdAt.set hR.out _) | (with_reducible apply RdAt.drew))) (by omega)).mono ?_; rintro e w' ⟨v, p1, k1, rfl, hv, hp1, rfl⟩; have hv' := hv.1 (by omega); clear hv); try have hsj := hAll _ _ (by assumption) hv')
                    try go_wp2_with fail
                    refine hK.out _ _ ?_ (fun hHeld => ?_)
                    · trivial
                    clear hK K
                    try simp only [Act.put, List.setIfInBounds_toArray, List.set_cons_zero, List.set_cons_succ]
                    refine wpAnyH_take (i := 10) (oi := _) (v := ?_) rfl (by kernel_rfl) (by kernel_rfl) (by kernel_rfl) (fun _ _ _ h => h) (Or.inl ⟨by rfl, ?_⟩) (by assumption) ?_
                    rotate_left
                    · intro w hSw; (try dsimp only at hSw); go_simp; (try with_reducible rfl)
                    try dsimp only [List.getElem_toArray, List.getElem_cons_succ, List.getElem_cons_zero]
                    simp only [Act.put, List.setIfInBounds_toArray, List.set_cons_zero, List.set_cons_succ]
                    refine wpAnyH_ready (rs := [3]) (by kernel_rfl) (by simp) ?_
                    refine AllReadyH.cons (o := _) rfl (fun K hK => ?_) ?_
                    · (try dsimp only [List.getElem_toArray, List.getElem_cons_succ, List.getElem_cons_zero]); go_simp
                      ((go_at_call 31; refine (S_pick B _ _ _ (by repeat (first | (with_reducible exact hR.out) | (with_reducible apply RdAt.adds) | (with_reducible apply RdAt.alloc) | (with_reducible exact RdAt.set hR.out _) | (with_reducible apply RdAt.drew))) (by omega)).mono ?_; rintro e w' ⟨v, p1, k1, rfl, hv, hp1, rfl⟩; have hv' := hv.1 (by omega); clear hv); try have hsj := hAll _ _ (by assumption) hv')
                      try go_wp2_with fail
                      refine hK.out _ _ ?_ (fun hHeld => ?_)
                      · trivial
                      clear hK K
                      try simp only [Act.put, List.setIfInBounds_toArray, List.set_cons_zero, List.set_cons_succ]
                      refine wpAnyH_ready (rs := [6]) (by kernel_rfl) (by simp) ?_
                      refine AllReadyH.cons (o := _) rfl (fun K hK => ?_) ?_
                      · (try dsimp only [List.getElem_toArray, List.getElem_cons_succ, List.getElem_cons_zero]); go_simp
                        ((go_at_call 31; refine (S_pick B _ _ _ (by repeat (first | (with_reducible exact hR.out) | (with_reducible apply RdAt.adds) | (with_reducible apply RdAt.alloc) | (with_reducible exact RdAt.set hR.out _) | (with_reducible apply RdAt.drew))) (by omega)).mono ?_; rintro e w' ⟨v, p1, k1, rfl, hv, hp1, rfl⟩; have hv' := hv.1 (by omega); clear hv); try have hsj := hAll _ _ (by assumption) hv')
                        try go_wp2_with fail
                        refine hK.out _ _ ?_ (fun hHeld => ?_)
                        · trivial
                        clear hK K
                        try simp only [Act.put, List.setIfInBounds_toArray, List.set_cons_zero, List.set_cons_succ]
                        refine wpAnyH_take (i := 7) (oi := _) (v := ?_) rfl (by kernel_rfl) (by kernel_rfl) (by kernel_rfl) (fun _ _ _ h => h) (Or.inl ⟨by rfl, ?_⟩) (by assumption) ?_
                        rotate_left
                        · intro w hSw; (try dsimp only at hSw); go_simp; (try with_reducible rfl)
                        try dsimp only [List.getElem_toArray, List.getElem_cons_succ, List.getElem_cons_zero]
                        simp only [Act.put, List.setIfInBounds_toArray, List.set_cons_zero, List.set_cons_succ]
                        refine wpAnyH_ready (rs := [8]) (by kernel_rfl) (by simp) ?_
                        refine AllReadyH.cons (o := _) rfl (fun K hK => ?_) ?_
                        · (try dsimp only [List.getElem_toArray, List.getElem_cons_succ, List.getElem_cons_zero]); go_simp
                          refine hK.out _ _ ?_ (fun hHeld => ?_)
                          · trivial
                          clear hK K
                          try simp only [Act.put, List.setIfInBounds_toArray, List.set_cons_zero, List.set_cons_succ]
                          refine wpAnyH_take (i := 11) (oi := _) (v := ?_) rfl (by kernel_rfl) (by kernel_rfl) (by kernel_rfl) (fun _ _ _ h => h) (Or.inl ⟨by rfl, ?_⟩) (by assumption) ?_
                          rotate_left
                          · intro w hSw; (try dsimp only at hSw); go_simp; (try with_reducible rfl)
                          try dsimp only [List.getElem_toArray, List.getElem_cons_succ, List.getElem_cons_zero]
                          simp only [Act.put, List.setIfInBounds_toArray, List.set_cons_zero, List.set_cons_succ]
                          refine wpAnyH_ready (rs := [12]) (by kernel_rfl) (by simp) ?_
                          refine AllReadyH.cons (o := _) rfl (fun K hK => ?_) ?_
                          · (try dsimp only [List.getElem_toArray, List.getElem_cons_succ, List.getElem_cons_zero]); go_simp
                            refine hK.out _ _ ?_ (fun hHeld => ?_)
                            · trivial
                            clear hK K
                            try simp only [Act.put, List.setIfInBounds_toArray, List.set_cons_zero, List.set_cons_succ]
                            refine wpAnyH_done (by kernel_rfl) ?_ _
                            go_wp2_with fail
                            try simp only [rowI_set, alloc_addsW, adds_addsW]
                            go_meet
                            exact ⟨_, _, _, _, by omega, by first | exact HZ.out | simp [HZ.out], rfl⟩
                          exact AllReadyH.nil
                        exact AllReadyH.nil
                      exact AllReadyH.nil
                    exact AllReadyH.nil
                  exact AllReadyH.nil
                exact AllReadyH.nil
              · go_wp2_with fail
                try simp only [rowI_set, alloc_addsW, adds_addsW]
                go_meet
                exact ⟨_, _, _, _, by omega, by first | exact HZ.out | simp [HZ.out], rfl⟩
          case rest =>
            clear HZ hq hp1
            clear oo nn zs v k1
            obtain ⟨q2, zs, oo, nn, hq, hz, rfl⟩ := hcut
            have HZ := Lib.hid hz
            clear hz
            go_wp2_with (first | (focus ((with_reducible refine wpList_wanted ?_ (fun K hK => ?_)); rotate_left; (refine wp_load_sub 29 (.tmp 7) ?ho (w.heap.size + 1) 0 71 ?hx 29 zs (0, 0) _ ?hg Try.underlying29 rfl infoMacD ?hs (hK _ _ ?_)); (case ho => with_reducible rfl); (case hx => rfl); (case hg => exact (heap2x _ _ _ _ _ _ _ _ (by simp [World.setCell])).2); (case hs => rw [HZ.out]; exact Nat.le_refl _); rw [show sub zs 0 71 = zs by rw [← HZ.out]; exact sub_all zs]; rotate_left; rfl)) | (focus ((with_reducible refine wpList_wanted ?_ (fun K hK => ?_)); rotate_left; (refine wp_store_sub 29 (.tmp 6) (.tmp 94) ?ho w.heap.size 0 zs ?hx ?hy 29 (zL 71) ?hg ?hi ?hfit (hK _ _ ?_)); (case ho => with_reducible rfl); (case hx => rfl); (case hy => rfl); (case hg => exact (heap2x _ _ _ _ _ _ _ _ (by simp [World.setCell])).1); (case hi => rw [HZ.out]; exact infoMacD); (case hfit => rw [HZ.out, zL_len]; exact Nat.le_refl _); rw [spl_full (by rw [HZ.out, zL_len])]; rotate_left; rfl)))
            refine bodyPost_ret (v := .agg (rowI zs)) (by exact results_cell_row Try.results32 _ _ w.heap.size 29 (rowI zs) (0, 0) _ rfl (setRow_heap _ _ (rowI (zL 71)) _ _ _ (heap2x _ _ _ _ _ _ _ _ (by simp [World.setCell])).1) Try.underlying29 rfl (by rw [rowI_size, HZ.out]; exact infoMacD)) rfl ?_
            exact ⟨zs, rfl, HZ.out, Moved.row hB (by repeat (first | (with_reducible apply Moved.adds) | (with_reducible apply Moved.alloc) | (with_reducible apply Moved.drew) | (exact Moved.base (by omega)))) (Nat.le_refl _) _⟩

end Go.Proofs.Ytggkelehjdepkaa
