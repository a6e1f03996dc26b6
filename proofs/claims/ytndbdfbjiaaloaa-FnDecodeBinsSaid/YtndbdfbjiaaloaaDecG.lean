/- The reference's decoder: one decision got. -/
import Derived.Test.YtndbdfbjiaaloaaDec
namespace Go.Proofs.Ytndbdfbjiaaloaa
open Go.RowKit
set_option linter.unusedVariables false
set_option linter.unusedSimpArgs false

attribute [local go_sem] size_addsW cell?_addsW frozen?_addsW setCell_addsW drew_addsW adds_addsW setCell_twice alloc_adds0 size_adds0 adds_adds0 sel2 sel3 sel4 sel5 sel6 sel7 sel8 sel9 lt_more lt_more2 lt_more3 lt_more4 adds_drew adds_drewN drewN_addsW ltA_1_1 ltA_1_2 ltA_1_3 ltA_1_4 ltA_1_5 ltA_1_6 ltA_2_1 ltA_2_2 ltA_2_3 ltA_2_4 ltA_2_5 ltA_2_6 ltA_3_1 ltA_3_2 ltA_3_3 ltA_3_4 ltA_3_5 ltA_3_6 ltA_4_1 ltA_4_2 ltA_4_3 ltA_4_4 ltA_4_5 ltA_4_6 ltA_5_1 ltA_5_2 ltA_5_3 ltA_5_4 ltA_5_5 ltA_5_6 ltA_6_1 ltA_6_2 ltA_6_3 ltA_6_4 ltA_6_5 ltA_6_6 ltA_7_1 ltA_7_2 ltA_7_3 ltA_7_4 ltA_7_5 ltA_7_6 ltA_8_1 ltA_8_2 ltA_8_3 ltA_8_4 ltA_8_5 ltA_8_6 ltA_9_1 ltA_9_2 ltA_9_3 ltA_9_4 ltA_9_5 ltA_9_6 ltA_10_1 ltA_10_2 ltA_10_3 ltA_10_4 ltA_10_5 ltA_10_6 ltA_11_1 ltA_11_2 ltA_11_3 ltA_11_4 ltA_11_5 ltA_11_6 ltA_12_1 ltA_12_2 ltA_12_3 ltA_12_4 ltA_12_5 ltA_12_6

/-- in the middle of a decision -/
def GetRel (w : World) (C D c : Nat) (A : Option Addr) (n ca : Nat) (d : Nat → Int) (x0 : Int) (a0 : Nat) (s0 : Int) (ch : List Int) (wr : World) : Prop :=
  ∃ (r : Nat) (s : Int), r ≤ M.nrm s0 ∧ s = s0 * 256 ^ r ∧ DecS wr C D c A n ca ⟨M.takeR d x0 a0 r, s, a0 + r, ch⟩ ∧ Frm C D w wr

set_option maxRecDepth 100000 in
set_option maxHeartbeats 4000000 in
theorem S_get (C D c : Nat) (A : Option Addr) (ca : Nat) (ds : List Int) (k : M.Dec) (x : Int) (w : World) (h : DecS w C D c A ds.length ca k) (hg : M.GoodD k) (hd : RowAt .u8 w A ds) (hA : ∀ d, A = some d → d.block ≠ C ∧ d.block ≠ D) (hby : ∀ i, 0 ≤ ds.getD i 0 ∧ ds.getD i 0 ≤ 255) (hx : 0 ≤ x ∧ x < 40) (hat : k.at_ ≤ 900000) (hln : ds.length ≤ 1000000000000) :
    Calls Try.prog 76 #[.pointer (some ⟨C, 0, none⟩), .int .i64 x] w fun e w' => e = .returned (.int .i64 (M.decBit k x.toNat)) ∧ DecS w' C D c A ds.length ca (M.dec1 (byD ds) k x.toNat) ∧ Frm C D w w' := by
  have H := Lib.hid h
  have HD := Lib.hid hd
  have HA := Lib.hid hA
  have HBY := Lib.hid hby
  obtain ⟨c0, c1, c2, c3, c4, f0⟩ := h.cells
  have hC := h.lt
  have hD := h.dc
  have hDs : D < w.heap.size := by omega
  have hxn : x.toNat < 40 := by omega
  have hchl : x.toNat < k.ch.length := by rw [hg.ch.1]; exact hxn
  obtain ⟨p, hp⟩ : ∃ p, p = k.ch.getD x.toNat 0 := ⟨_, rfl⟩
  have hpb : 1 ≤ p ∧ p ≤ 4095 := by rw [hp]; exact hg.ch.2 _ hxn
  have hcp : w.cell? ⟨D, x.toNat, none⟩ = some (.int .i64 p) := by
    obtain ⟨b', off', e, hb', hc⟩ := h.chb (by intro e; have := hg.ch.1; rw [e] at this; simp at this)
    injection e with e; injection e with e1 e2; subst e1 e2
    have := hc x.toNat hchl
    rw [Nat.zero_add] at this
    rw [this, hp]
  have hcpA : ∀ v, (w.setCell ⟨C, 1, none⟩ v).cell? ⟨D, x.toNat, none⟩ = some (.int .i64 p) := fun v => (World.cell?_setCell_other w ⟨C, 1, none⟩ ⟨D, x.toNat, none⟩ _ (fun e => by injection e; omega)).trans hcp
  have hcpB : ∀ u v, ((w.setCell ⟨C, 0, none⟩ u).setCell ⟨C, 1, none⟩ v).cell? ⟨D, x.toNat, none⟩ = some (.int .i64 p) := fun u v => (World.cell?_setCell_other _ ⟨C, 1, none⟩ ⟨D, x.toNat, none⟩ _ (fun e => by injection e; omega)).trans ((World.cell?_setCell_other w ⟨C, 0, none⟩ ⟨D, x.toNat, none⟩ _ (fun e => by injection e; omega)).trans hcp)
  have hcf : w.frozen? ⟨D, x.toNat, none⟩ = false := h.soft.hot rfl _
  have hs0 := hg.s0
  have hs1 := hg.s1
  have hq0 := hg.c0
  have hq1 := hg.c1
  obtain ⟨bd, hbd⟩ : ∃ bd, bd = k.s / 4096 * p := ⟨_, rfl⟩
  have HP := Lib.hid hp
  have HBD := Lib.hid hbd
  have HG := Lib.hid hg
  obtain ⟨-, -, k3, k4, k5⟩ := M.cut_bd (b := 0) hs0 hs1 hpb
  rw [← hbd] at k3 k4 k5
  have e2 : IntKind.i64.wrap (IntKind.i64.wrap (k.s.tdiv 4096) * p) = bd := by rw [Int.tdiv_eq_ediv_of_nonneg (by omega), IntWalk.i64_in (k.s / 4096) (by omega), ← hbd]; exact IntWalk.i64_in _ (by omega)
  have hx0 := hx.1
  have hx1 := hx.2
  clear hp hbd hg h hd hA hby hx
  by_cases hlt : k.code < bd
  · have hbit : M.decBit k x.toNat = 0 := by unfold M.decBit; rw [← HP.out, ← HBD.out]; rw [if_pos hlt]
    have hcut : M.cutS k.s p 0 = bd := by rw [HBD.out]; rfl
    have hk1 : 4096 ≤ bd := by rw [← hcut]; exact (M.cut_bd (b := 0) hs0 hs1 hpb).1
    have hk2 : bd ≤ 4294967295 := by rw [← hcut]; exact (M.cut_bd (b := 0) hs0 hs1 hpb).2.1
    have HBIT := Lib.hid hbit
    have HCUT := Lib.hid hcut
    rw [hbit]
    clear hbit hcut
    go_enter Try.func76, Try.ntmps76
    go_wp2_with fail
    go_region_held3 (fun w' => w'.cell? ⟨C, 1, none⟩ = some (.int .i64 k.s) ∧ w'.cell? ⟨C, 4, none⟩ = some (.slice (some ⟨D, 0, none⟩) 40 c) ∧ w'.cell? ⟨D, x.toNat, none⟩ = some (.int .i64 p)) (first | (go_simp; done) | (go_keep; done)) (first | fail)
    go_wp2_with fail
    refine wp_region_held_drew (S := (fun w' => w'.cell? ⟨C, 4, none⟩ = some (.slice (some ⟨D, 0, none⟩) 40 c))) (by kernel_rfl) ?_ (fun hHeld => ?_)
    · (first | (go_simp; done) | (go_keep; done))
    refine wpAnyH_take (i := 0) (oi := _) (v := ?_) rfl (by kernel_rfl) (by kernel_rfl) (by kernel_rfl) (fun _ _ _ h => h) (Or.inl ⟨by rfl, ?_⟩) (by assumption) ?_
    rotate_left
    · intro w hSw; (try dsimp only at hSw); go_simp; (try with_reducible rfl)
    try dsimp only [List.getElem_toArray, List.getElem_cons_succ, List.getElem_cons_zero]
    simp only [Act.put, List.setIfInBounds_toArray, List.set_cons_zero, List.set_cons_succ]
    refine wpAnyH_take (i := 1) (oi := _) (v := ?_) rfl (by kernel_rfl) (by kernel_rfl) (by kernel_rfl) (fun _ _ _ h => h) (Or.inl ⟨by rfl, ?_⟩) (by assumption) ?_
    rotate_left
    · intro w hSw; (try dsimp only at hSw); go_simp; (try with_reducible rfl)
    try dsimp only [List.getElem_toArray, List.getElem_cons_succ, List.getElem_cons_zero]
    simp only [Act.put, List.setIfInBounds_toArray, List.set_cons_zero, List.set_cons_succ]
    refine wpAnyH_take (i := 2) (oi := _) (v := ?_) rfl (by kernel_rfl) (by kernel_rfl) (by kernel_rfl) (fun _ _ _ h => h) (Or.inl ⟨by rfl, ?_⟩) (by assumption) ?_
    rotate_left
    · intro w hSw; (try dsimp only at hSw); go_simp; (try with_reducible rfl)
    try dsimp only [List.getElem_toArray, List.getElem_cons_succ, List.getElem_cons_zero]
    simp only [Act.put, List.setIfInBounds_toArray, List.set_cons_zero, List.set_cons_succ]
    refine wpAnyH_take (i := 3) (oi := _) (v := ?_) rfl (by kernel_rfl) (by kernel_rfl) (by kernel_rfl) (fun _ _ _ h => h) (Or.inl ⟨by rfl, ?_⟩) (by assumption) ?_
    rotate_left
    · intro w hSw; (try dsimp only at hSw); go_simp; (try with_reducible rfl)
    try dsimp only [List.getElem_toArray, List.getElem_cons_succ, List.getElem_cons_zero]
    simp only [Act.put, List.setIfInBounds_toArray, List.set_cons_zero, List.set_cons_succ]
    refine wpAnyH_take (i := 4) (oi := _) (v := ?_) rfl (by kernel_rfl) (by kernel_rfl) (by kernel_rfl) (fun _ _ _ h => h) (Or.inl ⟨by rfl, ?_⟩) (by assumption) ?_
    rotate_left
    · intro w hSw; (try dsimp only at hSw); go_simp; (try with_reducible rfl)
    try dsimp only [List.getElem_toArray, List.getElem_cons_succ, List.getElem_cons_zero]
    simp only [Act.put, List.setIfInBounds_toArray, List.set_cons_zero, List.set_cons_succ]
    refine wpAnyH_take (i := 5) (oi := _) (v := ?_) rfl (by kernel_rfl) (by kernel_rfl) (by kernel_rfl) (fun _ _ _ h => h) (Or.inl ⟨by rfl, ?_⟩) (by assumption) ?_
    rotate_left
    · intro w hSw; (try dsimp only at hSw); go_simp; (try with_reducible rfl)
    try dsimp only [List.getElem_toArray, List.getElem_cons_succ, List.getElem_cons_zero]
    simp only [Act.put, List.setIfInBounds_toArray, List.set_cons_zero, List.set_cons_succ]
    refine wpAnyH_take (i := 6) (oi := _) (v := ?_) rfl (by kernel_rfl) (by kernel_rfl) (by kernel_rfl) (fun _ _ _ h => h) (Or.inl ⟨by rfl, ?_⟩) (by assumption) ?_
    rotate_left
    · intro w hSw; (try dsimp only at hSw); go_simp; (try with_reducible rfl)
    try dsimp only [List.getElem_toArray, List.getElem_cons_succ, List.getElem_cons_zero]
    simp only [Act.put, List.setIfInBounds_toArray, List.set_cons_zero, List.set_cons_succ]
    refine wpAnyH_take (i := 7) (oi := _) (v := ?_) rfl (by kernel_rfl) (by kernel_rfl) (by kernel_rfl) (fun _ _ _ h => h) (Or.inl ⟨by rfl, ?_⟩) (by assumption) ?_
    rotate_left
    · intro w hSw; (try dsimp only at hSw); go_simp; (try with_reducible rfl)
    try dsimp only [List.getElem_toArray, List.getElem_cons_succ, List.getElem_cons_zero]
    simp only [Act.put, List.setIfInBounds_toArray, List.set_cons_zero, List.set_cons_succ]
    refine wpAnyH_take (i := 8) (oi := _) (v := ?_) rfl (by kernel_rfl) (by kernel_rfl) (by kernel_rfl) (fun _ _ _ h => h) (Or.inl ⟨by rfl, ?_⟩) (by assumption) ?_
    rotate_left
    · intro w hSw; (try dsimp only at hSw); go_simp; (try with_reducible rfl)
    try dsimp only [List.getElem_toArray, List.getElem_cons_succ, List.getElem_cons_zero]
    simp only [Act.put, List.setIfInBounds_toArray, List.set_cons_zero, List.set_cons_succ]
    refine wpAnyH_take (i := 9) (oi := _) (v := ?_) rfl (by kernel_rfl) (by kernel_rfl) (by kernel_rfl) (fun _ _ _ h => h) (Or.inl ⟨by rfl, ?_⟩) (by assumption) ?_
    rotate_left
    · intro w hSw; (try dsimp only at hSw); go_simp; (try with_reducible rfl)
    try dsimp only [List.getElem_toArray, List.getElem_cons_succ, List.getElem_cons_zero]
    simp only [Act.put, List.setIfInBounds_toArray, List.set_cons_zero, List.set_cons_succ]
    refine wpAnyH_take (i := 10) (oi := _) (v := ?_) rfl (by kernel_rfl) (by kernel_rfl) (by kernel_rfl) (fun _ _ _ h => h) (Or.inl ⟨by rfl, ?_⟩) (by assumption) ?_
    rotate_left
    · intro w hSw; (try dsimp only at hSw); go_simp; (try with_reducible rfl)
    try dsimp only [List.getElem_toArray, List.getElem_cons_succ, List.getElem_cons_zero]
    simp only [Act.put, List.setIfInBounds_toArray, List.set_cons_zero, List.set_cons_succ]
    refine wpAnyH_take (i := 12) (oi := _) (v := ?_) rfl (by kernel_rfl) (by kernel_rfl) (by kernel_rfl) (fun _ _ _ h => h) (Or.inl ⟨by rfl, ?_⟩) (by assumption) ?_
    rotate_left
    · intro w hSw; (try dsimp only at hSw); go_simp; (try with_reducible rfl)
    try dsimp only [List.getElem_toArray, List.getElem_cons_succ, List.getElem_cons_zero]
    simp only [Act.put, List.setIfInBounds_toArray, List.set_cons_zero, List.set_cons_succ]
    refine wpAnyH_ready (rs := [11]) (by kernel_rfl) (by simp) ?_
    refine AllReadyH.cons (o := _) rfl (fun K hK => ?_) ?_
    · (try dsimp only [List.getElem_toArray, List.getElem_cons_succ, List.getElem_cons_zero]); go_simp
      refine hK.out _ _ ?_ (fun hHeld => ?_)
      · (first | (go_simp; done) | (go_keep; done))
      clear hK K
      try simp only [Act.put, List.setIfInBounds_toArray, List.set_cons_zero, List.set_cons_succ]
      refine wpAnyH_ready (rs := [13]) (by kernel_rfl) (by simp) ?_
      refine AllReadyH.cons (o := _) rfl (fun K hK => ?_) ?_
      · (try dsimp only [List.getElem_toArray, List.getElem_cons_succ, List.getElem_cons_zero]); go_simp
        (go_at_call 102; refine (S_NextChance _ _ _).mono ?_; rintro e w' ⟨rfl, rfl⟩)
        try go_wp2_with fail
        refine hK.out _ _ ?_ (fun hHeld => ?_)
        · (first | (go_simp; done) | (go_keep; done))
        clear hK K
        try simp only [Act.put, List.setIfInBounds_toArray, List.set_cons_zero, List.set_cons_succ]
        refine wpAnyH_take (i := 14) (oi := _) (v := ?_) rfl (by kernel_rfl) (by kernel_rfl) (by kernel_rfl) (fun _ _ _ h => h) (Or.inl ⟨by rfl, ?_⟩) (by assumption) ?_
        rotate_left
        · intro w hSw; (try dsimp only at hSw); go_simp; (try with_reducible rfl)
        try dsimp only [List.getElem_toArray, List.getElem_cons_succ, List.getElem_cons_zero]
        simp only [Act.put, List.setIfInBounds_toArray, List.set_cons_zero, List.set_cons_succ]
        refine wpAnyH_ready (rs := [15]) (by kernel_rfl) (by simp) ?_
        refine AllReadyH.cons (o := _) rfl (fun K hK => ?_) ?_
        · (try dsimp only [List.getElem_toArray, List.getElem_cons_succ, List.getElem_cons_zero]); go_simp
          refine hK.out _ _ ?_ (fun hHeld => ?_)
          · (first | (go_simp; done) | (go_keep; done))
          clear hK K
          try simp only [Act.put, List.setIfInBounds_toArray, List.set_cons_zero, List.set_cons_succ]
          refine wpAnyH_done (by kernel_rfl) ?_ _
          go_wp2_with fail
          go_loopw [63] (fun s63 wr => GetRel w C D c A ds.length ca (byD ds) (k.code) k.at_ (bd) (k.ch.set x.toNat (M.chance p 0)) wr) (fun _ wr => spanLeft C wr)
          case atStart =>
            exact ⟨0, bd, Nat.zero_le _, by rw [Int.pow_zero, Int.mul_one], (((H.out.s_ bd).ch_ hchl (M.chance p 0)).drew).drew, ((((Frm.refl C D w).setC 1 _).setD _ _).drew).drew⟩
          case round =>
            clear c0 c1 c2 c3 c4 f0 hC H hcp hcpA hcpB hcf
            obtain ⟨r, s1, hr, hs, hcod, hfrm⟩ := hrel
            have H := Lib.hid hcod
            have HF := Lib.hid hfrm
            obtain ⟨c0, c1, c2, c3, c4, f0⟩ := hcod.cells
            have hC := hcod.lt
            have hst := nrm_step hk1 hr
            have hsp : 0 < s1 := by rw [hs]; exact Int.mul_pos (by omega) (M.pow_pos256 r)
            have hr2 : r ≤ 2 := Nat.le_trans hr (M.nrm_two _)
            rw [← hs] at hst
            have HST := Lib.hid hst
            have HSS := Lib.hid hs
            have htb := M.takeR_bd (d := byD ds) HBY.out (code := k.code) k.at_ r (by omega)
            have HTB := Lib.hid htb
            clear hst hs hcod hfrm htb
            by_cases hlt2 : s1 < 16777216
            · have hs256 : s1 * 256 ≤ 4294967040 := by omega
              go_wp2_with (go_at_call 101; refine (S_next C D c A ca ds _ _ H.out (HD.out.frm HF.out HA.out) HA.out HBY.out HTB.out (by simp only; omega) hln).mono ?_; rintro e w' ⟨⟨v, rfl⟩, hcod2, hfrm2⟩; have H2 := Lib.hid hcod2; obtain ⟨d0, d1, d2, d3, d4, g0⟩ := hcod2.cells; have HF2 := Lib.hid hfrm2; clear hcod2 hfrm2)
              go_roundw
              case rel =>
                exact ⟨r + 1, s1 * 256, HST.out.1 hlt2, by rw [HSS.out, Int.pow_succ, Int.mul_assoc], H2.out.s_ _, (HF.out.trans HF2.out).setC 1 _⟩
              case measure => rw [spanLeft_of (H2.out.s_ (s1 * 256)).cells.2.1, spanLeft_of c1]; simp only; omega
            · go_wp2_with fail
              go_returns
              have hrr := HST.out.2 (by omega)
              have hdec : M.dec1 (byD ds) k x.toNat = ⟨M.takeR (byD ds) (k.code) k.at_ r, s1, k.at_ + r, k.ch.set x.toNat (M.chance p 0)⟩ := by
                simp only [M.dec1, HBIT.out, ← HP.out, HCUT.out, ← HBD.out, hrr, HSS.out]
                rfl
              exact ⟨rfl, by rw [hdec]; exact H.out, HF.out⟩
        exact AllReadyH.nil
      exact AllReadyH.nil
    exact AllReadyH.nil
  · have hbit : M.decBit k x.toNat = 1 := by unfold M.decBit; rw [← HP.out, ← HBD.out]; rw [if_neg hlt]
    have hcut : M.cutS k.s p 1 = k.s - bd := by rw [HBD.out]; rfl
    have hk1 : 4096 ≤ k.s - bd := by rw [← hcut]; exact (M.cut_bd (b := 1) hs0 hs1 hpb).1
    have hk2 : k.s - bd ≤ 4294967295 := by rw [← hcut]; exact (M.cut_bd (b := 1) hs0 hs1 hpb).2.1
    have HBIT := Lib.hid hbit
    have HCUT := Lib.hid hcut
    rw [hbit]
    clear hbit hcut
    go_enter Try.func76, Try.ntmps76
    go_wp2_with fail
    go_region_held3 (fun w' => w'.cell? ⟨C, 1, none⟩ = some (.int .i64 k.s) ∧ w'.cell? ⟨C, 4, none⟩ = some (.slice (some ⟨D, 0, none⟩) 40 c) ∧ w'.cell? ⟨D, x.toNat, none⟩ = some (.int .i64 p)) (first | (go_simp; done) | (go_keep; done)) (first | fail)
    go_wp2_with fail
    refine wp_region_held_drew (S := (fun w' => w'.cell? ⟨C, 4, none⟩ = some (.slice (some ⟨D, 0, none⟩) 40 c))) (by kernel_rfl) ?_ (fun hHeld => ?_)
    · (first | (go_simp; done) | (go_keep; done))
    refine wpAnyH_take (i := 0) (oi := _) (v := ?_) rfl (by kernel_rfl) (by kernel_rfl) (by kernel_rfl) (fun _ _ _ h => h) (Or.inl ⟨by rfl, ?_⟩) (by assumption) ?_
    rotate_left
    · intro w hSw; (try dsimp only at hSw); go_simp; (try with_reducible rfl)
    try dsimp only [List.getElem_toArray, List.getElem_cons_succ, List.getElem_cons_zero]
    simp only [Act.put, List.setIfInBounds_toArray, List.set_cons_zero, List.set_cons_succ]
    refine wpAnyH_take (i := 1) (oi := _) (v := ?_) rfl (by kernel_rfl) (by kernel_rfl) (by kernel_rfl) (fun _ _ _ h => h) (Or.inl ⟨by rfl, ?_⟩) (by assumption) ?_
    rotate_left
    · intro w hSw; (try dsimp only at hSw); go_simp; (try with_reducible rfl)
    try dsimp only [List.getElem_toArray, List.getElem_cons_succ, List.getElem_cons_zero]
    simp only [Act.put, List.setIfInBounds_toArray, List.set_cons_zero, List.set_cons_succ]
    refine wpAnyH_take (i := 2) (oi := _) (v := ?_) rfl (by kernel_rfl) (by kernel_rfl) (by kernel_rfl) (fun _ _ _ h => h) (Or.inl ⟨by rfl, ?_⟩) (by assumption) ?_
    rotate_left
    · intro w hSw; (try dsimp only at hSw); go_simp; (try with_reducible rfl)
    try dsimp only [List.getElem_toArray, List.getElem_cons_succ, List.getElem_cons_zero]
    simp only [Act.put, List.setIfInBounds_toArray, List.set_cons_zero, List.set_cons_succ]
    refine wpAnyH_take (i := 3) (oi := _) (v := ?_) rfl (by kernel_rfl) (by kernel_rfl) (by kernel_rfl) (fun _ _ _ h => h) (Or.inl ⟨by rfl, ?_⟩) (by assumption) ?_
    rotate_left
    · intro w hSw; (try dsimp only at hSw); go_simp; (try with_reducible rfl)
    try dsimp only [List.getElem_toArray, List.getElem_cons_succ, List.getElem_cons_zero]
    simp only [Act.put, List.setIfInBounds_toArray, List.set_cons_zero, List.set_cons_succ]
    refine wpAnyH_take (i := 4) (oi := _) (v := ?_) rfl (by kernel_rfl) (by kernel_rfl) (by kernel_rfl) (fun _ _ _ h => h) (Or.inl ⟨by rfl, ?_⟩) (by assumption) ?_
    rotate_left
    · intro w hSw; (try dsimp only at hSw); go_simp; (try with_reducible rfl)
    try dsimp only [List.getElem_toArray, List.getElem_cons_succ, List.getElem_cons_zero]
    simp only [Act.put, List.setIfInBounds_toArray, List.set_cons_zero, List.set_cons_succ]
    refine wpAnyH_take (i := 5) (oi := _) (v := ?_) rfl (by kernel_rfl) (by kernel_rfl) (by kernel_rfl) (fun _ _ _ h => h) (Or.inl ⟨by rfl, ?_⟩) (by assumption) ?_
    rotate_left
    · intro w hSw; (try dsimp only at hSw); go_simp; (try with_reducible rfl)
    try dsimp only [List.getElem_toArray, List.getElem_cons_succ, List.getElem_cons_zero]
    simp only [Act.put, List.setIfInBounds_toArray, List.set_cons_zero, List.set_cons_succ]
    refine wpAnyH_take (i := 6) (oi := _) (v := ?_) rfl (by kernel_rfl) (by kernel_rfl) (by kernel_rfl) (fun _ _ _ h => h) (Or.inl ⟨by rfl, ?_⟩) (by assumption) ?_
    rotate_left
    · intro w hSw; (try dsimp only at hSw); go_simp; (try with_reducible rfl)
    try dsimp only [List.getElem_toArray, List.getElem_cons_succ, List.getElem_cons_zero]
    simp only [Act.put, List.setIfInBounds_toArray, List.set_cons_zero, List.set_cons_succ]
    refine wpAnyH_take (i := 7) (oi := _) (v := ?_) rfl (by kernel_rfl) (by kernel_rfl) (by kernel_rfl) (fun _ _ _ h => h) (Or.inl ⟨by rfl, ?_⟩) (by assumption) ?_
    rotate_left
    · intro w hSw; (try dsimp only at hSw); go_simp; (try with_reducible rfl)
    try dsimp only [List.getElem_toArray, List.getElem_cons_succ, List.getElem_cons_zero]
    simp only [Act.put, List.setIfInBounds_toArray, List.set_cons_zero, List.set_cons_succ]
    refine wpAnyH_take (i := 8) (oi := _) (v := ?_) rfl (by kernel_rfl) (by kernel_rfl) (by kernel_rfl) (fun _ _ _ h => h) (Or.inl ⟨by rfl, ?_⟩) (by assumption) ?_
    rotate_left
    · intro w hSw; (try dsimp only at hSw); go_simp; (try with_reducible rfl)
    try dsimp only [List.getElem_toArray, List.getElem_cons_succ, List.getElem_cons_zero]
    simp only [Act.put, List.setIfInBounds_toArray, List.set_cons_zero, List.set_cons_succ]
    refine wpAnyH_take (i := 9) (oi := _) (v := ?_) rfl (by kernel_rfl) (by kernel_rfl) (by kernel_rfl) (fun _ _ _ h => h) (Or.inl ⟨by rfl, ?_⟩) (by assumption) ?_
    rotate_left
    · intro w hSw; (try dsimp only at hSw); go_simp; (try with_reducible rfl)
    try dsimp only [List.getElem_toArray, List.getElem_cons_succ, List.getElem_cons_zero]
    simp only [Act.put, List.setIfInBounds_toArray, List.set_cons_zero, List.set_cons_succ]
    refine wpAnyH_take (i := 10) (oi := _) (v := ?_) rfl (by kernel_rfl) (by kernel_rfl) (by kernel_rfl) (fun _ _ _ h => h) (Or.inl ⟨by rfl, ?_⟩) (by assumption) ?_
    rotate_left
    · intro w hSw; (try dsimp only at hSw); go_simp; (try with_reducible rfl)
    try dsimp only [List.getElem_toArray, List.getElem_cons_succ, List.getElem_cons_zero]
    simp only [Act.put, List.setIfInBounds_toArray, List.set_cons_zero, List.set_cons_succ]
    refine wpAnyH_take (i := 12) (oi := _) (v := ?_) rfl (by kernel_rfl) (by kernel_rfl) (by kernel_rfl) (fun _ _ _ h => h) (Or.inl ⟨by rfl, ?_⟩) (by assumption) ?_
    rotate_left
    · intro w hSw; (try dsimp only at hSw); go_simp; (try with_reducible rfl)
    try dsimp only [List.getElem_toArray, List.getElem_cons_succ, List.getElem_cons_zero]
    simp only [Act.put, List.setIfInBounds_toArray, List.set_cons_zero, List.set_cons_succ]
    refine wpAnyH_ready (rs := [11]) (by kernel_rfl) (by simp) ?_
    refine AllReadyH.cons (o := _) rfl (fun K hK => ?_) ?_
    · (try dsimp only [List.getElem_toArray, List.getElem_cons_succ, List.getElem_cons_zero]); go_simp
      refine hK.out _ _ ?_ (fun hHeld => ?_)
      · (first | (go_simp; done) | (go_keep; done))
      clear hK K
      try simp only [Act.put, List.setIfInBounds_toArray, List.set_cons_zero, List.set_cons_succ]
      refine wpAnyH_ready (rs := [13]) (by kernel_rfl) (by simp) ?_
      refine AllReadyH.cons (o := _) rfl (fun K hK => ?_) ?_
      · (try dsimp only [List.getElem_toArray, List.getElem_cons_succ, List.getElem_cons_zero]); go_simp
        (go_at_call 102; refine (S_NextChance _ _ _).mono ?_; rintro e w' ⟨rfl, rfl⟩)
        try go_wp2_with fail
        refine hK.out _ _ ?_ (fun hHeld => ?_)
        · (first | (go_simp; done) | (go_keep; done))
        clear hK K
        try simp only [Act.put, List.setIfInBounds_toArray, List.set_cons_zero, List.set_cons_succ]
        refine wpAnyH_take (i := 14) (oi := _) (v := ?_) rfl (by kernel_rfl) (by kernel_rfl) (by kernel_rfl) (fun _ _ _ h => h) (Or.inl ⟨by rfl, ?_⟩) (by assumption) ?_
        rotate_left
        · intro w hSw; (try dsimp only at hSw); go_simp; (try with_reducible rfl)
        try dsimp only [List.getElem_toArray, List.getElem_cons_succ, List.getElem_cons_zero]
        simp only [Act.put, List.setIfInBounds_toArray, List.set_cons_zero, List.set_cons_succ]
        refine wpAnyH_ready (rs := [15]) (by kernel_rfl) (by simp) ?_
        refine AllReadyH.cons (o := _) rfl (fun K hK => ?_) ?_
        · (try dsimp only [List.getElem_toArray, List.getElem_cons_succ, List.getElem_cons_zero]); go_simp
          refine hK.out _ _ ?_ (fun hHeld => ?_)
          · (first | (go_simp; done) | (go_keep; done))
          clear hK K
          try simp only [Act.put, List.setIfInBounds_toArray, List.set_cons_zero, List.set_cons_succ]
          refine wpAnyH_done (by kernel_rfl) ?_ _
          go_wp2_with fail
          go_loopw [63] (fun s63 wr => GetRel w C D c A ds.length ca (byD ds) (k.code - bd) k.at_ (k.s - bd) (k.ch.set x.toNat (M.chance p 1)) wr) (fun _ wr => spanLeft C wr)
          case atStart =>
            exact ⟨0, k.s - bd, Nat.zero_le _, by rw [Int.pow_zero, Int.mul_one], ((((H.out.code_ (k.code - bd)).s_ (k.s - bd)).ch_ hchl (M.chance p 1)).drew).drew, (((((Frm.refl C D w).setC 0 _).setC 1 _).setD _ _).drew).drew⟩
          case round =>
            clear c0 c1 c2 c3 c4 f0 hC H hcp hcpA hcpB hcf
            obtain ⟨r, s1, hr, hs, hcod, hfrm⟩ := hrel
            have H := Lib.hid hcod
            have HF := Lib.hid hfrm
            obtain ⟨c0, c1, c2, c3, c4, f0⟩ := hcod.cells
            have hC := hcod.lt
            have hst := nrm_step hk1 hr
            have hsp : 0 < s1 := by rw [hs]; exact Int.mul_pos (by omega) (M.pow_pos256 r)
            have hr2 : r ≤ 2 := Nat.le_trans hr (M.nrm_two _)
            rw [← hs] at hst
            have HST := Lib.hid hst
            have HSS := Lib.hid hs
            have htb := M.takeR_bd (d := byD ds) HBY.out (code := k.code - bd) k.at_ r (by omega)
            have HTB := Lib.hid htb
            clear hst hs hcod hfrm htb
            by_cases hlt2 : s1 < 16777216
            · have hs256 : s1 * 256 ≤ 4294967040 := by omega
              go_wp2_with (go_at_call 101; refine (S_next C D c A ca ds _ _ H.out (HD.out.frm HF.out HA.out) HA.out HBY.out HTB.out (by simp only; omega) hln).mono ?_; rintro e w' ⟨⟨v, rfl⟩, hcod2, hfrm2⟩; have H2 := Lib.hid hcod2; obtain ⟨d0, d1, d2, d3, d4, g0⟩ := hcod2.cells; have HF2 := Lib.hid hfrm2; clear hcod2 hfrm2)
              go_roundw
              case rel =>
                exact ⟨r + 1, s1 * 256, HST.out.1 hlt2, by rw [HSS.out, Int.pow_succ, Int.mul_assoc], H2.out.s_ _, (HF.out.trans HF2.out).setC 1 _⟩
              case measure => rw [spanLeft_of (H2.out.s_ (s1 * 256)).cells.2.1, spanLeft_of c1]; simp only; omega
            · go_wp2_with fail
              go_returns
              have hrr := HST.out.2 (by omega)
              have hdec : M.dec1 (byD ds) k x.toNat = ⟨M.takeR (byD ds) (k.code - bd) k.at_ r, s1, k.at_ + r, k.ch.set x.toNat (M.chance p 1)⟩ := by
                simp only [M.dec1, HBIT.out, ← HP.out, HCUT.out, ← HBD.out, hrr, HSS.out]
                rfl
              exact ⟨rfl, by rw [hdec]; exact H.out, HF.out⟩
        exact AllReadyH.nil
      exact AllReadyH.nil
    exact AllReadyH.nil

end Go.Proofs.Ytndbdfbjiaaloaa
