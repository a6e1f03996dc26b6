/- The program's decoder: one decision decoded. -/
import Derived.Test.YtndbdfbjiaaloaaDecI
namespace Go.Proofs.Ytndbdfbjiaaloaa
open Go.RowKit
set_option linter.unusedVariables false
set_option linter.unusedSimpArgs false

attribute [local go_sem] size_addsW cell?_addsW frozen?_addsW setCell_addsW drew_addsW adds_addsW setCell_twice alloc_adds0 size_adds0 adds_adds0 sel2 sel3 sel4 sel5 sel6 sel7 sel8 sel9 lt_more lt_more2 lt_more3 lt_more4 adds_drew adds_drewN drewN_addsW ltA_1_1 ltA_1_2 ltA_1_3 ltA_1_4 ltA_1_5 ltA_1_6 ltA_2_1 ltA_2_2 ltA_2_3 ltA_2_4 ltA_2_5 ltA_2_6 ltA_3_1 ltA_3_2 ltA_3_3 ltA_3_4 ltA_3_5 ltA_3_6 ltA_4_1 ltA_4_2 ltA_4_3 ltA_4_4 ltA_4_5 ltA_4_6 ltA_5_1 ltA_5_2 ltA_5_3 ltA_5_4 ltA_5_5 ltA_5_6 ltA_6_1 ltA_6_2 ltA_6_3 ltA_6_4 ltA_6_5 ltA_6_6 ltA_7_1 ltA_7_2 ltA_7_3 ltA_7_4 ltA_7_5 ltA_7_6 ltA_8_1 ltA_8_2 ltA_8_3 ltA_8_4 ltA_8_5 ltA_8_6 ltA_9_1 ltA_9_2 ltA_9_3 ltA_9_4 ltA_9_5 ltA_9_6 ltA_10_1 ltA_10_2 ltA_10_3 ltA_10_4 ltA_10_5 ltA_10_6 ltA_11_1 ltA_11_2 ltA_11_3 ltA_11_4 ltA_11_5 ltA_11_6 ltA_12_1 ltA_12_2 ltA_12_3 ltA_12_4 ltA_12_5 ltA_12_6

theorem I_boundD (C : Nat) (s x p : Int) (w : World) (hc : w.cell? ⟨C, 2 + x.toNat, none⟩ = some (.int .i64 p)) (hs : 0 ≤ s ∧ s ≤ 4294967295) (hx : 0 ≤ x ∧ x < 40) (hpb : 1 ≤ p ∧ p ≤ 4095) :
    Calls Try.prog 99 #[.pointer (some ⟨C, 2, none⟩), .int .u64 s, .int .i64 x] w fun e w' => e = .returned (.int .u64 (s / 4096 * p)) ∧ w = w' := by
  have hb : 0 ≤ s / 4096 * p ∧ s / 4096 * p ≤ 4294963200 := by
    have a2 : s / 4096 * p ≤ s / 4096 * 4095 := Int.mul_le_mul_of_nonneg_left hpb.2 (by omega)
    exact ⟨Int.mul_nonneg (by omega) (by omega), by omega⟩
  obtain ⟨bd, hbd⟩ : ∃ bd, bd = s / 4096 * p := ⟨_, rfl⟩
  rw [← hbd] at hb ⊢
  have e1 : IntKind.u64.wrap (s / 4096 * p) = bd := by rw [← hbd]; simp only [IntKind.wrap_u64]; omega
  have e2 : IntKind.u64.wrap p = p := by simp only [IntKind.wrap_u64]; omega
  have hx0 := hx.1
  have hx1 := hx.2
  clear hbd hx
  go_enter Try.func99, Try.ntmps99
  go_wp2_with fail
  go_returns
  exact ⟨rfl, rfl⟩

theorem I_learnD (C : Nat) (x b p : Int) (w : World) (hc : w.cell? ⟨C, 2 + x.toNat, none⟩ = some (.int .i64 p)) (hf : ∀ i, w.frozen? ⟨C, i, none⟩ = false) (hx : 0 ≤ x ∧ x < 40) :
    Calls Try.prog 100 #[.pointer (some ⟨C, 2, none⟩), .int .i64 x, .int .i64 b] w fun e w' => (∃ v, e = .returned v) ∧ ∃ n, w' = addsW (w.setCell ⟨C, 2 + x.toNat, none⟩ (.int .i64 (M.chance p b))) #[] n := by
  have hx0 := hx.1
  have hx1 := hx.2
  clear hx
  go_enter Try.func100, Try.ntmps100
  go_wp2_with fail
  refine wp_region_held_drew (S := (fun w' => True)) (by kernel_rfl) ?_ (fun hHeld => ?_)
  · trivial
  refine wpAnyH_take (i := 0) (oi := _) (v := ?_) rfl (by kernel_rfl) (by kernel_rfl) (by kernel_rfl) (fun _ _ _ h => h) (Or.inl ⟨by rfl, ?_⟩) (by assumption) ?_
  rotate_left
  · intro w hSw; (try dsimp only at hSw); go_simp; (try with_reducible rfl)
  try dsimp only [List.getElem_toArray, List.getElem_cons_succ, List.getElem_cons_zero]
  simp only [Act.put, List.setIfInBounds_toArray, List.set_cons_zero, List.set_cons_succ]
  refine wpAnyH_take (i := 1) (oi := _) (v := ?_) rfl (by kernel_rfl) (by kernel_rfl) (by kernel_rfl) (fun _ _ _ h => h) (Or.inl ⟨by rfl, ?_⟩) (by assumption) ?_
  rotate_left
  · intro w hSw; (try dsimp only at hSw); go_simp; (try with_reducible rfl)
  try dsimp only [List.getElem_toArray, List.getElem_cons_succ, List.getElem_cons_zero]
  simp only [Act.put, List.setIfInBounds_toArray, List.set_cons_zero, List.set_cons_succ]
  refine wpAnyH_take (i := 2) (oi := _) (v := ?_) rfl (by kernel_rfl) (by kernel_rfl) (by kernel_rfl) (fun _ _ _ h => h) (Or.inl ⟨by rfl, ?_⟩) (by assumption) ?_
  rotate_left
  · intro w hSw; (try dsimp only at hSw); go_simp; (try with_reducible rfl)
  try dsimp only [List.getElem_toArray, List.getElem_cons_succ, List.getElem_cons_zero]
  simp only [Act.put, List.setIfInBounds_toArray, List.set_cons_zero, List.set_cons_succ]
  refine wpAnyH_take (i := 3) (oi := _) (v := ?_) rfl (by kernel_rfl) (by kernel_rfl) (by kernel_rfl) (fun _ _ _ h => h) (Or.inl ⟨by rfl, ?_⟩) (by assumption) ?_
  rotate_left
  · intro w hSw; (try dsimp only at hSw); go_simp; (try with_reducible rfl)
  try dsimp only [List.getElem_toArray, List.getElem_cons_succ, List.getElem_cons_zero]
  simp only [Act.put, List.setIfInBounds_toArray, List.set_cons_zero, List.set_cons_succ]
  refine wpAnyH_take (i := 4) (oi := _) (v := ?_) rfl (by kernel_rfl) (by kernel_rfl) (by kernel_rfl) (fun _ _ _ h => h) (Or.inl ⟨by rfl, ?_⟩) (by assumption) ?_
  rotate_left
  · intro w hSw; (try dsimp only at hSw); go_simp; (try with_reducible rfl)
  try dsimp only [List.getElem_toArray, List.getElem_cons_succ, List.getElem_cons_zero]
  simp only [Act.put, List.setIfInBounds_toArray, List.set_cons_zero, List.set_cons_succ]
  refine wpAnyH_take (i := 5) (oi := _) (v := ?_) rfl (by kernel_rfl) (by kernel_rfl) (by kernel_rfl) (fun _ _ _ h => h) (Or.inl ⟨by rfl, ?_⟩) (by assumption) ?_
  rotate_left
  · intro w hSw; (try dsimp only at hSw); go_simp; (try with_reducible rfl)
  try dsimp only [List.getElem_toArray, List.getElem_cons_succ, List.getElem_cons_zero]
  simp only [Act.put, List.setIfInBounds_toArray, List.set_cons_zero, List.set_cons_succ]
  refine wpAnyH_take (i := 7) (oi := _) (v := ?_) rfl (by kernel_rfl) (by kernel_rfl) (by kernel_rfl) (fun _ _ _ h => h) (Or.inl ⟨by rfl, ?_⟩) (by assumption) ?_
  rotate_left
  · intro w hSw; (try dsimp only at hSw); go_simp; (try with_reducible rfl)
  try dsimp only [List.getElem_toArray, List.getElem_cons_succ, List.getElem_cons_zero]
  simp only [Act.put, List.setIfInBounds_toArray, List.set_cons_zero, List.set_cons_succ]
  refine wpAnyH_take (i := 9) (oi := _) (v := ?_) rfl (by kernel_rfl) (by kernel_rfl) (by kernel_rfl) (fun _ _ _ h => h) (Or.inl ⟨by rfl, ?_⟩) (by assumption) ?_
  rotate_left
  · intro w hSw; (try dsimp only at hSw); go_simp; (try with_reducible rfl)
  try dsimp only [List.getElem_toArray, List.getElem_cons_succ, List.getElem_cons_zero]
  simp only [Act.put, List.setIfInBounds_toArray, List.set_cons_zero, List.set_cons_succ]
  refine wpAnyH_ready (rs := [6]) (by kernel_rfl) (by simp) ?_
  refine AllReadyH.cons (o := _) rfl (fun K hK => ?_) ?_
  · (try dsimp only [List.getElem_toArray, List.getElem_cons_succ, List.getElem_cons_zero]); go_simp
    refine hK.out _ _ ?_ (fun hHeld => ?_)
    · trivial
    clear hK K
    try simp only [Act.put, List.setIfInBounds_toArray, List.set_cons_zero, List.set_cons_succ]
    refine wpAnyH_ready (rs := [8]) (by kernel_rfl) (by simp) ?_
    refine AllReadyH.cons (o := _) rfl (fun K hK => ?_) ?_
    · (try dsimp only [List.getElem_toArray, List.getElem_cons_succ, List.getElem_cons_zero]); go_simp
      (go_at_call 110; refine (I_NextChance _ _ _).mono ?_; rintro e w' ⟨rfl, rfl⟩)
      try go_wp2_with fail
      refine hK.out _ _ ?_ (fun hHeld => ?_)
      · trivial
      clear hK K
      try simp only [Act.put, List.setIfInBounds_toArray, List.set_cons_zero, List.set_cons_succ]
      refine wpAnyH_take (i := 10) (oi := _) (v := ?_) rfl (by kernel_rfl) (by kernel_rfl) (by kernel_rfl) (fun _ _ _ h => h) (Or.inl ⟨by rfl, ?_⟩) (by assumption) ?_
      rotate_left
      · intro w hSw; (try dsimp only at hSw); go_simp; (try with_reducible rfl)
      try dsimp only [List.getElem_toArray, List.getElem_cons_succ, List.getElem_cons_zero]
      simp only [Act.put, List.setIfInBounds_toArray, List.set_cons_zero, List.set_cons_succ]
      refine wpAnyH_ready (rs := [11]) (by kernel_rfl) (by simp) ?_
      refine AllReadyH.cons (o := _) rfl (fun K hK => ?_) ?_
      · (try dsimp only [List.getElem_toArray, List.getElem_cons_succ, List.getElem_cons_zero]); go_simp
        refine hK.out _ _ ?_ (fun hHeld => ?_)
        · trivial
        clear hK K
        try simp only [Act.put, List.setIfInBounds_toArray, List.set_cons_zero, List.set_cons_succ]
        refine wpAnyH_done (by kernel_rfl) ?_ _
        go_wp2_with fail
        go_returns
        exact ⟨⟨_, rfl⟩, _, by first | exact drew_adds _ | exact drewN_adds _ _ | exact self_adds _⟩
      exact AllReadyH.nil
    exact AllReadyH.nil
  exact AllReadyH.nil

theorem DecF.at0 {w : World} {C : Nat} {ds : List Int} {k : M.Dec} (h : DecF w C ds k) : w.cell? ⟨C, 0, none⟩ = some (.int .u64 k.code) ∧ w.cell? ⟨C, 1, none⟩ = some (.int .u64 k.s) ∧ (∀ i, i < 40 → w.cell? ⟨C, 2 + i, none⟩ = some (.int .i64 (k.ch.getD i 0))) ∧ (∀ i, w.frozen? ⟨C, i, none⟩ = false) := by
  obtain ⟨A, ca, h⟩ := h
  exact ⟨h.cells.1, h.cells.2.1, h.cells.2.2.2.1, h.cells.2.2.2.2⟩
theorem DecF.lt {w : World} {C : Nat} {ds : List Int} {k : M.Dec} (h : DecF w C ds k) : C < w.heap.size := by
  obtain ⟨A, ca, h⟩ := h; exact h.lt
theorem DecF.keep {w w' : World} {C : Nat} {ds : List Int} {k : M.Dec} (h : DecF w C ds k) (hb : Below w.heap.size w w') : DecF w' C ds k := by
  obtain ⟨A, ca, h⟩ := h; exact ⟨A, ca, h.keep hb⟩
theorem DecF.drew {w : World} {C : Nat} {ds : List Int} {k : M.Dec} (h : DecF w C ds k) : DecF w.drew C ds k := h.keep ⟨rfl, rfl, rfl, Nat.le_refl _, fun _ _ => rfl⟩
theorem DecF.adds {w : World} {C : Nat} {ds : List Int} {k : M.Dec} (h : DecF w C ds k) (os : Array Obj) (n : Nat) : DecF (addsW w os n) C ds k := h.keep (addsW_below _ _ _)
theorem DecF.code_ {w : World} {C : Nat} {ds : List Int} {k : M.Dec} (h : DecF w C ds k) (x : Int) : DecF (w.setCell ⟨C, 0, none⟩ (.int .u64 x)) C ds ⟨x, k.s, k.at_, k.ch⟩ := by
  obtain ⟨A, ca, h⟩ := h; exact ⟨A, ca, h.code_ x⟩
theorem DecF.s_ {w : World} {C : Nat} {ds : List Int} {k : M.Dec} (h : DecF w C ds k) (x : Int) : DecF (w.setCell ⟨C, 1, none⟩ (.int .u64 x)) C ds ⟨k.code, x, k.at_, k.ch⟩ := by
  obtain ⟨A, ca, h⟩ := h; exact ⟨A, ca, h.s_ x⟩
theorem DecF.ch_ {w : World} {C i : Nat} {ds : List Int} {k : M.Dec} (h : DecF w C ds k) (hi : i < 40) (x : Int) : DecF (w.setCell ⟨C, 2 + i, none⟩ (.int .i64 x)) C ds ⟨k.code, k.s, k.at_, k.ch.set i x⟩ := by
  obtain ⟨A, ca, h⟩ := h; exact ⟨A, ca, h.ch_ hi x⟩

/-- in the middle of a decision -/
def GetRelI (w : World) (C : Nat) (ds : List Int) (x0 : Int) (a0 : Nat) (s0 : Int) (ch : List Int) (wr : World) : Prop :=
  ∃ (r : Nat) (s : Int), r ≤ M.nrm s0 ∧ s = s0 * 256 ^ r ∧ DecF wr C ds ⟨M.takeR (byD ds) x0 a0 r, s, a0 + r, ch⟩ ∧ Frm C C w wr

set_option maxRecDepth 100000 in
set_option maxHeartbeats 4000000 in
theorem I_decode (C : Nat) (ds : List Int) (k : M.Dec) (x : Int) (w : World) (h : DecF w C ds k) (hg : M.GoodD k) (hby : ∀ i, 0 ≤ ds.getD i 0 ∧ ds.getD i 0 ≤ 255) (hx : 0 ≤ x ∧ x < 40) (hln : ds.length ≤ 1000000000000) :
    Calls Try.prog 78 #[.pointer (some ⟨C, 0, none⟩), .int .i64 x] w fun e w' => e = .returned (.int .i64 (M.decBit k x.toNat)) ∧ DecF w' C ds (M.dec1 (byD ds) k x.toNat) ∧ Frm C C w w' := by
  have H := Lib.hid h
  have HBY := Lib.hid hby
  obtain ⟨c0, c1, c3, f0⟩ := h.at0
  have hC := h.lt
  have hxn : x.toNat < 40 := by omega
  have hchl : x.toNat < k.ch.length := by rw [hg.ch.1]; exact hxn
  obtain ⟨p, hp⟩ : ∃ p, p = k.ch.getD x.toNat 0 := ⟨_, rfl⟩
  have hpb : 1 ≤ p ∧ p ≤ 4095 := by rw [hp]; exact hg.ch.2 _ hxn
  have hcp : w.cell? ⟨C, 2 + x.toNat, none⟩ = some (.int .i64 p) := by rw [hp]; exact c3 _ hxn
  have hs0 := hg.s0
  have hs1 := hg.s1
  have hq0 := hg.c0
  have hq1 := hg.c1
  obtain ⟨bd, hbd⟩ : ∃ bd, bd = k.s / 4096 * p := ⟨_, rfl⟩
  have HP := Lib.hid hp
  have HBD := Lib.hid hbd
  have HG := Lib.hid hg
  obtain ⟨-, -, k3, k4, k5⟩ := M.cut_bd (b := 0) hs0 hs1 hpb
  rw [← hbd] at k3 k4 k5
  have hx0 := hx.1
  have hx1 := hx.2
  have HCP := Lib.hid hcp
  have hcpA : ∀ v, (w.setCell ⟨C, 1, none⟩ v).cell? ⟨C, 2 + x.toNat, none⟩ = some (.int .i64 p) := fun v => (World.cell?_setCell_other w ⟨C, 1, none⟩ ⟨C, 2 + x.toNat, none⟩ _ (fun e => by injection e; omega)).trans hcp
  have hcpB : ∀ u v, ((w.setCell ⟨C, 0, none⟩ u).setCell ⟨C, 1, none⟩ v).cell? ⟨C, 2 + x.toNat, none⟩ = some (.int .i64 p) := fun u v => (World.cell?_setCell_other _ ⟨C, 1, none⟩ ⟨C, 2 + x.toNat, none⟩ _ (fun e => by injection e; omega)).trans ((World.cell?_setCell_other w ⟨C, 0, none⟩ ⟨C, 2 + x.toNat, none⟩ _ (fun e => by injection e; omega)).trans hcp)
  clear hp hbd hg h hby hx
  by_cases hlt : k.code < bd
  · have hbit : M.decBit k x.toNat = 0 := by unfold M.decBit; rw [← HP.out, ← HBD.out]; rw [if_pos hlt]
    have hcut : M.cutS k.s p 0 = bd := by rw [HBD.out]; rfl
    have hk1 : 4096 ≤ bd := by rw [← hcut]; exact (M.cut_bd (b := 0) hs0 hs1 hpb).1
    have hk2 : bd ≤ 4294967295 := by rw [← hcut]; exact (M.cut_bd (b := 0) hs0 hs1 hpb).2.1
    have HBIT := Lib.hid hbit
    have HCUT := Lib.hid hcut
    rw [hbit]
    clear hbit hcut
    go_enter Try.func78, Try.ntmps78
    go_wp2_with fail
    go_region_held3 (fun w' => w'.cell? ⟨C, 1, none⟩ = some (.int .u64 k.s)) (first | (go_simp; done) | (go_keep; done)) (first | (go_at_call 99; refine (I_boundD C k.s x p _ (by first | exact HCP.out | (go_simp; exact HCP.out)) ⟨by omega, hs1⟩ ⟨hx0, hx1⟩ hpb).mono ?_; rintro e w' ⟨rfl, rfl⟩; rw [← HBD.out]))
    go_wp2_with (go_at_call 100; refine (I_learnD C x 0 p _ (by first | exact hcpA _ | (go_simp; done)) (fun i => by first | exact f0 i | (go_simp; done)) ⟨hx0, hx1⟩).mono ?_; rintro e w' ⟨⟨v, rfl⟩, n1, rfl⟩)
    go_loopw [54] (fun s54 wr => GetRelI w C ds (k.code) k.at_ (bd) (k.ch.set x.toNat (M.chance p 0)) wr) (fun _ wr => spanLeft C wr)
    case atStart =>
      refine ⟨0, bd, Nat.zero_le _, by rw [Int.pow_zero, Int.mul_one], ?_, ?_⟩
      · show DecF _ C ds ⟨k.code, bd, k.at_, k.ch.set x.toNat (M.chance p 0)⟩
        repeat (first | (with_reducible apply DecF.drew) | (with_reducible apply DecF.adds))
        refine DecF.ch_ (k := ⟨k.code, bd, k.at_, k.ch⟩) ?_ hxn _
        repeat (first | (with_reducible apply DecF.drew) | (with_reducible apply DecF.adds))
        refine DecF.s_ (k := ⟨k.code, k.s, k.at_, k.ch⟩) ?_ _
        repeat (first | (with_reducible apply DecF.drew) | (with_reducible apply DecF.adds))
        first | exact H.out | (refine DecF.code_ (k := k) ?_ _; repeat (first | (with_reducible apply DecF.drew) | (with_reducible apply DecF.adds))); exact H.out
      · repeat (first | (with_reducible exact Frm.refl _ _ _) | (with_reducible refine Frm.drew ?_) | (with_reducible refine Frm.adds ?_ _ _) | (with_reducible refine Frm.setC ?_ _ _))
    case round =>
      clear c0 c1 c3 f0 hC H hcp hcpA hcpB HCP
      obtain ⟨r, s1, hr, hs, hcod, hbel⟩ := hrel
      have H := Lib.hid hcod
      have HB := Lib.hid hbel
      obtain ⟨c0, c1, c3, f0⟩ := hcod.at0
      have hC := hcod.lt
      have hst := nrm_step hk1 hr
      have hsp : 0 < s1 := by rw [hs]; exact Int.mul_pos (by omega) (M.pow_pos256 r)
      have hr2 : r ≤ 2 := Nat.le_trans hr (M.nrm_two _)
      rw [← hs] at hst
      have HST := Lib.hid hst
      have HSS := Lib.hid hs
      have htb := M.takeR_bd (d := byD ds) HBY.out (code := k.code) k.at_ r (by omega)
      have HTB := Lib.hid htb
      clear hst hs hcod hbel htb
      by_cases hlt2 : s1 < 16777216
      · have hs256 : s1 * 256 ≤ 4294967040 := by omega
        have hsw : IntKind.u64.wrap (s1 * 256) = s1 * 256 := by simp only [IntKind.wrap_u64]; omega
        go_wp2_with (go_at_call 103; refine (I_takeByte C ds _ _ H.out HBY.out HTB.out hln).mono ?_; rintro e w' ⟨⟨v, rfl⟩, hcod2, hbel2⟩; have H2 := Lib.hid hcod2; obtain ⟨d0, d1, d3, g0⟩ := hcod2.at0; have HB2 := Lib.hid hbel2; clear hcod2 hbel2)
        go_roundw
        case rel =>
          exact ⟨r + 1, s1 * 256, HST.out.1 hlt2, by rw [HSS.out, Int.pow_succ, Int.mul_assoc], H2.out.s_ _, (HB.out.trans HB2.out).setC 1 _⟩
        case measure => rw [spanLeft_ofU (H2.out.s_ (s1 * 256)).at0.2.1, spanLeft_ofU c1]; simp only; omega
      · go_wp2_with fail
        go_returns
        have hrr := HST.out.2 (by omega)
        have hdec : M.dec1 (byD ds) k x.toNat = ⟨M.takeR (byD ds) (k.code) k.at_ r, s1, k.at_ + r, k.ch.set x.toNat (M.chance p 0)⟩ := by
          simp only [M.dec1, HBIT.out, ← HP.out, HCUT.out, ← HBD.out, hrr, HSS.out]
          rfl
        exact ⟨rfl, by rw [hdec]; exact H.out, HB.out⟩
  · have hbit : M.decBit k x.toNat = 1 := by unfold M.decBit; rw [← HP.out, ← HBD.out]; rw [if_neg hlt]
    have hcut : M.cutS k.s p 1 = k.s - bd := by rw [HBD.out]; rfl
    have hk1 : 4096 ≤ k.s - bd := by rw [← hcut]; exact (M.cut_bd (b := 1) hs0 hs1 hpb).1
    have hk2 : k.s - bd ≤ 4294967295 := by rw [← hcut]; exact (M.cut_bd (b := 1) hs0 hs1 hpb).2.1
    have HBIT := Lib.hid hbit
    have HCUT := Lib.hid hcut
    have ew1 : IntKind.u64.wrap (k.code - bd) = k.code - bd := by simp only [IntKind.wrap_u64]; omega
    have ew2 : IntKind.u64.wrap (k.s - bd) = k.s - bd := by simp only [IntKind.wrap_u64]; omega
    rw [hbit]
    clear hbit hcut
    go_enter Try.func78, Try.ntmps78
    go_wp2_with fail
    go_region_held3 (fun w' => w'.cell? ⟨C, 1, none⟩ = some (.int .u64 k.s)) (first | (go_simp; done) | (go_keep; done)) (first | (go_at_call 99; refine (I_boundD C k.s x p _ (by first | exact HCP.out | (go_simp; exact HCP.out)) ⟨by omega, hs1⟩ ⟨hx0, hx1⟩ hpb).mono ?_; rintro e w' ⟨rfl, rfl⟩; rw [← HBD.out]))
    go_wp2_with (go_at_call 100; refine (I_learnD C x 1 p _ (by first | exact hcpB _ _ | (go_simp; done)) (fun i => by first | exact f0 i | (go_simp; done)) ⟨hx0, hx1⟩).mono ?_; rintro e w' ⟨⟨v, rfl⟩, n1, rfl⟩)
    go_loopw [54] (fun s54 wr => GetRelI w C ds (k.code - bd) k.at_ (k.s - bd) (k.ch.set x.toNat (M.chance p 1)) wr) (fun _ wr => spanLeft C wr)
    case atStart =>
      refine ⟨0, k.s - bd, Nat.zero_le _, by rw [Int.pow_zero, Int.mul_one], ?_, ?_⟩
      · show DecF _ C ds ⟨k.code - bd, k.s - bd, k.at_, k.ch.set x.toNat (M.chance p 1)⟩
        repeat (first | (with_reducible apply DecF.drew) | (with_reducible apply DecF.adds))
        refine DecF.ch_ (k := ⟨k.code - bd, k.s - bd, k.at_, k.ch⟩) ?_ hxn _
        repeat (first | (with_reducible apply DecF.drew) | (with_reducible apply DecF.adds))
        refine DecF.s_ (k := ⟨k.code - bd, k.s, k.at_, k.ch⟩) ?_ _
        repeat (first | (with_reducible apply DecF.drew) | (with_reducible apply DecF.adds))
        first | exact H.out | (refine DecF.code_ (k := k) ?_ _; repeat (first | (with_reducible apply DecF.drew) | (with_reducible apply DecF.adds))); exact H.out
      · repeat (first | (with_reducible exact Frm.refl _ _ _) | (with_reducible refine Frm.drew ?_) | (with_reducible refine Frm.adds ?_ _ _) | (with_reducible refine Frm.setC ?_ _ _))
    case round =>
      clear c0 c1 c3 f0 hC H hcp hcpA hcpB HCP
      obtain ⟨r, s1, hr, hs, hcod, hbel⟩ := hrel
      have H := Lib.hid hcod
      have HB := Lib.hid hbel
      obtain ⟨c0, c1, c3, f0⟩ := hcod.at0
      have hC := hcod.lt
      have hst := nrm_step hk1 hr
      have hsp : 0 < s1 := by rw [hs]; exact Int.mul_pos (by omega) (M.pow_pos256 r)
      have hr2 : r ≤ 2 := Nat.le_trans hr (M.nrm_two _)
      rw [← hs] at hst
      have HST := Lib.hid hst
      have HSS := Lib.hid hs
      have htb := M.takeR_bd (d := byD ds) HBY.out (code := k.code - bd) k.at_ r (by omega)
      have HTB := Lib.hid htb
      clear hst hs hcod hbel htb
      by_cases hlt2 : s1 < 16777216
      · have hs256 : s1 * 256 ≤ 4294967040 := by omega
        have hsw : IntKind.u64.wrap (s1 * 256) = s1 * 256 := by simp only [IntKind.wrap_u64]; omega
        go_wp2_with (go_at_call 103; refine (I_takeByte C ds _ _ H.out HBY.out HTB.out hln).mono ?_; rintro e w' ⟨⟨v, rfl⟩, hcod2, hbel2⟩; have H2 := Lib.hid hcod2; obtain ⟨d0, d1, d3, g0⟩ := hcod2.at0; have HB2 := Lib.hid hbel2; clear hcod2 hbel2)
        go_roundw
        case rel =>
          exact ⟨r + 1, s1 * 256, HST.out.1 hlt2, by rw [HSS.out, Int.pow_succ, Int.mul_assoc], H2.out.s_ _, (HB.out.trans HB2.out).setC 1 _⟩
        case measure => rw [spanLeft_ofU (H2.out.s_ (s1 * 256)).at0.2.1, spanLeft_ofU c1]; simp only; omega
      · go_wp2_with fail
        go_returns
        have hrr := HST.out.2 (by omega)
        have hdec : M.dec1 (byD ds) k x.toNat = ⟨M.takeR (byD ds) (k.code - bd) k.at_ r, s1, k.at_ + r, k.ch.set x.toNat (M.chance p 1)⟩ := by
          simp only [M.dec1, HBIT.out, ← HP.out, HCUT.out, ← HBD.out, hrr, HSS.out]
          rfl
        exact ⟨rfl, by rw [hdec]; exact H.out, HB.out⟩

end Go.Proofs.Ytndbdfbjiaaloaa
