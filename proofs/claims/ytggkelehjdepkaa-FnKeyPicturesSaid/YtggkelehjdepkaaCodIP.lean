/- The program's coder: one decision coded. -/
import Derived.Test.YtggkelehjdepkaaCodI
namespace Go.Proofs.Ytggkelehjdepkaa
open Go.RowKit
set_option linter.unusedVariables false
set_option linter.unusedSimpArgs false

attribute [local go_sem] size_addsW cell?_addsW frozen?_addsW setCell_addsW drew_addsW adds_addsW setCell_twice alloc_adds0 size_adds0 adds_adds0 sel2 sel3 sel4 sel5 sel6 sel7 sel8 sel9 lt_more lt_more2 lt_more3 lt_more4 adds_drew adds_drewN drewN_addsW ltA_1_1 ltA_1_2 ltA_1_3 ltA_1_4 ltA_1_5 ltA_1_6 ltA_2_1 ltA_2_2 ltA_2_3 ltA_2_4 ltA_2_5 ltA_2_6 ltA_3_1 ltA_3_2 ltA_3_3 ltA_3_4 ltA_3_5 ltA_3_6 ltA_4_1 ltA_4_2 ltA_4_3 ltA_4_4 ltA_4_5 ltA_4_6 ltA_5_1 ltA_5_2 ltA_5_3 ltA_5_4 ltA_5_5 ltA_5_6 ltA_6_1 ltA_6_2 ltA_6_3 ltA_6_4 ltA_6_5 ltA_6_6 ltA_7_1 ltA_7_2 ltA_7_3 ltA_7_4 ltA_7_5 ltA_7_6 ltA_8_1 ltA_8_2 ltA_8_3 ltA_8_4 ltA_8_5 ltA_8_6 ltA_9_1 ltA_9_2 ltA_9_3 ltA_9_4 ltA_9_5 ltA_9_6 ltA_10_1 ltA_10_2 ltA_10_3 ltA_10_4 ltA_10_5 ltA_10_6 ltA_11_1 ltA_11_2 ltA_11_3 ltA_11_4 ltA_11_5 ltA_11_6 ltA_12_1 ltA_12_2 ltA_12_3 ltA_12_4 ltA_12_5 ltA_12_6

theorem CodI.adds {w : World} {C : Nat} {low s : Int} {out ch : List Int} {vo : Value} (h : CodI w C low s out vo ch) (os : Array Obj) (n : Nat) : CodI (addsW w os n) C low s out vo ch := h.keep (addsW_below _ _ _)
theorem spanLeft_ofU {C : Nat} {wr : World} {s : Int} (h : wr.cell? ⟨C, 1, none⟩ = some (.int .u64 s)) : spanLeft C wr = (16777216 - s).toNat := by
  unfold spanLeft; rw [h]; rfl

theorem I_bound (C : Nat) (low s x p : Int) (out ch : List Int) (vo : Value) (w : World) (h : CodI w C low s out vo ch) (hs : 0 ≤ s ∧ s ≤ 4294967295) (hx : 0 ≤ x ∧ x < 40) (hp : p = ch.getD x.toNat 0) (hpb : 1 ≤ p ∧ p ≤ 4095) :
    Calls Try.prog 81 #[.pointer (some ⟨C, 2, none⟩), .int .u64 s, .int .i64 x] w fun e w' => e = .returned (.int .u64 (s / 4096 * p)) ∧ w = w' := by
  have hc := h.cells.2.2.2.1 x.toNat (by omega)
  rw [← hp] at hc
  have hb : 0 ≤ s / 4096 * p ∧ s / 4096 * p ≤ 4294963200 := by
    have a2 : s / 4096 * p ≤ s / 4096 * 4095 := Int.mul_le_mul_of_nonneg_left hpb.2 (by omega)
    exact ⟨Int.mul_nonneg (by omega) (by omega), by omega⟩
  obtain ⟨bd, hbd⟩ : ∃ bd, bd = s / 4096 * p := ⟨_, rfl⟩
  rw [← hbd] at hb ⊢
  have e1 : IntKind.u64.wrap (s / 4096 * p) = bd := by rw [← hbd]; simp only [IntKind.wrap_u64]; omega
  have e2 : IntKind.u64.wrap p = p := by simp only [IntKind.wrap_u64]; omega
  have hx0 := hx.1
  have hx1 := hx.2
  clear h hp hbd hx
  go_enter Try.func81, Try.ntmps81
  go_wp2_with fail
  go_returns
  exact ⟨rfl, rfl⟩

theorem I_learn (C : Nat) (low s x b p : Int) (out ch : List Int) (vo : Value) (w : World) (h : CodI w C low s out vo ch) (hx : 0 ≤ x ∧ x < 40) (hp : p = ch.getD x.toNat 0) :
    Calls Try.prog 82 #[.pointer (some ⟨C, 2, none⟩), .int .i64 x, .int .i64 b] w fun e w' => (∃ v, e = .returned v) ∧ ∃ n, w' = addsW (w.setCell ⟨C, 2 + x.toNat, none⟩ (.int .i64 (M.chance p b))) #[] n := by
  have hc := h.cells.2.2.2.1 x.toNat (by omega)
  rw [← hp] at hc
  have hf := h.cells.2.2.2.2
  have hx0 := hx.1
  have hx1 := hx.2
  clear h hp hx
  go_enter Try.func82, Try.ntmps82
  go_wp2_with fail
  refine wp_region_held_drew (S := (fun w' => True)) (by kernel_rfl) ?_ (fun hHeld => ?_)
  · trivial
  refine wpAnyH_take (i := 0) (oi := _) (v := ?_) rfl (by kernel_rfl) (by kernel_rfl) (by kernel_rfl) (fun _ _ _ h => h) (Or.inl ⟨by rfl, ?_⟩) (by assumption) ?_
  rotate_left
  · intro w hSw; (try dsimp only at hSw); go_simp; (try with_reducible rfl)
  try dsimp only [List.getElem_toArray, List.getElem_cons_succ, List.getElem_cons_zero]
  simp only [Act.put, List.setIfInBounds_toArray, List.set_cons_zero, List.set_cons_succ]
  refine wpAnyH_take (i := 1) (oi := _) (v := ?_) rfl (by kernel_rfl) (by kernel_rfl) (by kernel_rfl) (fun _ _ _ h => h) (Or.inl ⟨by rfl, ?_⟩) (by assumption) ?_
  rotate_left
  · intro w hSw; (try dsimp only at hSw); go_simp; (try with_reducible rfl)
  try dsimp only [List.getElem_toArray, List.getElem_cons_succ, List.getElem_cons_zero]
  simp only [Act.put, List.setIfInBounds_toArray, List.set_cons_zero, List.set_cons_succ]
  refine wpAnyH_take (i := 2) (oi := _) (v := ?_) rfl (by kernel_rfl) (by kernel_rfl) (by kernel_rfl) (fun _ _ _ h => h) (Or.inl ⟨by rfl, ?_⟩) (by assumption) ?_
  rotate_left
  · intro w hSw; (try dsimp only at hSw); go_simp; (try with_reducible rfl)
  try dsimp only [List.getElem_toArray, List.getElem_cons_succ, List.getElem_cons_zero]
  simp only [Act.put, List.setIfInBounds_toArray, List.set_cons_zero, List.set_cons_succ]
  refine wpAnyH_take (i := 3) (oi := _) (v := ?_) rfl (by kernel_rfl) (by kernel_rfl) (by kernel_rfl) (fun _ _ _ h => h) (Or.inl ⟨by rfl, ?_⟩) (by assumption) ?_
  rotate_left
  · intro w hSw; (try dsimp only at hSw); go_simp; (try with_reducible rfl)
  try dsimp only [List.getElem_toArray, List.getElem_cons_succ, List.getElem_cons_zero]
  simp only [Act.put, List.setIfInBounds_toArray, List.set_cons_zero, List.set_cons_succ]
  refine wpAnyH_take (i := 4) (oi := _) (v := ?_) rfl (by kernel_rfl) (by kernel_rfl) (by kernel_rfl) (fun _ _ _ h => h) (Or.inl ⟨by rfl, ?_⟩) (by assumption) ?_
  rotate_left
  · intro w hSw; (try dsimp only at hSw); go_simp; (try with_reducible rfl)
  try dsimp only [List.getElem_toArray, List.getElem_cons_succ, List.getElem_cons_zero]
  simp only [Act.put, List.setIfInBounds_toArray, List.set_cons_zero, List.set_cons_succ]
  refine wpAnyH_take (i := 5) (oi := _) (v := ?_) rfl (by kernel_rfl) (by kernel_rfl) (by kernel_rfl) (fun _ _ _ h => h) (Or.inl ⟨by rfl, ?_⟩) (by assumption) ?_
  rotate_left
  · intro w hSw; (try dsimp only at hSw); go_simp; (try with_reducible rfl)
  try dsimp only [List.getElem_toArray, List.getElem_cons_succ, List.getElem_cons_zero]
  simp only [Act.put, List.setIfInBounds_toArray, List.set_cons_zero, List.set_cons_succ]
  refine wpAnyH_take (i := 7) (oi := _) (v := ?_) rfl (by kernel_rfl) (by kernel_rfl) (by kernel_rfl) (fun _ _ _ h => h) (Or.inl ⟨by rfl, ?_⟩) (by assumption) ?_
  rotate_left
  · intro w hSw; (try dsimp only at hSw); go_simp; (try with_reducible rfl)
  try dsimp only [List.getElem_toArray, List.getElem_cons_succ, List.getElem_cons_zero]
  simp only [Act.put, List.setIfInBounds_toArray, List.set_cons_zero, List.set_cons_succ]
  refine wpAnyH_take (i := 9) (oi := _) (v := ?_) rfl (by kernel_rfl) (by kernel_rfl) (by kernel_rfl) (fun _ _ _ h => h) (Or.inl ⟨by rfl, ?_⟩) (by assumption) ?_
  rotate_left
  · intro w hSw; (try dsimp only at hSw); go_simp; (try with_reducible rfl)
  try dsimp only [List.getElem_toArray, List.getElem_cons_succ, List.getElem_cons_zero]
  simp only [Act.put, List.setIfInBounds_toArray, List.set_cons_zero, List.set_cons_succ]
  refine wpAnyH_ready (rs := [6]) (by kernel_rfl) (by simp) ?_
  refine AllReadyH.cons (o := _) rfl (fun K hK => ?_) ?_
  · (try dsimp only [List.getElem_toArray, List.getElem_cons_succ, List.getElem_cons_zero]); go_simp
    refine hK.out _ _ ?_ (fun hHeld => ?_)
    · trivial
    clear hK K
    try simp only [Act.put, List.setIfInBounds_toArray, List.set_cons_zero, List.set_cons_succ]
    refine wpAnyH_ready (rs := [8]) (by kernel_rfl) (by simp) ?_
    refine AllReadyH.cons (o := _) rfl (fun K hK => ?_) ?_
    · (try dsimp only [List.getElem_toArray, List.getElem_cons_succ, List.getElem_cons_zero]); go_simp
      (go_at_call 90; refine (I_NextChance _ _ _).mono ?_; rintro e w' ⟨rfl, rfl⟩)
      try go_wp2_with fail
      refine hK.out _ _ ?_ (fun hHeld => ?_)
      · trivial
      clear hK K
      try simp only [Act.put, List.setIfInBounds_toArray, List.set_cons_zero, List.set_cons_succ]
      refine wpAnyH_take (i := 10) (oi := _) (v := ?_) rfl (by kernel_rfl) (by kernel_rfl) (by kernel_rfl) (fun _ _ _ h => h) (Or.inl ⟨by rfl, ?_⟩) (by assumption) ?_
      rotate_left
      · intro w hSw; (try dsimp only at hSw); go_simp; (try with_reducible rfl)
      try dsimp only [List.getElem_toArray, List.getElem_cons_succ, List.getElem_cons_zero]
      simp only [Act.put, List.setIfInBounds_toArray, List.set_cons_zero, List.set_cons_succ]
      refine wpAnyH_ready (rs := [11]) (by kernel_rfl) (by simp) ?_
      refine AllReadyH.cons (o := _) rfl (fun K hK => ?_) ?_
      · (try dsimp only [List.getElem_toArray, List.getElem_cons_succ, List.getElem_cons_zero]); go_simp
        refine hK.out _ _ ?_ (fun hHeld => ?_)
        · trivial
        clear hK K
        try simp only [Act.put, List.setIfInBounds_toArray, List.set_cons_zero, List.set_cons_succ]
        refine wpAnyH_done (by kernel_rfl) ?_ _
        go_wp2_with fail
        go_returns
        exact ⟨⟨_, rfl⟩, _, by first | exact drew_adds _ | exact drewN_adds _ _ | exact self_adds _⟩
      exact AllReadyH.nil
    exact AllReadyH.nil
  exact AllReadyH.nil

/-- how the coder stands: k by numbers -/
structure CodIAt (w : World) (C : Nat) (k : M.Coder) : Prop where
  st : ∃ (low : Int) (out : List Int) (vo : Value), CodI w C low k.s out vo k.ch ∧ 0 ≤ low ∧ low + k.s ≤ 8589934592 ∧ M.bytesB out ∧ out.length = k.n ∧ M.num out * 4294967296 + low = k.N
  good : M.Good k

/-- in the middle of a decision -/
def PutRelI (w : World) (C : Nat) (N0 : Int) (n0 : Nat) (s0 : Int) (ch : List Int) (wr : World) : Prop :=
  ∃ (r : Nat) (low s : Int) (out : List Int) (vo : Value), r ≤ M.nrm s0 ∧ s = s0 * 256 ^ r ∧ CodI wr C low s out vo ch ∧ 0 ≤ low ∧ low + s ≤ 8589934592 ∧ M.bytesB out ∧ out.length = n0 + r ∧ M.num out * 4294967296 + low = N0 * 256 ^ r ∧ Below C w wr

set_option maxRecDepth 100000 in
set_option maxHeartbeats 4000000 in
theorem I_encode (C : Nat) (k : M.Coder) (x b : Int) (w : World) (h : CodIAt w C k) (hx : 0 ≤ x ∧ x < 40) (hb : b = 0 ∨ b = 1) (hn : k.n ≤ 50000) :
    Calls Try.prog 68 #[.pointer (some ⟨C, 0, none⟩), .agg #[.int .i64 x, .int .i64 b]] w fun e w' => (∃ v, e = .returned v) ∧ CodIAt w' C (M.enc1 k x.toNat b) ∧ Below C w w' := by
  obtain ⟨⟨low, out, vo, hcod, hl0, hl1, hby, hlen, hnum⟩, hg⟩ := h
  have H := Lib.hid hcod
  have HG := Lib.hid hg
  obtain ⟨c0, c1, c2, c3, f0⟩ := hcod.cells
  have hC := hcod.lt
  have hxn : x.toNat < 40 := by omega
  have hchl : x.toNat < k.ch.length := by rw [hg.ch.1]; exact hxn
  obtain ⟨p, hp⟩ : ∃ p, p = k.ch.getD x.toNat 0 := ⟨_, rfl⟩
  have hpb : 1 ≤ p ∧ p ≤ 4095 := by rw [hp]; exact hg.ch.2 _ hxn
  have hs0 := hg.s0
  have hs1 := hg.s1
  obtain ⟨k1, k2, k3, k4, k5⟩ := M.cut_bd (b := b) hs0 hs1 hpb
  obtain ⟨bd, hbd⟩ : ∃ bd, bd = k.s / 4096 * p := ⟨_, rfl⟩
  have HP := Lib.hid hp
  have HBD := Lib.hid hbd
  rw [← hbd] at k3 k4 k5
  have hroom : M.cutN k.N k.s p b + M.cutS k.s p b ≤ 256 ^ (k.n + 4) := by
    have := hg.n1; unfold M.cutN M.cutS; split <;> omega
  have HROOM := Lib.hid hroom
  obtain ⟨S0, hS0⟩ : ∃ S0, S0 = M.cutS k.s p b := ⟨_, rfl⟩
  obtain ⟨N0, hN0⟩ : ∃ N0, N0 = M.cutN k.N k.s p b := ⟨_, rfl⟩
  have HS0 := Lib.hid hS0
  have HN0 := Lib.hid hN0
  have HNUM := Lib.hid hnum
  have HBY := Lib.hid hby
  have HLEN := Lib.hid hlen
  have HK1 := Lib.hid (show 4096 ≤ S0 by rw [hS0]; exact k1)
  have HK2 := Lib.hid k2
  have hx0 := hx.1
  have hx1 := hx.2
  clear hp hbd hroom hS0 hN0 hnum hby hlen hg hcod k1 k2 hx
  rcases hb with rfl | rfl
  · have es : S0 = bd := by rw [HS0.out, HBD.out]; rfl
    have en : N0 = k.N := by rw [HN0.out]; rfl
    have HES := Lib.hid es
    have HEN := Lib.hid en
    have ew1 : IntKind.u64.wrap (low + bd) = low + bd := by simp only [IntKind.wrap_u64]; omega
    have ew2 : IntKind.u64.wrap (k.s - bd) = k.s - bd := by simp only [IntKind.wrap_u64]; omega
    clear es en
    go_enter Try.func68, Try.ntmps68
    go_wp2_with fail
    go_region_held3 (fun w' => w'.cell? ⟨C, 1, none⟩ = some (.int .u64 k.s) ∧ w'.cell? ⟨w.heap.size, 0, none⟩ = some (.int .i64 x)) (first | (go_simp; done) | (go_keep; done)) (first | (go_at_call 81; refine (I_bound C low k.s x p out k.ch vo _ ((H.out.alloc _).keep (by repeat' (first | (with_reducible exact Below.refl _ _) | (with_reducible refine Below.adds_ ?_ ?_ _ _) | (with_reducible refine Below.alloc ?_ ?_ _) | (with_reducible refine Below.drew ?_) | (with_reducible refine Below.setCell ?_ ?_ _) | (with_reducible assumption) | go_size | (simp only [size_addsW, World.size_alloc, World.size_drew, World.size_setCell]; omega)))) ⟨by omega, hs1⟩ ⟨hx0, hx1⟩ HP.out hpb).mono ?_; rintro e w' ⟨rfl, rfl⟩; rw [← HBD.out]))
    go_wp2_with fail
    refine wp_region_held_drew (S := (fun w' => w'.cell? ⟨w.heap.size, 0, none⟩ = some (.int .i64 x) ∧ w'.cell? ⟨w.heap.size, 1, none⟩ = some (.int .i64 0))) (by kernel_rfl) ?_ (fun hHeld => ?_)
    · (first | (go_simp; done) | (go_keep; done))
    refine wpAnyH_take (i := 0) (oi := _) (v := ?_) rfl (by kernel_rfl) (by kernel_rfl) (by kernel_rfl) (fun _ _ _ h => h) (Or.inl ⟨by rfl, ?_⟩) (by assumption) ?_
    rotate_left
    · intro w hSw; (try dsimp only at hSw); go_simp; (try with_reducible rfl)
    try dsimp only [List.getElem_toArray, List.getElem_cons_succ, List.getElem_cons_zero]
    simp only [Act.put, List.setIfInBounds_toArray, List.set_cons_zero, List.set_cons_succ]
    refine wpAnyH_take (i := 1) (oi := _) (v := ?_) rfl (by kernel_rfl) (by kernel_rfl) (by kernel_rfl) (fun _ _ _ h => h) (Or.inl ⟨by rfl, ?_⟩) (by assumption) ?_
    rotate_left
    · intro w hSw; (try dsimp only at hSw); go_simp; (try with_reducible rfl)
    try dsimp only [List.getElem_toArray, List.getElem_cons_succ, List.getElem_cons_zero]
    simp only [Act.put, List.setIfInBounds_toArray, List.set_cons_zero, List.set_cons_succ]
    refine wpAnyH_take (i := 2) (oi := _) (v := ?_) rfl (by kernel_rfl) (by kernel_rfl) (by kernel_rfl) (fun _ _ _ h => h) (Or.inl ⟨by rfl, ?_⟩) (by assumption) ?_
    rotate_left
    · intro w hSw; (try dsimp only at hSw); go_simp; (try with_reducible rfl)
    try dsimp only [List.getElem_toArray, List.getElem_cons_succ, List.getElem_cons_zero]
    simp only [Act.put, List.setIfInBounds_toArray, List.set_cons_zero, List.set_cons_succ]
    refine wpAnyH_take (i := 3) (oi := _) (v := ?_) rfl (by kernel_rfl) (by kernel_rfl) (by kernel_rfl) (fun _ _ _ h => h) (Or.inl ⟨by rfl, ?_⟩) (by assumption) ?_
    rotate_left
    · intro w hSw; (try dsimp only at hSw); go_simp; (try with_reducible rfl)
    try dsimp only [List.getElem_toArray, List.getElem_cons_succ, List.getElem_cons_zero]
    simp only [Act.put, List.setIfInBounds_toArray, List.set_cons_zero, List.set_cons_succ]
    refine wpAnyH_take (i := 4) (oi := _) (v := ?_) rfl (by kernel_rfl) (by kernel_rfl) (by kernel_rfl) (fun _ _ _ h => h) (Or.inl ⟨by rfl, ?_⟩) (by assumption) ?_
    rotate_left
    · intro w hSw; (try dsimp only at hSw); go_simp; (try with_reducible rfl)
    try dsimp only [List.getElem_toArray, List.getElem_cons_succ, List.getElem_cons_zero]
    simp only [Act.put, List.setIfInBounds_toArray, List.set_cons_zero, List.set_cons_succ]
    refine wpAnyH_take (i := 5) (oi := _) (v := ?_) rfl (by kernel_rfl) (by kernel_rfl) (by kernel_rfl) (fun _ _ _ h => h) (Or.inl ⟨by rfl, ?_⟩) (by assumption) ?_
    rotate_left
    · intro w hSw; (try dsimp only at hSw); go_simp; (try with_reducible rfl)
    try dsimp only [List.getElem_toArray, List.getElem_cons_succ, List.getElem_cons_zero]
    simp only [Act.put, List.setIfInBounds_toArray, List.set_cons_zero, List.set_cons_succ]
    refine wpAnyH_take (i := 6) (oi := _) (v := ?_) rfl (by kernel_rfl) (by kernel_rfl) (by kernel_rfl) (fun _ _ _ h => h) (Or.inl ⟨by rfl, ?_⟩) (by assumption) ?_
    rotate_left
    · intro w hSw; (try dsimp only at hSw); go_simp; (try with_reducible rfl)
    try dsimp only [List.getElem_toArray, List.getElem_cons_succ, List.getElem_cons_zero]
    simp only [Act.put, List.setIfInBounds_toArray, List.set_cons_zero, List.set_cons_succ]
    refine wpAnyH_ready (rs := [7]) (by kernel_rfl) (by simp) ?_
    refine AllReadyH.cons (o := _) rfl (fun K hK => ?_) ?_
    · (try dsimp only [List.getElem_toArray, List.getElem_cons_succ, List.getElem_cons_zero]); go_simp
      (go_at_call 82; refine (I_learn C _ _ x 0 p out k.ch vo _ (by repeat (first | (with_reducible exact H.out) | (with_reducible apply CodI.drew) | (with_reducible apply CodI.adds) | (with_reducible apply CodI.alloc) | (with_reducible apply CodI.s_) | (with_reducible apply CodI.low_) | (with_reducible refine CodI.ch_ ?_ hxn _))) ⟨hx0, hx1⟩ HP.out).mono ?_; rintro e w' ⟨⟨v, rfl⟩, n1, rfl⟩)
      try go_wp2_with fail
      refine hK.out _ _ ?_ (fun hHeld => ?_)
      · (first | (go_simp; done) | (go_keep; done))
      clear hK K
      try simp only [Act.put, List.setIfInBounds_toArray, List.set_cons_zero, List.set_cons_succ]
      refine wpAnyH_done (by kernel_rfl) ?_ _
      go_wp2_with fail
      go_loopw [46] (fun s46 wr => PutRelI w C N0 k.n S0 (k.ch.set x.toNat (M.chance p 0)) wr) (fun _ wr => spanLeft C wr)
      case atStart =>
        exact ⟨0, low, S0, out, vo, Nat.zero_le _, by rw [Int.pow_zero, Int.mul_one], by rw [HES.out]; exact (by repeat (first | (with_reducible exact H.out) | (with_reducible apply CodI.drew) | (with_reducible apply CodI.adds) | (with_reducible apply CodI.alloc) | (with_reducible apply CodI.s_) | (with_reducible apply CodI.low_) | (with_reducible refine CodI.ch_ ?_ hxn _))), by omega, by rw [HES.out]; omega, HBY.out, HLEN.out, by rw [Int.pow_zero, Int.mul_one, HEN.out, ← HNUM.out]; first | done | omega, (by repeat (first | (with_reducible exact Below.refl _ _) | (with_reducible refine Below.drew ?_) | (with_reducible refine Below.adds_ ?_ (by simp only [World.size_setCell, World.size_alloc]; omega) _ _) | (with_reducible refine Below.alloc ?_ (by simp only [World.size_setCell]; omega) _) | (refine Below.setCell ?_ (by exact Nat.le_refl _) _)))⟩
      case round =>
        clear c0 c1 c2 c3 f0 hC H
        obtain ⟨r, low1, s1, out1, vo1, hr, hs, hcod, hl0', hl1', hby, hlen, hnum, hbel⟩ := hrel
        have H := Lib.hid hcod
        obtain ⟨c0, c1, c2, c3, f0⟩ := hcod.cells
        have hC := hcod.lt
        have hst := nrm_step HK1.out hr
        have hsp : 0 < s1 := by rw [hs]; exact Int.mul_pos (by have := HK1.out; omega) (M.pow_pos256 r)
        have hr2 : r ≤ 2 := Nat.le_trans hr (M.nrm_two S0)
        have hrm : M.num out1 * 4294967296 + low1 < 256 ^ out1.length * 4294967296 := by rw [hnum, hlen]; exact low_room (s0 := S0) (by rw [HS0.out, HN0.out]; exact HROOM.out) (by have := HK1.out; omega)
        rw [← hs] at hst
        have HST := Lib.hid hst
        have HSS := Lib.hid hs
        have HB1 := Lib.hid hby
        have HL1 := Lib.hid hlen
        have HM1 := Lib.hid hnum
        have HRM := Lib.hid hrm
        have HBE := Lib.hid hbel
        have hl100 : out1.length ≤ 100000 := by omega
        clear hst hs hby hlen hnum hrm hbel hcod
        by_cases hlt : s1 < 16777216
        · have hs256 : s1 * 256 ≤ 4294967040 := by omega
          have hsw : IntKind.u64.wrap (s1 * 256) = s1 * 256 := by simp only [IntKind.wrap_u64]; omega
          go_wp2_with (go_at_call 69; refine (I_putByte C low1 s1 out1 _ vo1 _ H.out ⟨hl0', by omega⟩ HB1.out HRM.out hl100).mono ?_; rintro e w' ⟨v, vo2, out2, rfl, hcod2, hbel2, hlen2, hby2, hnum2⟩; have H2 := Lib.hid hcod2; obtain ⟨d0, d1, d2, d3, g0⟩ := hcod2.cells; have HB2 := Lib.hid hbel2; have HL2 := Lib.hid hlen2; have HY2 := Lib.hid hby2; have HN2 := Lib.hid hnum2; clear hcod2 hbel2 hlen2 hby2 hnum2)
          go_roundw
          case rel =>
            refine ⟨r + 1, low1 % 16777216 * 256, s1 * 256, out2, vo2, HST.out.1 hlt, by rw [HSS.out, Int.pow_succ, Int.mul_assoc], H2.out.s_ _, by omega, by omega, HY2.out, by rw [HL2.out, HL1.out]; rfl, by rw [HN2.out, HM1.out, Int.pow_succ, Int.mul_assoc], (HBE.out.trans HB2.out).trans (H2.out.below (by omega) _ _)⟩
          case measure => rw [spanLeft_ofU (H2.out.s_ (s1 * 256)).cells.2.1, spanLeft_ofU c1]; omega
        · go_wp2_with fail
          go_returns
          have hrr := HST.out.2 (by omega)
          refine ⟨⟨_, rfl⟩, ⟨⟨low1, out1, vo1, ?_, by omega, ?_, HB1.out, ?_, ?_⟩, M.good_one HG.out hxn (by omega)⟩, HBE.out⟩
          · rw [show (M.enc1 k x.toNat 0).s = s1 by simp only [M.enc1, ← HP.out, ← HS0.out]; rw [HSS.out, hrr], show (M.enc1 k x.toNat 0).ch = k.ch.set x.toNat (M.chance p 0) by simp only [M.enc1, ← HP.out]]; exact H.out
          · rw [show (M.enc1 k x.toNat 0).s = s1 by simp only [M.enc1, ← HP.out, ← HS0.out]; rw [HSS.out, hrr]]; exact hl1'
          · rw [HL1.out, hrr]; simp only [M.enc1, ← HP.out, ← HS0.out]
          · rw [HM1.out, hrr]; simp only [M.enc1, ← HP.out, ← HS0.out, ← HN0.out]
    exact AllReadyH.nil
  · have es : S0 = k.s - bd := by rw [HS0.out, HBD.out]; rfl
    have en : N0 = k.N + bd := by rw [HN0.out]; rw [HBD.out]; rfl
    have HES := Lib.hid es
    have HEN := Lib.hid en
    have ew1 : IntKind.u64.wrap (low + bd) = low + bd := by simp only [IntKind.wrap_u64]; omega
    have ew2 : IntKind.u64.wrap (k.s - bd) = k.s - bd := by simp only [IntKind.wrap_u64]; omega
    clear es en
    go_enter Try.func68, Try.ntmps68
    go_wp2_with fail
    go_region_held3 (fun w' => w'.cell? ⟨C, 1, none⟩ = some (.int .u64 k.s) ∧ w'.cell? ⟨w.heap.size, 0, none⟩ = some (.int .i64 x)) (first | (go_simp; done) | (go_keep; done)) (first | (go_at_call 81; refine (I_bound C low k.s x p out k.ch vo _ ((H.out.alloc _).keep (by repeat' (first | (with_reducible exact Below.refl _ _) | (with_reducible refine Below.adds_ ?_ ?_ _ _) | (with_reducible refine Below.alloc ?_ ?_ _) | (with_reducible refine Below.drew ?_) | (with_reducible refine Below.setCell ?_ ?_ _) | (with_reducible assumption) | go_size | (simp only [size_addsW, World.size_alloc, World.size_drew, World.size_setCell]; omega)))) ⟨by omega, hs1⟩ ⟨hx0, hx1⟩ HP.out hpb).mono ?_; rintro e w' ⟨rfl, rfl⟩; rw [← HBD.out]))
    go_wp2_with fail
    refine wp_region_held_drew (S := (fun w' => w'.cell? ⟨w.heap.size, 0, none⟩ = some (.int .i64 x) ∧ w'.cell? ⟨w.heap.size, 1, none⟩ = some (.int .i64 1))) (by kernel_rfl) ?_ (fun hHeld => ?_)
    · (first | (go_simp; done) | (go_keep; done))
    refine wpAnyH_take (i := 0) (oi := _) (v := ?_) rfl (by kernel_rfl) (by kernel_rfl) (by kernel_rfl) (fun _ _ _ h => h) (Or.inl ⟨by rfl, ?_⟩) (by assumption) ?_
    rotate_left
    · intro w hSw; (try dsimp only at hSw); go_simp; (try with_reducible rfl)
    try dsimp only [List.getElem_toArray, List.getElem_cons_succ, List.getElem_cons_zero]
    simp only [Act.put, List.setIfInBounds_toArray, List.set_cons_zero, List.set_cons_succ]
    refine wpAnyH_take (i := 1) (oi := _) (v := ?_) rfl (by kernel_rfl) (by kernel_rfl) (by kernel_rfl) (fun _ _ _ h => h) (Or.inl ⟨by rfl, ?_⟩) (by assumption) ?_
    rotate_left
    · intro w hSw; (try dsimp only at hSw); go_simp; (try with_reducible rfl)
    try dsimp only [List.getElem_toArray, List.getElem_cons_succ, List.getElem_cons_zero]
    simp only [Act.put, List.setIfInBounds_toArray, List.set_cons_zero, List.set_cons_succ]
    refine wpAnyH_take (i := 2) (oi := _) (v := ?_) rfl (by kernel_rfl) (by kernel_rfl) (by kernel_rfl) (fun _ _ _ h => h) (Or.inl ⟨by rfl, ?_⟩) (by assumption) ?_
    rotate_left
    · intro w hSw; (try dsimp only at hSw); go_simp; (try with_reducible rfl)
    try dsimp only [List.getElem_toArray, List.getElem_cons_succ, List.getElem_cons_zero]
    simp only [Act.put, List.setIfInBounds_toArray, List.set_cons_zero, List.set_cons_succ]
    refine wpAnyH_take (i := 3) (oi := _) (v := ?_) rfl (by kernel_rfl) (by kernel_rfl) (by kernel_rfl) (fun _ _ _ h => h) (Or.inl ⟨by rfl, ?_⟩) (by assumption) ?_
    rotate_left
    · intro w hSw; (try dsimp only at hSw); go_simp; (try with_reducible rfl)
    try dsimp only [List.getElem_toArray, List.getElem_cons_succ, List.getElem_cons_zero]
    simp only [Act.put, List.setIfInBounds_toArray, List.set_cons_zero, List.set_cons_succ]
    refine wpAnyH_take (i := 4) (oi := _) (v := ?_) rfl (by kernel_rfl) (by kernel_rfl) (by kernel_rfl) (fun _ _ _ h => h) (Or.inl ⟨by rfl, ?_⟩) (by assumption) ?_
    rotate_left
    · intro w hSw; (try dsimp only at hSw); go_simp; (try with_reducible rfl)
    try dsimp only [List.getElem_toArray, List.getElem_cons_succ, List.getElem_cons_zero]
    simp only [Act.put, List.setIfInBounds_toArray, List.set_cons_zero, List.set_cons_succ]
    refine wpAnyH_take (i := 5) (oi := _) (v := ?_) rfl (by kernel_rfl) (by kernel_rfl) (by kernel_rfl) (fun _ _ _ h => h) (Or.inl ⟨by rfl, ?_⟩) (by assumption) ?_
    rotate_left
    · intro w hSw; (try dsimp only at hSw); go_simp; (try with_reducible rfl)
    try dsimp only [List.getElem_toArray, List.getElem_cons_succ, List.getElem_cons_zero]
    simp only [Act.put, List.setIfInBounds_toArray, List.set_cons_zero, List.set_cons_succ]
    refine wpAnyH_take (i := 6) (oi := _) (v := ?_) rfl (by kernel_rfl) (by kernel_rfl) (by kernel_rfl) (fun _ _ _ h => h) (Or.inl ⟨by rfl, ?_⟩) (by assumption) ?_
    rotate_left
    · intro w hSw; (try dsimp only at hSw); go_simp; (try with_reducible rfl)
    try dsimp only [List.getElem_toArray, List.getElem_cons_succ, List.getElem_cons_zero]
    simp only [Act.put, List.setIfInBounds_toArray, List.set_cons_zero, List.set_cons_succ]
    refine wpAnyH_ready (rs := [7]) (by kernel_rfl) (by simp) ?_
    refine AllReadyH.cons (o := _) rfl (fun K hK => ?_) ?_
    · (try dsimp only [List.getElem_toArray, List.getElem_cons_succ, List.getElem_cons_zero]); go_simp
      (go_at_call 82; refine (I_learn C _ _ x 1 p out k.ch vo _ (by repeat (first | (with_reducible exact H.out) | (with_reducible apply CodI.drew) | (with_reducible apply CodI.adds) | (with_reducible apply CodI.alloc) | (with_reducible apply CodI.s_) | (with_reducible apply CodI.low_) | (with_reducible refine CodI.ch_ ?_ hxn _))) ⟨hx0, hx1⟩ HP.out).mono ?_; rintro e w' ⟨⟨v, rfl⟩, n1, rfl⟩)
      try go_wp2_with fail
      refine hK.out _ _ ?_ (fun hHeld => ?_)
      · (first | (go_simp; done) | (go_keep; done))
      clear hK K
      try simp only [Act.put, List.setIfInBounds_toArray, List.set_cons_zero, List.set_cons_succ]
      refine wpAnyH_done (by kernel_rfl) ?_ _
      go_wp2_with fail
      go_loopw [46] (fun s46 wr => PutRelI w C N0 k.n S0 (k.ch.set x.toNat (M.chance p 1)) wr) (fun _ wr => spanLeft C wr)
      case atStart =>
        exact ⟨0, low + bd, S0, out, vo, Nat.zero_le _, by rw [Int.pow_zero, Int.mul_one], by rw [HES.out]; exact (by repeat (first | (with_reducible exact H.out) | (with_reducible apply CodI.drew) | (with_reducible apply CodI.adds) | (with_reducible apply CodI.alloc) | (with_reducible apply CodI.s_) | (with_reducible apply CodI.low_) | (with_reducible refine CodI.ch_ ?_ hxn _))), by omega, by rw [HES.out]; omega, HBY.out, HLEN.out, by rw [Int.pow_zero, Int.mul_one, HEN.out, ← HNUM.out]; first | done | omega, (by repeat (first | (with_reducible exact Below.refl _ _) | (with_reducible refine Below.drew ?_) | (with_reducible refine Below.adds_ ?_ (by simp only [World.size_setCell, World.size_alloc]; omega) _ _) | (with_reducible refine Below.alloc ?_ (by simp only [World.size_setCell]; omega) _) | (refine Below.setCell ?_ (by exact Nat.le_refl _) _)))⟩
      case round =>
        clear c0 c1 c2 c3 f0 hC H
        obtain ⟨r, low1, s1, out1, vo1, hr, hs, hcod, hl0', hl1', hby, hlen, hnum, hbel⟩ := hrel
        have H := Lib.hid hcod
        obtain ⟨c0, c1, c2, c3, f0⟩ := hcod.cells
        have hC := hcod.lt
        have hst := nrm_step HK1.out hr
        have hsp : 0 < s1 := by rw [hs]; exact Int.mul_pos (by have := HK1.out; omega) (M.pow_pos256 r)
        have hr2 : r ≤ 2 := Nat.le_trans hr (M.nrm_two S0)
        have hrm : M.num out1 * 4294967296 + low1 < 256 ^ out1.length * 4294967296 := by rw [hnum, hlen]; exact low_room (s0 := S0) (by rw [HS0.out, HN0.out]; exact HROOM.out) (by have := HK1.out; omega)
        rw [← hs] at hst
        have HST := Lib.hid hst
        have HSS := Lib.hid hs
        have HB1 := Lib.hid hby
        have HL1 := Lib.hid hlen
        have HM1 := Lib.hid hnum
        have HRM := Lib.hid hrm
        have HBE := Lib.hid hbel
        have hl100 : out1.length ≤ 100000 := by omega
        clear hst hs hby hlen hnum hrm hbel hcod
        by_cases hlt : s1 < 16777216
        · have hs256 : s1 * 256 ≤ 4294967040 := by omega
          have hsw : IntKind.u64.wrap (s1 * 256) = s1 * 256 := by simp only [IntKind.wrap_u64]; omega
          go_wp2_with (go_at_call 69; refine (I_putByte C low1 s1 out1 _ vo1 _ H.out ⟨hl0', by omega⟩ HB1.out HRM.out hl100).mono ?_; rintro e w' ⟨v, vo2, out2, rfl, hcod2, hbel2, hlen2, hby2, hnum2⟩; have H2 := Lib.hid hcod2; obtain ⟨d0, d1, d2, d3, g0⟩ := hcod2.cells; have HB2 := Lib.hid hbel2; have HL2 := Lib.hid hlen2; have HY2 := Lib.hid hby2; have HN2 := Lib.hid hnum2; clear hcod2 hbel2 hlen2 hby2 hnum2)
          go_roundw
          case rel =>
            refine ⟨r + 1, low1 % 16777216 * 256, s1 * 256, out2, vo2, HST.out.1 hlt, by rw [HSS.out, Int.pow_succ, Int.mul_assoc], H2.out.s_ _, by omega, by omega, HY2.out, by rw [HL2.out, HL1.out]; rfl, by rw [HN2.out, HM1.out, Int.pow_succ, Int.mul_assoc], (HBE.out.trans HB2.out).trans (H2.out.below (by omega) _ _)⟩
          case measure => rw [spanLeft_ofU (H2.out.s_ (s1 * 256)).cells.2.1, spanLeft_ofU c1]; omega
        · go_wp2_with fail
          go_returns
          have hrr := HST.out.2 (by omega)
          refine ⟨⟨_, rfl⟩, ⟨⟨low1, out1, vo1, ?_, by omega, ?_, HB1.out, ?_, ?_⟩, M.good_one HG.out hxn (by omega)⟩, HBE.out⟩
          · rw [show (M.enc1 k x.toNat 1).s = s1 by simp only [M.enc1, ← HP.out, ← HS0.out]; rw [HSS.out, hrr], show (M.enc1 k x.toNat 1).ch = k.ch.set x.toNat (M.chance p 1) by simp only [M.enc1, ← HP.out]]; exact H.out
          · rw [show (M.enc1 k x.toNat 1).s = s1 by simp only [M.enc1, ← HP.out, ← HS0.out]; rw [HSS.out, hrr]]; exact hl1'
          · rw [HL1.out, hrr]; simp only [M.enc1, ← HP.out, ← HS0.out]
          · rw [HM1.out, hrr]; simp only [M.enc1, ← HP.out, ← HS0.out, ← HN0.out]
    exact AllReadyH.nil

end Go.Proofs.Ytggkelehjdepkaa
