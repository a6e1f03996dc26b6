/- The program's decoder: its memory, told by code, span, what is left of the bytes, and the probabilities. -/
import Derived.Test.YtndbdfbjiaaloaaDecR
namespace Go.Proofs.Ytndbdfbjiaaloaa
open Go.RowKit
set_option linter.unusedVariables false
set_option linter.unusedSimpArgs false

attribute [local go_sem] size_addsW cell?_addsW frozen?_addsW setCell_addsW drew_addsW adds_addsW setCell_twice alloc_adds0 size_adds0 adds_adds0 sel2 sel3 sel4 sel5 sel6 sel7 sel8 sel9 lt_more lt_more2 lt_more3 lt_more4 adds_drew adds_drewN drewN_addsW ltA_1_1 ltA_1_2 ltA_1_3 ltA_1_4 ltA_1_5 ltA_1_6 ltA_2_1 ltA_2_2 ltA_2_3 ltA_2_4 ltA_2_5 ltA_2_6 ltA_3_1 ltA_3_2 ltA_3_3 ltA_3_4 ltA_3_5 ltA_3_6 ltA_4_1 ltA_4_2 ltA_4_3 ltA_4_4 ltA_4_5 ltA_4_6 ltA_5_1 ltA_5_2 ltA_5_3 ltA_5_4 ltA_5_5 ltA_5_6 ltA_6_1 ltA_6_2 ltA_6_3 ltA_6_4 ltA_6_5 ltA_6_6 ltA_7_1 ltA_7_2 ltA_7_3 ltA_7_4 ltA_7_5 ltA_7_6 ltA_8_1 ltA_8_2 ltA_8_3 ltA_8_4 ltA_8_5 ltA_8_6 ltA_9_1 ltA_9_2 ltA_9_3 ltA_9_4 ltA_9_5 ltA_9_6 ltA_10_1 ltA_10_2 ltA_10_3 ltA_10_4 ltA_10_5 ltA_10_6 ltA_11_1 ltA_11_2 ltA_11_3 ltA_11_4 ltA_11_5 ltA_11_6 ltA_12_1 ltA_12_2 ltA_12_3 ltA_12_4 ltA_12_5 ltA_12_6

/-- the decoder in block C; rs: the bytes that are left -/
structure DecI (w : World) (C : Nat) (A : Option Addr) (ca : Nat) (rs : List Int) (k : M.Dec) : Prop where
  blk : w.heap[C]? = some (.cells (Value.int .u64 k.code :: Value.int .u64 k.s :: (k.ch.map (Value.int .i64) ++ [.slice A rs.length ca])).toArray 143 (0, 0))
  row : RowAt .u8 w A rs
  far : ∀ d, A = some d → d.block < C
  cap : rs.length ≤ ca
  len : k.ch.length = 40

theorem DecI.lt {w : World} {C ca : Nat} {A : Option Addr} {rs : List Int} {k : M.Dec} (h : DecI w C A ca rs k) : C < w.heap.size := lt_of_heap h.blk
theorem DecI.cells {w : World} {C ca : Nat} {A : Option Addr} {rs : List Int} {k : M.Dec} (h : DecI w C A ca rs k) : w.cell? ⟨C, 0, none⟩ = some (.int .u64 k.code) ∧ w.cell? ⟨C, 1, none⟩ = some (.int .u64 k.s) ∧ w.cell? ⟨C, 42, none⟩ = some (.slice A rs.length ca) ∧ (∀ i, i < 40 → w.cell? ⟨C, 2 + i, none⟩ = some (.int .i64 (k.ch.getD i 0))) ∧ (∀ i, w.frozen? ⟨C, i, none⟩ = false) := by
  have hb := h.blk
  have hl := h.len
  refine ⟨by simp [World.cell?, hb], by simp [World.cell?, hb], ?_, fun i hi => ?_, fun i => by simp [World.frozen?, hb]⟩
  · simp [World.cell?, hb, List.getElem?_append, hl]
  · have e : (Value.int .u64 k.code :: Value.int .u64 k.s :: (k.ch.map (Value.int .i64) ++ [.slice A rs.length ca]))[2 + i]? = some (.int .i64 (k.ch.getD i 0)) := by
      rw [Nat.add_comm, List.getElem?_cons_succ, List.getElem?_cons_succ, List.getElem?_append_left (by simp; omega), List.getElem?_map, List.getElem?_eq_getElem (by omega), List.getD_eq_getElem?_getD, List.getElem?_eq_getElem (by omega)]; rfl
    simp only [World.cell?, hb, List.getElem?_toArray, e]; rfl
theorem DecI.keep {w w' : World} {C ca : Nat} {A : Option Addr} {rs : List Int} {k : M.Dec} (h : DecI w C A ca rs k) (hb : Below w.heap.size w w') : DecI w' C A ca rs k :=
  ⟨(hb.block C h.lt).trans h.blk, h.row.keep hb, h.far, h.cap, h.len⟩
theorem DecI.drew {w : World} {C ca : Nat} {A : Option Addr} {rs : List Int} {k : M.Dec} (h : DecI w C A ca rs k) : DecI w.drew C A ca rs k := h.keep ⟨rfl, rfl, rfl, Nat.le_refl _, fun _ _ => rfl⟩
theorem DecI.adds {w : World} {C ca : Nat} {A : Option Addr} {rs : List Int} {k : M.Dec} (h : DecI w C A ca rs k) (os : Array Obj) (n : Nat) : DecI (addsW w os n) C A ca rs k := h.keep (addsW_below _ _ _)
theorem DecI.alloc {w : World} {C ca : Nat} {A : Option Addr} {rs : List Int} {k : M.Dec} (h : DecI w C A ca rs k) (o : Obj) : DecI (w.alloc o) C A ca rs k := h.keep (by rw [alloc_as]; exact addsW_below _ _ _)
theorem DecI.other {w : World} {C ca i : Nat} {A : Option Addr} {rs : List Int} {k : M.Dec} (h : DecI w C A ca rs k) (v : Value) : RowAt .u8 (w.setCell ⟨C, i, none⟩ v) A rs := fun hne => by
  obtain ⟨b, off, rfl, hlt, hc⟩ := h.row hne
  have := h.far _ rfl
  have h2 : RowAt .u8 w (some ⟨b, off, none⟩) rs := h.row
  exact ⟨b, off, rfl, by simpa [World.setCell] using hlt, fun i hi => (World.cell?_setCell_other w ⟨C, _, none⟩ ⟨b, off + i, none⟩ _ (fun e => by injection e with e1 _; simp at this; omega)).trans (hc i hi)⟩
theorem DecI.code_ {w : World} {C ca : Nat} {A : Option Addr} {rs : List Int} {k : M.Dec} (h : DecI w C A ca rs k) (x : Int) : DecI (w.setCell ⟨C, 0, none⟩ (.int .u64 x)) C A ca rs ⟨x, k.s, k.at_, k.ch⟩ :=
  ⟨(heap_set_same h.blk).trans (by simp), h.other _, h.far, h.cap, h.len⟩
theorem DecI.s_ {w : World} {C ca : Nat} {A : Option Addr} {rs : List Int} {k : M.Dec} (h : DecI w C A ca rs k) (x : Int) : DecI (w.setCell ⟨C, 1, none⟩ (.int .u64 x)) C A ca rs ⟨k.code, x, k.at_, k.ch⟩ :=
  ⟨(heap_set_same h.blk).trans (by simp), h.other _, h.far, h.cap, h.len⟩
theorem DecI.at_ {w : World} {C ca : Nat} {A : Option Addr} {rs : List Int} {k : M.Dec} (h : DecI w C A ca rs k) (a : Nat) : DecI w C A ca rs ⟨k.code, k.s, a, k.ch⟩ := ⟨h.blk, h.row, h.far, h.cap, h.len⟩
theorem DecI.ch_ {w : World} {C ca i : Nat} {A : Option Addr} {rs : List Int} {k : M.Dec} (h : DecI w C A ca rs k) (hi : i < 40) (x : Int) : DecI (w.setCell ⟨C, 2 + i, none⟩ (.int .i64 x)) C A ca rs ⟨k.code, k.s, k.at_, k.ch.set i x⟩ := by
  have hl := h.len
  refine ⟨(heap_set_same h.blk).trans ?_, h.other _, h.far, h.cap, by rw [List.length_set]; exact h.len⟩
  rw [List.setIfInBounds_toArray, Nat.add_comm, List.set_cons_succ, List.set_cons_succ, List.set_append_left _ _ (by simp; omega), List.map_set]
theorem DecI.tail_ {w : World} {C ca b off : Nat} {z : Int} {rs : List Int} {k : M.Dec} (h : DecI w C (some ⟨b, off, none⟩) ca (z :: rs) k) (n c' : Nat) (A' : Option Addr) (hn : n = rs.length) (hc : c' = ca - 1) (hA : A' = if ca = 1 then some ⟨b, off, none⟩ else some ⟨b, off + 1, none⟩) : DecI (w.setCell ⟨C, 42, none⟩ (.slice A' n c')) C A' c' rs k := by
  subst hn hc
  have hl := h.len
  have hcap := h.cap
  have hbC := h.far _ rfl
  simp only [List.length_cons] at hcap
  refine ⟨(heap_set_same h.blk).trans ?_, fun hne => ?_, fun d hd => ?_, by omega, hl⟩
  · rw [List.setIfInBounds_toArray, List.set_cons_succ, List.set_cons_succ, List.set_append_right _ _ (by simp; omega)]
    simp [hl]
  · have : 0 < rs.length := List.length_pos_iff.2 hne
    rw [if_neg (by omega)] at hA
    subst hA
    obtain ⟨b', off', e, hlt, hcc⟩ := h.row (by simp)
    injection e with e; injection e with e1 e2; subst e1 e2
    refine ⟨b, off + 1, rfl, by simpa [World.setCell] using hlt, fun i hi => (World.cell?_setCell_other w ⟨C, 42, none⟩ ⟨b, off + 1 + i, none⟩ _ (fun e => by injection e with e1 _; simp at hbC; omega)).trans ?_⟩
    have := hcc (i + 1) (by simpa using hi)
    rw [show off + 1 + i = off + (i + 1) by omega, this]; rfl
  · rw [hA] at hd
    split at hd <;> (cases hd; exact hbC)
theorem DecI.below {w : World} {C : Nat} (i : Nat) (v : Value) : Below C w (w.setCell ⟨C, i, none⟩ v) := Below.setCell (p := ⟨C, i, none⟩) (Below.refl _ _) (Nat.le_refl _) _

/-- the decoder on a list of bytes, of which those before at_ are read -/
def DecF (w : World) (C : Nat) (ds : List Int) (k : M.Dec) : Prop := ∃ (A : Option Addr) (ca : Nat), DecI w C A ca (ds.drop k.at_) k

set_option maxRecDepth 100000 in
theorem I_takeByte (C : Nat) (ds : List Int) (k : M.Dec) (w : World) (h : DecF w C ds k) (hby : ∀ i, 0 ≤ ds.getD i 0 ∧ ds.getD i 0 ≤ 255) (hcode : 0 ≤ k.code ∧ k.code ≤ 4294967295) (hln : ds.length ≤ 1000000000000) :
    Calls Try.prog 103 #[.pointer (some ⟨C, 0, none⟩)] w fun e w' => (∃ v, e = .returned v) ∧ DecF w' C ds ⟨M.take1 (byD ds) k.code k.at_, k.s, k.at_ + 1, k.ch⟩ ∧ Frm C C w w' := by
  obtain ⟨A, ca, h⟩ := h
  have H := Lib.hid h
  obtain ⟨c0, c1, c2, c3, f0⟩ := h.cells
  have hC := h.lt
  have hb := hby k.at_
  obtain ⟨x, hx⟩ : ∃ x, x = ds.getD k.at_ 0 := ⟨_, rfl⟩
  have ht : M.take1 (byD ds) k.code k.at_ = k.code % 16777216 * 256 + x := by rw [M.take1, byD, hx]
  rw [← hx] at hb
  have HX := Lib.hid hx
  have HT := Lib.hid ht
  have hand : IntKind.u64.wrap (bits BinOp.and IntKind.u64 k.code 16777215 * 256) = k.code % 16777216 * 256 := by rw [and24 ⟨hcode.1, by omega⟩]; simp only [IntKind.wrap_u64]; omega
  by_cases hlt : k.at_ < ds.length
  · have hdr : ds.drop k.at_ = x :: ds.drop (k.at_ + 1) := by
      rw [List.drop_eq_getElem_cons hlt, hx, List.getD_eq_getElem?_getD, List.getElem?_eq_getElem hlt]; rfl
    rw [hdr] at H h c2
    obtain ⟨b, off, z, rfl, hbl, hz, hc⟩ := h.row.at_ (i := 0) (by simp)
    obtain rfl : z = x := hz
    have hcap := h.cap
    have hne := h.far _ rfl
    simp only [List.length_cons, List.length_drop] at c2 hcap
    obtain ⟨m, hm⟩ : ∃ m, m = ds.length - (k.at_ + 1) := ⟨_, rfl⟩
    rw [← hm] at c2 hcap
    have hc1 : ∀ v, (w.setCell ⟨C, 0, none⟩ v).cell? ⟨b, off, none⟩ = some (.int .u8 z) := fun v => (World.cell?_setCell_other w ⟨C, 0, none⟩ ⟨b, off, none⟩ _ (fun e => by injection e with e1 _; simp at hne; omega)).trans hc
    have hw2 : IntKind.u64.wrap z = z := by simp only [IntKind.wrap_u64]; omega
    have hw3 : IntKind.u64.wrap (k.code % 16777216 * 256 + z) = k.code % 16777216 * 256 + z := by simp only [IntKind.wrap_u64]; omega
    have HM := Lib.hid hm
    clear h hx ht hby hdr hc hm
    by_cases hone : ca = 1
    · subst hone
      obtain rfl : m = 0 := by omega
      go_enter Try.func103, Try.ntmps103
      go_wp2_with fail
      refine wp_region_held_drew (S := (fun w' => w'.cell? ⟨C, 42, none⟩ = some (.slice (some ⟨b, off, none⟩) (0 + 1) 1) ∧ w'.cell? ⟨b, off, none⟩ = some (.int .u8 z))) (by kernel_rfl) ?_ (fun hHeld => ?_)
      · (first | (go_simp; done) | (go_keep; done))
      refine wpAnyH_take (i := 0) (oi := _) (v := ?_) rfl (by kernel_rfl) (by kernel_rfl) (by kernel_rfl) (fun _ _ _ h => h) (Or.inl ⟨by rfl, ?_⟩) (by assumption) ?_
      rotate_left
      · intro w hSw; (try dsimp only at hSw); go_simp; (try with_reducible rfl)
      try dsimp only [List.getElem_toArray, List.getElem_cons_succ, List.getElem_cons_zero]
      simp only [Act.put, List.setIfInBounds_toArray, List.set_cons_zero, List.set_cons_succ]
      refine wpAnyH_take (i := 1) (oi := _) (v := ?_) rfl (by kernel_rfl) (by kernel_rfl) (by kernel_rfl) (fun _ _ _ h => h) (Or.inl ⟨by rfl, ?_⟩) (by assumption) ?_
      rotate_left
      · intro w hSw; (try dsimp only at hSw); go_simp; (try with_reducible rfl)
      try dsimp only [List.getElem_toArray, List.getElem_cons_succ, List.getElem_cons_zero]
      simp only [Act.put, List.setIfInBounds_toArray, List.set_cons_zero, List.set_cons_succ]
      refine wpAnyH_take (i := 2) (oi := _) (v := ?_) rfl (by kernel_rfl) (by kernel_rfl) (by kernel_rfl) (fun _ _ _ h => h) (Or.inl ⟨by rfl, ?_⟩) (by assumption) ?_
      rotate_left
      · intro w hSw; (try dsimp only at hSw); go_simp; (try with_reducible rfl)
      try dsimp only [List.getElem_toArray, List.getElem_cons_succ, List.getElem_cons_zero]
      simp only [Act.put, List.setIfInBounds_toArray, List.set_cons_zero, List.set_cons_succ]
      refine wpAnyH_take (i := 4) (oi := _) (v := ?_) rfl (by kernel_rfl) (by kernel_rfl) (by kernel_rfl) (fun _ _ _ h => h) (Or.inl ⟨by rfl, ?_⟩) (by assumption) ?_
      rotate_left
      · intro w hSw; (try dsimp only at hSw); go_simp; (try with_reducible rfl)
      try dsimp only [List.getElem_toArray, List.getElem_cons_succ, List.getElem_cons_zero]
      simp only [Act.put, List.setIfInBounds_toArray, List.set_cons_zero, List.set_cons_succ]
      refine wpAnyH_take (i := 5) (oi := _) (v := ?_) rfl (by kernel_rfl) (by kernel_rfl) (by kernel_rfl) (fun _ _ _ h => h) (Or.inl ⟨by rfl, ?_⟩) (by assumption) ?_
      rotate_left
      · intro w hSw; (try dsimp only at hSw); go_simp; (try with_reducible rfl)
      try dsimp only [List.getElem_toArray, List.getElem_cons_succ, List.getElem_cons_zero]
      simp only [Act.put, List.setIfInBounds_toArray, List.set_cons_zero, List.set_cons_succ]
      refine wpAnyH_take (i := 6) (oi := _) (v := ?_) rfl (by kernel_rfl) (by kernel_rfl) (by kernel_rfl) (fun _ _ _ h => h) (Or.inl ⟨by rfl, ?_⟩) (by assumption) ?_
      rotate_left
      · intro w hSw; (try dsimp only at hSw); go_simp; (try with_reducible rfl)
      try dsimp only [List.getElem_toArray, List.getElem_cons_succ, List.getElem_cons_zero]
      simp only [Act.put, List.setIfInBounds_toArray, List.set_cons_zero, List.set_cons_succ]
      refine wpAnyH_take (i := 7) (oi := _) (v := ?_) rfl (by kernel_rfl) (by kernel_rfl) (by kernel_rfl) (fun _ _ _ h => h) (Or.inl ⟨by rfl, ?_⟩) (by assumption) ?_
      rotate_left
      · intro w hSw; (try dsimp only at hSw); go_simp; (try with_reducible rfl)
      try dsimp only [List.getElem_toArray, List.getElem_cons_succ, List.getElem_cons_zero]
      simp only [Act.put, List.setIfInBounds_toArray, List.set_cons_zero, List.set_cons_succ]
      refine wpAnyH_take (i := 8) (oi := _) (v := ?_) rfl (by kernel_rfl) (by kernel_rfl) (by kernel_rfl) (fun _ _ _ h => h) (Or.inl ⟨by rfl, ?_⟩) (by assumption) ?_
      rotate_left
      · intro w hSw; (try dsimp only at hSw); go_simp; (try with_reducible rfl)
      try dsimp only [List.getElem_toArray, List.getElem_cons_succ, List.getElem_cons_zero]
      simp only [Act.put, List.setIfInBounds_toArray, List.set_cons_zero, List.set_cons_succ]
      refine wpAnyH_take (i := 9) (oi := _) (v := ?_) rfl (by kernel_rfl) (by kernel_rfl) (by kernel_rfl) (fun _ _ _ h => h) (Or.inl ⟨by rfl, ?_⟩) (by assumption) ?_
      rotate_left
      · intro w hSw; (try dsimp only at hSw); go_simp; (try with_reducible rfl)
      try dsimp only [List.getElem_toArray, List.getElem_cons_succ, List.getElem_cons_zero]
      simp only [Act.put, List.setIfInBounds_toArray, List.set_cons_zero, List.set_cons_succ]
      refine wpAnyH_take (i := 10) (oi := _) (v := ?_) rfl (by kernel_rfl) (by kernel_rfl) (by kernel_rfl) (fun _ _ _ h => h) (Or.inl ⟨by rfl, ?_⟩) (by assumption) ?_
      rotate_left
      · intro w hSw; (try dsimp only at hSw); go_simp; (try with_reducible rfl)
      try dsimp only [List.getElem_toArray, List.getElem_cons_succ, List.getElem_cons_zero]
      simp only [Act.put, List.setIfInBounds_toArray, List.set_cons_zero, List.set_cons_succ]
      refine wpAnyH_ready (rs := [3]) (by kernel_rfl) (by simp) ?_
      refine AllReadyH.cons (o := _) rfl (fun K hK => ?_) ?_
      · (try dsimp only [List.getElem_toArray, List.getElem_cons_succ, List.getElem_cons_zero]); go_simp
        refine hK.out _ _ ?_ (fun hHeld => ?_)
        · (first | (go_simp; done) | (go_keep; done))
        clear hK K
        try simp only [Act.put, List.setIfInBounds_toArray, List.set_cons_zero, List.set_cons_succ]
        refine wpAnyH_take (i := 11) (oi := _) (v := ?_) rfl (by kernel_rfl) (by kernel_rfl) (by kernel_rfl) (fun _ _ _ h => h) (Or.inl ⟨by rfl, ?_⟩) (by assumption) ?_
        rotate_left
        · intro w hSw; (try dsimp only at hSw); go_simp; (try with_reducible rfl)
        try dsimp only [List.getElem_toArray, List.getElem_cons_succ, List.getElem_cons_zero]
        simp only [Act.put, List.setIfInBounds_toArray, List.set_cons_zero, List.set_cons_succ]
        refine wpAnyH_take (i := 12) (oi := _) (v := ?_) rfl (by kernel_rfl) (by kernel_rfl) (by kernel_rfl) (fun _ _ _ h => h) (Or.inl ⟨by rfl, ?_⟩) (by assumption) ?_
        rotate_left
        · intro w hSw; (try dsimp only at hSw); go_simp; (try with_reducible rfl)
        try dsimp only [List.getElem_toArray, List.getElem_cons_succ, List.getElem_cons_zero]
        simp only [Act.put, List.setIfInBounds_toArray, List.set_cons_zero, List.set_cons_succ]
        refine wpAnyH_take (i := 13) (oi := _) (v := ?_) rfl (by kernel_rfl) (by kernel_rfl) (by kernel_rfl) (fun _ _ _ h => h) (Or.inl ⟨by rfl, ?_⟩) (by assumption) ?_
        rotate_left
        · intro w hSw; (try dsimp only at hSw); go_simp; (try with_reducible rfl)
        try dsimp only [List.getElem_toArray, List.getElem_cons_succ, List.getElem_cons_zero]
        simp only [Act.put, List.setIfInBounds_toArray, List.set_cons_zero, List.set_cons_succ]
        refine wpAnyH_ready (rs := [14]) (by kernel_rfl) (by simp) ?_
        refine AllReadyH.cons (o := _) rfl (fun K hK => ?_) ?_
        · (try dsimp only [List.getElem_toArray, List.getElem_cons_succ, List.getElem_cons_zero]); go_simp
          refine hK.out _ _ ?_ (fun hHeld => ?_)
          · (first | (go_simp; done) | (go_keep; done))
          clear hK K
          try simp only [Act.put, List.setIfInBounds_toArray, List.set_cons_zero, List.set_cons_succ]
          refine wpAnyH_done (by kernel_rfl) ?_ _
          go_wp2_with fail
          go_returns
          refine ⟨⟨_, rfl⟩, ⟨some ⟨b, off, none⟩, 0, ?_⟩, ?_⟩
          · rw [HT.out]
            refine DecI.at_ (k := ⟨k.code % 16777216 * 256 + z, k.s, k.at_, k.ch⟩) ?_ _
            repeat (with_reducible apply DecI.drew)
            refine DecI.tail_ (z := z) ?_ _ _ _ (by rw [List.length_drop]; have := HM.out; omega) rfl (by rw [if_pos rfl])
            repeat (with_reducible apply DecI.drew)
            exact H.out.code_ _
          · repeat (first | (with_reducible exact Frm.refl _ _ _) | (with_reducible refine Frm.drew ?_) | (with_reducible refine Frm.setC ?_ _ _))
        exact AllReadyH.nil
      exact AllReadyH.nil
    · skip
      go_enter Try.func103, Try.ntmps103
      go_wp2_with fail
      refine wp_region_held_drew (S := (fun w' => w'.cell? ⟨C, 42, none⟩ = some (.slice (some ⟨b, off, none⟩) (m + 1) ca) ∧ w'.cell? ⟨b, off, none⟩ = some (.int .u8 z))) (by kernel_rfl) ?_ (fun hHeld => ?_)
      · (first | (go_simp; done) | (go_keep; done))
      refine wpAnyH_take (i := 0) (oi := _) (v := ?_) rfl (by kernel_rfl) (by kernel_rfl) (by kernel_rfl) (fun _ _ _ h => h) (Or.inl ⟨by rfl, ?_⟩) (by assumption) ?_
      rotate_left
      · intro w hSw; (try dsimp only at hSw); go_simp; (try with_reducible rfl)
      try dsimp only [List.getElem_toArray, List.getElem_cons_succ, List.getElem_cons_zero]
      simp only [Act.put, List.setIfInBounds_toArray, List.set_cons_zero, List.set_cons_succ]
      refine wpAnyH_take (i := 1) (oi := _) (v := ?_) rfl (by kernel_rfl) (by kernel_rfl) (by kernel_rfl) (fun _ _ _ h => h) (Or.inl ⟨by rfl, ?_⟩) (by assumption) ?_
      rotate_left
      · intro w hSw; (try dsimp only at hSw); go_simp; (try with_reducible rfl)
      try dsimp only [List.getElem_toArray, List.getElem_cons_succ, List.getElem_cons_zero]
      simp only [Act.put, List.setIfInBounds_toArray, List.set_cons_zero, List.set_cons_succ]
      refine wpAnyH_take (i := 2) (oi := _) (v := ?_) rfl (by kernel_rfl) (by kernel_rfl) (by kernel_rfl) (fun _ _ _ h => h) (Or.inl ⟨by rfl, ?_⟩) (by assumption) ?_
      rotate_left
      · intro w hSw; (try dsimp only at hSw); go_simp; (try with_reducible rfl)
      try dsimp only [List.getElem_toArray, List.getElem_cons_succ, List.getElem_cons_zero]
      simp only [Act.put, List.setIfInBounds_toArray, List.set_cons_zero, List.set_cons_succ]
      refine wpAnyH_take (i := 4) (oi := _) (v := ?_) rfl (by kernel_rfl) (by kernel_rfl) (by kernel_rfl) (fun _ _ _ h => h) (Or.inl ⟨by rfl, ?_⟩) (by assumption) ?_
      rotate_left
      · intro w hSw; (try dsimp only at hSw); go_simp; (try with_reducible rfl)
      try dsimp only [List.getElem_toArray, List.getElem_cons_succ, List.getElem_cons_zero]
      simp only [Act.put, List.setIfInBounds_toArray, List.set_cons_zero, List.set_cons_succ]
      refine wpAnyH_take (i := 5) (oi := _) (v := ?_) rfl (by kernel_rfl) (by kernel_rfl) (by kernel_rfl) (fun _ _ _ h => h) (Or.inl ⟨by rfl, ?_⟩) (by assumption) ?_
      rotate_left
      · intro w hSw; (try dsimp only at hSw); go_simp; (try with_reducible rfl)
      try dsimp only [List.getElem_toArray, List.getElem_cons_succ, List.getElem_cons_zero]
      simp only [Act.put, List.setIfInBounds_toArray, List.set_cons_zero, List.set_cons_succ]
      refine wpAnyH_take (i := 6) (oi := _) (v := ?_) rfl (by kernel_rfl) (by kernel_rfl) (by kernel_rfl) (fun _ _ _ h => h) (Or.inl ⟨by rfl, ?_⟩) (by assumption) ?_
      rotate_left
      · intro w hSw; (try dsimp only at hSw); go_simp; (try with_reducible rfl)
      try dsimp only [List.getElem_toArray, List.getElem_cons_succ, List.getElem_cons_zero]
      simp only [Act.put, List.setIfInBounds_toArray, List.set_cons_zero, List.set_cons_succ]
      refine wpAnyH_take (i := 7) (oi := _) (v := ?_) rfl (by kernel_rfl) (by kernel_rfl) (by kernel_rfl) (fun _ _ _ h => h) (Or.inl ⟨by rfl, ?_⟩) (by assumption) ?_
      rotate_left
      · intro w hSw; (try dsimp only at hSw); go_simp; (try with_reducible rfl)
      try dsimp only [List.getElem_toArray, List.getElem_cons_succ, List.getElem_cons_zero]
      simp only [Act.put, List.setIfInBounds_toArray, List.set_cons_zero, List.set_cons_succ]
      refine wpAnyH_take (i := 8) (oi := _) (v := ?_) rfl (by kernel_rfl) (by kernel_rfl) (by kernel_rfl) (fun _ _ _ h => h) (Or.inl ⟨by rfl, ?_⟩) (by assumption) ?_
      rotate_left
      · intro w hSw; (try dsimp only at hSw); go_simp; (try with_reducible rfl)
      try dsimp only [List.getElem_toArray, List.getElem_cons_succ, List.getElem_cons_zero]
      simp only [Act.put, List.setIfInBounds_toArray, List.set_cons_zero, List.set_cons_succ]
      refine wpAnyH_take (i := 9) (oi := _) (v := ?_) rfl (by kernel_rfl) (by kernel_rfl) (by kernel_rfl) (fun _ _ _ h => h) (Or.inl ⟨by rfl, ?_⟩) (by assumption) ?_
      rotate_left
      · intro w hSw; (try dsimp only at hSw); go_simp; (try with_reducible rfl)
      try dsimp only [List.getElem_toArray, List.getElem_cons_succ, List.getElem_cons_zero]
      simp only [Act.put, List.setIfInBounds_toArray, List.set_cons_zero, List.set_cons_succ]
      refine wpAnyH_take (i := 10) (oi := _) (v := ?_) rfl (by kernel_rfl) (by kernel_rfl) (by kernel_rfl) (fun _ _ _ h => h) (Or.inl ⟨by rfl, ?_⟩) (by assumption) ?_
      rotate_left
      · intro w hSw; (try dsimp only at hSw); go_simp; (try with_reducible rfl)
      try dsimp only [List.getElem_toArray, List.getElem_cons_succ, List.getElem_cons_zero]
      simp only [Act.put, List.setIfInBounds_toArray, List.set_cons_zero, List.set_cons_succ]
      refine wpAnyH_ready (rs := [3]) (by kernel_rfl) (by simp) ?_
      refine AllReadyH.cons (o := _) rfl (fun K hK => ?_) ?_
      · (try dsimp only [List.getElem_toArray, List.getElem_cons_succ, List.getElem_cons_zero]); go_simp
        refine hK.out _ _ ?_ (fun hHeld => ?_)
        · (first | (go_simp; done) | (go_keep; done))
        clear hK K
        try simp only [Act.put, List.setIfInBounds_toArray, List.set_cons_zero, List.set_cons_succ]
        refine wpAnyH_take (i := 11) (oi := _) (v := ?_) rfl (by kernel_rfl) (by kernel_rfl) (by kernel_rfl) (fun _ _ _ h => h) (Or.inl ⟨by rfl, ?_⟩) (by assumption) ?_
        rotate_left
        · intro w hSw; (try dsimp only at hSw); go_simp; (try with_reducible rfl)
        try dsimp only [List.getElem_toArray, List.getElem_cons_succ, List.getElem_cons_zero]
        simp only [Act.put, List.setIfInBounds_toArray, List.set_cons_zero, List.set_cons_succ]
        refine wpAnyH_take (i := 12) (oi := _) (v := ?_) rfl (by kernel_rfl) (by kernel_rfl) (by kernel_rfl) (fun _ _ _ h => h) (Or.inl ⟨by rfl, ?_⟩) (by assumption) ?_
        rotate_left
        · intro w hSw; (try dsimp only at hSw); go_simp; (try with_reducible rfl)
        try dsimp only [List.getElem_toArray, List.getElem_cons_succ, List.getElem_cons_zero]
        simp only [Act.put, List.setIfInBounds_toArray, List.set_cons_zero, List.set_cons_succ]
        refine wpAnyH_take (i := 13) (oi := _) (v := ?_) rfl (by kernel_rfl) (by kernel_rfl) (by kernel_rfl) (fun _ _ _ h => h) (Or.inl ⟨by rfl, ?_⟩) (by assumption) ?_
        rotate_left
        · intro w hSw; (try dsimp only at hSw); go_simp; (try with_reducible rfl)
        try dsimp only [List.getElem_toArray, List.getElem_cons_succ, List.getElem_cons_zero]
        simp only [Act.put, List.setIfInBounds_toArray, List.set_cons_zero, List.set_cons_succ]
        refine wpAnyH_ready (rs := [14]) (by kernel_rfl) (by simp) ?_
        refine AllReadyH.cons (o := _) rfl (fun K hK => ?_) ?_
        · (try dsimp only [List.getElem_toArray, List.getElem_cons_succ, List.getElem_cons_zero]); go_simp
          refine hK.out _ _ ?_ (fun hHeld => ?_)
          · (first | (go_simp; done) | (go_keep; done))
          clear hK K
          try simp only [Act.put, List.setIfInBounds_toArray, List.set_cons_zero, List.set_cons_succ]
          refine wpAnyH_done (by kernel_rfl) ?_ _
          go_wp2_with fail
          go_returns
          refine ⟨⟨_, rfl⟩, ⟨some ⟨b, off + 1, none⟩, ca - 1, ?_⟩, ?_⟩
          · rw [HT.out]
            refine DecI.at_ (k := ⟨k.code % 16777216 * 256 + z, k.s, k.at_, k.ch⟩) ?_ _
            repeat (with_reducible apply DecI.drew)
            refine DecI.tail_ (z := z) ?_ _ _ _ (by rw [List.length_drop]; have := HM.out; omega) rfl (by rw [if_neg hone])
            repeat (with_reducible apply DecI.drew)
            exact H.out.code_ _
          · repeat (first | (with_reducible exact Frm.refl _ _ _) | (with_reducible refine Frm.drew ?_) | (with_reducible refine Frm.setC ?_ _ _))
        exact AllReadyH.nil
      exact AllReadyH.nil
  · have hdr : ds.drop k.at_ = [] := List.drop_eq_nil_of_le (by omega)
    obtain rfl : x = 0 := by rw [hx, List.getD_eq_getElem?_getD, List.getElem?_eq_none (by omega)]; rfl
    rw [hdr] at H h c2
    simp only [List.length_nil] at c2
    have hdr2 : ds.drop (k.at_ + 1) = [] := List.drop_eq_nil_of_le (by omega)
    have HD2 := Lib.hid hdr2
    clear h hx ht hby hdr hdr2
    go_enter Try.func103, Try.ntmps103
    go_wp2_with fail
    go_returns
    refine ⟨⟨_, rfl⟩, ⟨A, ca, ?_⟩, (Frm.refl C C w).setC 0 _⟩
    rw [HT.out, Int.add_zero]
    show DecI _ C A ca (ds.drop (k.at_ + 1)) _
    rw [HD2.out]
    exact (H.out.code_ _).at_ _

end Go.Proofs.Ytndbdfbjiaaloaa
