/- The reference's decoder: its memory, told by code, span, how many bytes are read, and the probabilities. -/
import Derived.Test.YtndbdfbjiaaloaaEncS
namespace Go.Proofs.Ytndbdfbjiaaloaa
open Go.RowKit
set_option linter.unusedVariables false
set_option linter.unusedSimpArgs false

attribute [local go_sem] size_addsW cell?_addsW frozen?_addsW setCell_addsW drew_addsW adds_addsW setCell_twice alloc_adds0 size_adds0 adds_adds0 sel2 sel3 sel4 sel5 sel6 sel7 sel8 sel9 lt_more lt_more2 lt_more3 lt_more4 adds_drew adds_drewN drewN_addsW ltA_1_1 ltA_1_2 ltA_1_3 ltA_1_4 ltA_1_5 ltA_1_6 ltA_2_1 ltA_2_2 ltA_2_3 ltA_2_4 ltA_2_5 ltA_2_6 ltA_3_1 ltA_3_2 ltA_3_3 ltA_3_4 ltA_3_5 ltA_3_6 ltA_4_1 ltA_4_2 ltA_4_3 ltA_4_4 ltA_4_5 ltA_4_6 ltA_5_1 ltA_5_2 ltA_5_3 ltA_5_4 ltA_5_5 ltA_5_6 ltA_6_1 ltA_6_2 ltA_6_3 ltA_6_4 ltA_6_5 ltA_6_6 ltA_7_1 ltA_7_2 ltA_7_3 ltA_7_4 ltA_7_5 ltA_7_6 ltA_8_1 ltA_8_2 ltA_8_3 ltA_8_4 ltA_8_5 ltA_8_6 ltA_9_1 ltA_9_2 ltA_9_3 ltA_9_4 ltA_9_5 ltA_9_6 ltA_10_1 ltA_10_2 ltA_10_3 ltA_10_4 ltA_10_5 ltA_10_6 ltA_11_1 ltA_11_2 ltA_11_3 ltA_11_4 ltA_11_5 ltA_11_6 ltA_12_1 ltA_12_2 ltA_12_3 ltA_12_4 ltA_12_5 ltA_12_6

/-- w' is w but for the blocks C and D, and what is new -/
structure Frm (C D : Nat) (w w' : World) : Prop where
  os : w'.os = w.os
  tape : w'.tape = w.tape
  output : w'.output = w.output
  size : w.heap.size ≤ w'.heap.size
  block : ∀ k, k < w.heap.size → k ≠ C → k ≠ D → w'.heap[k]? = w.heap[k]?
theorem Frm.refl (C D : Nat) (w : World) : Frm C D w w := ⟨rfl, rfl, rfl, Nat.le_refl _, fun _ _ _ _ => rfl⟩
theorem Frm.trans {C D : Nat} {a b c : World} (h : Frm C D a b) (g : Frm C D b c) : Frm C D a c :=
  ⟨g.os.trans h.os, g.tape.trans h.tape, g.output.trans h.output, Nat.le_trans h.size g.size, fun k hk h1 h2 => (g.block k (Nat.lt_of_lt_of_le hk h.size) h1 h2).trans (h.block k hk h1 h2)⟩
theorem Frm.ofBelow {C D : Nat} {w w' : World} (h : Below w.heap.size w w') : Frm C D w w' := ⟨h.os, h.tape, h.output, h.size, fun k hk _ _ => h.block k hk⟩
theorem Frm.setC {C D : Nat} {w w' : World} (h : Frm C D w w') (i : Nat) (v : Value) : Frm C D w (w'.setCell ⟨C, i, none⟩ v) :=
  ⟨h.os, h.tape, h.output, by simpa [World.setCell] using h.size, fun k hk h1 h2 => (Below.heap_setCell w' ⟨C, i, none⟩ v k h1).trans (h.block k hk h1 h2)⟩
theorem Frm.setD {C D : Nat} {w w' : World} (h : Frm C D w w') (i : Nat) (v : Value) : Frm C D w (w'.setCell ⟨D, i, none⟩ v) :=
  ⟨h.os, h.tape, h.output, by simpa [World.setCell] using h.size, fun k hk h1 h2 => (Below.heap_setCell w' ⟨D, i, none⟩ v k h2).trans (h.block k hk h1 h2)⟩
theorem Frm.drew {C D : Nat} {w w' : World} (h : Frm C D w w') : Frm C D w w'.drew := h.trans ⟨rfl, rfl, rfl, Nat.le_refl _, fun _ _ _ _ => rfl⟩
theorem Frm.alloc {C D : Nat} {w w' : World} (h : Frm C D w w') (o : Obj) : Frm C D w (w'.alloc o) := h.trans (Frm.ofBelow (by rw [alloc_as]; exact addsW_below _ _ _))
theorem Frm.adds {C D : Nat} {w w' : World} (h : Frm C D w w') (os : Array Obj) (n : Nat) : Frm C D w (addsW w' os n) := h.trans (Frm.ofBelow (addsW_below _ _ _))
theorem Frm.below {C D N : Nat} {w w' : World} (h : Frm C D w w') (hC : N ≤ C) (hD : N ≤ D) (hN : N ≤ w.heap.size) : Below N w w' := ⟨h.os, h.tape, h.output, h.size, fun k hk => h.block k (by omega) (by omega) (by omega)⟩
theorem RowAt.frm {kd : IntKind} {C D : Nat} {w w' : World} {A : Option Addr} {zs : List Int} (h : RowAt kd w A zs) (hf : Frm C D w w') (hA : ∀ d, A = some d → d.block ≠ C ∧ d.block ≠ D) : RowAt kd w' A zs := fun hz => by
  obtain ⟨b, off, rfl, hlt, hc⟩ := h hz
  have := hA _ rfl
  exact ⟨b, off, rfl, by have := hf.size; omega, fun i hi => (World.cell?_of_block (w := w) (a := ⟨b, off + i, none⟩) (hf.block b hlt this.1 this.2)).trans (hc i hi)⟩
theorem ownsRow_frm {C D : Nat} {w w' : World} {base E s n : Nat} {v : Value} {xs : List Value} (h : w.ownsRow base E s v n xs) (hf : Frm C D w w') (hv : v.ownBlock ≠ some C ∧ v.ownBlock ≠ some D) : w'.ownsRow base E s v n xs := by
  obtain ⟨hl, h⟩ := h
  refine ⟨hl, ?_⟩
  rcases h with h | ⟨g, cap, cur, rfl, h2, h3, h4⟩
  · exact .inl h
  · refine .inr ⟨g, cap, cur, rfl, h2, ?_, h4⟩
    have hg : g < w.heap.size := lt_of_heap h3
    exact (hf.block g hg (fun e => hv.1 (by subst e; rfl)) (fun e => hv.2 (by subst e; rfl))).trans h3

/-- the decoder in block C, its probabilities in block D -/
structure DecS (w : World) (C D c : Nat) (A : Option Addr) (n ca : Nat) (k : M.Dec) : Prop where
  blk : w.heap[C]? = some (.cells #[.int .i64 k.code, .int .i64 k.s, .slice A n ca, .int .i64 (k.at_ : Int), .slice (some ⟨D, 0, none⟩) 40 c] 140 (0, 0))
  dc : D < C
  chb : RowAt .i64 w (some ⟨D, 0, none⟩) k.ch
  soft : Soft w (some ⟨D, 0, none⟩)

/-- the bytes of a list; 0 behind its end -/
def byD (ds : List Int) (i : Nat) : Int := ds.getD i 0
theorem byD_byte {ds : List Int} (h : ∀ i, 0 ≤ ds.getD i 0 ∧ ds.getD i 0 ≤ 255) : M.byteF (byD ds) := h

theorem DecS.lt {w : World} {C D c : Nat} {A : Option Addr} {n ca : Nat} {k : M.Dec} (h : DecS w C D c A n ca k) : C < w.heap.size := lt_of_heap h.blk
theorem DecS.cells {w : World} {C D c : Nat} {A : Option Addr} {n ca : Nat} {k : M.Dec} (h : DecS w C D c A n ca k) : w.cell? ⟨C, 0, none⟩ = some (.int .i64 k.code) ∧ w.cell? ⟨C, 1, none⟩ = some (.int .i64 k.s) ∧ w.cell? ⟨C, 2, none⟩ = some (.slice A n ca) ∧ w.cell? ⟨C, 3, none⟩ = some (.int .i64 (k.at_ : Int)) ∧ w.cell? ⟨C, 4, none⟩ = some (.slice (some ⟨D, 0, none⟩) 40 c) ∧ (∀ i, w.frozen? ⟨C, i, none⟩ = false) := by
  have hb := h.blk
  refine ⟨?_, ?_, ?_, ?_, ?_, fun i => ?_⟩ <;> simp [World.cell?, World.frozen?, hb]
theorem DecS.keep {w w' : World} {C D c : Nat} {A : Option Addr} {n ca : Nat} {k : M.Dec} (h : DecS w C D c A n ca k) (hb : Below w.heap.size w w') : DecS w' C D c A n ca k :=
  ⟨(hb.block C h.lt).trans h.blk, h.dc, h.chb.keep hb, h.soft.keep hb⟩
theorem DecS.drew {w : World} {C D c : Nat} {A : Option Addr} {n ca : Nat} {k : M.Dec} (h : DecS w C D c A n ca k) : DecS w.drew C D c A n ca k := h.keep ⟨rfl, rfl, rfl, Nat.le_refl _, fun _ _ => rfl⟩
theorem DecS.code_ {w : World} {C D c : Nat} {A : Option Addr} {n ca : Nat} {k : M.Dec} (h : DecS w C D c A n ca k) (x : Int) : DecS (w.setCell ⟨C, 0, none⟩ (.int .i64 x)) C D c A n ca ⟨x, k.s, k.at_, k.ch⟩ :=
  ⟨heap_set_same h.blk, h.dc, h.chb.other (by have := h.dc; simp; omega), h.soft.set _ _⟩
theorem DecS.s_ {w : World} {C D c : Nat} {A : Option Addr} {n ca : Nat} {k : M.Dec} (h : DecS w C D c A n ca k) (x : Int) : DecS (w.setCell ⟨C, 1, none⟩ (.int .i64 x)) C D c A n ca ⟨k.code, x, k.at_, k.ch⟩ :=
  ⟨heap_set_same h.blk, h.dc, h.chb.other (by have := h.dc; simp; omega), h.soft.set _ _⟩
theorem DecS.at_' {w : World} {C D c : Nat} {A : Option Addr} {n ca : Nat} {k : M.Dec} (h : DecS w C D c A n ca k) (x : Nat) : DecS (w.setCell ⟨C, 3, none⟩ (.int .i64 (x : Int))) C D c A n ca ⟨k.code, k.s, x, k.ch⟩ :=
  ⟨heap_set_same h.blk, h.dc, h.chb.other (by have := h.dc; simp; omega), h.soft.set _ _⟩
theorem DecS.ch_ {w : World} {C D c i : Nat} {A : Option Addr} {n ca : Nat} {k : M.Dec} (h : DecS w C D c A n ca k) (hi : i < k.ch.length) (x : Int) : DecS (w.setCell ⟨D, i, none⟩ (.int .i64 x)) C D c A n ca ⟨k.code, k.s, k.at_, k.ch.set i x⟩ :=
  ⟨(Below.heap_setCell w ⟨D, i, none⟩ _ C (by have := h.dc; simp; omega)).trans h.blk, h.dc, h.chb.put0 hi, h.soft.set _ _⟩

set_option maxRecDepth 100000 in
theorem S_next (C D c : Nat) (A : Option Addr) (ca : Nat) (ds : List Int) (k : M.Dec) (w : World) (h : DecS w C D c A ds.length ca k) (hd : RowAt .u8 w A ds) (hA : ∀ d, A = some d → d.block ≠ C ∧ d.block ≠ D) (hby : ∀ i, 0 ≤ ds.getD i 0 ∧ ds.getD i 0 ≤ 255) (hcode : 0 ≤ k.code ∧ k.code ≤ 4294967295) (hat : k.at_ ≤ 1000000) (hln : ds.length ≤ 1000000000000) :
    Calls Try.prog 101 #[.pointer (some ⟨C, 0, none⟩)] w fun e w' => (∃ v, e = .returned v) ∧ DecS w' C D c A ds.length ca ⟨M.take1 (byD ds) k.code k.at_, k.s, k.at_ + 1, k.ch⟩ ∧ Frm C D w w' := by
  have H := Lib.hid h
  have HA := Lib.hid hA
  obtain ⟨c0, c1, c2, c3, c4, f0⟩ := h.cells
  have hC := h.lt
  have hb := hby k.at_
  obtain ⟨x, hx⟩ : ∃ x, x = ds.getD k.at_ 0 := ⟨_, rfl⟩
  have ht : M.take1 (byD ds) k.code k.at_ = k.code % 16777216 * 256 + x := by rw [M.take1, byD, hx]
  rw [← hx] at hb
  have HX := Lib.hid hx
  have HT := Lib.hid ht
  by_cases hlt : k.at_ < ds.length
  · obtain ⟨b, off, z, rfl, hbl, hz, hc⟩ := hd.at_ hlt
    obtain rfl : z = x := hz.trans hx.symm
    have hne := hA _ rfl
    have hcC : ∀ v, (w.setCell ⟨C, 3, none⟩ v).cell? ⟨b, off + k.at_, none⟩ = some (.int .u8 z) := fun v => (World.cell?_setCell_other w ⟨C, 3, none⟩ ⟨b, off + k.at_, none⟩ _ (fun e => by injection e with e1 _; exact hne.1 e1.symm)).trans hc
    clear h hx ht hz hd hA hby hne
    go_enter Try.func101, Try.ntmps101
    go_wp2_with fail
    go_region_held3 (fun w' => w'.cell? ⟨C, 3, none⟩ = some (.int .i64 (k.at_ : Int)) ∧ w'.cell? ⟨C, 2, none⟩ = some (.slice (some ⟨b, off, none⟩) ds.length ca)) (first | (go_simp; done) | (go_keep; done)) (first | fail)
    go_wp2_with fail
    go_region_held3 (fun w' => w'.cell? ⟨C, 3, none⟩ = some (.int .i64 (k.at_ : Int)) ∧ w'.cell? ⟨C, 2, none⟩ = some (.slice (some ⟨b, off, none⟩) ds.length ca) ∧ w'.cell? ⟨b, off + k.at_, none⟩ = some (.int .u8 z)) (first | (go_simp; done) | (go_keep; done)) (first | fail)
    go_wp2_with fail
    go_returns
    refine ⟨⟨_, rfl⟩, ?_, ?_⟩
    · rw [HT.out]; exact ((H.out.at_' (k.at_ + 1)).code_ _).drew.drew
    · exact (((Frm.refl C D w).setC 3 _).setC 0 _).drew.drew
  · have hx0 : x = 0 := by rw [hx, List.getD_eq_getElem?_getD, List.getElem?_eq_none (by omega)]; rfl
    subst hx0
    clear h hx ht hd hA hby
    go_enter Try.func101, Try.ntmps101
    go_wp2_with fail
    go_region_held3 (fun w' => w'.cell? ⟨C, 3, none⟩ = some (.int .i64 (k.at_ : Int)) ∧ w'.cell? ⟨C, 2, none⟩ = some (.slice A ds.length ca)) (first | (go_simp; done) | (go_keep; done)) (first | fail)
    go_wp2_with fail
    go_returns
    refine ⟨⟨_, rfl⟩, ?_, ?_⟩
    · rw [HT.out, Int.add_zero]; exact ((H.out.at_' (k.at_ + 1)).code_ _).drew
    · exact (((Frm.refl C D w).setC 3 _).setC 0 _).drew

end Go.Proofs.Ytndbdfbjiaaloaa
