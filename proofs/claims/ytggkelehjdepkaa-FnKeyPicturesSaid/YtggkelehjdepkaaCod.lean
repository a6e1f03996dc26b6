/- The reference's coder: its memory, told by low, span, the bytes that are out, and the probabilities. -/
import Derived.Test.YtggkelehjdepkaaArith
import Derived.Test.YtggkelehjdepkaaSoft
import Derived.Test.YtggkelehjdepkaaGrow
import Derived.Test.YtggkelehjdepkaaBins
import Derived.LoopTactic
import Derived.Deep.RegionHeld3
import Derived.Deep.DeepCutAuto
namespace Go.Proofs.Ytggkelehjdepkaa
open Go.RowKit
set_option linter.unusedVariables false
set_option linter.unusedSimpArgs false

attribute [local go_sem] size_addsW cell?_addsW frozen?_addsW setCell_addsW drew_addsW adds_addsW setCell_twice alloc_adds0 size_adds0 adds_adds0 sel2 sel3 sel4 sel5 sel6 sel7 sel8 sel9 lt_more lt_more2 lt_more3 lt_more4 adds_drew adds_drewN drewN_addsW ltA_1_1 ltA_1_2 ltA_1_3 ltA_1_4 ltA_1_5 ltA_1_6 ltA_2_1 ltA_2_2 ltA_2_3 ltA_2_4 ltA_2_5 ltA_2_6 ltA_3_1 ltA_3_2 ltA_3_3 ltA_3_4 ltA_3_5 ltA_3_6 ltA_4_1 ltA_4_2 ltA_4_3 ltA_4_4 ltA_4_5 ltA_4_6 ltA_5_1 ltA_5_2 ltA_5_3 ltA_5_4 ltA_5_5 ltA_5_6 ltA_6_1 ltA_6_2 ltA_6_3 ltA_6_4 ltA_6_5 ltA_6_6 ltA_7_1 ltA_7_2 ltA_7_3 ltA_7_4 ltA_7_5 ltA_7_6 ltA_8_1 ltA_8_2 ltA_8_3 ltA_8_4 ltA_8_5 ltA_8_6 ltA_9_1 ltA_9_2 ltA_9_3 ltA_9_4 ltA_9_5 ltA_9_6 ltA_10_1 ltA_10_2 ltA_10_3 ltA_10_4 ltA_10_5 ltA_10_6 ltA_11_1 ltA_11_2 ltA_11_3 ltA_11_4 ltA_11_5 ltA_11_6 ltA_12_1 ltA_12_2 ltA_12_3 ltA_12_4 ltA_12_5 ltA_12_6

/-- the coder in block C, its probabilities in block D -/
structure Cod (w : World) (C D c : Nat) (low s : Int) (out : List Int) (vo : Value) (ch : List Int) : Prop where
  blk : w.heap[C]? = some (.cells #[.int .i64 low, .int .i64 s, vo, .slice (some ⟨D, 0, none⟩) 40 c] 103 (0, 0))
  dc : D < C
  row : w.ownsRow (C + 1) 5 1 vo out.length (out.map (Value.int .u8))
  chb : RowAt .i64 w (some ⟨D, 0, none⟩) ch
  soft : Soft w (some ⟨D, 0, none⟩)

theorem lt_of_heap {w : World} {C : Nat} {o : Obj} (h : w.heap[C]? = some o) : C < w.heap.size := by
  rcases Nat.lt_or_ge C w.heap.size with h1 | h1
  · exact h1
  · rw [Array.getElem?_eq_none h1] at h; cases h
theorem Cod.lt {w : World} {C D c : Nat} {low s : Int} {out ch : List Int} {vo : Value} (h : Cod w C D c low s out vo ch) : C < w.heap.size := lt_of_heap h.blk
theorem Cod.cells {w : World} {C D c : Nat} {low s : Int} {out ch : List Int} {vo : Value} (h : Cod w C D c low s out vo ch) : w.cell? ⟨C, 0, none⟩ = some (.int .i64 low) ∧ w.cell? ⟨C, 1, none⟩ = some (.int .i64 s) ∧ w.cell? ⟨C, 2, none⟩ = some vo ∧ w.cell? ⟨C, 3, none⟩ = some (.slice (some ⟨D, 0, none⟩) 40 c) ∧ w.frozen? ⟨C, 0, none⟩ = false ∧ w.frozen? ⟨C, 1, none⟩ = false ∧ w.frozen? ⟨C, 2, none⟩ = false := by
  have hb := h.blk
  refine ⟨?_, ?_, ?_, ?_, ?_, ?_, ?_⟩ <;> simp [World.cell?, World.frozen?, hb]
/-- whatever leaves the blocks up to C alone, and the row, keeps the coder -/
theorem Cod.keep {w w' : World} {C D c : Nat} {low s : Int} {out ch : List Int} {vo : Value} (h : Cod w C D c low s out vo ch) (hb : Below w.heap.size w w') : Cod w' C D c low s out vo ch :=
  ⟨(hb.block C h.lt).trans h.blk, h.dc, ownsRow_below h.row hb, h.chb.keep hb, h.soft.keep hb⟩
theorem Cod.drewN {w : World} {C D c : Nat} {low s : Int} {out ch : List Int} {vo : Value} (h : Cod w C D c low s out vo ch) (n : Nat) : Cod (w.drewN n) C D c low s out vo ch := h.keep ⟨rfl, rfl, rfl, Nat.le_refl _, fun _ _ => rfl⟩
theorem Cod.drew {w : World} {C D c : Nat} {low s : Int} {out ch : List Int} {vo : Value} (h : Cod w C D c low s out vo ch) : Cod w.drew C D c low s out vo ch := h.keep ⟨rfl, rfl, rfl, Nat.le_refl _, fun _ _ => rfl⟩
theorem Cod.alloc {w : World} {C D c : Nat} {low s : Int} {out ch : List Int} {vo : Value} (h : Cod w C D c low s out vo ch) (o : Obj) : Cod (w.alloc o) C D c low s out vo ch := h.keep (by rw [alloc_as]; exact addsW_below _ _ _)
theorem Cod.adds {w : World} {C D c : Nat} {low s : Int} {out ch : List Int} {vo : Value} (h : Cod w C D c low s out vo ch) (os : Array Obj) (n : Nat) : Cod (addsW w os n) C D c low s out vo ch := h.keep (addsW_below _ _ _)
theorem ownsRow_set {w : World} {base E s n : Nat} {v : Value} {xs : List Value} {b i : Nat} {u : Value} (h : w.ownsRow base E s v n xs) (hb : b < base) : (w.setCell ⟨b, i, none⟩ u).ownsRow base E s v n xs :=
  h.kept (grownBy_setCell w ⟨b, i, none⟩ u) (by
    by_cases e : v.ownBlock = none
    · exact .inl e
    · refine .inr fun e2 => ?_
      have := (h.lt b e2).1
      omega)
theorem heap_set_same {w : World} {C i : Nat} {cs : Array Value} {t : TypeId} {f : Nat × Nat} {u : Value} (h : w.heap[C]? = some (.cells cs t f)) : (w.setCell ⟨C, i, none⟩ u).heap[C]? = some (.cells (cs.setIfInBounds i u) t f) := by
  simp [World.setCell, Array.getElem?_modify, h]
theorem RowAt.other {k : IntKind} {w : World} {b : Nat} {zs : List Int} {q : Addr} {v : Value} (h : RowAt k w (some ⟨b, 0, none⟩) zs) (hq : q.block ≠ b) : RowAt k (w.setCell q v) (some ⟨b, 0, none⟩) zs := fun hne => by
  obtain ⟨b', off', e, hb, hc⟩ := h hne
  injection e with e; injection e with e1 e2; subst e1 e2
  exact ⟨b, 0, rfl, by simpa [World.setCell] using hb, fun j hj => (World.cell?_setCell_other w q ⟨b, 0 + j, none⟩ _ (fun e => hq (by first | exact congrArg Addr.block e | exact (congrArg Addr.block e).symm))).trans (hc j hj)⟩
theorem Cod.low_ {w : World} {C D c : Nat} {low s : Int} {out ch : List Int} {vo : Value} (h : Cod w C D c low s out vo ch) (x : Int) : Cod (w.setCell ⟨C, 0, none⟩ (.int .i64 x)) C D c x s out vo ch :=
  ⟨heap_set_same h.blk, h.dc, ownsRow_set h.row (by omega), h.chb.other (by have := h.dc; simp; omega), h.soft.set _ _⟩
theorem Cod.s_ {w : World} {C D c : Nat} {low s : Int} {out ch : List Int} {vo : Value} (h : Cod w C D c low s out vo ch) (x : Int) : Cod (w.setCell ⟨C, 1, none⟩ (.int .i64 x)) C D c low x out vo ch :=
  ⟨heap_set_same h.blk, h.dc, ownsRow_set h.row (by omega), h.chb.other (by have := h.dc; simp; omega), h.soft.set _ _⟩
theorem RowAt.put0 {k : IntKind} {w : World} {b i : Nat} {zs : List Int} {z : Int} (h : RowAt k w (some ⟨b, 0, none⟩) zs) (hi : i < zs.length) : RowAt k (w.setCell ⟨b, i, none⟩ (.int k z)) (some ⟨b, 0, none⟩) (zs.set i z) := fun hne => by
  obtain ⟨b', off', e, hb, hc⟩ := h (by intro e; subst e; simp at hi)
  injection e with e; injection e with e1 e2; subst e1 e2
  refine ⟨b, 0, rfl, by simpa [World.setCell] using hb, fun j hj => ?_⟩
  have hj' : j < zs.length := by simpa using hj
  have := cells_set (w := w) (b := b) (off := 0) (i := i) (v := .int k z) (j := j) (hc i hi)
  rw [Nat.zero_add] at this
  rw [this, hc j hj', List.getD_eq_getElem?_getD, List.getD_eq_getElem?_getD, List.getElem?_set]
  by_cases e : j = i
  · subst e; simp [hj']
  · rw [if_neg e, if_neg (fun h => e h.symm)]
theorem Cod.ch_ {w : World} {C D c i : Nat} {low s : Int} {out ch : List Int} {vo : Value} (h : Cod w C D c low s out vo ch) (hi : i < ch.length) (x : Int) : Cod (w.setCell ⟨D, i, none⟩ (.int .i64 x)) C D c low s out vo (ch.set i x) :=
  ⟨(Below.heap_setCell w ⟨D, i, none⟩ _ C (by have := h.dc; simp; omega)).trans h.blk, h.dc, ownsRow_set h.row (by have := h.dc; omega), h.chb.put0 hi, h.soft.set _ _⟩
theorem Cod.byte_ {w : World} {C D c g n cap i : Nat} {low s : Int} {out ch : List Int} (h : Cod w C D c low s out (.slice (some ⟨g, 0, none⟩) n cap) ch) (x : Int) : Cod (w.setCell ⟨g, i, none⟩ (.int .u8 x)) C D c low s (out.set i x) (.slice (some ⟨g, 0, none⟩) n cap) ch := by
  have hg := (h.row.lt g rfl).1
  obtain ⟨A, c', e, -⟩ := own_shape h.row
  injection e with e1 e2 e3
  subst e2
  have hs := (h.row.stored i (.int .u8 x)).1
  rw [← List.map_set] at hs
  refine ⟨(Below.heap_setCell w ⟨g, i, none⟩ _ C (by simp; omega)).trans h.blk, h.dc, ?_, h.chb.other (by have := h.dc; simp; omega), h.soft.set _ _⟩
  rw [List.length_set]; exact hs
/-- behind an append: the block as it was, and how it goes on when the new slice is stored -/
theorem Cod.app {w w1 : World} {C D c : Nat} {low s x : Int} {out ch : List Int} {vo v' : Value} (h : Cod w C D c low s out vo ch) (hown : w1.ownsRow (C + 1) 5 1 v' (out.length + 1) (out.map (Value.int .u8) ++ [Value.int .u8 x])) (hg : w.grownBy w1 vo.ownBlock) :
    (w1.cell? ⟨C, 0, none⟩ = some (.int .i64 low) ∧ w1.cell? ⟨C, 2, none⟩ = some vo ∧ w1.frozen? ⟨C, 0, none⟩ = false ∧ w1.frozen? ⟨C, 2, none⟩ = false) ∧ Cod (w1.setCell ⟨C, 2, none⟩ v') C D c low s (out ++ [x]) v' ch ∧ Below D w (w1.setCell ⟨C, 2, none⟩ v') := by
  have hlt := h.row.lt
  have hC := h.lt
  have hb : ∀ k, k ≤ C → w1.heap[k]? = w.heap[k]? := fun k hk => hg.block k (by omega) (fun e => by have := hlt k e.symm; omega)
  have hblk := (hb C (Nat.le_refl _)).trans h.blk
  have hD := h.dc
  have hrow : RowAt .i64 w1 (some ⟨D, 0, none⟩) ch := fun hne => by
    obtain ⟨b', off', e, hb', hc⟩ := h.chb hne
    injection e with e; injection e with e1 e2; subst e1 e2
    exact ⟨D, 0, rfl, by have := hg.size; omega, fun j hj => (World.cell?_of_block (w := w) (a := ⟨D, 0 + j, none⟩) (hb D (by omega))).trans (hc j hj)⟩
  have hsoft : Soft w1 (some ⟨D, 0, none⟩) := fun d hd => by
    obtain ⟨cur, t, hc⟩ := h.soft d hd
    cases hd
    exact ⟨cur, t, (hb D (by omega)).trans hc⟩
  refine ⟨⟨by simp [World.cell?, hblk], by simp [World.cell?, hblk], by simp [World.frozen?, hblk], by simp [World.frozen?, hblk]⟩, ⟨heap_set_same hblk, h.dc, ?_, hrow.other (by simp; omega), hsoft.set _ _⟩, ?_⟩
  · rw [List.length_append, List.map_append]
    exact ownsRow_set hown (by omega)
  · refine Below.setCell (p := ⟨C, 2, none⟩) ⟨hg.os, hg.tape, hg.output, by have := hg.size; omega, fun k hk => hb k (by omega)⟩ (by simp; omega) _
theorem Cod.below {w : World} {C D c : Nat} {low s : Int} {out ch : List Int} {vo : Value} (h : Cod w C D c low s out vo ch) {b : Nat} (hb : D ≤ b) (i : Nat) (v : Value) : Below D w (w.setCell ⟨b, i, none⟩ v) :=
  Below.setCell (p := ⟨b, i, none⟩) (Below.refl _ _) hb _

theorem below_of_drew_alloc {D C : Nat} {w w' : World} {o : Obj} (h : Below D (w.drew.alloc o) w') (hC : C < w.heap.size) (hD : D < C) : Below D w w' :=
  Below.trans (by
    refine ⟨rfl, rfl, rfl, by simp, fun k hk => ?_⟩
    exact Below.heap_alloc w.drew o k (by show k < w.heap.size; omega)) h
theorem bytes_snoc {l : List Int} {x : Int} (h : M.bytesB l) (hx : 0 ≤ x ∧ x ≤ 255) : M.bytesB (l ++ [x]) := fun y hy => by
  rcases List.mem_append.1 hy with h1 | h1
  · exact h y h1
  · simp only [List.mem_cons, List.not_mem_nil, or_false] at h1; rw [h1]; exact hx
theorem inc_eq {l l1 : List Int} {i : Nat} (hi : i < l.length) (hl : l1.length = l.length) (h1 : ∀ j, j ≤ i → l1.getD j 0 = l.getD j 0) (h2 : ∀ j, i < j → j < l.length → l1.getD j 0 = 0) : l1.set i (l.getD i 0 + 1) = M.incAt l i := by
  apply List.ext_getElem?
  intro j
  rw [List.getElem?_set, M.incAt]
  rcases Nat.lt_trichotomy j i with h | h | h
  · rw [if_neg (by omega), List.getElem?_append_left (by simp; omega), List.getElem?_take, if_pos h]
    have := h1 j (by omega)
    rw [List.getD_eq_getElem?_getD, List.getD_eq_getElem?_getD, List.getElem?_eq_getElem (by omega), List.getElem?_eq_getElem (by omega)] at this
    rw [List.getElem?_eq_getElem (by omega), List.getElem?_eq_getElem (by omega)]
    simpa using this
  · subst h
    rw [if_pos rfl, if_pos (by omega), List.getElem?_append_right (by simp; omega)]
    simp [show j - min j l.length = 0 by omega]
  · rw [if_neg (by omega), List.getElem?_append_right (by simp; omega), List.length_take, show min i l.length = i by omega, show j - i = (j - i - 1) + 1 by omega, List.getElem?_cons_succ, List.getElem?_replicate]
    by_cases hj : j < l.length
    · have := h2 j h hj
      rw [if_pos (by omega), List.getElem?_eq_getElem (by omega)]
      rw [List.getD_eq_getElem?_getD, List.getElem?_eq_getElem (by omega)] at this
      simpa using this
    · rw [if_neg (by omega), List.getElem?_eq_none (by omega)]
theorem getD_set {l : List Int} {i j : Nat} {x : Int} (hi : i < l.length) : (l.set i x).getD j 0 = if j = i then x else l.getD j 0 := by
  rw [List.getD_eq_getElem?_getD, List.getElem?_set, List.getD_eq_getElem?_getD]
  by_cases e : i = j
  · subst e; simp [hi]
  · rw [if_neg e, if_neg (fun h => e h.symm)]

/-- behind the carry -/
def ShCut (w : World) (C D c : Nat) (low s : Int) (out : List Int) (vo : Value) (ch : List Int) (wx : World) : Prop := ∃ (low1 : Int) (out1 : List Int), 0 ≤ low1 ∧ low1 < 4294967296 ∧ low1 % 16777216 = low % 16777216 ∧ out1.length = out.length ∧ M.bytesB out1 ∧ M.num out1 * 4294967296 + low1 = M.num out * 4294967296 + low ∧ Cod wx C D c low1 s out1 vo ch ∧ Below D w wx

def ShRel (w : World) (C D c : Nat) (low s : Int) (out : List Int) (vo : Value) (ch : List Int) (k : Value) (wr : World) : Prop := ∃ (i : Nat) (out1 : List Int), k = .int .i64 (i : Int) ∧ i < out.length ∧ out1.length = out.length ∧ Cod wr C D c low s out1 vo ch ∧ Below D w wr ∧ (∀ j, j ≤ i → out1.getD j 0 = out.getD j 0) ∧ (∀ j, i < j → j < out.length → out1.getD j 0 = 0 ∧ out.getD j 0 = 255)

/-- a byte is out -/
def Shifted (w : World) (C D c : Nat) (low s : Int) (out : List Int) (ch : List Int) (e : Ending) (w' : World) : Prop :=
  ∃ (v vo : Value) (out1 : List Int), e = .returned v ∧ Cod w' C D c (low % 16777216 * 256) s out1 vo ch ∧ Below D w w' ∧ out1.length = out.length + 1 ∧ M.bytesB out1 ∧ M.num out1 * 4294967296 + low % 16777216 * 256 = (M.num out * 4294967296 + low) * 256

theorem infoU8c : (Try.prog.info? 5).map (fun i => (i.zero, i.size, i.bytes)) = some (some (.int .u8 0), 1, 1) := by kernel_rfl

set_option maxRecDepth 100000 in
set_option maxHeartbeats 2000000 in
theorem S_shift (C D c : Nat) (low s : Int) (out ch : List Int) (vo : Value) (w : World) (h : Cod w C D c low s out vo ch) (hl : 0 ≤ low ∧ low < 8589934592) (hb : M.bytesB out) (hn : M.num out * 4294967296 + low < 256 ^ out.length * 4294967296) (hlen : out.length ≤ 100000) :
    Calls Try.prog 66 #[.pointer (some ⟨C, 0, none⟩)] w (Shifted w C D c low s out ch) := by
  have H := Lib.hid h
  have HB := Lib.hid hb
  have HN := Lib.hid hn
  obtain ⟨i0, hi, hz0, hz1, hz2⟩ := info_parts infoU8c
  obtain ⟨c0, c1, c2, c3, f0, f1, f2⟩ := h.cells
  have hC := h.lt
  clear h hb hn
  go_enter Try.func66, Try.ntmps66
  go_upto_if 7 with fail
  go_cut [2] (fun s2 wx => ShCut w C D c low s out vo ch wx)
  case first =>
    by_cases hc : low < 4294967296
    · go_wp2_with fail
      go_meet
      exact ⟨low, out, hl.1, hc, rfl, rfl, HB.out, rfl, H.out, Below.refl _ _⟩
    · have hnf : M.num out + 1 < 256 ^ out.length := by
        have := HN.out
        generalize (256 : Int) ^ out.length = P at *
        omega
      have hpos : 0 < out.length := by
        rcases Nat.eq_zero_or_pos out.length with h0 | h0
        · rw [List.length_eq_zero_iff.1 h0] at hnf; simp [M.num] at hnf
        · exact h0
      have HNF := Lib.hid (M.not_full hnf)
      obtain ⟨A, cap, e, -, hA⟩ := own_shape H.out.row
      obtain ⟨g, rfl, hg0, hg1⟩ : ∃ g, A = some ⟨g, 0, none⟩ ∧ C + 1 ≤ g ∧ g < w.heap.size := by
        rcases hA with ⟨-, h0⟩ | h0
        · omega
        · exact h0
      subst e
      clear hA hnf
      go_wp2_with fail
      go_loopw [2] (fun k wr => ShRel w C D c (low - 4294967296) s out (.slice (some ⟨g, 0, none⟩) out.length cap) ch k wr) (fun k _ => (intOf k).toNat)
      case atStart =>
        exact ⟨out.length - 1, out, by go_num, by omega, rfl, H.out.low_ _, H.out.below (by have := H.out.dc; omega) _ _, fun _ _ => rfl, fun j h1 h2 => by omega⟩
      case round =>
        clear c0 c1 c2 c3 f0 f1 f2 hC H
        obtain ⟨i, out1, rfl, hi1, hl1, hcod, hbel, hsame, hzero⟩ := hrel
        have H := Lib.hid hcod
        obtain ⟨c0, c1, c2, c3, f0, f1, f2⟩ := hcod.cells
        have hC := hcod.lt
        have hrow := hcod.row
        have hx : wr.cell? ⟨g, i, none⟩ = some (.int .u8 (out.getD i 0)) := by
          rw [hl1] at hrow
          have := hrow.cellAt i (by omega)
          rw [this, List.getElem?_map, List.getElem?_eq_getElem (by omega)]
          have := hsame i (Nat.le_refl _)
          rw [List.getD_eq_getElem?_getD, List.getElem?_eq_getElem (by omega)] at this
          simp only [Option.map_some, Option.some.injEq]
          rw [← this]; rfl
        have hfz : wr.frozen? ⟨g, i, none⟩ = false := by
          rw [hl1] at hrow
          exact hrow.frozenAt i
        have hxb := HB.out (out.getD i 0) (by rw [List.getD_eq_getElem?_getD, List.getElem?_eq_getElem hi1]; exact List.getElem_mem hi1)
        have hk1 : (i : Int) < (out.length : Int) := by omega
        have HS := Lib.hid hsame
        have HZ := Lib.hid hzero
        have HBE := Lib.hid hbel
        have HL := Lib.hid hl1
        clear hsame hzero hbel hrow hcod hl1
        by_cases hff : out.getD i 0 = 255
        · have hi0 : 0 < i := by
            rcases Nat.eq_zero_or_pos i with h0 | h0
            · subst h0
              exact absurd (fun j hj => by
                rcases Nat.eq_zero_or_pos j with e | e
                · subst e; exact hff
                · exact (HZ.out j e hj).2) HNF.out
            · exact h0
          rw [hff] at hx
          have HF := Lib.hid hff
          clear hff hxb
          go_wp2_with fail
          go_roundw
          case rel =>
            refine ⟨i - 1, out1.set i 0, by go_num, by omega, by rw [List.length_set]; exact HL.out, H.out.byte_ 0, HBE.out.trans (H.out.below (by have := H.out.dc; omega) _ _), fun j hj => ?_, fun j h1 h2 => ?_⟩
            · rw [getD_set (by rw [HL.out]; exact hi1), if_neg (by omega)]; exact HS.out j (by omega)
            · rw [getD_set (by rw [HL.out]; exact hi1)]
              by_cases e : j = i
              · subst e; rw [if_pos rfl]; exact ⟨rfl, HF.out⟩
              · rw [if_neg e]; exact HZ.out j (by omega) h2
          case measure => simp [intOf]; omega
        · obtain ⟨x, hxx⟩ : ∃ x, x = out.getD i 0 := ⟨_, rfl⟩
          rw [← hxx] at hx hxb hff
          have hne : (x == 255) = false := by simp [hff]
          have hw1 : IntKind.u8.wrap (x + 1) = x + 1 := by simp only [IntKind.wrap_u8]; omega
          have HX := Lib.hid hxx
          clear hxx hff
          go_wp2_with fail
          refine wp_region_held_drew (S := (fun w' => w'.cell? ⟨C, 2, none⟩ = some (.slice (some ⟨g, 0, none⟩) out.length cap))) (by kernel_rfl) ?_ (fun hHeld => ?_)
          · (first | assumption | (go_simp; done) | (go_keep; done))
          refine wpAnyH_take (i := 0) (oi := _) (v := ?_) rfl (by kernel_rfl) (by kernel_rfl) (by kernel_rfl) (fun _ _ _ h => h) (Or.inl ⟨by rfl, ?_⟩) (by assumption) ?_
          rotate_left
          · intro w hSw; (try dsimp only at hSw); go_simp; (try with_reducible rfl)
          try dsimp only [List.getElem_toArray, List.getElem_cons_succ, List.getElem_cons_zero]
          simp only [Act.put, List.setIfInBounds_toArray, List.set_cons_zero, List.set_cons_succ]
          refine wpAnyH_take (i := 1) (oi := _) (v := ?_) rfl (by kernel_rfl) (by kernel_rfl) (by kernel_rfl) (fun _ _ _ h => h) (Or.inl ⟨by rfl, ?_⟩) (by assumption) ?_
          rotate_left
          · intro w hSw; (try dsimp only at hSw); go_simp; (try with_reducible rfl)
          try dsimp only [List.getElem_toArray, List.getElem_cons_succ, List.getElem_cons_zero]
          simp only [Act.put, List.setIfInBounds_toArray, List.set_cons_zero, List.set_cons_succ]
          refine wpAnyH_take (i := 2) (oi := _) (v := ?_) rfl (by kernel_rfl) (by kernel_rfl) (by kernel_rfl) (fun _ _ _ h => h) (Or.inl ⟨by rfl, ?_⟩) (by assumption) ?_
          rotate_left
          · intro w hSw; (try dsimp only at hSw); go_simp; (try with_reducible rfl)
          try dsimp only [List.getElem_toArray, List.getElem_cons_succ, List.getElem_cons_zero]
          simp only [Act.put, List.setIfInBounds_toArray, List.set_cons_zero, List.set_cons_succ]
          refine wpAnyH_take (i := 3) (oi := _) (v := ?_) rfl (by kernel_rfl) (by kernel_rfl) (by kernel_rfl) (fun _ _ _ h => h) (Or.inl ⟨by rfl, ?_⟩) (by assumption) ?_
          rotate_left
          · intro w hSw; (try dsimp only at hSw); go_simp; (try with_reducible rfl)
          try dsimp only [List.getElem_toArray, List.getElem_cons_succ, List.getElem_cons_zero]
          simp only [Act.put, List.setIfInBounds_toArray, List.set_cons_zero, List.set_cons_succ]
          refine wpAnyH_take (i := 4) (oi := _) (v := ?_) rfl (by kernel_rfl) (by kernel_rfl) (by kernel_rfl) (fun _ _ _ h => h) (Or.inl ⟨by rfl, ?_⟩) (by assumption) ?_
          rotate_left
          · intro w hSw; (try dsimp only at hSw); go_simp; (try with_reducible rfl)
          try dsimp only [List.getElem_toArray, List.getElem_cons_succ, List.getElem_cons_zero]
          simp only [Act.put, List.setIfInBounds_toArray, List.set_cons_zero, List.set_cons_succ]
          refine wpAnyH_take (i := 5) (oi := _) (v := ?_) rfl (by kernel_rfl) (by kernel_rfl) (by kernel_rfl) (fun _ _ _ h => h) (Or.inl ⟨by rfl, ?_⟩) (by assumption) ?_
          rotate_left
          · intro w hSw; (try dsimp only at hSw); go_simp; (try with_reducible rfl)
          try dsimp only [List.getElem_toArray, List.getElem_cons_succ, List.getElem_cons_zero]
          simp only [Act.put, List.setIfInBounds_toArray, List.set_cons_zero, List.set_cons_succ]
          refine wpAnyH_take (i := 6) (oi := _) (v := ?_) rfl (by kernel_rfl) (by kernel_rfl) (by kernel_rfl) (fun _ _ _ h => h) (Or.inl ⟨by rfl, ?_⟩) (by assumption) ?_
          rotate_left
          · intro w hSw; (try dsimp only at hSw); go_simp; (try with_reducible rfl)
          try dsimp only [List.getElem_toArray, List.getElem_cons_succ, List.getElem_cons_zero]
          simp only [Act.put, List.setIfInBounds_toArray, List.set_cons_zero, List.set_cons_succ]
          refine wpAnyH_take (i := 7) (oi := _) (v := ?_) rfl (by kernel_rfl) (by kernel_rfl) (by kernel_rfl) (fun _ _ _ h => h) (Or.inl ⟨by rfl, ?_⟩) (by assumption) ?_
          rotate_left
          · intro w hSw; (try dsimp only at hSw); go_simp; (try with_reducible rfl)
          try dsimp only [List.getElem_toArray, List.getElem_cons_succ, List.getElem_cons_zero]
          simp only [Act.put, List.setIfInBounds_toArray, List.set_cons_zero, List.set_cons_succ]
          refine wpAnyH_take (i := 8) (oi := _) (v := ?_) rfl (by kernel_rfl) (by kernel_rfl) (by kernel_rfl) (fun _ _ _ h => h) (Or.inl ⟨by rfl, ?_⟩) (by assumption) ?_
          rotate_left
          · intro w hSw; (try dsimp only at hSw); go_simp; (try with_reducible rfl)
          try dsimp only [List.getElem_toArray, List.getElem_cons_succ, List.getElem_cons_zero]
          simp only [Act.put, List.setIfInBounds_toArray, List.set_cons_zero, List.set_cons_succ]
          refine wpAnyH_take (i := 9) (oi := _) (v := ?_) rfl (by kernel_rfl) (by kernel_rfl) (by kernel_rfl) (fun _ _ _ h => h) (Or.inl ⟨by rfl, ?_⟩) (by assumption) ?_
          rotate_left
          · intro w hSw; (try dsimp only at hSw); go_simp; (try with_reducible rfl)
          try dsimp only [List.getElem_toArray, List.getElem_cons_succ, List.getElem_cons_zero]
          simp only [Act.put, List.setIfInBounds_toArray, List.set_cons_zero, List.set_cons_succ]
          refine wpAnyH_take (i := 10) (oi := _) (v := ?_) rfl (by kernel_rfl) (by kernel_rfl) (by kernel_rfl) (fun _ _ _ h => h) (Or.inl ⟨by rfl, ?_⟩) (by assumption) ?_
          rotate_left
          · intro w hSw; (try dsimp only at hSw); go_simp; (try with_reducible rfl)
          try dsimp only [List.getElem_toArray, List.getElem_cons_succ, List.getElem_cons_zero]
          simp only [Act.put, List.setIfInBounds_toArray, List.set_cons_zero, List.set_cons_succ]
          refine wpAnyH_ready (rs := [11]) (by kernel_rfl) (by simp) ?_
          refine AllReadyH.cons (o := _) rfl (fun K hK => ?_) ?_
          · (try dsimp only [List.getElem_toArray, List.getElem_cons_succ, List.getElem_cons_zero]); go_simp
            refine hK.out _ _ ?_ (fun hHeld => ?_)
            · (first | assumption | (go_simp; done) | (go_keep; done))
            clear hK K
            try simp only [Act.put, List.setIfInBounds_toArray, List.set_cons_zero, List.set_cons_succ]
            refine wpAnyH_take (i := 12) (oi := _) (v := ?_) rfl (by kernel_rfl) (by kernel_rfl) (by kernel_rfl) (fun _ _ _ h => h) (Or.inl ⟨by rfl, ?_⟩) (by assumption) ?_
            rotate_left
            · intro w hSw; (try dsimp only at hSw); go_simp; (try with_reducible rfl)
            try dsimp only [List.getElem_toArray, List.getElem_cons_succ, List.getElem_cons_zero]
            simp only [Act.put, List.setIfInBounds_toArray, List.set_cons_zero, List.set_cons_succ]
            refine wpAnyH_take (i := 13) (oi := _) (v := ?_) rfl (by kernel_rfl) (by kernel_rfl) (by kernel_rfl) (fun _ _ _ h => h) (Or.inl ⟨by rfl, ?_⟩) (by assumption) ?_
            rotate_left
            · intro w hSw; (try dsimp only at hSw); go_simp; (try with_reducible rfl)
            try dsimp only [List.getElem_toArray, List.getElem_cons_succ, List.getElem_cons_zero]
            simp only [Act.put, List.setIfInBounds_toArray, List.set_cons_zero, List.set_cons_succ]
            refine wpAnyH_ready (rs := [14]) (by kernel_rfl) (by simp) ?_
            refine AllReadyH.cons (o := _) rfl (fun K hK => ?_) ?_
            · (try dsimp only [List.getElem_toArray, List.getElem_cons_succ, List.getElem_cons_zero]); go_simp
              refine hK.out _ _ ?_ (fun hHeld => ?_)
              · (first | assumption | (go_simp; done) | (go_keep; done))
              clear hK K
              try simp only [Act.put, List.setIfInBounds_toArray, List.set_cons_zero, List.set_cons_succ]
              refine wpAnyH_done (by kernel_rfl) ?_ _
              go_wp2_with fail
              go_meet
              refine ⟨low - 4294967296, M.incAt out i, by omega, by omega, by omega, M.incAt_len hi1, M.incAt_bytes HB.out hi1 (by rw [← HX.out]; intro e; rw [e] at hne; simp at hne), ?_, ?_, (HBE.out.trans (H.out.below (by have := H.out.dc; omega) i _)).trans ⟨rfl, rfl, rfl, Nat.le_refl _, fun _ _ => rfl⟩⟩
              · rw [M.incAt_num hi1 (fun j h1 h2 => (HZ.out j h1 h2).2)]; omega
              · rw [← inc_eq hi1 HL.out HS.out (fun j h1 h2 => (HZ.out j h1 h2).1), ← HX.out]; exact (H.out.byte_ _).drew
            exact AllReadyH.nil
          exact AllReadyH.nil
  case rest =>
    clear c0 c1 c2 c3 f0 f1 f2 hC H HB
    obtain ⟨low1, out1, h0, h1, hm, hln, hby, hnum, hcod, hbel⟩ := hcut
    have H := Lib.hid hcod
    have HB := Lib.hid hby
    have HN1 := Lib.hid hnum
    have HM := Lib.hid hm
    have HE := Lib.hid hbel
    have HL := Lib.hid hln
    have hl1 : out1.length ≤ 100000 := by omega
    obtain ⟨c0, c1, c2, c3, f0, f1, f2⟩ := hcod.cells
    have hC := hcod.lt
    have hw : IntKind.u8.wrap (IntKind.i64.wrap (low1.tdiv 16777216)) = low1 / 16777216 := by rw [Int.tdiv_eq_ediv_of_nonneg h0, IntWalk.i64_in _ (by omega)]; simp only [IntKind.wrap_u8]; omega
    clear hby hnum hm hbel hcod hln
    go_wp2_with fail
    refine wp_region_held_drew (S := (fun w' => w'.cell? ⟨C, 0, none⟩ = some (.int .i64 low1))) (by kernel_rfl) ?_ (fun hHeld => ?_)
    · (first | assumption | (go_simp; done) | (go_keep; done))
    refine wpAnyH_take (i := 0) (oi := _) (v := ?_) rfl (by kernel_rfl) (by kernel_rfl) (by kernel_rfl) (fun _ _ _ h => h) (Or.inl ⟨by rfl, ?_⟩) (by assumption) ?_
    rotate_left
    · intro w hSw; (try dsimp only at hSw); go_simp; (try with_reducible rfl)
    try dsimp only [List.getElem_toArray, List.getElem_cons_succ, List.getElem_cons_zero]
    simp only [Act.put, List.setIfInBounds_toArray, List.set_cons_zero, List.set_cons_succ]
    refine wpAnyH_take (i := 1) (oi := _) (v := ?_) rfl (by kernel_rfl) (by kernel_rfl) (by kernel_rfl) (fun _ _ _ h => h) (Or.inl ⟨by rfl, ?_⟩) (by assumption) ?_
    rotate_left
    · intro w hSw; (try dsimp only at hSw); go_simp; (try with_reducible rfl)
    try dsimp only [List.getElem_toArray, List.getElem_cons_succ, List.getElem_cons_zero]
    simp only [Act.put, List.setIfInBounds_toArray, List.set_cons_zero, List.set_cons_succ]
    refine wpAnyH_take (i := 2) (oi := _) (v := ?_) rfl (by kernel_rfl) (by kernel_rfl) (by kernel_rfl) (fun _ _ _ h => h) (Or.inl ⟨by rfl, ?_⟩) (by assumption) ?_
    rotate_left
    · intro w hSw; (try dsimp only at hSw); go_simp; (try with_reducible rfl)
    try dsimp only [List.getElem_toArray, List.getElem_cons_succ, List.getElem_cons_zero]
    simp only [Act.put, List.setIfInBounds_toArray, List.set_cons_zero, List.set_cons_succ]
    refine wpAnyH_take (i := 3) (oi := _) (v := ?_) rfl (by kernel_rfl) (by kernel_rfl) (by kernel_rfl) (fun _ _ _ h => h) (Or.inl ⟨by rfl, ?_⟩) (by assumption) ?_
    rotate_left
    · intro w hSw; (try dsimp only at hSw); go_simp; (try with_reducible rfl)
    try dsimp only [List.getElem_toArray, List.getElem_cons_succ, List.getElem_cons_zero]
    simp only [Act.put, List.setIfInBounds_toArray, List.set_cons_zero, List.set_cons_succ]
    refine wpAnyH_take (i := 5) (oi := _) (v := ?_) rfl (by kernel_rfl) (by kernel_rfl) (by kernel_rfl) (fun _ _ _ h => h) (Or.inl ⟨by rfl, ?_⟩) (by assumption) ?_
    rotate_left
    · intro w hSw; (try dsimp only at hSw); go_simp; (try with_reducible rfl)
    try dsimp only [List.getElem_toArray, List.getElem_cons_succ, List.getElem_cons_zero]
    simp only [Act.put, List.setIfInBounds_toArray, List.set_cons_zero, List.set_cons_succ]
    refine wpAnyH_take (i := 6) (oi := _) (v := ?_) rfl (by kernel_rfl) (by kernel_rfl) (by kernel_rfl) (fun _ _ _ h => h) (Or.inl ⟨by rfl, ?_⟩) (by assumption) ?_
    rotate_left
    · intro w hSw; (try dsimp only at hSw); go_simp; (try with_reducible rfl)
    try dsimp only [List.getElem_toArray, List.getElem_cons_succ, List.getElem_cons_zero]
    simp only [Act.put, List.setIfInBounds_toArray, List.set_cons_zero, List.set_cons_succ]
    refine wpAnyH_take (i := 7) (oi := _) (v := ?_) rfl (by kernel_rfl) (by kernel_rfl) (by kernel_rfl) (fun _ _ _ h => h) (Or.inl ⟨by rfl, ?_⟩) (by assumption) ?_
    rotate_left
    · intro w hSw; (try dsimp only at hSw); go_simp; (try with_reducible rfl)
    try dsimp only [List.getElem_toArray, List.getElem_cons_succ, List.getElem_cons_zero]
    simp only [Act.put, List.setIfInBounds_toArray, List.set_cons_zero, List.set_cons_succ]
    refine wpAnyH_take (i := 8) (oi := _) (v := ?_) rfl (by kernel_rfl) (by kernel_rfl) (by kernel_rfl) (fun _ _ _ h => h) (Or.inl ⟨by rfl, ?_⟩) (by assumption) ?_
    rotate_left
    · intro w hSw; (try dsimp only at hSw); go_simp; (try with_reducible rfl)
    try dsimp only [List.getElem_toArray, List.getElem_cons_succ, List.getElem_cons_zero]
    simp only [Act.put, List.setIfInBounds_toArray, List.set_cons_zero, List.set_cons_succ]
    refine wpAnyH_take (i := 9) (oi := _) (v := ?_) rfl (by kernel_rfl) (by kernel_rfl) (by kernel_rfl) (fun _ _ _ h => h) (Or.inl ⟨by rfl, ?_⟩) (by assumption) ?_
    rotate_left
    · intro w hSw; (try dsimp only at hSw); go_simp; (try with_reducible rfl)
    try dsimp only [List.getElem_toArray, List.getElem_cons_succ, List.getElem_cons_zero]
    simp only [Act.put, List.setIfInBounds_toArray, List.set_cons_zero, List.set_cons_succ]
    refine wpAnyH_take (i := 10) (oi := _) (v := ?_) rfl (by kernel_rfl) (by kernel_rfl) (by kernel_rfl) (fun _ _ _ h => h) (Or.inl ⟨by rfl, ?_⟩) (by assumption) ?_
    rotate_left
    · intro w hSw; (try dsimp only at hSw); go_simp; (try with_reducible rfl)
    try dsimp only [List.getElem_toArray, List.getElem_cons_succ, List.getElem_cons_zero]
    simp only [Act.put, List.setIfInBounds_toArray, List.set_cons_zero, List.set_cons_succ]
    refine wpAnyH_ready (rs := [4, 11]) (by kernel_rfl) (by simp) ?_
    refine AllReadyH.cons (o := _) rfl (fun K hK => ?_) ?_
    · (try dsimp only [List.getElem_toArray, List.getElem_cons_succ, List.getElem_cons_zero]); go_simp
      refine hK.out _ _ ?_ (fun hHeld => ?_)
      · (first | assumption | (go_simp; done) | (go_keep; done))
      clear hK K
      try simp only [Act.put, List.setIfInBounds_toArray, List.set_cons_zero, List.set_cons_succ]
      refine wpAnyH_ready (rs := [11]) (by kernel_rfl) (by simp) ?_
      refine AllReadyH.cons (o := _) rfl (fun K hK => ?_) ?_
      · (try dsimp only [List.getElem_toArray, List.getElem_cons_succ, List.getElem_cons_zero]); go_simp
        refine hK.out _ _ ?_ (fun hHeld => ?_)
        · (first | assumption | (go_simp; done) | (go_keep; done))
        clear hK K
        try simp only [Act.put, List.setIfInBounds_toArray, List.set_cons_zero, List.set_cons_succ]
        refine wpAnyH_ready (rs := [12]) (by kernel_rfl) (by simp) ?_
        refine AllReadyH.cons (o := _) rfl (fun K hK => ?_) ?_
        · (try dsimp only [List.getElem_toArray, List.getElem_cons_succ, List.getElem_cons_zero])
          (rw [if_pos (by rfl)]; refine wp_append_own _ _ _ 22 rfl (C + 1) 5 i0 (.int .u8 0) 1 1 Try.underlying22 hi hz0 hz1 hz2 rfl (by decide) _ _ _ rfl (H.out.drew.alloc _).row ⟨_, 0, none⟩ 1 1 [.int .u8 (low1 / 16777216)] rfl rfl (news1 (by go_simp; done)) (one1 rfl) (by unfold maxLen; omega) (by omega) (by simp; omega) ?_; intro v' w1 hown1 hgrow1 _; obtain ⟨A1, cc1, e1, -⟩ := own_shape hown1; subst e1; obtain ⟨⟨d0, d2, g0, g2⟩, hcod, hbel⟩ := (H.out.drew.alloc _).app hown1 hgrow1; have HC2 := Lib.hid hcod; have HE2 := Lib.hid hbel; clear hcod hbel hown1 hgrow1)
          refine hK.out _ _ ?_ (fun hHeld => ?_)
          · (first | assumption | (go_simp; done) | (go_keep; done))
          clear hK K
          try simp only [Act.put, List.setIfInBounds_toArray, List.set_cons_zero, List.set_cons_succ]
          refine wpAnyH_take (i := 13) (oi := _) (v := ?_) rfl (by kernel_rfl) (by kernel_rfl) (by kernel_rfl) (fun _ _ _ h => h) (Or.inl ⟨by rfl, ?_⟩) (by assumption) ?_
          rotate_left
          · intro w hSw; (try dsimp only at hSw); go_simp; (try with_reducible rfl)
          try dsimp only [List.getElem_toArray, List.getElem_cons_succ, List.getElem_cons_zero]
          simp only [Act.put, List.setIfInBounds_toArray, List.set_cons_zero, List.set_cons_succ]
          refine wpAnyH_take (i := 14) (oi := _) (v := ?_) rfl (by kernel_rfl) (by kernel_rfl) (by kernel_rfl) (fun _ _ _ h => h) (Or.inl ⟨by rfl, ?_⟩) (by assumption) ?_
          rotate_left
          · intro w hSw; (try dsimp only at hSw); go_simp; (try with_reducible rfl)
          try dsimp only [List.getElem_toArray, List.getElem_cons_succ, List.getElem_cons_zero]
          simp only [Act.put, List.setIfInBounds_toArray, List.set_cons_zero, List.set_cons_succ]
          refine wpAnyH_ready (rs := [15]) (by kernel_rfl) (by simp) ?_
          refine AllReadyH.cons (o := _) rfl (fun K hK => ?_) ?_
          · (try dsimp only [List.getElem_toArray, List.getElem_cons_succ, List.getElem_cons_zero]); go_simp
            refine hK.out _ _ ?_ (fun hHeld => ?_)
            · (first | assumption | (go_simp; done) | (go_keep; done))
            clear hK K
            try simp only [Act.put, List.setIfInBounds_toArray, List.set_cons_zero, List.set_cons_succ]
            refine wpAnyH_done (by kernel_rfl) ?_ _
            go_wp2_with fail
            go_returns
            exact ⟨_, _, out1 ++ [low1 / 16777216], rfl, by rw [← HM.out]; exact HC2.out.low_ _, ((HE.out.trans (below_of_drew_alloc HE2.out H.out.lt H.out.dc)).trans (HC2.out.below (by have := H.out.dc; omega) _ _)), by rw [List.length_append, HL.out]; rfl, bytes_snoc HB.out (by omega), by rw [← HM.out, M.num_snoc]; have := HN1.out; omega⟩
          exact AllReadyH.nil
        exact AllReadyH.nil
      exact AllReadyH.nil
    refine AllReadyH.cons (o := _) rfl (fun K hK => ?_) ?_
    · (try dsimp only [List.getElem_toArray, List.getElem_cons_succ, List.getElem_cons_zero]); go_simp
      refine hK.out _ _ ?_ (fun hHeld => ?_)
      · (first | assumption | (go_simp; done) | (go_keep; done))
      clear hK K
      try simp only [Act.put, List.setIfInBounds_toArray, List.set_cons_zero, List.set_cons_succ]
      refine wpAnyH_ready (rs := [4]) (by kernel_rfl) (by simp) ?_
      refine AllReadyH.cons (o := _) rfl (fun K hK => ?_) ?_
      · (try dsimp only [List.getElem_toArray, List.getElem_cons_succ, List.getElem_cons_zero]); go_simp
        refine hK.out _ _ ?_ (fun hHeld => ?_)
        · (first | assumption | (go_simp; done) | (go_keep; done))
        clear hK K
        try simp only [Act.put, List.setIfInBounds_toArray, List.set_cons_zero, List.set_cons_succ]
        refine wpAnyH_ready (rs := [12]) (by kernel_rfl) (by simp) ?_
        refine AllReadyH.cons (o := _) rfl (fun K hK => ?_) ?_
        · (try dsimp only [List.getElem_toArray, List.getElem_cons_succ, List.getElem_cons_zero])
          (rw [if_pos (by rfl)]; refine wp_append_own _ _ _ 22 rfl (C + 1) 5 i0 (.int .u8 0) 1 1 Try.underlying22 hi hz0 hz1 hz2 rfl (by decide) _ _ _ rfl (H.out.drew.alloc _).row ⟨_, 0, none⟩ 1 1 [.int .u8 (low1 / 16777216)] rfl rfl (news1 (by go_simp; done)) (one1 rfl) (by unfold maxLen; omega) (by omega) (by simp; omega) ?_; intro v' w1 hown1 hgrow1 _; obtain ⟨A1, cc1, e1, -⟩ := own_shape hown1; subst e1; obtain ⟨⟨d0, d2, g0, g2⟩, hcod, hbel⟩ := (H.out.drew.alloc _).app hown1 hgrow1; have HC2 := Lib.hid hcod; have HE2 := Lib.hid hbel; clear hcod hbel hown1 hgrow1)
          refine hK.out _ _ ?_ (fun hHeld => ?_)
          · (first | assumption | (go_simp; done) | (go_keep; done))
          clear hK K
          try simp only [Act.put, List.setIfInBounds_toArray, List.set_cons_zero, List.set_cons_succ]
          refine wpAnyH_take (i := 13) (oi := _) (v := ?_) rfl (by kernel_rfl) (by kernel_rfl) (by kernel_rfl) (fun _ _ _ h => h) (Or.inl ⟨by rfl, ?_⟩) (by assumption) ?_
          rotate_left
          · intro w hSw; (try dsimp only at hSw); go_simp; (try with_reducible rfl)
          try dsimp only [List.getElem_toArray, List.getElem_cons_succ, List.getElem_cons_zero]
          simp only [Act.put, List.setIfInBounds_toArray, List.set_cons_zero, List.set_cons_succ]
          refine wpAnyH_take (i := 14) (oi := _) (v := ?_) rfl (by kernel_rfl) (by kernel_rfl) (by kernel_rfl) (fun _ _ _ h => h) (Or.inl ⟨by rfl, ?_⟩) (by assumption) ?_
          rotate_left
          · intro w hSw; (try dsimp only at hSw); go_simp; (try with_reducible rfl)
          try dsimp only [List.getElem_toArray, List.getElem_cons_succ, List.getElem_cons_zero]
          simp only [Act.put, List.setIfInBounds_toArray, List.set_cons_zero, List.set_cons_succ]
          refine wpAnyH_ready (rs := [15]) (by kernel_rfl) (by simp) ?_
          refine AllReadyH.cons (o := _) rfl (fun K hK => ?_) ?_
          · (try dsimp only [List.getElem_toArray, List.getElem_cons_succ, List.getElem_cons_zero]); go_simp
            refine hK.out _ _ ?_ (fun hHeld => ?_)
            · (first | assumption | (go_simp; done) | (go_keep; done))
            clear hK K
            try simp only [Act.put, List.setIfInBounds_toArray, List.set_cons_zero, List.set_cons_succ]
            refine wpAnyH_done (by kernel_rfl) ?_ _
            go_wp2_with fail
            go_returns
            exact ⟨_, _, out1 ++ [low1 / 16777216], rfl, by rw [← HM.out]; exact HC2.out.low_ _, ((HE.out.trans (below_of_drew_alloc HE2.out H.out.lt H.out.dc)).trans (HC2.out.below (by have := H.out.dc; omega) _ _)), by rw [List.length_append, HL.out]; rfl, bytes_snoc HB.out (by omega), by rw [← HM.out, M.num_snoc]; have := HN1.out; omega⟩
          exact AllReadyH.nil
        exact AllReadyH.nil
      exact AllReadyH.nil
    exact AllReadyH.nil

end Go.Proofs.Ytggkelehjdepkaa
