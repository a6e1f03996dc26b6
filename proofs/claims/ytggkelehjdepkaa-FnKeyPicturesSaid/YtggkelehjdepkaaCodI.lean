/- The program's coder: its memory, told by low, span, the bytes that are out, and the probabilities. -/
import Derived.Test.YtggkelehjdepkaaCodP
namespace Go.Proofs.Ytggkelehjdepkaa
open Go.RowKit
set_option linter.unusedVariables false
set_option linter.unusedSimpArgs false

attribute [local go_sem] size_addsW cell?_addsW frozen?_addsW setCell_addsW drew_addsW adds_addsW setCell_twice alloc_adds0 size_adds0 adds_adds0 sel2 sel3 sel4 sel5 sel6 sel7 sel8 sel9 lt_more lt_more2 lt_more3 lt_more4 adds_drew adds_drewN drewN_addsW ltA_1_1 ltA_1_2 ltA_1_3 ltA_1_4 ltA_1_5 ltA_1_6 ltA_2_1 ltA_2_2 ltA_2_3 ltA_2_4 ltA_2_5 ltA_2_6 ltA_3_1 ltA_3_2 ltA_3_3 ltA_3_4 ltA_3_5 ltA_3_6 ltA_4_1 ltA_4_2 ltA_4_3 ltA_4_4 ltA_4_5 ltA_4_6 ltA_5_1 ltA_5_2 ltA_5_3 ltA_5_4 ltA_5_5 ltA_5_6 ltA_6_1 ltA_6_2 ltA_6_3 ltA_6_4 ltA_6_5 ltA_6_6 ltA_7_1 ltA_7_2 ltA_7_3 ltA_7_4 ltA_7_5 ltA_7_6 ltA_8_1 ltA_8_2 ltA_8_3 ltA_8_4 ltA_8_5 ltA_8_6 ltA_9_1 ltA_9_2 ltA_9_3 ltA_9_4 ltA_9_5 ltA_9_6 ltA_10_1 ltA_10_2 ltA_10_3 ltA_10_4 ltA_10_5 ltA_10_6 ltA_11_1 ltA_11_2 ltA_11_3 ltA_11_4 ltA_11_5 ltA_11_6 ltA_12_1 ltA_12_2 ltA_12_3 ltA_12_4 ltA_12_5 ltA_12_6

/-- the coder in block C -/
structure CodI (w : World) (C : Nat) (low s : Int) (out : List Int) (vo : Value) (ch : List Int) : Prop where
  blk : w.heap[C]? = some (.cells (Value.int .u64 low :: Value.int .u64 s :: (ch.map (Value.int .i64) ++ [vo])).toArray 110 (0, 0))
  row : w.ownsRow (C + 1) 5 1 vo out.length (out.map (Value.int .u8))
  len : ch.length = 40

theorem CodI.lt {w : World} {C : Nat} {low s : Int} {out ch : List Int} {vo : Value} (h : CodI w C low s out vo ch) : C < w.heap.size := lt_of_heap h.blk
theorem CodI.cells {w : World} {C : Nat} {low s : Int} {out ch : List Int} {vo : Value} (h : CodI w C low s out vo ch) : w.cell? ⟨C, 0, none⟩ = some (.int .u64 low) ∧ w.cell? ⟨C, 1, none⟩ = some (.int .u64 s) ∧ w.cell? ⟨C, 42, none⟩ = some vo ∧ (∀ i, i < 40 → w.cell? ⟨C, 2 + i, none⟩ = some (.int .i64 (ch.getD i 0))) ∧ (∀ i, w.frozen? ⟨C, i, none⟩ = false) := by
  have hb := h.blk
  have hl := h.len
  refine ⟨by simp [World.cell?, hb], by simp [World.cell?, hb], ?_, fun i hi => ?_, fun i => by simp [World.frozen?, hb]⟩
  · simp [World.cell?, hb, List.getElem?_append, hl]
  · have e : (Value.int .u64 low :: Value.int .u64 s :: (ch.map (Value.int .i64) ++ [vo]))[2 + i]? = some (.int .i64 (ch.getD i 0)) := by
      rw [Nat.add_comm, List.getElem?_cons_succ, List.getElem?_cons_succ, List.getElem?_append_left (by simp; omega), List.getElem?_map, List.getElem?_eq_getElem (by omega), List.getD_eq_getElem?_getD, List.getElem?_eq_getElem (by omega)]; rfl
    simp only [World.cell?, hb, List.getElem?_toArray, e]; rfl
theorem CodI.keep {w w' : World} {C : Nat} {low s : Int} {out ch : List Int} {vo : Value} (h : CodI w C low s out vo ch) (hb : Below w.heap.size w w') : CodI w' C low s out vo ch :=
  ⟨(hb.block C h.lt).trans h.blk, ownsRow_below h.row hb, h.len⟩
theorem CodI.drew {w : World} {C : Nat} {low s : Int} {out ch : List Int} {vo : Value} (h : CodI w C low s out vo ch) : CodI w.drew C low s out vo ch := h.keep ⟨rfl, rfl, rfl, Nat.le_refl _, fun _ _ => rfl⟩
theorem CodI.alloc {w : World} {C : Nat} {low s : Int} {out ch : List Int} {vo : Value} (h : CodI w C low s out vo ch) (o : Obj) : CodI (w.alloc o) C low s out vo ch := h.keep (by rw [alloc_as]; exact addsW_below _ _ _)
theorem CodI.low_ {w : World} {C : Nat} {low s : Int} {out ch : List Int} {vo : Value} (h : CodI w C low s out vo ch) (x : Int) : CodI (w.setCell ⟨C, 0, none⟩ (.int .u64 x)) C x s out vo ch :=
  ⟨(heap_set_same h.blk).trans (by simp), ownsRow_set h.row (by omega), h.len⟩
theorem CodI.s_ {w : World} {C : Nat} {low s : Int} {out ch : List Int} {vo : Value} (h : CodI w C low s out vo ch) (x : Int) : CodI (w.setCell ⟨C, 1, none⟩ (.int .u64 x)) C low x out vo ch :=
  ⟨(heap_set_same h.blk).trans (by simp), ownsRow_set h.row (by omega), h.len⟩
theorem CodI.ch_ {w : World} {C i : Nat} {low s : Int} {out ch : List Int} {vo : Value} (h : CodI w C low s out vo ch) (hi : i < 40) (x : Int) : CodI (w.setCell ⟨C, 2 + i, none⟩ (.int .i64 x)) C low s out vo (ch.set i x) := by
  have hl := h.len
  refine ⟨(heap_set_same h.blk).trans ?_, ownsRow_set h.row (by omega), by rw [List.length_set]; exact h.len⟩
  rw [List.setIfInBounds_toArray, Nat.add_comm, List.set_cons_succ, List.set_cons_succ, List.set_append_left _ _ (by simp; omega), List.map_set]
theorem CodI.byte_ {w : World} {C g n cap i : Nat} {low s : Int} {out ch : List Int} (h : CodI w C low s out (.slice (some ⟨g, 0, none⟩) n cap) ch) (x : Int) : CodI (w.setCell ⟨g, i, none⟩ (.int .u8 x)) C low s (out.set i x) (.slice (some ⟨g, 0, none⟩) n cap) ch := by
  have hg := (h.row.lt g rfl).1
  obtain ⟨A, c', e, -⟩ := own_shape h.row
  injection e with e1 e2 e3
  subst e2
  have hs := (h.row.stored i (.int .u8 x)).1
  rw [← List.map_set] at hs
  refine ⟨(Below.heap_setCell w ⟨g, i, none⟩ _ C (by simp; omega)).trans h.blk, ?_, h.len⟩
  rw [List.length_set]; exact hs
theorem CodI.app {w w1 : World} {C : Nat} {low s x : Int} {out ch : List Int} {vo v' : Value} (h : CodI w C low s out vo ch) (hown : w1.ownsRow (C + 1) 5 1 v' (out.length + 1) (out.map (Value.int .u8) ++ [Value.int .u8 x])) (hg : w.grownBy w1 vo.ownBlock) :
    (w1.cell? ⟨C, 0, none⟩ = some (.int .u64 low) ∧ w1.cell? ⟨C, 42, none⟩ = some vo ∧ (∀ i, w1.frozen? ⟨C, i, none⟩ = false)) ∧ CodI (w1.setCell ⟨C, 42, none⟩ v') C low s (out ++ [x]) v' ch ∧ Below C w (w1.setCell ⟨C, 42, none⟩ v') := by
  have hlt := h.row.lt
  have hC := h.lt
  have hl := h.len
  have hb : ∀ k, k ≤ C → w1.heap[k]? = w.heap[k]? := fun k hk => hg.block k (by omega) (fun e => by have := hlt k e.symm; omega)
  have hblk := (hb C (Nat.le_refl _)).trans h.blk
  have hz : CodI w1 C low s [] (.slice none 0 0) ch → True := fun _ => trivial
  refine ⟨⟨by simp [World.cell?, hblk], by simp [World.cell?, hblk, List.getElem?_append, hl], fun i => by simp [World.frozen?, hblk]⟩, ⟨(heap_set_same hblk).trans ?_, ?_, hl⟩, ?_⟩
  · rw [List.setIfInBounds_toArray, List.set_cons_succ, List.set_cons_succ, List.set_append_right _ _ (by simp; omega)]
    simp [hl]
  · rw [List.length_append, List.map_append]
    exact ownsRow_set hown (by omega)
  · refine Below.setCell (p := ⟨C, 42, none⟩) ⟨hg.os, hg.tape, hg.output, hg.size, fun k hk => hb k (Nat.le_of_lt hk)⟩ (Nat.le_refl _) _
theorem CodI.below {w : World} {C : Nat} {low s : Int} {out ch : List Int} {vo : Value} (h : CodI w C low s out vo ch) {b : Nat} (hb : C ≤ b) (i : Nat) (v : Value) : Below C w (w.setCell ⟨b, i, none⟩ v) :=
  Below.setCell (p := ⟨b, i, none⟩) (Below.refl _ _) hb _
theorem below_of_drew_allocI {C : Nat} {w w' : World} {o : Obj} (h : Below C (w.drew.alloc o) w') (hC : C < w.heap.size) : Below C w w' :=
  Below.trans (by
    refine ⟨rfl, rfl, rfl, by simp, fun k hk => ?_⟩
    exact Below.heap_alloc w.drew o k (by show k < w.heap.size; omega)) h
theorem and24 {a : Int} (h : 0 ≤ a ∧ a < 8589934592) : bits .and .u64 a 16777215 = a % 16777216 := by
  obtain ⟨n, rfl⟩ := Int.eq_ofNat_of_zero_le h.1
  show IntKind.u64.wrap ((BitVec.ofInt 64 (n : Int) &&& BitVec.ofInt 64 ((16777215 : Nat) : Int)).toNat : Int) = _
  rw [BitVec.toNat_and, BitVec.ofInt_natCast, BitVec.ofInt_natCast, BitVec.toNat_ofNat, BitVec.toNat_ofNat, Nat.mod_eq_of_lt (by omega), Nat.mod_eq_of_lt (by omega), show (16777215 : Nat) = 2 ^ 24 - 1 from rfl, Nat.and_two_pow_sub_one_eq_mod]
  simp only [IntKind.wrap_u64]
  omega

/-- behind the carry -/
def ShCutI (w : World) (C : Nat) (low s : Int) (out : List Int) (vo : Value) (ch : List Int) (wx : World) : Prop := ∃ (low1 : Int) (out1 : List Int), 0 ≤ low1 ∧ low1 < 4294967296 ∧ low1 % 16777216 = low % 16777216 ∧ out1.length = out.length ∧ M.bytesB out1 ∧ M.num out1 * 4294967296 + low1 = M.num out * 4294967296 + low ∧ CodI wx C low1 s out1 vo ch ∧ Below C w wx

def ShRelI (w : World) (C : Nat) (low s : Int) (out : List Int) (vo : Value) (ch : List Int) (k : Value) (wr : World) : Prop := ∃ (i : Nat) (out1 : List Int), k = .int .i64 (i : Int) ∧ i < out.length ∧ out1.length = out.length ∧ CodI wr C low s out1 vo ch ∧ Below C w wr ∧ (∀ j, j ≤ i → out1.getD j 0 = out.getD j 0) ∧ (∀ j, i < j → j < out.length → out1.getD j 0 = 0 ∧ out.getD j 0 = 255)

/-- a byte is out -/
def ShiftedI (w : World) (C : Nat) (low s : Int) (out : List Int) (ch : List Int) (e : Ending) (w' : World) : Prop :=
  ∃ (v vo : Value) (out1 : List Int), e = .returned v ∧ CodI w' C (low % 16777216 * 256) s out1 vo ch ∧ Below C w w' ∧ out1.length = out.length + 1 ∧ M.bytesB out1 ∧ M.num out1 * 4294967296 + low % 16777216 * 256 = (M.num out * 4294967296 + low) * 256

set_option maxRecDepth 100000 in
set_option maxHeartbeats 2000000 in
theorem I_putByte (C : Nat) (low s : Int) (out ch : List Int) (vo : Value) (w : World) (h : CodI w C low s out vo ch) (hl : 0 ≤ low ∧ low < 8589934592) (hb : M.bytesB out) (hn : M.num out * 4294967296 + low < 256 ^ out.length * 4294967296) (hlen : out.length ≤ 100000) :
    Calls Try.prog 69 #[.pointer (some ⟨C, 0, none⟩)] w (ShiftedI w C low s out ch) := by
  have H := Lib.hid h
  have HB := Lib.hid hb
  have HN := Lib.hid hn
  obtain ⟨i0, hi, hz0, hz1, hz2⟩ := info_parts infoU8c
  obtain ⟨c0, c1, c2, c3, f0⟩ := h.cells
  have hC := h.lt
  clear h hb hn
  go_enter Try.func69, Try.ntmps69
  go_upto_if 7 with fail
  go_cut [2] (fun s2 wx => ShCutI w C low s out vo ch wx)
  case first =>
    by_cases hc : low < 4294967296
    · go_wp2_with fail
      go_meet
      exact ⟨low, out, hl.1, hc, rfl, rfl, HB.out, rfl, H.out, Below.refl _ _⟩
    · have hnf : M.num out + 1 < 256 ^ out.length := by
        have := HN.out
        generalize (256 : Int) ^ out.length = P at *
        omega
      have hpos : 0 < out.length := by
        rcases Nat.eq_zero_or_pos out.length with h0 | h0
        · rw [List.length_eq_zero_iff.1 h0] at hnf; simp [M.num] at hnf
        · exact h0
      have HNF := Lib.hid (M.not_full hnf)
      obtain ⟨A, cap, e, -, hA⟩ := own_shape H.out.row
      obtain ⟨g, rfl, hg0, hg1⟩ : ∃ g, A = some ⟨g, 0, none⟩ ∧ C + 1 ≤ g ∧ g < w.heap.size := by
        rcases hA with ⟨-, h0⟩ | h0
        · omega
        · exact h0
      subst e
      clear hA hnf
      go_wp2_with fail
      go_loopw [2] (fun k wr => ShRelI w C (low - 4294967296) s out (.slice (some ⟨g, 0, none⟩) out.length cap) ch k wr) (fun k _ => (intOf k).toNat)
      case atStart =>
        exact ⟨out.length - 1, out, by go_num, by omega, rfl, H.out.low_ _, H.out.below (by omega) _ _, fun _ _ => rfl, fun j h1 h2 => by omega⟩
      case round =>
        clear c0 c1 c2 c3 f0 hC H
        obtain ⟨i, out1, rfl, hi1, hl1, hcod, hbel, hsame, hzero⟩ := hrel
        have H := Lib.hid hcod
        obtain ⟨c0, c1, c2, c3, f0⟩ := hcod.cells
        have hC := hcod.lt
        have hrow := hcod.row
        have hx : wr.cell? ⟨g, i, none⟩ = some (.int .u8 (out.getD i 0)) := by
          rw [hl1] at hrow
          have := hrow.cellAt i (by omega)
          rw [this, List.getElem?_map, List.getElem?_eq_getElem (by omega)]
          have := hsame i (Nat.le_refl _)
          rw [List.getD_eq_getElem?_getD, List.getElem?_eq_getElem (by omega)] at this
          simp only [Option.map_some, Option.some.injEq]
          rw [← this]; rfl
        have hfz : wr.frozen? ⟨g, i, none⟩ = false := by
          rw [hl1] at hrow
          exact hrow.frozenAt i
        have hxb := HB.out (out.getD i 0) (by rw [List.getD_eq_getElem?_getD, List.getElem?_eq_getElem hi1]; exact List.getElem_mem hi1)
        have hk1 : (i : Int) < (out.length : Int) := by omega
        have HS := Lib.hid hsame
        have HZ := Lib.hid hzero
        have HBE := Lib.hid hbel
        have HL := Lib.hid hl1
        clear hsame hzero hbel hrow hcod hl1
        by_cases hff : out.getD i 0 = 255
        · have hi0 : 0 < i := by
            rcases Nat.eq_zero_or_pos i with h0 | h0
            · subst h0
              exact absurd (fun j hj => by
                rcases Nat.eq_zero_or_pos j with e | e
                · subst e; exact hff
                · exact (HZ.out j e hj).2) HNF.out
            · exact h0
          rw [hff] at hx
          have hwz : IntKind.u8.wrap (255 + 1) = 0 := by simp only [IntKind.wrap_u8]; rfl
          have HF := Lib.hid hff
          clear hff hxb
          go_wp2_with fail
          go_roundw
          case rel =>
            refine ⟨i - 1, out1.set i 0, by go_num, by omega, by rw [List.length_set]; exact HL.out, H.out.byte_ 0, HBE.out.trans (H.out.below (by omega) _ _), fun j hj => ?_, fun j h1 h2 => ?_⟩
            · rw [getD_set (by rw [HL.out]; exact hi1), if_neg (by omega)]; exact HS.out j (by omega)
            · rw [getD_set (by rw [HL.out]; exact hi1)]
              by_cases e : j = i
              · subst e; rw [if_pos rfl]; exact ⟨rfl, HF.out⟩
              · rw [if_neg e]; exact HZ.out j (by omega) h2
          case measure => simp [intOf]; omega
        · obtain ⟨x, hxx⟩ : ∃ x, x = out.getD i 0 := ⟨_, rfl⟩
          rw [← hxx] at hx hxb hff
          have hne : x ≠ 255 := hff
          have hnz : (x + 1 != 0) = true := by simp; omega
          have hw1 : IntKind.u8.wrap (x + 1) = x + 1 := by simp only [IntKind.wrap_u8]; omega
          have HX := Lib.hid hxx
          clear hxx hff
          go_wp2_with fail
          go_meet
          refine ⟨low - 4294967296, M.incAt out i, by omega, by omega, by omega, M.incAt_len hi1, M.incAt_bytes HB.out hi1 (by rw [← HX.out]; exact hne), ?_, ?_, (HBE.out.trans (H.out.below (by omega) i _)).trans ⟨rfl, rfl, rfl, Nat.le_refl _, fun _ _ => rfl⟩⟩
          · rw [M.incAt_num hi1 (fun j h1 h2 => (HZ.out j h1 h2).2)]; omega
          · rw [← inc_eq hi1 HL.out HS.out (fun j h1 h2 => (HZ.out j h1 h2).1), ← HX.out]; exact H.out.byte_ _
  case rest =>
    clear c0 c1 c2 c3 f0 hC H HB
    obtain ⟨low1, out1, h0, h1, hm, hln, hby, hnum, hcod, hbel⟩ := hcut
    have H := Lib.hid hcod
    have HB := Lib.hid hby
    have HN1 := Lib.hid hnum
    have HM := Lib.hid hm
    have HE := Lib.hid hbel
    have HL := Lib.hid hln
    have hl1 : out1.length ≤ 100000 := by omega
    obtain ⟨c0, c1, c2, c3, f0⟩ := hcod.cells
    have hC := hcod.lt
    have hw : IntKind.u8.wrap (low1 / 16777216) = low1 / 16777216 := by simp only [IntKind.wrap_u8]; omega
    have hand : IntKind.u64.wrap (bits BinOp.and IntKind.u64 low1 16777215 * 256) = low1 % 16777216 * 256 := by rw [and24 ⟨h0, by omega⟩]; simp only [IntKind.wrap_u64]; omega
    clear hby hnum hm hbel hcod hln
    go_wp2_with fail
    refine wp_region_held_drew (S := (fun w' => w'.cell? ⟨C, 0, none⟩ = some (.int .u64 low1))) (by kernel_rfl) ?_ (fun hHeld => ?_)
    · (first | assumption | (go_simp; done) | (go_keep; done))
    refine wpAnyH_take (i := 0) (oi := _) (v := ?_) rfl (by kernel_rfl) (by kernel_rfl) (by kernel_rfl) (fun _ _ _ h => h) (Or.inl ⟨by rfl, ?_⟩) (by assumption) ?_
    rotate_left
    · intro w hSw; (try dsimp only at hSw); go_simp; (try with_reducible rfl)
    try dsimp only [List.getElem_toArray, List.getElem_cons_succ, List.getElem_cons_zero]
    simp only [Act.put, List.setIfInBounds_toArray, List.set_cons_zero, List.set_cons_succ]
    refine wpAnyH_take (i := 1) (oi := _) (v := ?_) rfl (by kernel_rfl) (by kernel_rfl) (by kernel_rfl) (fun _ _ _ h => h) (Or.inl ⟨by rfl, ?_⟩) (by assumption) ?_
    rotate_left
    · intro w hSw; (try dsimp only at hSw); go_simp; (try with_reducible rfl)
    try dsimp only [List.getElem_toArray, List.getElem_cons_succ, List.getElem_cons_zero]
    simp only [Act.put, List.setIfInBounds_toArray, List.set_cons_zero, List.set_cons_succ]
    refine wpAnyH_take (i := 2) (oi := _) (v := ?_) rfl (by kernel_rfl) (by kernel_rfl) (by kernel_rfl) (fun _ _ _ h => h) (Or.inl ⟨by rfl, ?_⟩) (by assumption) ?_
    rotate_left
    · intro w hSw; (try dsimp only at hSw); go_simp; (try with_reducible rfl)
    try dsimp only [List.getElem_toArray, List.getElem_cons_succ, List.getElem_cons_zero]
    simp only [Act.put, List.setIfInBounds_toArray, List.set_cons_zero, List.set_cons_succ]
    refine wpAnyH_take (i := 3) (oi := _) (v := ?_) rfl (by kernel_rfl) (by kernel_rfl) (by kernel_rfl) (fun _ _ _ h => h) (Or.inl ⟨by rfl, ?_⟩) (by assumption) ?_
    rotate_left
    · intro w hSw; (try dsimp only at hSw); go_simp; (try with_reducible rfl)
    try dsimp only [List.getElem_toArray, List.getElem_cons_succ, List.getElem_cons_zero]
    simp only [Act.put, List.setIfInBounds_toArray, List.set_cons_zero, List.set_cons_succ]
    refine wpAnyH_take (i := 5) (oi := _) (v := ?_) rfl (by kernel_rfl) (by kernel_rfl) (by kernel_rfl) (fun _ _ _ h => h) (Or.inl ⟨by rfl, ?_⟩) (by assumption) ?_
    rotate_left
    · intro w hSw; (try dsimp only at hSw); go_simp; (try with_reducible rfl)
    try dsimp only [List.getElem_toArray, List.getElem_cons_succ, List.getElem_cons_zero]
    simp only [Act.put, List.setIfInBounds_toArray, List.set_cons_zero, List.set_cons_succ]
    refine wpAnyH_take (i := 6) (oi := _) (v := ?_) rfl (by kernel_rfl) (by kernel_rfl) (by kernel_rfl) (fun _ _ _ h => h) (Or.inl ⟨by rfl, ?_⟩) (by assumption) ?_
    rotate_left
    · intro w hSw; (try dsimp only at hSw); go_simp; (try with_reducible rfl)
    try dsimp only [List.getElem_toArray, List.getElem_cons_succ, List.getElem_cons_zero]
    simp only [Act.put, List.setIfInBounds_toArray, List.set_cons_zero, List.set_cons_succ]
    refine wpAnyH_take (i := 7) (oi := _) (v := ?_) rfl (by kernel_rfl) (by kernel_rfl) (by kernel_rfl) (fun _ _ _ h => h) (Or.inl ⟨by rfl, ?_⟩) (by assumption) ?_
    rotate_left
    · intro w hSw; (try dsimp only at hSw); go_simp; (try with_reducible rfl)
    try dsimp only [List.getElem_toArray, List.getElem_cons_succ, List.getElem_cons_zero]
    simp only [Act.put, List.setIfInBounds_toArray, List.set_cons_zero, List.set_cons_succ]
    refine wpAnyH_take (i := 8) (oi := _) (v := ?_) rfl (by kernel_rfl) (by kernel_rfl) (by kernel_rfl) (fun _ _ _ h => h) (Or.inl ⟨by rfl, ?_⟩) (by assumption) ?_
    rotate_left
    · intro w hSw; (try dsimp only at hSw); go_simp; (try with_reducible rfl)
    try dsimp only [List.getElem_toArray, List.getElem_cons_succ, List.getElem_cons_zero]
    simp only [Act.put, List.setIfInBounds_toArray, List.set_cons_zero, List.set_cons_succ]
    refine wpAnyH_take (i := 9) (oi := _) (v := ?_) rfl (by kernel_rfl) (by kernel_rfl) (by kernel_rfl) (fun _ _ _ h => h) (Or.inl ⟨by rfl, ?_⟩) (by assumption) ?_
    rotate_left
    · intro w hSw; (try dsimp only at hSw); go_simp; (try with_reducible rfl)
    try dsimp only [List.getElem_toArray, List.getElem_cons_succ, List.getElem_cons_zero]
    simp only [Act.put, List.setIfInBounds_toArray, List.set_cons_zero, List.set_cons_succ]
    refine wpAnyH_take (i := 10) (oi := _) (v := ?_) rfl (by kernel_rfl) (by kernel_rfl) (by kernel_rfl) (fun _ _ _ h => h) (Or.inl ⟨by rfl, ?_⟩) (by assumption) ?_
    rotate_left
    · intro w hSw; (try dsimp only at hSw); go_simp; (try with_reducible rfl)
    try dsimp only [List.getElem_toArray, List.getElem_cons_succ, List.getElem_cons_zero]
    simp only [Act.put, List.setIfInBounds_toArray, List.set_cons_zero, List.set_cons_succ]
    refine wpAnyH_ready (rs := [4, 11]) (by kernel_rfl) (by simp) ?_
    refine AllReadyH.cons (o := _) rfl (fun K hK => ?_) ?_
    · (try dsimp only [List.getElem_toArray, List.getElem_cons_succ, List.getElem_cons_zero]); go_simp
      refine hK.out _ _ ?_ (fun hHeld => ?_)
      · (first | assumption | (go_simp; done) | (go_keep; done))
      clear hK K
      try simp only [Act.put, List.setIfInBounds_toArray, List.set_cons_zero, List.set_cons_succ]
      refine wpAnyH_ready (rs := [11]) (by kernel_rfl) (by simp) ?_
      refine AllReadyH.cons (o := _) rfl (fun K hK => ?_) ?_
      · (try dsimp only [List.getElem_toArray, List.getElem_cons_succ, List.getElem_cons_zero]); go_simp
        refine hK.out _ _ ?_ (fun hHeld => ?_)
        · (first | assumption | (go_simp; done) | (go_keep; done))
        clear hK K
        try simp only [Act.put, List.setIfInBounds_toArray, List.set_cons_zero, List.set_cons_succ]
        refine wpAnyH_ready (rs := [12]) (by kernel_rfl) (by simp) ?_
        refine AllReadyH.cons (o := _) rfl (fun K hK => ?_) ?_
        · (try dsimp only [List.getElem_toArray, List.getElem_cons_succ, List.getElem_cons_zero])
          (rw [if_pos (by rfl)]; refine wp_append_own _ _ _ 22 rfl (C + 1) 5 i0 (.int .u8 0) 1 1 Try.underlying22 hi hz0 hz1 hz2 rfl (by decide) _ _ _ rfl (H.out.drew.alloc _).row ⟨_, 0, none⟩ 1 1 [.int .u8 (low1 / 16777216)] rfl rfl (news1 (by go_simp; done)) (one1 rfl) (by unfold maxLen; omega) (by omega) (by simp; omega) ?_; intro v' w1 hown1 hgrow1 _; obtain ⟨A1, cc1, e1, -⟩ := own_shape hown1; subst e1; obtain ⟨⟨d0, d2, g0⟩, hcod, hbel⟩ := (H.out.drew.alloc _).app hown1 hgrow1; have HC2 := Lib.hid hcod; have HE2 := Lib.hid hbel; clear hcod hbel hown1 hgrow1)
          refine hK.out _ _ ?_ (fun hHeld => ?_)
          · (first | assumption | (go_simp; done) | (go_keep; done))
          clear hK K
          try simp only [Act.put, List.setIfInBounds_toArray, List.set_cons_zero, List.set_cons_succ]
          refine wpAnyH_take (i := 13) (oi := _) (v := ?_) rfl (by kernel_rfl) (by kernel_rfl) (by kernel_rfl) (fun _ _ _ h => h) (Or.inl ⟨by rfl, ?_⟩) (by assumption) ?_
          rotate_left
          · intro w hSw; (try dsimp only at hSw); go_simp; (try with_reducible rfl)
          try dsimp only [List.getElem_toArray, List.getElem_cons_succ, List.getElem_cons_zero]
          simp only [Act.put, List.setIfInBounds_toArray, List.set_cons_zero, List.set_cons_succ]
          refine wpAnyH_take (i := 14) (oi := _) (v := ?_) rfl (by kernel_rfl) (by kernel_rfl) (by kernel_rfl) (fun _ _ _ h => h) (Or.inl ⟨by rfl, ?_⟩) (by assumption) ?_
          rotate_left
          · intro w hSw; (try dsimp only at hSw); go_simp; (try with_reducible rfl)
          try dsimp only [List.getElem_toArray, List.getElem_cons_succ, List.getElem_cons_zero]
          simp only [Act.put, List.setIfInBounds_toArray, List.set_cons_zero, List.set_cons_succ]
          refine wpAnyH_ready (rs := [15]) (by kernel_rfl) (by simp) ?_
          refine AllReadyH.cons (o := _) rfl (fun K hK => ?_) ?_
          · (try dsimp only [List.getElem_toArray, List.getElem_cons_succ, List.getElem_cons_zero]); go_simp
            refine hK.out _ _ ?_ (fun hHeld => ?_)
            · (first | assumption | (go_simp; done) | (go_keep; done))
            clear hK K
            try simp only [Act.put, List.setIfInBounds_toArray, List.set_cons_zero, List.set_cons_succ]
            refine wpAnyH_done (by kernel_rfl) ?_ _
            go_wp2_with fail
            go_returns
            exact ⟨_, _, out1 ++ [low1 / 16777216], rfl, by rw [← HM.out]; exact HC2.out.low_ _, ((HE.out.trans (below_of_drew_allocI HE2.out H.out.lt)).trans (HC2.out.below (by omega) _ _)), by rw [List.length_append, HL.out]; rfl, bytes_snoc HB.out (by omega), by rw [← HM.out, M.num_snoc]; have := HN1.out; omega⟩
          exact AllReadyH.nil
        exact AllReadyH.nil
      exact AllReadyH.nil
    refine AllReadyH.cons (o := _) rfl (fun K hK => ?_) ?_
    · (try dsimp only [List.getElem_toArray, List.getElem_cons_succ, List.getElem_cons_zero]); go_simp
      refine hK.out _ _ ?_ (fun hHeld => ?_)
      · (first | assumption | (go_simp; done) | (go_keep; done))
      clear hK K
      try simp only [Act.put, List.setIfInBounds_toArray, List.set_cons_zero, List.set_cons_succ]
      refine wpAnyH_ready (rs := [4]) (by kernel_rfl) (by simp) ?_
      refine AllReadyH.cons (o := _) rfl (fun K hK => ?_) ?_
      · (try dsimp only [List.getElem_toArray, List.getElem_cons_succ, List.getElem_cons_zero]); go_simp
        refine hK.out _ _ ?_ (fun hHeld => ?_)
        · (first | assumption | (go_simp; done) | (go_keep; done))
        clear hK K
        try simp only [Act.put, List.setIfInBounds_toArray, List.set_cons_zero, List.set_cons_succ]
        refine wpAnyH_ready (rs := [12]) (by kernel_rfl) (by simp) ?_
        refine AllReadyH.cons (o := _) rfl (fun K hK => ?_) ?_
        · (try dsimp only [List.getElem_toArray, List.getElem_cons_succ, List.getElem_cons_zero])
          (rw [if_pos (by rfl)]; refine wp_append_own _ _ _ 22 rfl (C + 1) 5 i0 (.int .u8 0) 1 1 Try.underlying22 hi hz0 hz1 hz2 rfl (by decide) _ _ _ rfl (H.out.drew.alloc _).row ⟨_, 0, none⟩ 1 1 [.int .u8 (low1 / 16777216)] rfl rfl (news1 (by go_simp; done)) (one1 rfl) (by unfold maxLen; omega) (by omega) (by simp; omega) ?_; intro v' w1 hown1 hgrow1 _; obtain ⟨A1, cc1, e1, -⟩ := own_shape hown1; subst e1; obtain ⟨⟨d0, d2, g0⟩, hcod, hbel⟩ := (H.out.drew.alloc _).app hown1 hgrow1; have HC2 := Lib.hid hcod; have HE2 := Lib.hid hbel; clear hcod hbel hown1 hgrow1)
          refine hK.out _ _ ?_ (fun hHeld => ?_)
          · (first | assumption | (go_simp; done) | (go_keep; done))
          clear hK K
          try simp only [Act.put, List.setIfInBounds_toArray, List.set_cons_zero, List.set_cons_succ]
          refine wpAnyH_take (i := 13) (oi := _) (v := ?_) rfl (by kernel_rfl) (by kernel_rfl) (by kernel_rfl) (fun _ _ _ h => h) (Or.inl ⟨by rfl, ?_⟩) (by assumption) ?_
          rotate_left
          · intro w hSw; (try dsimp only at hSw); go_simp; (try with_reducible rfl)
          try dsimp only [List.getElem_toArray, List.getElem_cons_succ, List.getElem_cons_zero]
          simp only [Act.put, List.setIfInBounds_toArray, List.set_cons_zero, List.set_cons_succ]
          refine wpAnyH_take (i := 14) (oi := _) (v := ?_) rfl (by kernel_rfl) (by kernel_rfl) (by kernel_rfl) (fun _ _ _ h => h) (Or.inl ⟨by rfl, ?_⟩) (by assumption) ?_
          rotate_left
          · intro w hSw; (try dsimp only at hSw); go_simp; (try with_reducible rfl)
          try dsimp only [List.getElem_toArray, List.getElem_cons_succ, List.getElem_cons_zero]
          simp only [Act.put, List.setIfInBounds_toArray, List.set_cons_zero, List.set_cons_succ]
          refine wpAnyH_ready (rs := [15]) (by kernel_rfl) (by simp) ?_
          refine AllReadyH.cons (o := _) rfl (fun K hK => ?_) ?_
          · (try dsimp only [List.getElem_toArray, List.getElem_cons_succ, List.getElem_cons_zero]); go_simp
            refine hK.out _ _ ?_ (fun hHeld => ?_)
            · (first | assumption | (go_simp; done) | (go_keep; done))
            clear hK K
            try simp only [Act.put, List.setIfInBounds_toArray, List.set_cons_zero, List.set_cons_succ]
            refine wpAnyH_done (by kernel_rfl) ?_ _
            go_wp2_with fail
            go_returns
            exact ⟨_, _, out1 ++ [low1 / 16777216], rfl, by rw [← HM.out]; exact HC2.out.low_ _, ((HE.out.trans (below_of_drew_allocI HE2.out H.out.lt)).trans (HC2.out.below (by omega) _ _)), by rw [List.length_append, HL.out]; rfl, bytes_snoc HB.out (by omega), by rw [← HM.out, M.num_snoc]; have := HN1.out; omega⟩
          exact AllReadyH.nil
        exact AllReadyH.nil
      exact AllReadyH.nil
    exact AllReadyH.nil

end Go.Proofs.Ytggkelehjdepkaa
