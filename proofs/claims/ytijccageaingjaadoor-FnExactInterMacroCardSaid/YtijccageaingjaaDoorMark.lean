/- Marks: numbers written into a slice of one's own, and looked for again (markIntS, heldIntS, markPicture). -/
import Derived.Test.YtijccageaingjaaDoorPic
import Derived.LoopTactic
namespace Go.Proofs.YtijccageaingjaaDoor
open Go.RowKit
set_option linter.unusedVariables false
set_option linter.unusedSimpArgs false

attribute [local go_sem] size_addsW cell?_addsW frozen?_addsW setCell_addsW drew_addsW adds_addsW setCell_twice alloc_adds0 size_adds0 adds_adds0 sel2 sel3 sel4 sel5 sel6 sel7 sel8 sel9 lt_more lt_more2 lt_more3 lt_more4 adds_drew adds_drewN drewN_addsW ltA_1_1 ltA_1_2 ltA_1_3 ltA_1_4 ltA_1_5 ltA_1_6 ltA_2_1 ltA_2_2 ltA_2_3 ltA_2_4 ltA_2_5 ltA_2_6 ltA_3_1 ltA_3_2 ltA_3_3 ltA_3_4 ltA_3_5 ltA_3_6 ltA_4_1 ltA_4_2 ltA_4_3 ltA_4_4 ltA_4_5 ltA_4_6 ltA_5_1 ltA_5_2 ltA_5_3 ltA_5_4 ltA_5_5 ltA_5_6 ltA_6_1 ltA_6_2 ltA_6_3 ltA_6_4 ltA_6_5 ltA_6_6 ltA_7_1 ltA_7_2 ltA_7_3 ltA_7_4 ltA_7_5 ltA_7_6 ltA_8_1 ltA_8_2 ltA_8_3 ltA_8_4 ltA_8_5 ltA_8_6 ltA_9_1 ltA_9_2 ltA_9_3 ltA_9_4 ltA_9_5 ltA_9_6 ltA_10_1 ltA_10_2 ltA_10_3 ltA_10_4 ltA_10_5 ltA_10_6 ltA_11_1 ltA_11_2 ltA_11_3 ltA_11_4 ltA_11_5 ltA_11_6 ltA_12_1 ltA_12_2 ltA_12_3 ltA_12_4 ltA_12_5 ltA_12_6

/-- the slice's block is no frozen one -/
def Soft (w : World) (A : Option Addr) : Prop := ∀ d, A = some d → ∃ (cur : Array Value) (t : TypeId), w.heap[d.block]? = some (.cells cur t (0, 0))

/-- w' is w but for the block of A -/
structure Marked (w : World) (A : Option Addr) (w' : World) : Prop where
  os : w'.os = w.os
  tape : w'.tape = w.tape
  output : w'.output = w.output
  size : w'.heap.size = w.heap.size
  block : ∀ q, (∀ d, A = some d → q ≠ d.block) → w'.heap[q]? = w.heap[q]?

theorem Marked.refl (w : World) (A : Option Addr) : Marked w A w := ⟨rfl, rfl, rfl, rfl, fun _ _ => rfl⟩
theorem Marked.below {w w' : World} {A : Option Addr} (h : Marked w A w') {N : Nat} (hN : ∀ d, A = some d → N ≤ d.block) : Below N w w' :=
  ⟨h.os, h.tape, h.output, by rw [h.size]; exact Nat.le_refl _, fun k hk => h.block k fun d hd e => by have := hN d hd; omega⟩
theorem Marked.row {w w' : World} {A B : Option Addr} {kd : IntKind} {zs : List Int} (h : Marked w A w') (hr : RowAt kd w B zs) (hB : ∀ d d', A = some d → B = some d' → d'.block ≠ d.block) : RowAt kd w' B zs := fun hz => by
  obtain ⟨b, off, rfl, hlt, hc⟩ := hr hz
  exact ⟨b, off, rfl, by rw [h.size]; exact hlt, fun i hi => (World.cell?_of_block (w := w) (w' := w') (a := ⟨b, off + i, none⟩) (h.block b fun d hd => hB d _ hd rfl)).trans (hc i hi)⟩
theorem Marked.soft {w w' : World} {A B : Option Addr} (h : Marked w A w') (hs : Soft w B) (hB : ∀ d d', A = some d → B = some d' → d'.block ≠ d.block) : Soft w' B := fun d hd => by
  obtain ⟨cur, t, hc⟩ := hs d hd
  exact ⟨cur, t, (h.block d.block fun d' hd' => hB d' d hd' hd).trans hc⟩
theorem Soft.keep {w w' : World} {A : Option Addr} (h : Soft w A) (hb : Below w.heap.size w w') : Soft w' A := fun d hd => by
  obtain ⟨cur, t, hc⟩ := h d hd
  refine ⟨cur, t, (hb.block d.block ?_).trans hc⟩
  rcases Nat.lt_or_ge d.block w.heap.size with h | h
  · exact h
  · rw [Array.getElem?_eq_none h] at hc; cases hc
theorem Soft.hot {w : World} {b off : Nat} {A : Option Addr} (h : Soft w A) (e : A = some ⟨b, off, none⟩) (i : Nat) : w.frozen? ⟨b, i, none⟩ = false := by
  obtain ⟨cur, t, hc⟩ := h _ e
  simp only at hc
  simp [World.frozen?, hc]
theorem Soft.set {w : World} {A : Option Addr} (h : Soft w A) (q : Addr) (v : Value) : Soft (w.setCell q v) A := fun d hd => by
  obtain ⟨cur, t, hc⟩ := h d hd
  by_cases hq : q.block = d.block
  · exact ⟨if q.spot.isSome then cur else cur.setIfInBounds q.off v, t, by simp only [World.setCell, Array.getElem?_modify, hq, if_true, hc, Option.map_some]⟩
  · exact ⟨cur, t, by simp only [World.setCell, Array.getElem?_modify, hq, if_false, hc]⟩
theorem Marked.set {w w' : World} {b off : Nat} (h : Marked w (some ⟨b, off, none⟩) w') (i : Nat) (v : Value) : Marked w (some ⟨b, off, none⟩) (w'.setCell ⟨b, i, none⟩ v) :=
  ⟨h.os, h.tape, h.output, by simpa [World.setCell] using h.size, fun q hq => by
    have hne := hq _ rfl
    simp only at hne
    rw [← h.block q hq]
    simp only [World.setCell, Array.getElem?_modify]
    rw [if_neg (fun e => hne e.symm)]⟩

/-- the marks: k0, k0 + 1, .. -/
def marks (k0 : Int) (n : Nat) : List Int := (List.range n).map fun i : Nat => k0 + (i : Int)
theorem marks_len (k0 : Int) (n : Nat) : (marks k0 n).length = n := by simp [marks]
theorem marks_at (k0 : Int) {n i : Nat} (h : i < n) : (marks k0 n).getD i 0 = k0 + i := by simp [marks, List.getD_eq_getElem?_getD, List.getElem?_map, List.getElem?_range, h]
def markL (k0 : Int) (zs : List Int) (k : Nat) : List Int := marks k0 k ++ zs.drop k
theorem markL_len (k0 : Int) (zs : List Int) (k : Nat) (h : k ≤ zs.length) : (markL k0 zs k).length = zs.length := by simp [markL, marks_len]; omega
theorem markL_lo (k0 : Int) (zs : List Int) {k i : Nat} (h : i < k) : (markL k0 zs k).getD i 0 = k0 + i := by
  rw [← marks_at k0 h]
  simp only [markL, List.getD_eq_getElem?_getD]
  rw [List.getElem?_append_left (by rw [marks_len]; exact h)]
theorem markL_hi (k0 : Int) (zs : List Int) {k i : Nat} (h : k ≤ i) : (markL k0 zs k).getD i 0 = zs.getD i 0 := by
  simp only [markL, List.getD_eq_getElem?_getD]
  rw [List.getElem?_append_right (by rw [marks_len]; exact h), marks_len, List.getElem?_drop, show k + (i - k) = i by omega]
theorem markL_zero (k0 : Int) (zs : List Int) : markL k0 zs 0 = zs := by simp [markL, marks]
theorem markL_full (k0 : Int) (zs : List Int) : markL k0 zs zs.length = marks k0 zs.length := by simp [markL]
theorem cells_set {w : World} {b off i : Nat} {u v : Value} {j : Nat} (h : w.cell? ⟨b, off + i, none⟩ = some u) : (w.setCell ⟨b, off + i, none⟩ v).cell? ⟨b, off + j, none⟩ = if j = i then some v else w.cell? ⟨b, off + j, none⟩ := by
  by_cases e : j = i
  · subst e
    rw [if_pos rfl]
    simp only [World.cell?] at h ⊢
    simp only [World.setCell, Array.getElem?_modify]
    rcases hb : w.heap[b]? with _ | o
    · simp [hb] at h
    · cases o <;> simp [hb] at h ⊢
      rename_i c t f
      obtain ⟨hlt, -⟩ := Array.getElem?_eq_some_iff.1 h
      simp [Array.getElem?_setIfInBounds, hlt]
  · rw [if_neg e]
    exact World.cell?_setCell_other w ⟨b, off + i, none⟩ ⟨b, off + j, none⟩ _ (fun e' => e (by injection e'; omega))
theorem RowAt.mark {w : World} {b off : Nat} {k0 : Int} {zs : List Int} {k : Nat} (hk : k < zs.length) (h : RowAt .i64 w (some ⟨b, off, none⟩) (markL k0 zs k)) : RowAt .i64 (w.setCell ⟨b, off + k, none⟩ (.int .i64 (k0 + k))) (some ⟨b, off, none⟩) (markL k0 zs (k + 1)) := fun hz => by
  have hl := markL_len k0 zs k (by omega)
  have hl' := markL_len k0 zs (k + 1) (by omega)
  obtain ⟨b', off', e, hb, hc⟩ := h (by intro e; rw [e] at hl; simp at hl; omega)
  injection e with e; injection e with e1 e2; subst e1 e2
  refine ⟨b, off, rfl, by simpa [World.setCell] using hb, fun i hi => ?_⟩
  rw [cells_set (hc k (by omega))]
  by_cases e : i = k
  · subst e; rw [if_pos rfl, markL_lo _ _ (by omega)]
  · rw [if_neg e, hc i (by omega)]
    by_cases h1 : i < k
    · rw [markL_lo _ _ h1, markL_lo _ _ (by omega)]
    · rw [markL_hi _ _ (by omega), markL_hi _ _ (by omega)]

end Go.Proofs.YtijccageaingjaaDoor
