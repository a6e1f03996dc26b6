/- Worlds that have only grown: addsW w os n is w with the blocks os behind its own. Nothing here speaks of a program. -/
import Derived.WalkKit
import Derived.Handy
import Derived.Below
import Derived.Laws.OwnMore
import Derived.Laws.Rows
import Derived.Deep.Draws
import Derived.Lib.Hide
import Derived.StillTailTactics
namespace Go.Proofs.YtijccageaingjaaDoor
open Go.RowKit
set_option linter.unusedVariables false
set_option linter.unusedSimpArgs false

def addsW (w : World) (os : Array Obj) (n : Nat) : World := { w with heap := w.heap ++ os, drawn := n }

theorem ltA_1_1 (a c : Nat) : (a < a + 1 + c) = True := by simp; omega
theorem ltA_1_2 (a c d : Nat) : (a < a + 1 + c + d) = True := by simp; omega
theorem ltA_1_3 (a c d e : Nat) : (a < a + 1 + c + d + e) = True := by simp; omega
theorem ltA_1_4 (a c d e f : Nat) : (a < a + 1 + c + d + e + f) = True := by simp; omega
theorem ltA_1_5 (a c d e f g : Nat) : (a < a + 1 + c + d + e + f + g) = True := by simp; omega
theorem ltA_1_6 (a c d e f g h : Nat) : (a < a + 1 + c + d + e + f + g + h) = True := by simp; omega
theorem ltA_2_1 (a c : Nat) : (a < a + 1 + 1 + c) = True := by simp; omega
theorem ltA_2_2 (a c d : Nat) : (a < a + 1 + 1 + c + d) = True := by simp; omega
theorem ltA_2_3 (a c d e : Nat) : (a < a + 1 + 1 + c + d + e) = True := by simp; omega
theorem ltA_2_4 (a c d e f : Nat) : (a < a + 1 + 1 + c + d + e + f) = True := by simp; omega
theorem ltA_2_5 (a c d e f g : Nat) : (a < a + 1 + 1 + c + d + e + f + g) = True := by simp; omega
theorem ltA_2_6 (a c d e f g h : Nat) : (a < a + 1 + 1 + c + d + e + f + g + h) = True := by simp; omega
theorem ltA_3_1 (a c : Nat) : (a < a + 1 + 1 + 1 + c) = True := by simp; omega
theorem ltA_3_2 (a c d : Nat) : (a < a + 1 + 1 + 1 + c + d) = True := by simp; omega
theorem ltA_3_3 (a c d e : Nat) : (a < a + 1 + 1 + 1 + c + d + e) = True := by simp; omega
theorem ltA_3_4 (a c d e f : Nat) : (a < a + 1 + 1 + 1 + c + d + e + f) = True := by simp; omega
theorem ltA_3_5 (a c d e f g : Nat) : (a < a + 1 + 1 + 1 + c + d + e + f + g) = True := by simp; omega
theorem ltA_3_6 (a c d e f g h : Nat) : (a < a + 1 + 1 + 1 + c + d + e + f + g + h) = True := by simp; omega
theorem ltA_4_1 (a c : Nat) : (a < a + 1 + 1 + 1 + 1 + c) = True := by simp; omega
theorem ltA_4_2 (a c d : Nat) : (a < a + 1 + 1 + 1 + 1 + c + d) = True := by simp; omega
theorem ltA_4_3 (a c d e : Nat) : (a < a + 1 + 1 + 1 + 1 + c + d + e) = True := by simp; omega
theorem ltA_4_4 (a c d e f : Nat) : (a < a + 1 + 1 + 1 + 1 + c + d + e + f) = True := by simp; omega
theorem ltA_4_5 (a c d e f g : Nat) : (a < a + 1 + 1 + 1 + 1 + c + d + e + f + g) = True := by simp; omega
theorem ltA_4_6 (a c d e f g h : Nat) : (a < a + 1 + 1 + 1 + 1 + c + d + e + f + g + h) = True := by simp; omega
theorem ltA_5_1 (a c : Nat) : (a < a + 1 + 1 + 1 + 1 + 1 + c) = True := by simp; omega
theorem ltA_5_2 (a c d : Nat) : (a < a + 1 + 1 + 1 + 1 + 1 + c + d) = True := by simp; omega
theorem ltA_5_3 (a c d e : Nat) : (a < a + 1 + 1 + 1 + 1 + 1 + c + d + e) = True := by simp; omega
theorem ltA_5_4 (a c d e f : Nat) : (a < a + 1 + 1 + 1 + 1 + 1 + c + d + e + f) = True := by simp; omega
theorem ltA_5_5 (a c d e f g : Nat) : (a < a + 1 + 1 + 1 + 1 + 1 + c + d + e + f + g) = True := by simp; omega
theorem ltA_5_6 (a c d e f g h : Nat) : (a < a + 1 + 1 + 1 + 1 + 1 + c + d + e + f + g + h) = True := by simp; omega
theorem ltA_6_1 (a c : Nat) : (a < a + 1 + 1 + 1 + 1 + 1 + 1 + c) = True := by simp; omega
theorem ltA_6_2 (a c d : Nat) : (a < a + 1 + 1 + 1 + 1 + 1 + 1 + c + d) = True := by simp; omega
theorem ltA_6_3 (a c d e : Nat) : (a < a + 1 + 1 + 1 + 1 + 1 + 1 + c + d + e) = True := by simp; omega
theorem ltA_6_4 (a c d e f : Nat) : (a < a + 1 + 1 + 1 + 1 + 1 + 1 + c + d + e + f) = True := by simp; omega
theorem ltA_6_5 (a c d e f g : Nat) : (a < a + 1 + 1 + 1 + 1 + 1 + 1 + c + d + e + f + g) = True := by simp; omega
theorem ltA_6_6 (a c d e f g h : Nat) : (a < a + 1 + 1 + 1 + 1 + 1 + 1 + c + d + e + f + g + h) = True := by simp; omega
theorem ltA_7_1 (a c : Nat) : (a < a + 1 + 1 + 1 + 1 + 1 + 1 + 1 + c) = True := by simp; omega
theorem ltA_7_2 (a c d : Nat) : (a < a + 1 + 1 + 1 + 1 + 1 + 1 + 1 + c + d) = True := by simp; omega
theorem ltA_7_3 (a c d e : Nat) : (a < a + 1 + 1 + 1 + 1 + 1 + 1 + 1 + c + d + e) = True := by simp; omega
theorem ltA_7_4 (a c d e f : Nat) : (a < a + 1 + 1 + 1 + 1 + 1 + 1 + 1 + c + d + e + f) = True := by simp; omega
theorem ltA_7_5 (a c d e f g : Nat) : (a < a + 1 + 1 + 1 + 1 + 1 + 1 + 1 + c + d + e + f + g) = True := by simp; omega
theorem ltA_7_6 (a c d e f g h : Nat) : (a < a + 1 + 1 + 1 + 1 + 1 + 1 + 1 + c + d + e + f + g + h) = True := by simp; omega
theorem ltA_8_1 (a c : Nat) : (a < a + 1 + 1 + 1 + 1 + 1 + 1 + 1 + 1 + c) = True := by simp; omega
theorem ltA_8_2 (a c d : Nat) : (a < a + 1 + 1 + 1 + 1 + 1 + 1 + 1 + 1 + c + d) = True := by simp; omega
theorem ltA_8_3 (a c d e : Nat) : (a < a + 1 + 1 + 1 + 1 + 1 + 1 + 1 + 1 + c + d + e) = True := by simp; omega
theorem ltA_8_4 (a c d e f : Nat) : (a < a + 1 + 1 + 1 + 1 + 1 + 1 + 1 + 1 + c + d + e + f) = True := by simp; omega
theorem ltA_8_5 (a c d e f g : Nat) : (a < a + 1 + 1 + 1 + 1 + 1 + 1 + 1 + 1 + c + d + e + f + g) = True := by simp; omega
theorem ltA_8_6 (a c d e f g h : Nat) : (a < a + 1 + 1 + 1 + 1 + 1 + 1 + 1 + 1 + c + d + e + f + g + h) = True := by simp; omega
theorem ltA_9_1 (a c : Nat) : (a < a + 1 + 1 + 1 + 1 + 1 + 1 + 1 + 1 + 1 + c) = True := by simp; omega
theorem ltA_9_2 (a c d : Nat) : (a < a + 1 + 1 + 1 + 1 + 1 + 1 + 1 + 1 + 1 + c + d) = True := by simp; omega
theorem ltA_9_3 (a c d e : Nat) : (a < a + 1 + 1 + 1 + 1 + 1 + 1 + 1 + 1 + 1 + c + d + e) = True := by simp; omega
theorem ltA_9_4 (a c d e f : Nat) : (a < a + 1 + 1 + 1 + 1 + 1 + 1 + 1 + 1 + 1 + c + d + e + f) = True := by simp; omega
theorem ltA_9_5 (a c d e f g : Nat) : (a < a + 1 + 1 + 1 + 1 + 1 + 1 + 1 + 1 + 1 + c + d + e + f + g) = True := by simp; omega
theorem ltA_9_6 (a c d e f g h : Nat) : (a < a + 1 + 1 + 1 + 1 + 1 + 1 + 1 + 1 + 1 + c + d + e + f + g + h) = True := by simp; omega
theorem ltA_10_1 (a c : Nat) : (a < a + 1 + 1 + 1 + 1 + 1 + 1 + 1 + 1 + 1 + 1 + c) = True := by simp; omega
theorem ltA_10_2 (a c d : Nat) : (a < a + 1 + 1 + 1 + 1 + 1 + 1 + 1 + 1 + 1 + 1 + c + d) = True := by simp; omega
theorem ltA_10_3 (a c d e : Nat) : (a < a + 1 + 1 + 1 + 1 + 1 + 1 + 1 + 1 + 1 + 1 + c + d + e) = True := by simp; omega
theorem ltA_10_4 (a c d e f : Nat) : (a < a + 1 + 1 + 1 + 1 + 1 + 1 + 1 + 1 + 1 + 1 + c + d + e + f) = True := by simp; omega
theorem ltA_10_5 (a c d e f g : Nat) : (a < a + 1 + 1 + 1 + 1 + 1 + 1 + 1 + 1 + 1 + 1 + c + d + e + f + g) = True := by simp; omega
theorem ltA_10_6 (a c d e f g h : Nat) : (a < a + 1 + 1 + 1 + 1 + 1 + 1 + 1 + 1 + 1 + 1 + c + d + e + f + g + h) = True := by simp; omega
theorem ltA_11_1 (a c : Nat) : (a < a + 1 + 1 + 1 + 1 + 1 + 1 + 1 + 1 + 1 + 1 + 1 + c) = True := by simp; omega
theorem ltA_11_2 (a c d : Nat) : (a < a + 1 + 1 + 1 + 1 + 1 + 1 + 1 + 1 + 1 + 1 + 1 + c + d) = True := by simp; omega
theorem ltA_11_3 (a c d e : Nat) : (a < a + 1 + 1 + 1 + 1 + 1 + 1 + 1 + 1 + 1 + 1 + 1 + c + d + e) = True := by simp; omega
theorem ltA_11_4 (a c d e f : Nat) : (a < a + 1 + 1 + 1 + 1 + 1 + 1 + 1 + 1 + 1 + 1 + 1 + c + d + e + f) = True := by simp; omega
theorem ltA_11_5 (a c d e f g : Nat) : (a < a + 1 + 1 + 1 + 1 + 1 + 1 + 1 + 1 + 1 + 1 + 1 + c + d + e + f + g) = True := by simp; omega
theorem ltA_11_6 (a c d e f g h : Nat) : (a < a + 1 + 1 + 1 + 1 + 1 + 1 + 1 + 1 + 1 + 1 + 1 + c + d + e + f + g + h) = True := by simp; omega
theorem ltA_12_1 (a c : Nat) : (a < a + 1 + 1 + 1 + 1 + 1 + 1 + 1 + 1 + 1 + 1 + 1 + 1 + c) = True := by simp; omega
theorem ltA_12_2 (a c d : Nat) : (a < a + 1 + 1 + 1 + 1 + 1 + 1 + 1 + 1 + 1 + 1 + 1 + 1 + c + d) = True := by simp; omega
theorem ltA_12_3 (a c d e : Nat) : (a < a + 1 + 1 + 1 + 1 + 1 + 1 + 1 + 1 + 1 + 1 + 1 + 1 + c + d + e) = True := by simp; omega
theorem ltA_12_4 (a c d e f : Nat) : (a < a + 1 + 1 + 1 + 1 + 1 + 1 + 1 + 1 + 1 + 1 + 1 + 1 + c + d + e + f) = True := by simp; omega
theorem ltA_12_5 (a c d e f g : Nat) : (a < a + 1 + 1 + 1 + 1 + 1 + 1 + 1 + 1 + 1 + 1 + 1 + 1 + c + d + e + f + g) = True := by simp; omega
theorem ltA_12_6 (a c d e f g h : Nat) : (a < a + 1 + 1 + 1 + 1 + 1 + 1 + 1 + 1 + 1 + 1 + 1 + 1 + c + d + e + f + g + h) = True := by simp; omega

section
variable (w : World) (os : Array Obj) (n b i : Nat)
theorem size_addsW : (addsW w os n).heap.size = w.heap.size + os.size := by simp [addsW]
theorem heap_addsW (h : b < w.heap.size) : (addsW w os n).heap[b]? = w.heap[b]? := by
  simp [addsW, Array.getElem?_append, h]
theorem cell?_addsW (h : b < w.heap.size) : (addsW w os n).cell? ⟨b, i, none⟩ = w.cell? ⟨b, i, none⟩ := World.cell?_of_block (w := w) (heap_addsW w os n b h)
theorem frozen?_addsW (h : b < w.heap.size) : (addsW w os n).frozen? ⟨b, i, none⟩ = w.frozen? ⟨b, i, none⟩ := World.frozen?_of_block (w := w) (heap_addsW w os n b h)
theorem setCell_addsW (v : Value) (h : b < w.heap.size) : (addsW w os n).setCell ⟨b, i, none⟩ v = addsW (w.setCell ⟨b, i, none⟩ v) os n := by
  have e : ∀ f : Obj → Obj, (w.heap ++ os).modify b f = w.heap.modify b f ++ os := fun f => by
    apply Array.ext_getElem?
    intro k
    simp only [Array.getElem?_modify, Array.getElem?_append, Array.size_modify]
    by_cases hk : k < w.heap.size
    · simp [hk, Array.getElem?_modify]
    · have : ¬ b = k := by omega
      simp [hk, this]
  simp only [World.setCell, addsW, e]
theorem adds_addsW (os' : Array Obj) (n' : Nat) : addsW (addsW w os n) os' n' = addsW w (os ++ os') n' := by simp [addsW, Array.append_assoc]
theorem lt_more {a b : Nat} (c : Nat) (h : a < b) : (a < b + c) = True := by simp; omega
theorem lt_more2 {a b : Nat} (c d : Nat) (h : a < b) : (a < b + c + d) = True := by simp; omega
theorem lt_more3 {a b : Nat} (c d e : Nat) (h : a < b) : (a < b + c + d + e) = True := by simp; omega
theorem lt_more4 {a b : Nat} (c d e f : Nat) (h : a < b) : (a < b + c + d + e + f) = True := by simp; omega
theorem alloc_adds0 (o : Obj) : (addsW w #[] n).alloc o = addsW (w.alloc o) #[] n := by
  show (⟨(w.heap ++ #[]).push o, w.tape, n, w.os, w.output⟩ : World) = ⟨w.heap.push o ++ #[], w.tape, n, w.os, w.output⟩
  rw [Array.append_empty, Array.append_empty]
theorem size_adds0 : (addsW w #[] n).heap.size = w.heap.size := by simp [addsW]
theorem adds_adds0 (n' : Nat) : addsW (addsW w #[] n) #[] n' = addsW w #[] n' := by simp [addsW]
theorem adds_drew : addsW w.drew os n = addsW w os n := rfl
theorem adds_drewN (k : Nat) : addsW (w.drewN k) os n = addsW w os n := rfl
theorem drewN_addsW (k : Nat) : (addsW w os n).drewN k = addsW w os (n + k) := rfl
theorem drew_addsW : (addsW w os n).drew = addsW w os (n + 1) := rfl
theorem addsW_below : Below w.heap.size w (addsW w os n) := ⟨rfl, rfl, rfl, by simp [addsW], fun k hk => heap_addsW w os n k hk⟩
end

theorem below_adds {w w' : World} (h : Below w.heap.size w w') : ∃ os n, w' = addsW w os n := by
  obtain ⟨h1, h2, h3, h4, h5⟩ := h
  refine ⟨w'.heap.extract w.heap.size w'.heap.size, w'.drawn, ?_⟩
  obtain ⟨hp, tp, dr, o, ou⟩ := w'
  simp only at h1 h2 h3
  subst h1 h2 h3
  simp only [addsW, World.mk.injEq, and_true, true_and]
  apply Array.ext_getElem?
  intro k
  simp only [Array.getElem?_append]
  by_cases hk : k < w.heap.size
  · simp only [hk, if_true]; exact h5 k hk
  · simp only [hk, if_false, Array.getElem?_extract]
    simp only at h4 ⊢
    by_cases hk2 : k < hp.size
    · rw [if_pos (by omega), show w.heap.size + (k - w.heap.size) = k by omega]
    · rw [if_neg (by omega), Array.getElem?_eq_none (by omega)]

theorem Below.adds_ {B : Nat} {a w : World} (h : Below B a w) (hB : B ≤ w.heap.size) (os : Array Obj) (n : Nat) : Below B a (addsW w os n) :=
  h.trans ((addsW_below w os n).mono hB)

/-- a slice of integers that came in (as the shells say it) -/
def IsRow (k : IntKind) (w : World) (a : Option Addr) (len cap : Nat) (zs : List Int) : Prop :=
  (a = none ∧ len = 0 ∧ cap = 0 ∧ zs = []) ∨
  ∃ x, a = some x ∧ len ≤ cap ∧ cap ≤ maxLen ∧ zs.length = cap ∧ (∀ i, i < zs.length → w.cell? (x.add i) = some (.int k (zs.getD i 0))) ∧ ∀ n ∈ zs, (Lit.int k n).wf = true

theorem IsRow.keep {k : IntKind} {w w' : World} {a : Option Addr} {len cap : Nat} {zs : List Int} (h : IsRow k w a len cap zs) (hb : Below w.heap.size w w') : IsRow k w' a len cap zs := by
  rcases h with h | ⟨x, hx, hl, hm, hz, hc, hw⟩
  · exact .inl h
  · exact .inr ⟨x, hx, hl, hm, hz, fun i hi => (hb.cell (World.block_lt_of_cell? w _ (hc i hi))).trans (hc i hi), hw⟩
theorem drewN_adds (w : World) (n : Nat) : w.drewN n = addsW w #[] (w.drawn + n) := by simp [addsW, World.drewN]
theorem drew_adds (w : World) : w.drew = addsW w #[] (w.drawn + 1) := by show { w with drawn := w.drawn + 1 } = _; simp [addsW]
theorem self_adds (w : World) : w = addsW w #[] w.drawn := by simp [addsW]
theorem setCell_twice (w : World) (a : Addr) (u v : Value) : (w.setCell a u).setCell a v = w.setCell a v := by
  have e : ∀ f g : Obj → Obj, (w.heap.modify a.block f).modify a.block g = w.heap.modify a.block (fun o => g (f o)) := fun f g => by
    apply Array.ext_getElem?
    intro k
    simp only [Array.getElem?_modify]
    split <;> simp [Option.map_map, Function.comp_def]
  simp only [World.setCell, e]
  congr 1
  congr 1
  funext o
  cases o <;> simp <;> split <;> simp

/-- the slice at A holds the integers zs -/
def RowAt (k : IntKind) (w : World) (A : Option Addr) (zs : List Int) : Prop :=
  zs ≠ [] → ∃ b off, A = some ⟨b, off, none⟩ ∧ b < w.heap.size ∧ ∀ i, i < zs.length → w.cell? ⟨b, off + i, none⟩ = some (.int k (zs.getD i 0))

theorem RowAt.at_ {k : IntKind} {w : World} {A : Option Addr} {zs : List Int} (h : RowAt k w A zs) {i : Nat} (hi : i < zs.length) : ∃ b off z, A = some ⟨b, off, none⟩ ∧ b < w.heap.size ∧ z = zs.getD i 0 ∧ w.cell? ⟨b, off + i, none⟩ = some (.int k z) := by
  obtain ⟨b, off, rfl, hb, hc⟩ := h (by intro e; subst e; simp at hi)
  exact ⟨b, off, _, rfl, hb, rfl, hc i hi⟩
theorem RowAt.keep {k : IntKind} {w w' : World} {A : Option Addr} {zs : List Int} (h : RowAt k w A zs) (hb : Below w.heap.size w w') : RowAt k w' A zs := fun hz => by
  obtain ⟨b, off, rfl, hlt, hc⟩ := h hz
  exact ⟨b, off, rfl, by have := hb.size; omega, fun i hi => (hb.cell (p := ⟨b, off + i, none⟩) hlt).trans (hc i hi)⟩
theorem RowAt.new (k : IntKind) (w : World) (zs : List Int) (t : TypeId) : RowAt k (w.alloc (.cells (zs.map (Value.int k)).toArray t)) (some ⟨w.heap.size, 0, none⟩) zs := fun _ => by
  refine ⟨w.heap.size, 0, rfl, by simp, fun i hi => ?_⟩
  rw [Nat.zero_add, World.cell?_alloc_new]
  simp [List.getD_eq_getElem?_getD, hi]
theorem RowAt.of_row {k : IntKind} {w : World} {a : Option Addr} {len cap : Nat} {zs : List Int} (h : IsRow k w a len cap zs) : RowAt k w a (zs.take len) ∧ (zs.take len).length = len ∧ len ≤ maxLen ∧ ∀ i, (Lit.int k ((zs.take len).getD i 0)).wf = true := by
  rcases h with ⟨rfl, rfl, rfl, rfl⟩ | ⟨x, rfl, hl, hm, hz, hc, hw⟩
  · refine ⟨fun h => absurd rfl h, rfl, by decide, fun i => ?_⟩
    cases k <;> simp [Lit.wf, IntKind.min, IntKind.max, IntKind.signed, IntKind.bits]
  · refine ⟨fun hne => ?_, by simp; omega, by omega, fun i => ?_⟩
    · have hlen : 0 < len := by
        rcases Nat.eq_zero_or_pos len with h0 | h0
        · subst h0; simp at hne
        · exact h0
      obtain ⟨b, off, spot⟩ := x
      have h0 := hc 0 (by omega)
      have hspot : spot = none := by simpa [Addr.add] using World.cell?_spot h0
      subst hspot
      refine ⟨b, off, rfl, by simpa [Addr.add] using World.block_lt_of_cell? w _ h0, fun i hi => ?_⟩
      have hi' : i < len := by simp at hi; omega
      have := hc i (by omega)
      rw [show (⟨b, off + i, none⟩ : Addr) = Addr.add ⟨b, off, none⟩ i by unfold Addr.add; split <;> simp_all]
      rw [this]
      simp [List.getD_eq_getElem?_getD, hi']
    · rw [List.getD_eq_getElem?_getD]
      by_cases hi : i < (zs.take len).length
      · rw [List.getElem?_eq_getElem hi]
        exact hw _ (List.mem_of_mem_take (List.getElem_mem hi))
      · rw [List.getElem?_eq_none (by omega)]
        cases k <;> simp [Lit.wf, IntKind.min, IntKind.max, IntKind.signed, IntKind.bits]

/-- two cells of block g -/
def Two (w : World) (g : Nat) (u v : Value) : Prop := g < w.heap.size ∧ w.cell? ⟨g, 0, none⟩ = some u ∧ w.cell? ⟨g, 1, none⟩ = some v

theorem sel2 (k : IntKind) (a0 a1 : Int) (i : Nat) (h : i < [Value.int k a0, Value.int k a1].length) : [Value.int k a0, Value.int k a1][i]'h = Value.int k ([a0, a1][i]'(by simpa using h)) := by
  simp only [List.length_cons, List.length_nil] at h
  rcases (show i = 0 ∨ i = 1 by omega) with rfl | rfl <;> rfl
theorem sel3 (k : IntKind) (a0 a1 a2 : Int) (i : Nat) (h : i < [Value.int k a0, Value.int k a1, Value.int k a2].length) : [Value.int k a0, Value.int k a1, Value.int k a2][i]'h = Value.int k ([a0, a1, a2][i]'(by simpa using h)) := by
  simp only [List.length_cons, List.length_nil] at h
  rcases (show i = 0 ∨ i = 1 ∨ i = 2 by omega) with rfl | rfl | rfl <;> rfl
theorem sel4 (k : IntKind) (a0 a1 a2 a3 : Int) (i : Nat) (h : i < [Value.int k a0, Value.int k a1, Value.int k a2, Value.int k a3].length) : [Value.int k a0, Value.int k a1, Value.int k a2, Value.int k a3][i]'h = Value.int k ([a0, a1, a2, a3][i]'(by simpa using h)) := by
  simp only [List.length_cons, List.length_nil] at h
  rcases (show i = 0 ∨ i = 1 ∨ i = 2 ∨ i = 3 by omega) with rfl | rfl | rfl | rfl <;> rfl
theorem sel5 (k : IntKind) (a0 a1 a2 a3 a4 : Int) (i : Nat) (h : i < [Value.int k a0, Value.int k a1, Value.int k a2, Value.int k a3, Value.int k a4].length) : [Value.int k a0, Value.int k a1, Value.int k a2, Value.int k a3, Value.int k a4][i]'h = Value.int k ([a0, a1, a2, a3, a4][i]'(by simpa using h)) := by
  simp only [List.length_cons, List.length_nil] at h
  rcases (show i = 0 ∨ i = 1 ∨ i = 2 ∨ i = 3 ∨ i = 4 by omega) with rfl | rfl | rfl | rfl | rfl <;> rfl
theorem sel6 (k : IntKind) (a0 a1 a2 a3 a4 a5 : Int) (i : Nat) (h : i < [Value.int k a0, Value.int k a1, Value.int k a2, Value.int k a3, Value.int k a4, Value.int k a5].length) : [Value.int k a0, Value.int k a1, Value.int k a2, Value.int k a3, Value.int k a4, Value.int k a5][i]'h = Value.int k ([a0, a1, a2, a3, a4, a5][i]'(by simpa using h)) := by
  simp only [List.length_cons, List.length_nil] at h
  rcases (show i = 0 ∨ i = 1 ∨ i = 2 ∨ i = 3 ∨ i = 4 ∨ i = 5 by omega) with rfl | rfl | rfl | rfl | rfl | rfl <;> rfl
theorem sel7 (k : IntKind) (a0 a1 a2 a3 a4 a5 a6 : Int) (i : Nat) (h : i < [Value.int k a0, Value.int k a1, Value.int k a2, Value.int k a3, Value.int k a4, Value.int k a5, Value.int k a6].length) : [Value.int k a0, Value.int k a1, Value.int k a2, Value.int k a3, Value.int k a4, Value.int k a5, Value.int k a6][i]'h = Value.int k ([a0, a1, a2, a3, a4, a5, a6][i]'(by simpa using h)) := by
  simp only [List.length_cons, List.length_nil] at h
  rcases (show i = 0 ∨ i = 1 ∨ i = 2 ∨ i = 3 ∨ i = 4 ∨ i = 5 ∨ i = 6 by omega) with rfl | rfl | rfl | rfl | rfl | rfl | rfl <;> rfl
theorem sel8 (k : IntKind) (a0 a1 a2 a3 a4 a5 a6 a7 : Int) (i : Nat) (h : i < [Value.int k a0, Value.int k a1, Value.int k a2, Value.int k a3, Value.int k a4, Value.int k a5, Value.int k a6, Value.int k a7].length) : [Value.int k a0, Value.int k a1, Value.int k a2, Value.int k a3, Value.int k a4, Value.int k a5, Value.int k a6, Value.int k a7][i]'h = Value.int k ([a0, a1, a2, a3, a4, a5, a6, a7][i]'(by simpa using h)) := by
  simp only [List.length_cons, List.length_nil] at h
  rcases (show i = 0 ∨ i = 1 ∨ i = 2 ∨ i = 3 ∨ i = 4 ∨ i = 5 ∨ i = 6 ∨ i = 7 by omega) with rfl | rfl | rfl | rfl | rfl | rfl | rfl | rfl <;> rfl
theorem sel9 (k : IntKind) (a0 a1 a2 a3 a4 a5 a6 a7 a8 : Int) (i : Nat) (h : i < [Value.int k a0, Value.int k a1, Value.int k a2, Value.int k a3, Value.int k a4, Value.int k a5, Value.int k a6, Value.int k a7, Value.int k a8].length) : [Value.int k a0, Value.int k a1, Value.int k a2, Value.int k a3, Value.int k a4, Value.int k a5, Value.int k a6, Value.int k a7, Value.int k a8][i]'h = Value.int k ([a0, a1, a2, a3, a4, a5, a6, a7, a8][i]'(by simpa using h)) := by
  simp only [List.length_cons, List.length_nil] at h
  rcases (show i = 0 ∨ i = 1 ∨ i = 2 ∨ i = 3 ∨ i = 4 ∨ i = 5 ∨ i = 6 ∨ i = 7 ∨ i = 8 by omega) with rfl | rfl | rfl | rfl | rfl | rfl | rfl | rfl | rfl <;> rfl

theorem selB {l : List Int} {i : Nat} (h : i < l.length) (lo hi : Int) (hl : ∀ x ∈ l, lo ≤ x ∧ x ≤ hi) : lo ≤ l[i] ∧ l[i] ≤ hi := hl _ (List.getElem_mem h)

theorem still_of {P : Program} {f : FuncId} {args : Array Value} {w : World} {v : Value} (h : Calls P f args w fun e w' => e = .returned v ∧ w = w') : Calls P f args w fun e w' => e = .returned v ∧ w' = w :=
  h.mono fun _ _ ⟨he, hw⟩ => ⟨he, hw.symm⟩
theorem wp_tail {P : Program} {id : Nat} {Q : Exit → Act → World → Prop} {a : Act} {w : World} {l : List Oper} (n : Nat) (hm : P.follows .mixedOrders = true) (hB : Region.lexTailB .any l.toArray n = true)
    (h : wpStill P l.toArray w.drew (fun a' => wpList P l.toArray Q (l.drop n) a' w.drew) (l.take n) a) : (Code.region id l.toArray true).wp P Q a w := wp_region_still_tail n hm hB h

end Go.Proofs.YtijccageaingjaaDoor
