/- Lists that a draw gathers by append while the reader moves on. -/
import Derived.Test.YtijccageaingjaaDoorMove
import Derived.Laws.AppendOwn
import Derived.Laws.AppendOwnNone
namespace Go.Proofs.YtijccageaingjaaDoor
open Go.RowKit
set_option linter.unusedVariables false
set_option linter.unusedSimpArgs false

theorem ownsRow_below {w w' : World} {base E size n : Nat} {v : Value} {xs : List Value} (h : w.ownsRow base E size v n xs) (hb : Below w.heap.size w w') : w'.ownsRow base E size v n xs :=
  h.kept (row := none) ⟨hb.os, hb.tape, hb.output, hb.size, fun k hk _ => hb.block k hk⟩ (by cases v.ownBlock <;> simp)

/-- an owned row of integers, read as a slice -/
theorem RowAt.of_own {k : IntKind} {w : World} {base E n : Nat} {v : Value} {zs : List Int} (h : w.ownsRow base E 1 v n (zs.map (Value.int k))) : ∃ (A : Option Addr) (c : Nat), v = .slice A zs.length c ∧ n = zs.length ∧ n ≤ c ∧ c ≤ maxLen ∧ RowAt k w A zs ∧ (∀ a, A = some a → base ≤ a.block ∧ a.off = 0) := by
  obtain ⟨hl, h⟩ := h
  have hl' : zs.length = n := by simpa using hl
  rcases h with ⟨rfl, rfl⟩ | ⟨g, cap, cur, rfl, hb, hg, hn, hm, hs, ht⟩
  · have : zs = [] := List.length_eq_zero_iff.1 hl'
    subst this
    exact ⟨none, 0, rfl, rfl, Nat.le_refl _, by decide, fun h => absurd rfl h, fun a e => by cases e⟩
  · refine ⟨some ⟨g, 0, none⟩, cap, by rw [hl'], hl'.symm, hn, hm, fun _ => ⟨g, 0, rfl, ?_, fun i hi => ?_⟩, fun a e => by cases e; exact ⟨hb, rfl⟩⟩
    · rcases Nat.lt_or_ge g w.heap.size with h | h
      · exact h
      · rw [Array.getElem?_eq_none h] at hg; cases hg
    · have e1 : w.cell? ⟨g, 0 + i, none⟩ = cur[i]? := by simp [World.cell?, hg]
      rw [e1]
      have e2 : (cur.toList.take (n * 1))[i]? = (zs.map (Value.int k))[i]? := by rw [ht]
      rw [List.getElem?_take, if_pos (by omega), List.getElem?_map] at e2
      rw [← Array.getElem?_toList, e2]
      simp [List.getD_eq_getElem?_getD, hi]

theorem RowAt.of_ownS {k : IntKind} {w : World} {base E s n : Nat} {v : Value} {zs : List Int} (h : w.ownsRow base E s v n (zs.map (Value.int k))) : ∃ (A : Option Addr) (c : Nat), v = .slice A n c ∧ zs.length = n * s ∧ n ≤ c ∧ c ≤ maxLen ∧ RowAt k w A zs ∧ ((A = none ∧ n = 0) ∨ ∃ g, A = some ⟨g, 0, none⟩) := by
  obtain ⟨hl, h⟩ := h
  have hl' : zs.length = n * s := by simpa using hl
  rcases h with ⟨rfl, rfl⟩ | ⟨g, cap, cur, rfl, hb, hg, hn, hm, hs, ht⟩
  · have : zs = [] := List.length_eq_zero_iff.1 (by simpa using hl')
    subst this
    exact ⟨none, 0, rfl, by simp, Nat.le_refl _, by decide, fun h => absurd rfl h, .inl ⟨rfl, rfl⟩⟩
  · refine ⟨some ⟨g, 0, none⟩, cap, rfl, hl', hn, hm, fun _ => ⟨g, 0, rfl, ?_, fun i hi => ?_⟩, .inr ⟨g, rfl⟩⟩
    · rcases Nat.lt_or_ge g w.heap.size with h | h
      · exact h
      · rw [Array.getElem?_eq_none h] at hg; cases hg
    · have e1 : w.cell? ⟨g, 0 + i, none⟩ = cur[i]? := by simp [World.cell?, hg]
      rw [e1]
      have e2 : (cur.toList.take (n * s))[i]? = (zs.map (Value.int k))[i]? := by rw [ht]
      rw [List.getElem?_take, if_pos (by omega), List.getElem?_map] at e2
      rw [← Array.getElem?_toList, e2]
      simp [List.getD_eq_getElem?_getD, hi]

/-- the cells of such a slice, as append asks for them -/
theorem RowAt.news {k : IntKind} {w : World} {g : Nat} {zs : List Int} (h : RowAt k w (some ⟨g, 0, none⟩) zs) : ∀ (j : Nat) (u : Value), (zs.map (Value.int k))[j]? = some u → w.cell? ((⟨g, 0, none⟩ : Addr).add j) = some u := by
  intro j u hj
  rw [List.getElem?_map] at hj
  obtain ⟨z, hz, rfl⟩ := Option.map_eq_some_iff.1 hj
  have hlt : j < zs.length := (List.getElem?_eq_some_iff.1 hz).1
  obtain ⟨b, off, e, _, hc⟩ := h (by intro e; subst e; simp at hlt)
  injection e with e
  injection e with e1 e2
  subst e1 e2
  have := hc j hlt
  rw [show (⟨g, 0, none⟩ : Addr).add j = ⟨g, 0 + j, none⟩ by unfold Addr.add; split <;> simp_all]
  rw [this, List.getD_eq_getElem?_getD, hz]; rfl

theorem RowAt.take {k : IntKind} {w : World} {A : Option Addr} {zs : List Int} (h : RowAt k w A zs) (m : Nat) : RowAt k w A (zs.take m) := by
  intro hne
  obtain ⟨b, off, e, hb, hc⟩ := h (by intro e; subst e; simp at hne)
  refine ⟨b, off, e, hb, fun i hi => ?_⟩
  have hi' : i < zs.length ∧ i < m := by simp at hi; omega
  rw [hc i hi'.1]
  simp [List.getD_eq_getElem?_getD, List.getElem?_take, hi'.2]

theorem news1 {w : World} {b o : Nat} {x : Value} (h : w.cell? ⟨b, o, none⟩ = some x) : ∀ (j : Nat) (u : Value), [x][j]? = some u → w.cell? ((⟨b, o, none⟩ : Addr).add j) = some u := by
  intro j u hj
  match j with
  | 0 =>
    simp only [List.getElem?_cons_zero, Option.some.injEq] at hj
    subst hj
    have e : (⟨b, o, none⟩ : Addr).add 0 = ⟨b, o, none⟩ := by simp [Addr.add]
    rw [e]; exact h
  | j + 1 => simp at hj

theorem news2 {w : World} {b o : Nat} {x y : Value} (h : w.cell? ⟨b, o, none⟩ = some x) (h2 : w.cell? ⟨b, o + 1, none⟩ = some y) : ∀ (j : Nat) (u : Value), [x, y][j]? = some u → w.cell? ((⟨b, o, none⟩ : Addr).add j) = some u := by
  intro j u hj
  match j with
  | 0 =>
    simp only [List.getElem?_cons_zero, Option.some.injEq] at hj
    subst hj
    have e : (⟨b, o, none⟩ : Addr).add 0 = ⟨b, o, none⟩ := by simp [Addr.add]
    rw [e]; exact h
  | 1 =>
    simp only [List.getElem?_cons_succ, List.getElem?_cons_zero, Option.some.injEq] at hj
    subst hj
    have e : (⟨b, o, none⟩ : Addr).add 1 = ⟨b, o + 1, none⟩ := by simp [Addr.add]
    rw [e]; exact h2
  | j + 2 => simp at hj

theorem one2 {x y : Value} (h : x.oneCell' = true) (h2 : y.oneCell' = true) : ∀ u ∈ [x, y], u.oneCell' = true := by
  intro u hu; simp only [List.mem_cons, List.not_mem_nil, or_false] at hu; rcases hu with rfl | rfl; exact h; exact h2

theorem one1 {x : Value} (h : x.oneCell' = true) : ∀ u ∈ [x], u.oneCell' = true := by
  intro u hu; simp only [List.mem_cons, List.not_mem_nil, or_false] at hu; rw [hu]; exact h

theorem own_shape {w : World} {base E size n : Nat} {v : Value} {xs : List Value} (h : w.ownsRow base E size v n xs) : ∃ (A : Option Addr) (c : Nat), v = .slice A n c ∧ n ≤ c ∧ ((A = none ∧ n = 0) ∨ ∃ g, A = some ⟨g, 0, none⟩ ∧ base ≤ g ∧ g < w.heap.size) := by
  rcases h.2 with ⟨h1, h2⟩ | ⟨g, cap, cur, h1, h2, h3, h4, _⟩
  · subst h2; exact ⟨none, 0, h1, Nat.le_refl _, .inl ⟨rfl, rfl⟩⟩
  · refine ⟨_, _, h1, h4, .inr ⟨g, rfl, h2, ?_⟩⟩
    rcases Nat.lt_or_ge g w.heap.size with h | h
    · exact h
    · rw [Array.getElem?_eq_none h] at h3; cases h3

end Go.Proofs.YtijccageaingjaaDoor
