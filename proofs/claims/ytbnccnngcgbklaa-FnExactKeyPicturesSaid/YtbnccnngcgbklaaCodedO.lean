/- Slices of slices of bytes opened. -/
import Derived.Test.YtbnccnngcgbklaaCodedT
import Derived.Test.YtbnccnngcgbklaaOpen
import Derived.ChangeSlices
namespace Go.Proofs.Ytbnccnngcgbklaa
open Go.ChangeShapes Go.WideShapes Go.RowKit Go.Deep
set_option linter.unusedVariables false
set_option linter.unusedSimpArgs false

theorem open_ss {H : Type} {enc : TypeId × Value → H} {W : World} {base fuel : Nat} {held : Bool} {cv : Value} {x : DataW H × List MemPlace}
    (h : DataW.trod enc Try.prog W base (fun _ => true) held fuel 22 [cv] = some x) :
    ∃ (A : Option Addr) (n cap : Nat) (a : Nat → Option Addr) (l c : Nat → Nat) (z : Nat → List Int), cv = .slice A n cap ∧ SSAt W A n a l c z ∧ n ≤ maxLen := by
  rcases open_slice1 Try.underlying22 (by kernel_rfl) h with ⟨hcs, _⟩ | ⟨ad, len, cap, m, n, V, D, Pl, hcs, hb, hl, hm, hmm, _, hi⟩
  · simp only [List.cons.injEq, and_true] at hcs
    exact ⟨none, 0, 0, fun _ => none, fun _ => 0, fun _ => 0, fun _ => [], hcs, ⟨fun h => absurd rfl h, fun i hi => by omega⟩, by decide⟩
  · simp only [List.cons.injEq, and_true] at hcs
    have hlm : len ≤ m := by rw [hmm]; split <;> omega
    have each : ∀ i, i < len → ∃ q : Option Addr × Nat × Nat × List Int, W.cell? (ad.add i) = some (.slice q.1 q.2.1 q.2.2.1) ∧ RowAt .u8 W q.1 q.2.2.2 ∧ q.2.2.2.length = q.2.1 ∧ q.2.1 ≤ 9223372036854775807 := by
      intro i h
      obtain ⟨hc, ht⟩ := hi i (by omega)
      have hrow : ∃ a l c zs, V i = .slice a l c ∧ IsRow .u8 W a l c zs := by
        rcases open_ints Try.underlying42 Try.underlying5 (by kernel_rfl) ht with ⟨hcs, _⟩ | ⟨x, l, c, zs, hcs, _, hl, hm, hz, _, hcell, hwz⟩
        · simp only [List.cons.injEq, and_true] at hcs; exact ⟨none, 0, 0, [], hcs, .inl ⟨rfl, rfl, rfl, rfl⟩⟩
        · simp only [List.cons.injEq, and_true] at hcs; exact ⟨some x, l, c, zs, hcs, .inr ⟨x, rfl, hl, hm, by simpa using hz, hcell, hwz⟩⟩
      obtain ⟨a, l, c, zs, he, hr⟩ := hrow
      obtain ⟨h1, h2, h3, -⟩ := RowAt.of_row hr
      unfold maxLen at h3
      exact ⟨(a, l, c, zs.take l), by rw [hc, he], h1, h2, h3⟩
    obtain ⟨f, hf⟩ := choose_lt each
    refine ⟨some ad, len, cap, fun i => (f i).1, fun i => (f i).2.1, fun i => (f i).2.2.1, fun i => (f i).2.2.2, hcs, ⟨fun hne => ?_, fun i hi => (hf i hi).2⟩, by omega⟩
    obtain ⟨b, off, spot⟩ := ad
    have h0 := (hf 0 (by omega)).1
    have hspot : spot = none := by simpa [Addr.add] using World.cell?_spot h0
    subst hspot
    refine ⟨b, off, rfl, by simpa [Addr.add] using World.block_lt_of_cell? W _ h0, fun i hi => ?_⟩
    have := (hf i hi).1
    rw [show (⟨b, off + i, none⟩ : Addr) = Addr.add ⟨b, off, none⟩ i by unfold Addr.add; split <;> simp_all]
    exact this

end Go.Proofs.Ytbnccnngcgbklaa
