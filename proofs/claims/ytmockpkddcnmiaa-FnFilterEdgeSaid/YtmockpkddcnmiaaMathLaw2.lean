/- Plain lemmas for the laws of seat 2; no program in sight. -/
import Derived.Test.YtmockpkddcnmiaaMathLaw
namespace Go.Proofs.Ytmockpkddcnmiaa.M

theorem med_rot (a b c : Int) : med b c a = med a b c := by unfold med; omega
theorem med_swap (a b c : Int) : med b a c = med a b c := by unfold med; omega
theorem med_same (a c : Int) : med a a c = a := by unfold med; omega

theorem bufB_full (x y : Int) : bufB x y (x + 1) = false := by simp [bufB]; omega
theorem bufB_slow (x z : Int) : bufB x (-1) z = false := by simp [bufB]
theorem nextIx_law (q b t : Int) (h0 : -1 ≤ q) (h1 : q ≤ 16) : 0 ≤ nextIx q b t → (0 ≤ q ∧ q ≤ 15 ∧ 1 ≤ t ∧ t ≤ 1000000 ∧ nextIx q b t ≤ q + 1 ∧ q - 1 ≤ nextIx q b t ∧ nextIx q b t ≤ 15 ∧ (nextIx q b t ≤ q ∨ t < b) ∧ (q ≤ nextIx q b t ∨ b < t)) := by
  unfold nextIx; split
  · split
    · omega
    · split <;> omega
  · omega
theorem nextIx_same {q t : Int} : (0 ≤ q ∧ q ≤ 15 ∧ 1 ≤ t ∧ t ≤ 1000000) → nextIx q t t = q := by
  intro h; unfold nextIx; rw [if_pos (by omega), if_neg (by omega), if_neg (by omega)]

theorem bufB_bd {x y z : Int} (h : bufB x y z = true) : 1 ≤ x ∧ x ≤ 1000000 ∧ 0 ≤ y ∧ y ≤ x ∧ 0 ≤ z ∧ z ≤ x := by simpa [bufB] using h
theorem arrive_law {x y z : Int} (h : 1 ≤ x ∧ x ≤ 1000000 ∧ 0 ≤ y ∧ y ≤ x ∧ 0 ≤ z ∧ z ≤ x) : ∃ m : Int, min (z + y) x = m ∧ bufB x y m = true ∧ m ≤ x ∧ ((m = z + y ∧ z + y ≤ x) ∨ (m = x ∧ x < z + y)) := by
  refine ⟨_, rfl, ?_, by omega, by omega⟩
  simp [bufB]; omega

theorem feB_no {a b c d l : Int} (h : feB a b c d l = false) : a < 0 ∨ 255 < a ∨ b < 0 ∨ 255 < b ∨ c < 0 ∨ 255 < c ∨ d < 0 ∨ 255 < d ∨ l < 0 ∨ 12 < l := by
  rcases Int.lt_or_le (min (min (min a b) (min c d)) l) 0 with h0 | h0
  · omega
  · rcases Int.lt_or_le 255 (max (max a b) (max c d)) with h1 | h1
    · omega
    · rcases Int.lt_or_le 12 l with h2 | h2
      · omega
      · exfalso
        have : feB a b c d l = true := by
          have : inB a 0 255 = true ∧ inB b 0 255 = true ∧ inB c 0 255 = true ∧ inB d 0 255 = true ∧ inB l 0 12 = true := by
            simp only [inB_iff]; omega
          simp [feB, this.1, this.2.1, this.2.2.1, this.2.2.2.1, this.2.2.2.2]
        rw [this] at h; cases h
theorem feB_yes {a b c d l : Int} (h : feB a b c d l = true) : (0 ≤ a ∧ a ≤ 255) ∧ (0 ≤ b ∧ b ≤ 255) ∧ (0 ≤ c ∧ c ≤ 255) ∧ (0 ≤ d ∧ d ≤ 255) ∧ (0 ≤ l ∧ l ≤ 12) := by
  simp only [feB, Bool.and_eq_true, inB_iff] at h; omega
theorem fe_law {a b c d l : Int} (h : feB a b c d l = true) : (b - l ≤ fe1 a b c d l ∧ fe1 a b c d l ≤ b + l) ∧ (c - l ≤ fe2 a b c d l ∧ fe2 a b c d l ≤ c + l) ∧ 0 ≤ fe1 a b c d l ∧ fe1 a b c d l ≤ 255 ∧ 0 ≤ fe2 a b c d l ∧ fe2 a b c d l ≤ 255 ∧ (4 * l ≤ max (b - c) (-(b - c)) → fe1 a b c d l = b ∧ fe2 a b c d l = c) := by
  have hy := feB_yes h
  have e1 : fe1 a b c d l = filt1 a b c d l := by simp [fe1, h]
  have e2 : fe2 a b c d l = filt2 a b c d l := by simp [fe2, h]
  rw [e1, e2]
  unfold filt1 filt2 filtE
  by_cases hc : 4 * l ≤ max (b - c) (c - b)
  · simp only [if_pos hc]; exact ⟨by omega, by omega, by omega, by omega, by omega, by omega, fun _ => by simp⟩
  · simp only [if_neg hc]; exact ⟨by omega, by omega, by omega, by omega, by omega, by omega, fun hh => by exfalso; omega⟩
theorem fe_same1 {a l : Int} (h : 0 ≤ a ∧ a ≤ 255) (hl : 0 ≤ l ∧ l ≤ 12) : fe1 a a a a l = a := by
  have : feB a a a a l = true := by simp [feB, inB]; omega
  simp only [fe1, this, if_true, filt1, filtE]; split <;> omega
theorem fe_same2 {a l : Int} (h : 0 ≤ a ∧ a ≤ 255) (hl : 0 ≤ l ∧ l ≤ 12) : fe2 a a a a l = a := by
  have : feB a a a a l = true := by simp [feB, inB]; omega
  simp only [fe2, this, if_true, filt2, filtE]; split <;> omega

end Go.Proofs.Ytmockpkddcnmiaa.M
