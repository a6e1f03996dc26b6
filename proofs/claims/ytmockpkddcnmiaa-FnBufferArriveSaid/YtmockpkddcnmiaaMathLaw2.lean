/- Plain lemmas for the laws of seat 2; no program in sight. -/
import Derived.Test.YtmockpkddcnmiaaMathLaw
namespace Go.Proofs.Ytmockpkddcnmiaa.M

theorem med_rot (a b c : Int) : med b c a = med a b c := by unfold med; omega
theorem med_swap (a b c : Int) : med b a c = med a b c := by unfold med; omega
theorem med_same (a c : Int) : med a a c = a := by unfold med; omega

theorem bufB_full (x y : Int) : bufB x y (x + 1) = false := by simp [bufB]; omega
theorem bufB_slow (x z : Int) : bufB x (-1) z = false := by simp [bufB]
theorem nextIx_law (q b t : Int) (h0 : -1 ≤ q) (h1 : q ≤ 16) : 0 ≤ nextIx q b t → (0 ≤ q ∧ q ≤ 15 ∧ 1 ≤ t ∧ t ≤ 1000000 ∧ nextIx q b t ≤ q + 1 ∧ q - 1 ≤ nextIx q b t ∧ nextIx q b t ≤ 15 ∧ (nextIx q b t ≤ q ∨ t < b) ∧ (q ≤ nextIx q b t ∨ b < t)) := by
  unfold nextIx; split
  · split
    · omega
    · split <;> omega
  · omega
theorem nextIx_same {q t : Int} : (0 ≤ q ∧ q ≤ 15 ∧ 1 ≤ t ∧ t ≤ 1000000) → nextIx q t t = q := by
  intro h; unfold nextIx; rw [if_pos (by omega), if_neg (by omega), if_neg (by omega)]

theorem bufB_bd {x y z : Int} (h : bufB x y z = true) : 1 ≤ x ∧ x ≤ 1000000 ∧ 0 ≤ y ∧ y ≤ x ∧ 0 ≤ z ∧ z ≤ x := by simpa [bufB] using h
theorem arrive_law {x y z : Int} (h : 1 ≤ x ∧ x ≤ 1000000 ∧ 0 ≤ y ∧ y ≤ x ∧ 0 ≤ z ∧ z ≤ x) : ∃ m : Int, min (z + y) x = m ∧ bufB x y m = true ∧ m ≤ x ∧ ((m = z + y ∧ z + y ≤ x) ∨ (m = x ∧ x < z + y)) := by
  refine ⟨_, rfl, ?_, by omega, by omega⟩
  simp [bufB]; omega

end Go.Proofs.Ytmockpkddcnmiaa.M
