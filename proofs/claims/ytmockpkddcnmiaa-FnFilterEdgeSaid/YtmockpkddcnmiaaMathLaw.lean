/- Plain lemmas for the laws; no program in sight. -/
import Derived.Test.YtmockpkddcnmiaaMath
namespace Go.Proofs.Ytmockpkddcnmiaa.M

theorem vecB_swap (x y : Int) : vecB y x = vecB x y := by rw [Bool.eq_iff_iff]; simp [vecB]; try omega
theorem vecB_neg (x y : Int) : vecB (-x) (-y) = vecB x y := by rw [Bool.eq_iff_iff]; simp [vecB]; try omega
theorem vecB_far (x : Int) : vecB x 17 = false := by simp [vecB]
theorem intraB_zero {p : Int} (h : 1 ≤ p) : intraB 0 p = true := by simp [intraB]; try omega
theorem intraB_add {k p : Int} (hk : 0 ≤ k) (h : 1 ≤ p) : intraB (k + p) p = intraB k p := by
  rw [Bool.eq_iff_iff]
  simp [intraB, hk, h]
  try omega
theorem intraB_one {k : Int} (h : 0 ≤ k) : intraB k 1 = true := by simp [intraB, h]; try omega
theorem intraB_no {k p : Int} (h : k < 0 ∨ p < 1) : intraB k p = false := by simp [intraB]; try omega

theorem chance_no {p b : Int} (h : ¬ (1 ≤ p ∧ p ≤ 4095 ∧ 0 ≤ b ∧ b ≤ 1)) : chance p b = 0 := by simp only [chance, h, if_false]
theorem chance_zero {p : Int} (h : 1 ≤ p ∧ p ≤ 4095) : p ≤ chance p 0 ∧ chance p 0 ≤ 4095 ∧ chance p 0 ≤ p + 256 := by simp only [chance]; split <;> simp <;> omega
theorem chance_one {p : Int} (h : 1 ≤ p ∧ p ≤ 4095) : 1 ≤ chance p 1 ∧ chance p 1 ≤ p ∧ p - 256 ≤ chance p 1 := by simp only [chance]; split <;> simp <;> omega

end Go.Proofs.Ytmockpkddcnmiaa.M
