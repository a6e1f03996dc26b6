/- Numbers as decisions: by lists, with no program in sight. -/
import Derived.Test.YtggkelehjdepkaaBins
namespace Go.Proofs.Ytggkelehjdepkaa
open Go.RowKit
set_option linter.unusedVariables false
set_option linter.unusedSimpArgs false

/-- the first j decisions of the length -/
def unP (base : Int) : Nat → List Int
  | 0 => []
  | j + 1 => unP base j ++ [base + min (j : Int) 5, 1]
/-- the first t of the k digits behind the first one of m -/
def dgP (base : Int) (m k : Nat) : Nat → List Int
  | 0 => []
  | t + 1 => dgP base m k t ++ [base + 6, ((m / 2 ^ (k - 1 - t) % 2 : Nat) : Int)]
def lgN (n : Nat) : Nat := Nat.log2 (n + 1)
def numL (n : Nat) (base : Int) : List Int := unP base (lgN n) ++ [base + min (lgN n : Int) 5, 0] ++ dgP base (n + 1) (lgN n) (lgN n)
def numN (n : Nat) : Nat := 2 * lgN n + 1
theorem unP_len (base : Int) (j : Nat) : (unP base j).length = j * 2 := by
  induction j with
  | zero => rfl
  | succ j ih => simp [unP, ih]; omega
theorem dgP_len (base : Int) (m k t : Nat) : (dgP base m k t).length = t * 2 := by
  induction t with
  | zero => rfl
  | succ j ih => simp [dgP, ih]; omega
theorem numL_len (n : Nat) (base : Int) : (numL n base).length = numN n * 2 := by
  simp [numL, numN, unP_len, dgP_len]; omega
theorem lgN_le {n : Nat} (h : n ≤ 65535) : lgN n ≤ 16 := by
  have := (Nat.log2_lt (n := n + 1) (k := 17) (by omega)).2 (by omega)
  unfold lgN; omega
theorem lgN_lo (n : Nat) : 2 ^ lgN n ≤ n + 1 := Nat.log2_self_le (by omega)
theorem lgN_hi (n : Nat) : n + 1 < 2 ^ (lgN n + 1) := Nat.lt_log2_self
theorem lgN_iff {n j : Nat} : 2 ^ (j + 1) ≤ n + 1 ↔ j < lgN n := by
  constructor
  · intro h
    rcases Nat.lt_or_ge j (lgN n) with h1 | h1
    · exact h1
    · have := lgN_hi n
      have h2 : 2 ^ (lgN n + 1) ≤ 2 ^ (j + 1) := Nat.pow_le_pow_right (by omega) (by omega)
      omega
  · intro h
    have := lgN_lo n
    have h2 : 2 ^ (j + 1) ≤ 2 ^ lgN n := Nat.pow_le_pow_right (by omega) (by omega)
    omega
/-- a list of decisions each of which is valid -/
def allOk (zs : List Int) (n : Nat) : Prop := zs.length = n * 2 ∧ binsUp zs n = true
theorem binOk_app {xs ys : List Int} {i : Nat} (h : i * 2 + 1 < xs.length) : binOk (xs ++ ys) i = binOk xs i := by
  unfold binOk
  rw [List.getD_eq_getElem?_getD, List.getD_eq_getElem?_getD, List.getD_eq_getElem?_getD, List.getD_eq_getElem?_getD, List.getElem?_append_left (by omega), List.getElem?_append_left h]
theorem binOk_app2 {xs ys : List Int} {n i : Nat} (h : xs.length = n * 2) : binOk (xs ++ ys) (n + i) = binOk ys i := by
  unfold binOk
  rw [List.getD_eq_getElem?_getD, List.getD_eq_getElem?_getD, List.getD_eq_getElem?_getD, List.getD_eq_getElem?_getD, List.getElem?_append_right (by omega), List.getElem?_append_right (by omega)]
  rw [show (n + i) * 2 - xs.length = i * 2 by omega, show (n + i) * 2 + 1 - xs.length = i * 2 + 1 by omega]
theorem allOk_nil : allOk [] 0 := ⟨rfl, rfl⟩
theorem allOk_append {xs ys : List Int} {n m : Nat} (h : allOk xs n) (h' : allOk ys m) : allOk (xs ++ ys) (n + m) := by
  obtain ⟨h1, h2⟩ := h
  obtain ⟨h3, h4⟩ := h'
  refine ⟨by simp [h1, h3]; omega, ?_⟩
  simp only [binsUp, List.all_eq_true, List.mem_range] at h2 h4 ⊢
  intro i hi
  rcases Nat.lt_or_ge i n with hlt | hge
  · rw [binOk_app (by omega)]; exact h2 i hlt
  · obtain ⟨j, rfl⟩ := Nat.exists_eq_add_of_le hge
    rw [binOk_app2 h1]; exact h4 j (by omega)
theorem allOk_one {x y : Int} (hx : 0 ≤ x ∧ x < 40) (hy : y = 0 ∨ y = 1) : allOk [x, y] 1 := by
  refine ⟨rfl, ?_⟩
  rw [binsUp_succ, binsUp_zero, Bool.true_and, binOk]
  simp [M.inB]
  omega
theorem unP_ok {base : Int} (hb : 0 ≤ base ∧ base ≤ 33) (j : Nat) : allOk (unP base j) j := by
  induction j with
  | zero => exact allOk_nil
  | succ j ih => exact allOk_append ih (allOk_one (by omega) (.inr rfl))
theorem dgP_ok {base : Int} (hb : 0 ≤ base ∧ base ≤ 33) (m k t : Nat) : allOk (dgP base m k t) t := by
  induction t with
  | zero => exact allOk_nil
  | succ j ih => exact allOk_append ih (allOk_one (by omega) (by omega))
theorem numL_ok {base : Int} (hb : 0 ≤ base ∧ base ≤ 33) (n : Nat) : allOk (numL n base) (numN n) := by
  have := allOk_append (allOk_append (unP_ok hb (lgN n)) (allOk_one (x := base + min (lgN n : Int) 5) (by omega) (.inl rfl))) (dgP_ok hb (n + 1) (lgN n) (lgN n))
  rw [numN, show 2 * lgN n + 1 = lgN n + 1 + lgN n by omega]
  exact this

end Go.Proofs.Ytggkelehjdepkaa
