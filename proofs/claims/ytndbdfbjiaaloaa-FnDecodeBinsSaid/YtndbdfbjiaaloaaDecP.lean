/- Decoding from left to right: by lists, with no program in sight. -/
import Derived.Test.YtndbdfbjiaaloaaRound
namespace Go.Proofs.Ytndbdfbjiaaloaa
open Go.RowKit
set_option linter.unusedVariables false
set_option linter.unusedSimpArgs false

/-- pairs, one behind the other -/
def flatI (f g : Nat → Int) : Nat → List Int
  | 0 => []
  | k + 1 => flatI f g k ++ [f k, g k]
theorem flatI_len (f g : Nat → Int) (k : Nat) : (flatI f g k).length = k * 2 := by
  induction k with
  | zero => rfl
  | succ k ih => rw [flatI, List.length_append, ih]; simp; omega
theorem flatI_at (f g : Nat → Int) (k i : Nat) (h : i < k) : (flatI f g k).getD (i * 2) 0 = f i ∧ (flatI f g k).getD (i * 2 + 1) 0 = g i := by
  induction k with
  | zero => omega
  | succ k ih =>
    have hl := flatI_len f g k
    rw [flatI, List.getD_eq_getElem?_getD, List.getD_eq_getElem?_getD]
    by_cases hi : i < k
    · rw [List.getElem?_append_left (by omega), List.getElem?_append_left (by omega), ← List.getD_eq_getElem?_getD, ← List.getD_eq_getElem?_getD]
      exact ih hi
    · obtain rfl : i = k := by omega
      rw [List.getElem?_append_right (by omega), List.getElem?_append_right (by omega), hl, show i * 2 - i * 2 = 0 by omega, show i * 2 + 1 - i * 2 = 1 by omega]
      exact ⟨rfl, rfl⟩
theorem range_getD (l : List Int) : (List.range l.length).map (fun i => l.getD i 0) = l := by
  apply List.ext_getElem?
  intro i
  rw [List.getElem?_map]
  by_cases hi : i < l.length
  · rw [List.getElem?_range hi, List.getElem?_eq_getElem hi]; simp [List.getD_eq_getElem?_getD, hi]
  · rw [List.getElem?_eq_none (by simp; omega), List.getElem?_eq_none (by omega)]; rfl
theorem ctxL_flat {xs : List Int} {g : Nat → Int} : ctxL (flatI (cxF xs) g xs.length) xs.length = xs := by
  rw [ctxL, ← range_getD xs]
  simp only [List.length_map, List.length_range]
  apply List.map_congr_left
  intro i hi
  have hi' := List.mem_range.1 hi
  have := (flatI_at (cxF xs) g xs.length i (by simpa using hi')).1
  simp only [bnC]
  rw [range_getD]
  exact this
theorem bitL_flat {f : Nat → Int} {ys : List Int} {n : Nat} (h : ys.length = n) : bitL (flatI f (cxF ys) n) n = ys := by
  subst h
  rw [bitL]
  have e := range_getD ys
  rw [← e]
  simp only [List.length_map, List.length_range]
  apply List.map_congr_left
  intro i hi
  have hi' := List.mem_range.1 hi
  have := (flatI_at f (cxF ys) ys.length i (by simpa using hi')).2
  simp only [bnB]
  rw [e]
  exact this
theorem decOut_yes {ds xs : List Int} (h : ctxB xs = true) : decOut ds xs = decL ds xs xs.length := by rw [decOut, h]; rfl
theorem decOut_no {ds xs : List Int} (h : ctxB xs = false) : decOut ds xs = [] := by rw [decOut, h]; rfl
theorem ctxB_len {xs : List Int} (h : ctxB xs = false) (hl : xs.length ≤ 20000) : xs.length ≠ 0 := by
  intro e
  rw [ctxB, e] at h
  simp [ctxUp] at h
theorem ctxB_at {xs : List Int} (h : ctxB xs = true) : xs.length ≤ 20000 ∧ ∀ i, i < xs.length → 0 ≤ cxF xs i ∧ cxF xs i < 40 := by
  rw [ctxB, Bool.and_eq_true, decide_eq_true_iff] at h
  exact ⟨h.1, ctxUp_at h.2⟩
theorem take_at (xs : List Int) {n i : Nat} (h : i < n) : cxF (xs.take n) i = cxF xs i := by
  simp [cxF, List.getD_eq_getElem?_getD, List.getElem?_take, h]
theorem ctxB_take {xs : List Int} (h : ctxB xs = true) (n : Nat) : ctxB (xs.take n) = true := by
  obtain ⟨h1, h2⟩ := ctxB_at h
  rw [ctxB, decide_eq_true (by rw [List.length_take]; omega), Bool.true_and]
  simp only [ctxUp, List.all_eq_true, List.mem_range]
  intro i hi
  have hi' : i < n ∧ i < xs.length := by simp at hi; omega
  have := take_at xs hi'.1
  simp only [cxF] at this
  rw [this]
  have := h2 i hi'.2
  simp [cxF, M.inB] at this ⊢; omega
theorem decOut_take {ds xs : List Int} (h : ctxB xs = true) {n : Nat} (hn : n ≤ xs.length) : decOut ds (xs.take n) = (decOut ds xs).take n := by
  rw [decOut_yes h, decOut_yes (ctxB_take h n), decL, decL, List.length_take, Nat.min_eq_left hn]
  rw [← List.map_take, List.take_range, Nat.min_eq_left hn]
  apply List.map_congr_left
  intro i hi
  have hi' := List.mem_range.1 hi
  exact decB_congr (fun j hj => take_at xs (by omega))
theorem decOut_bits {ds xs : List Int} (h : ctxB xs = true) : ∀ i, i < xs.length → cxF (decOut ds xs) i = 0 ∨ cxF (decOut ds xs) i = 1 := by
  intro i hi
  rw [decOut_yes h]
  have e : cxF (decL ds xs xs.length) i = M.decB (byD ds) (cxF xs) i := by
    simp [cxF, decL, List.getD_eq_getElem?_getD, List.getElem?_map, List.getElem?_range, hi]
  rw [e]
  exact M.decB_or _ _ _
theorem flat_ok {ds xs : List Int} (h : ctxB xs = true) : binsB (flatI (cxF xs) (cxF (decOut ds xs)) xs.length) xs.length = true := by
  obtain ⟨h1, h2⟩ := ctxB_at h
  rw [binsB, decide_eq_true h1, Bool.true_and]
  simp only [binsUp, List.all_eq_true, List.mem_range]
  intro i hi
  have h3 := flatI_at (cxF xs) (cxF (decOut ds xs)) xs.length i hi
  rw [binOk, h3.1, h3.2]
  have h4 := h2 i hi
  have h5 := decOut_bits (ds := ds) h i hi
  simp [M.inB]; omega
theorem decOut_len {ds xs : List Int} (h : ctxB xs = true) : (decOut ds xs).length = xs.length := by rw [decOut_yes h, decL_len]
/-- coded again and decoded again -/
theorem again {ds xs : List Int} (h : ctxB xs = true) (hby : ∀ i, 0 ≤ (encL (flatI (cxF xs) (cxF (decOut ds xs)) xs.length) xs.length).getD i 0 ∧ (encL (flatI (cxF xs) (cxF (decOut ds xs)) xs.length) xs.length).getD i 0 ≤ 255) :
    decOut (encL (flatI (cxF xs) (cxF (decOut ds xs)) xs.length) xs.length) xs = decOut ds xs := by
  have hr := round_list (flat_ok (ds := ds) h) [] (by rw [List.append_nil]; exact hby)
  rw [List.append_nil, ctxL_flat, bitL_flat (decOut_len h)] at hr
  exact hr

end Go.Proofs.Ytndbdfbjiaaloaa
