/- The transform of a block of sixteen numbers, two ways, by numbers. -/
import Derived.Test.YtijccageaingjaaDoorPredP
namespace Go.Proofs.YtijccageaingjaaDoor
open Go.RowKit
set_option linter.unusedVariables false
set_option linter.unusedSimpArgs false

/-- four numbers from a on, s apart, turned into their sums and differences -/
def btf (zs : List Int) (a s : Nat) : List Int :=
  (((zs.set a (zs.getD a 0 + zs.getD (a + s) 0 + zs.getD (a + 2 * s) 0 + zs.getD (a + 3 * s) 0)).set (a + s) (zs.getD a 0 + zs.getD (a + s) 0 - zs.getD (a + 2 * s) 0 - zs.getD (a + 3 * s) 0)).set (a + 2 * s) (zs.getD a 0 - zs.getD (a + s) 0 - zs.getD (a + 2 * s) 0 + zs.getD (a + 3 * s) 0)).set (a + 3 * s) (zs.getD a 0 - zs.getD (a + s) 0 + zs.getD (a + 2 * s) 0 - zs.getD (a + 3 * s) 0)
def h1 (zs : List Int) : Nat → List Int
  | 0 => zs
  | n + 1 => btf (h1 zs n) (4 * n) 1
def h2 (zs : List Int) : Nat → List Int
  | 0 => h1 zs 4
  | n + 1 => btf (h2 zs n) n 4
theorem btf_len (zs : List Int) (a s : Nat) : (btf zs a s).length = zs.length := by simp [btf]
theorem h1_len (zs : List Int) (n : Nat) : (h1 zs n).length = zs.length := by
  induction n with
  | zero => rfl
  | succ n ih => rw [h1, btf_len, ih]
theorem h2_len (zs : List Int) (n : Nat) : (h2 zs n).length = zs.length := by
  induction n with
  | zero => exact h1_len _ _
  | succ n ih => rw [h2, btf_len, ih]
def bdL (B : Int) (zs : List Int) : Prop := ∀ i, -B ≤ zs.getD i 0 ∧ zs.getD i 0 ≤ B
theorem bdL_set {B : Int} {zs : List Int} (h : bdL B zs) {i : Nat} {v : Int} (h1 : -B ≤ v) (h2 : v ≤ B) : bdL B (zs.set i v) := by
  intro j
  rw [List.getD_eq_getElem?_getD, List.getElem?_set]
  by_cases e : i = j
  · subst e
    rw [if_pos rfl]
    split
    · exact ⟨h1, h2⟩
    · have := h i
      rename_i hn
      rw [List.getD_eq_getElem?_getD, List.getElem?_eq_none (by omega)] at this
      exact this
  · rw [if_neg e, ← List.getD_eq_getElem?_getD]; exact h j
theorem bdL_mono {B C : Int} {zs : List Int} (h : bdL B zs) (hc : B ≤ C) : bdL C zs := fun i => by have := h i; omega
theorem bdL_btf {B C : Int} {zs : List Int} (h : bdL B zs) (hc : 4 * B ≤ C) (a s : Nat) : bdL C (btf zs a s) := by
  have p := h a; have q := h (a + s); have r := h (a + 2 * s); have t := h (a + 3 * s)
  unfold btf
  refine bdL_set (bdL_set (bdL_set (bdL_set (bdL_mono h (by omega)) ?_ ?_) ?_ ?_) ?_ ?_) ?_ ?_ <;> omega
theorem h1_bd {zs : List Int} (h : bdL 255 zs) : ∀ n, n ≤ 4 → bdL (255 * 4 ^ n) (h1 zs n)
  | 0, _ => h
  | n + 1, hn => bdL_btf (h1_bd h n (by omega)) (by rw [Int.pow_succ]; omega) _ _
theorem h2_bd {zs : List Int} (h : bdL 255 zs) : ∀ n, n ≤ 4 → bdL (65280 * 4 ^ n) (h2 zs n)
  | 0, _ => h1_bd h 4 (by omega)
  | n + 1, hn => bdL_btf (h2_bd h n (by omega)) (by rw [Int.pow_succ]; omega) _ _
theorem h1_bd' {zs : List Int} (h : bdL 255 zs) {n : Nat} (hn : n ≤ 4) : bdL 65280 (h1 zs n) := by
  refine bdL_mono (h1_bd h n hn) ?_
  match n, hn with
  | 0, _ => decide
  | 1, _ => decide
  | 2, _ => decide
  | 3, _ => decide
  | 4, _ => decide
theorem h2_bd' {zs : List Int} (h : bdL 255 zs) {n : Nat} (hn : n ≤ 4) : bdL 16711680 (h2 zs n) := by
  refine bdL_mono (h2_bd h n hn) ?_
  match n, hn with
  | 0, _ => decide
  | 1, _ => decide
  | 2, _ => decide
  | 3, _ => decide
  | 4, _ => decide

/-- the signs -/
def sgL : List Int := [1, 1, 1, 1, 1, 1, -1, -1, 1, -1, -1, 1, 1, -1, 1, -1]
def sg (i j : Nat) : Int := sgL.getD (4 * i + j) 0
theorem sg_bd : ∀ {i j : Nat}, i < 4 → j < 4 → sg i j = 1 ∨ sg i j = -1 := by
  intro i j hi hj
  match i, hi, j, hj with
  | 0, _, 0, _ => decide
  | 0, _, 1, _ => decide
  | 0, _, 2, _ => decide
  | 0, _, 3, _ => decide
  | 1, _, 0, _ => decide
  | 1, _, 1, _ => decide
  | 1, _, 2, _ => decide
  | 1, _, 3, _ => decide
  | 2, _, 0, _ => decide
  | 2, _, 1, _ => decide
  | 2, _, 2, _ => decide
  | 2, _, 3, _ => decide
  | 3, _, 0, _ => decide
  | 3, _, 1, _ => decide
  | 3, _, 2, _ => decide
  | 3, _, 3, _ => decide
def pn (zs : List Int) (u v : Nat) : Nat → Int
  | 0 => 0
  | k + 1 => pn zs u v k + sg u (k / 4) * sg v (k % 4) * zs.getD k 0
theorem pn_bd {zs : List Int} (h : bdL 255 zs) {u v : Nat} (hu : u < 4) (hv : v < 4) : ∀ (k : Nat), k ≤ 16 → -(255 * (k : Int)) ≤ pn zs u v k ∧ pn zs u v k ≤ 255 * (k : Int)
  | 0, _ => by simp [pn]
  | k + 1, hk => by
    have ih := pn_bd h hu hv k (by omega)
    have hz := h k
    rw [pn]
    rcases sg_bd hu (show k / 4 < 4 by omega) with e | e <;> rcases sg_bd hv (show k % 4 < 4 by omega) with e' | e' <;> rw [e, e'] <;> simp only [Int.mul_one, Int.one_mul, Int.neg_mul, Int.neg_neg] <;> omega
def apL (zs : List Int) : List Int := (List.range 16).map fun i => pn zs (i / 4) (i % 4) 16
theorem apL_len (zs : List Int) : (apL zs).length = 16 := by simp [apL]

theorem had_eq {zs : List Int} (h : zs.length = 16) : h2 zs 4 = apL zs := by
  match zs, h with
  | [a0, a1, a2, a3, a4, a5, a6, a7, a8, a9, a10, a11, a12, a13, a14, a15], _ =>
    simp only [h2, h1, btf, List.set_cons_zero, List.set_cons_succ, List.getD_cons_zero, List.getD_cons_succ, Nat.mul_zero, Nat.zero_add, Nat.mul_one, Nat.reduceMul, Nat.reduceAdd]
    rw [show apL [a0, a1, a2, a3, a4, a5, a6, a7, a8, a9, a10, a11, a12, a13, a14, a15] = [pn _ 0 0 16, pn _ 0 1 16, pn _ 0 2 16, pn _ 0 3 16, pn _ 1 0 16, pn _ 1 1 16, pn _ 1 2 16, pn _ 1 3 16, pn _ 2 0 16, pn _ 2 1 16, pn _ 2 2 16, pn _ 2 3 16, pn _ 3 0 16, pn _ 3 1 16, pn _ 3 2 16, pn _ 3 3 16] from rfl]
    simp only [pn, sg, sgL, List.getD_cons_zero, List.getD_cons_succ, Nat.reduceMul, Nat.reduceAdd, Nat.reduceDiv, Nat.reduceMod, Int.mul_one, Int.one_mul, Int.neg_mul, Int.neg_neg, Int.zero_add, Int.mul_neg]
    simp only [List.cons.injEq, and_true]
    refine ⟨?_, ?_, ?_, ?_, ?_, ?_, ?_, ?_, ?_, ?_, ?_, ?_, ?_, ?_, ?_, ?_⟩ <;> omega

/-- the difference of two blocks, and the cost -/
def dfL (xs ys : List Int) : List Int := (List.range 16).map fun i => xs.getD i 0 - ys.getD i 0
theorem dfL_len (xs ys : List Int) : (dfL xs ys).length = 16 := by simp [dfL]
theorem dfL_get (xs ys : List Int) {i : Nat} (h : i < 16) : (dfL xs ys).getD i 0 = xs.getD i 0 - ys.getD i 0 := by
  simp [dfL, List.getD_eq_getElem?_getD, h]
theorem dfL_of {xs ys zs : List Int} (hz : zs.length = 16) (h : ∀ i, i < 16 → zs.getD i 0 = xs.getD i 0 - ys.getD i 0) : zs = dfL xs ys := by
  apply List.ext_getElem?
  intro i
  by_cases hi : i < 16
  · have h1 := h i hi
    rw [← dfL_get xs ys hi] at h1
    rw [List.getD_eq_getElem?_getD, List.getD_eq_getElem?_getD, List.getElem?_eq_getElem (by omega), List.getElem?_eq_getElem (by rw [dfL_len]; omega)] at h1
    rw [List.getElem?_eq_getElem (by omega), List.getElem?_eq_getElem (by rw [dfL_len]; omega)]
    simpa using h1
  · rw [List.getElem?_eq_none (by omega), List.getElem?_eq_none (by rw [dfL_len]; omega)]
theorem smp_get {zs : List Int} (h : M.samplesB zs = true) (i : Nat) : 0 ≤ zs.getD i 0 ∧ zs.getD i 0 ≤ 255 := by
  rw [List.getD_eq_getElem?_getD]
  by_cases hi : i < zs.length
  · rw [List.getElem?_eq_getElem hi]
    have := List.all_eq_true.1 h _ (List.getElem_mem hi)
    simpa [M.inB] using this
  · rw [List.getElem?_eq_none (by omega)]; simp
theorem dfL_bd {xs ys : List Int} (hx : M.samplesB xs = true) (hy : M.samplesB ys = true) : bdL 255 (dfL xs ys) := by
  intro i
  by_cases hi : i < 16
  · rw [dfL_get _ _ hi]
    have := smp_get hx i; have := smp_get hy i
    omega
  · rw [List.getD_eq_getElem?_getD, List.getElem?_eq_none (by rw [dfL_len]; omega)]; simp
def ab (v : Int) : Int := max v (-v)
def asum (zs : List Int) : Nat → Int
  | 0 => 0
  | k + 1 => asum zs k + ab (zs.getD k 0)
theorem asum_bd {B : Int} {zs : List Int} (h : bdL B zs) : ∀ k : Nat, 0 ≤ asum zs k ∧ asum zs k ≤ B * (k : Int)
  | 0 => by simp [asum]
  | k + 1 => by
    have ih := asum_bd h k
    have hz := h k
    rw [asum, Int.natCast_succ, Int.mul_add]
    unfold ab
    omega
def tcV (xs ys : List Int) : Int := if M.samplesB xs = true ∧ M.samplesB ys = true then asum (h2 (dfL xs ys) 4) 16 / 4 else -1
theorem tcV_bd (xs ys : List Int) : -1 ≤ tcV xs ys ∧ tcV xs ys ≤ 66846720 := by
  unfold tcV
  split
  · rename_i h
    have := asum_bd (h2_bd' (dfL_bd h.1 h.2) (show 4 ≤ 4 by omega)) 16
    omega
  · omega

end Go.Proofs.YtijccageaingjaaDoor
