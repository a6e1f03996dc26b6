/- The best vector: by lists and orders, with no program in sight. -/
import Derived.Test.YtobphddjoebfjaaCostM
namespace Go.Proofs.Ytobphddjoebfjaa
open Go.RowKit
set_option linter.unusedVariables false
set_option linter.unusedSimpArgs false

def absI (x : Int) : Int := max x (-x)
def vab (p : Int × Int) : Int := absI p.1 + absI p.2
/-- the order of vectors of equal cost -/
def vord (p q : Int × Int) : Prop := vab p < vab q ∨ (vab p = vab q ∧ (p.2 < q.2 ∨ (p.2 = q.2 ∧ p.1 < q.1)))
instance (p q : Int × Int) : Decidable (vord p q) := by unfold vord; infer_instance
def vlt (f : Int × Int → Int) (p q : Int × Int) : Prop := f p < f q ∨ (f p = f q ∧ vord p q)
def inSq (n : Int) (p : Int × Int) : Prop := -n ≤ p.1 ∧ p.1 ≤ n ∧ -n ≤ p.2 ∧ p.2 ≤ n
instance (n : Int) (p : Int × Int) : Decidable (inSq n p) := by unfold inSq; infer_instance
def IsBest (f : Int × Int → Int) (S : Int × Int → Prop) (p : Int × Int) : Prop := S p ∧ ∀ q, S q → q = p ∨ vlt f p q
theorem vord_asymm {p q : Int × Int} (h : vord p q) (h' : vord q p) : False := by unfold vord at *; omega
theorem vord_trans {p q r : Int × Int} (h : vord p q) (h' : vord q r) : vord p r := by unfold vord at *; omega
theorem vlt_asymm {f : Int × Int → Int} {p q : Int × Int} (h : vlt f p q) (h' : vlt f q p) : False := by
  unfold vlt at *
  rcases h with h | ⟨h1, h2⟩
  · rcases h' with h' | ⟨h3, h4⟩ <;> omega
  · rcases h' with h' | ⟨h3, h4⟩
    · omega
    · exact vord_asymm h2 h4
theorem vlt_trans {f : Int × Int → Int} {p q r : Int × Int} (h : vlt f p q) (h' : vlt f q r) : vlt f p r := by
  unfold vlt at *
  rcases h with h | ⟨h1, h2⟩
  · rcases h' with h' | ⟨h3, h4⟩
    · exact .inl (by omega)
    · exact .inl (by omega)
  · rcases h' with h' | ⟨h3, h4⟩
    · exact .inl (by omega)
    · exact .inr ⟨by omega, vord_trans h2 h4⟩
theorem best_unique {f : Int × Int → Int} {S : Int × Int → Prop} {p q : Int × Int} (hp : IsBest f S p) (hq : IsBest f S q) : p = q := by
  rcases hp.2 q hq.1 with e | h1
  · exact e.symm
  · rcases hq.2 p hp.1 with e | h2
    · exact e
    · exact (vlt_asymm h1 h2).elim
theorem IsBest.congr {f : Int × Int → Int} {S S' : Int × Int → Prop} {p : Int × Int} (h : IsBest f S p) (hs : ∀ q, S' q ↔ S q) : IsBest f S' p :=
  ⟨(hs p).2 h.1, fun q hq => h.2 q ((hs q).1 hq)⟩
/-- one more vector is looked at -/
theorem IsBest.more {f : Int × Int → Int} {S S' : Int × Int → Prop} {p v : Int × Int} (h : IsBest f S p) (hs : ∀ q, S' q ↔ (S q ∨ q = v)) (hlt : vlt f v p) : IsBest f S' v :=
  ⟨(hs v).2 (.inr rfl), fun q hq => by
    rcases (hs q).1 hq with h1 | h1
    · rcases h.2 q h1 with e | h2
      · exact .inr (by rw [e]; exact hlt)
      · exact .inr (vlt_trans hlt h2)
    · exact .inl h1⟩
theorem IsBest.keep {f : Int × Int → Int} {S S' : Int × Int → Prop} {p v : Int × Int} (h : IsBest f S p) (hs : ∀ q, S' q ↔ (S q ∨ q = v)) (hlt : v = p ∨ vlt f p v) : IsBest f S' p :=
  ⟨(hs p).2 (.inl h.1), fun q hq => by
    rcases (hs q).1 hq with h1 | h1
    · exact h.2 q h1
    · rw [h1]; exact hlt⟩

/-- the program's search: the first vector of the least cost -/
def foldV (f : Int × Int → Int) : List (Int × Int) → (Int × Int) × Int → (Int × Int) × Int
  | [], s => s
  | v :: l, s => foldV f l (if s.2 < 0 ∨ f v < s.2 then (v, f v) else s)
def bestL (f : Int × Int → Int) (l : List (Int × Int)) : (Int × Int) × Int := foldV f l ((0, 0), -1)
theorem foldV_app (f : Int × Int → Int) (l m : List (Int × Int)) (s : (Int × Int) × Int) : foldV f (l ++ m) s = foldV f m (foldV f l s) := by
  induction l generalizing s with
  | nil => rfl
  | cons v l ih => exact ih _
theorem bestL_snoc (f : Int × Int → Int) (l : List (Int × Int)) (v : Int × Int) : bestL f (l ++ [v]) = if (bestL f l).2 < 0 ∨ f v < (bestL f l).2 then (v, f v) else bestL f l := by
  unfold bestL; rw [foldV_app]; rfl
theorem foldV_best {f : Int × Int → Int} (hf : ∀ p, 0 ≤ f p) : ∀ (l pre : List (Int × Int)) (p : Int × Int), (pre ++ l).Pairwise vord → IsBest f (· ∈ pre) p →
    ∃ q, foldV f l (p, f p) = (q, f q) ∧ IsBest f (· ∈ pre ++ l) q
  | [], pre, p, _, h => ⟨p, rfl, by rw [List.append_nil]; exact h⟩
  | v :: l, pre, p, hs, h => by
    have e : pre ++ v :: l = (pre ++ [v]) ++ l := by simp
    have hs' := hs
    rw [e] at hs'
    have hpv : vord p v := (List.pairwise_append.1 hs).2.2 p h.1 v (by simp)
    have hm : ∀ q, q ∈ pre ++ [v] ↔ (q ∈ pre ∨ q = v) := fun q => by simp
    have hp0 := hf p
    rw [e]
    by_cases hc : f v < f p
    · have := foldV_best hf l (pre ++ [v]) v hs' (h.more hm (.inl hc))
      rw [foldV, if_pos (.inr hc)]
      exact this
    · have := foldV_best hf l (pre ++ [v]) p hs' (h.keep hm (.inr (by
        by_cases he : f p = f v
        · exact .inr ⟨he, hpv⟩
        · exact .inl (by omega))))
      rw [foldV, if_neg (by simp only; omega)]
      exact this
theorem bestL_best {f : Int × Int → Int} (hf : ∀ p, 0 ≤ f p) {l : List (Int × Int)} (hs : l.Pairwise vord) (hne : l ≠ []) : ∃ q, bestL f l = (q, f q) ∧ IsBest f (· ∈ l) q := by
  cases l with
  | nil => exact (hne rfl).elim
  | cons v l =>
    have := foldV_best hf l [v] v hs ⟨by simp, fun q hq => .inl (by simpa using hq)⟩
    exact this
/-- the search may stop at the cost 0 -/
theorem bestL_stop {f : Int × Int → Int} (hf : ∀ p, 0 ≤ f p) {l pre : List (Int × Int)} (hs : l.Pairwise vord) (hp : pre <+: l) (hz : (bestL f pre).2 = 0) : IsBest f (· ∈ l) (bestL f pre).1 := by
  obtain ⟨t, rfl⟩ := hp
  cases pre with
  | nil => simp [bestL, foldV] at hz
  | cons v pre =>
    obtain ⟨q, e, hb⟩ := bestL_best hf (List.pairwise_append.1 hs).1 (l := v :: pre) (by simp)
    rw [e] at hz ⊢
    simp only at hz ⊢
    refine ⟨List.mem_append.2 (.inl hb.1), fun r hr => ?_⟩
    rcases List.mem_append.1 hr with h1 | h1
    · exact hb.2 r h1
    · have := (List.pairwise_append.1 hs).2.2 q hb.1 r h1
      have h0 := hf r
      refine .inr ?_
      by_cases he : f q = f r
      · exact .inr ⟨he, this⟩
      · exact .inl (by omega)

/-! the order in which the program looks at the vectors -/
def itemV (n : Nat) (s : Nat) (y : Int) : List (Int × Int) :=
  if (n : Int) < (s : Int) - absI y then [] else if 0 < (s : Int) - absI y then [(-((s : Int) - absI y), y), ((s : Int) - absI y, y)] else [(-((s : Int) - absI y), y)]
def rowV (n s : Nat) : Nat → List (Int × Int)
  | 0 => []
  | t + 1 => rowV n s t ++ itemV n s (-((min s n : Nat) : Int) + (t : Int))
def vecsU (n : Nat) : Nat → List (Int × Int)
  | 0 => []
  | s + 1 => vecsU n s ++ rowV n s (2 * min s n + 1)
def vecsL (n : Nat) : List (Int × Int) := vecsU n (2 * n + 1)
def pairB : List (Int × Int) → Bool
  | [] => true
  | x :: xs => xs.all (fun y => decide (vord x y)) && pairB xs
theorem pairB_iff : ∀ {l : List (Int × Int)}, pairB l = true → l.Pairwise vord
  | [], _ => .nil
  | x :: xs, h => by
    simp only [pairB, Bool.and_eq_true, List.all_eq_true, decide_eq_true_eq] at h
    exact .cons h.1 (pairB_iff h.2)
def vecsB (n : Nat) : Bool := pairB (vecsL n) && (vecsL n).all (fun p => decide (inSq n p)) && (List.range (2 * n + 1)).all fun i => (List.range (2 * n + 1)).all fun j => (vecsL n).contains ((i : Int) - (n : Int), (j : Int) - (n : Int))
theorem vecs_ok : ((List.range 9).all vecsB) = true := by decide +kernel
theorem vecs_facts {n : Nat} (h : n ≤ 8) : (vecsL n).Pairwise vord ∧ ∀ p, p ∈ vecsL n ↔ inSq n p := by
  have := List.all_eq_true.1 vecs_ok n (List.mem_range.2 (by omega))
  simp only [vecsB, Bool.and_eq_true, List.all_eq_true, decide_eq_true_eq, List.contains_iff_mem, List.mem_range] at this
  obtain ⟨⟨h1, h2⟩, h3⟩ := this
  refine ⟨pairB_iff h1, fun p => ⟨h2 p, fun hp => ?_⟩⟩
  obtain ⟨x, y⟩ := p
  unfold inSq at hp
  simp only at hp
  have := h3 (x + n).toNat (by omega) (y + n).toNat (by omega)
  rw [show ((x + n).toNat : Int) - n = x by omega, show ((y + n).toNat : Int) - n = y by omega] at this
  exact this

theorem itemV_sq {n s : Nat} {y : Int} : ∀ p ∈ itemV n s y, True := fun _ _ => trivial
theorem rowV_pre (n s : Nat) : ∀ {t u : Nat}, t ≤ u → rowV n s t <+: rowV n s u
  | t, 0, h => by obtain rfl : t = 0 := by omega
                  exact List.prefix_refl _
  | t, u + 1, h => by
    rcases Nat.lt_or_ge u t with h1 | h1
    · obtain rfl : t = u + 1 := by omega
      exact List.prefix_refl _
    · exact (rowV_pre n s h1).trans (List.prefix_append _ _)
theorem vecsU_pre (n : Nat) : ∀ {t u : Nat}, t ≤ u → vecsU n t <+: vecsU n u
  | t, 0, h => by obtain rfl : t = 0 := by omega
                  exact List.prefix_refl _
  | t, u + 1, h => by
    rcases Nat.lt_or_ge u t with h1 | h1
    · obtain rfl : t = u + 1 := by omega
      exact List.prefix_refl _
    · exact (vecsU_pre n h1).trans (List.prefix_append _ _)
theorem vecs_pre {n s t : Nat} (hs : s < 2 * n + 1) (ht : t < 2 * min s n + 1) : vecsU n s ++ rowV n s (t + 1) <+: vecsL n :=
  ((List.prefix_append_right_inj _).2 (rowV_pre n s (by omega))).trans (vecsU_pre n (t := s + 1) (by omega))

/-- the answer of a search -/
def VBest (f : Int × Int → Int) (ok : Bool) (n : Int) (p : Int × Int) : Prop := (ok = true → IsBest f (inSq n) p) ∧ (ok = false → p = (0, 0))
theorem VBest.unique {f : Int × Int → Int} {ok : Bool} {n : Int} {p q : Int × Int} (hp : VBest f ok n p) (hq : VBest f ok n q) : p = q := by
  cases ok with
  | false => rw [hp.2 rfl, hq.2 rfl]
  | true => exact best_unique (hp.1 rfl) (hq.1 rfl)
def cst (a b : Int) (ts rs : List Int) (x y : Int) (p : Int × Int) : Int := cost a b ts rs x y p.1 p.2

end Go.Proofs.Ytobphddjoebfjaa
