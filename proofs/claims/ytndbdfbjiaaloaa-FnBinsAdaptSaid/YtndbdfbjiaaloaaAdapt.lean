/- A thousand equal decisions: how many bytes they become. -/
import Derived.Test.YtndbdfbjiaaloaaEncI
namespace Go.Proofs.Ytndbdfbjiaaloaa
open Go.RowKit
set_option linter.unusedVariables false
set_option linter.unusedSimpArgs false

/-- span, probability and bytes behind k decisions b in one context -/
def ad (b : Int) : Nat → Int × Int × Nat
  | 0 => (4294967295, 2048, 0)
  | k + 1 => (M.cutS (ad b k).1 (ad b k).2.1 b * 256 ^ M.nrm (M.cutS (ad b k).1 (ad b k).2.1 b), M.chance (ad b k).2.1 b, (ad b k).2.2 + M.nrm (M.cutS (ad b k).1 (ad b k).2.1 b))
/-- the same, carried along -/
def adT (b : Int) : Nat → Int → Int → Nat → Int × Int × Nat
  | 0, s, p, n => (s, p, n)
  | k + 1, s, p, n => adT b k (M.cutS s p b * 256 ^ M.nrm (M.cutS s p b)) (M.chance p b) (n + M.nrm (M.cutS s p b))
theorem adT_step (b : Int) (k : Nat) (s p : Int) (n : Nat) : adT b (k + 1) s p n = (M.cutS (adT b k s p n).1 (adT b k s p n).2.1 b * 256 ^ M.nrm (M.cutS (adT b k s p n).1 (adT b k s p n).2.1 b), M.chance (adT b k s p n).2.1 b, (adT b k s p n).2.2 + M.nrm (M.cutS (adT b k s p n).1 (adT b k s p n).2.1 b)) := by
  induction k generalizing s p n with
  | zero => rfl
  | succ k ih => rw [adT, ih]; rfl
theorem ad_eq (b : Int) (k : Nat) : ad b k = adT b k 4294967295 2048 0 := by
  induction k with
  | zero => rfl
  | succ k ih => rw [ad, ih, adT_step]
set_option maxRecDepth 1000000 in
theorem ad_small : (adT 0 1000 4294967295 2048 0).2.2 < 36 ∧ (adT 1 1000 4294967295 2048 0).2.2 < 36 := by decide +kernel
theorem encK_ad {c b : Int} {C B : Nat → Int} (hc : 0 ≤ c ∧ c < 40) (k : Nat) (h : ∀ i, i < k → C i = c ∧ B i = b) : (M.encK C B k).s = (ad b k).1 ∧ (M.encK C B k).ch.getD c.toNat 0 = (ad b k).2.1 ∧ (M.encK C B k).n = (ad b k).2.2 ∧ (M.encK C B k).ch.length = 40 := by
  induction k with
  | zero =>
    refine ⟨rfl, ?_, rfl, by simp [M.encK, M.enc0]⟩
    show (List.replicate 40 (2048 : Int)).getD c.toNat 0 = 2048
    rw [List.getD_eq_getElem?_getD, List.getElem?_replicate, if_pos (by omega)]; rfl
  | succ k ih =>
    obtain ⟨h1, h2, h3, h4⟩ := ih fun i hi => h i (by omega)
    obtain ⟨e1, e2⟩ := h k (by omega)
    simp only [M.encK, M.enc1, ad]
    rw [e1, e2, h1, h2, h3]
    refine ⟨rfl, ?_, rfl, by rw [List.length_set]; exact h4⟩
    rw [List.getD_eq_getElem?_getD, List.getElem?_set, if_pos rfl, if_pos (by omega)]; rfl

/-- k times the numbers c, b -/
def flat2 (c b : Int) : Nat → List Int
  | 0 => []
  | k + 1 => flat2 c b k ++ [c, b]
theorem flat2_len (c b : Int) (k : Nat) : (flat2 c b k).length = k * 2 := by
  induction k with
  | zero => rfl
  | succ k ih => rw [flat2, List.length_append, ih]; simp; omega
theorem flat2_at (c b : Int) (k i : Nat) (h : i < k) : (flat2 c b k).getD (i * 2) 0 = c ∧ (flat2 c b k).getD (i * 2 + 1) 0 = b := by
  induction k with
  | zero => omega
  | succ k ih =>
    have hl := flat2_len c b k
    simp only [flat2, List.getD_eq_getElem?_getD]
    by_cases e : i < k
    · rw [List.getElem?_append_left (by omega), List.getElem?_append_left (by omega)]
      have := ih e
      simpa only [List.getD_eq_getElem?_getD] using this
    · obtain rfl : i = k := by omega
      rw [List.getElem?_append_right (by omega), List.getElem?_append_right (by omega), hl]
      simp
theorem encL_flat {c b : Int} (hc : 0 ≤ c ∧ c < 40) (hb : b = 0 ∨ b = 1) : 4 ≤ (encL (flat2 c b 1000) 1000).length ∧ (encL (flat2 c b 1000) 1000).length < 40 := by
  have hv : binsB (flat2 c b 1000) 1000 = true := by
    simp only [binsB, binsUp, Bool.and_eq_true, decide_eq_true_eq, List.all_eq_true, List.mem_range]
    refine ⟨by omega, fun i hi => ?_⟩
    obtain ⟨h1, h2⟩ := flat2_at c b 1000 i hi
    rw [binOk, h1, h2]
    rcases hb with rfl | rfl <;> simp [M.inB] <;> omega
  have hk := encK_ad (C := bnC (flat2 c b 1000)) (B := bnB (flat2 c b 1000)) hc 1000 (fun i hi => flat2_at c b 1000 i hi)
  rw [encL, if_pos hv, M.encBytes, M.dig_len, hk.2.2.1, ad_eq]
  have := ad_small
  rcases hb with rfl | rfl <;> omega

end Go.Proofs.Ytndbdfbjiaaloaa
