/- Blockiness by lists: a sum over edges, with no program in sight. -/
import Derived.Test.YtobphddjoebfjaaVecM
namespace Go.Proofs.Ytobphddjoebfjaa
open Go.RowKit
set_option linter.unusedVariables false
set_option linter.unusedSimpArgs false

def sumN (f : Nat → Int) : Nat → Int
  | 0 => 0
  | n + 1 => sumN f n + f n
theorem sumN_congr {f g : Nat → Int} (n : Nat) (h : ∀ k, k < n → f k = g k) : sumN f n = sumN g n := by
  induction n with
  | zero => rfl
  | succ n ih => rw [sumN, sumN, ih (fun k hk => h k (by omega)), h n (by omega)]
theorem sumN_add (f g : Nat → Int) (n : Nat) : sumN (fun k => f k + g k) n = sumN f n + sumN g n := by
  induction n with
  | zero => rfl
  | succ n ih => simp only [sumN]; omega
theorem sumN_zero (n : Nat) : sumN (fun _ => 0) n = 0 := by
  induction n with
  | zero => rfl
  | succ n ih => simp only [sumN]; omega
theorem sumN_swap (f : Nat → Nat → Int) (m n : Nat) : sumN (fun y => sumN (fun x => f x y) n) m = sumN (fun x => sumN (fun y => f x y) m) n := by
  induction m with
  | zero => simp only [sumN]; rw [sumN_zero]
  | succ m ih => simp only [sumN]; rw [ih, ← sumN_add]
theorem sumN_le {f g : Nat → Int} (n : Nat) (h : ∀ k, k < n → f k ≤ g k) : sumN f n ≤ sumN g n := by
  induction n with
  | zero => exact Int.le_refl _
  | succ n ih => have := ih (fun k hk => h k (by omega)); have := h n (by omega); simp only [sumN]; omega
theorem sumN_bd {f : Nat → Int} {m : Int} (n : Nat) (h : ∀ k, k < n → 0 ≤ f k ∧ f k ≤ m) : 0 ≤ sumN f n ∧ sumN f n ≤ m * n := by
  induction n with
  | zero => simp [sumN]
  | succ n ih => have h1 := ih (fun k hk => h k (by omega)); have h2 := h n (by omega); simp only [sumN]; rw [Int.natCast_succ, Int.mul_add]; omega
/-- every fourth but the first -/
def every4 (f : Nat → Int) (x : Nat) : Int := if 0 < x ∧ x % 4 = 0 then f x else 0
theorem sumN_4 (f : Nat → Int) (m : Nat) : sumN (every4 f) (4 * (m + 1)) = sumN (fun j => f (4 * (j + 1))) m := by
  induction m with
  | zero => simp [sumN, every4]
  | succ m ih =>
    rw [show 4 * (m + 1 + 1) = 4 * (m + 1) + 1 + 1 + 1 + 1 by omega]
    simp only [sumN]
    rw [ih]
    have h0 : every4 f (4 * (m + 1)) = f (4 * (m + 1)) := by rw [every4, if_pos (by omega)]
    have h1 : every4 f (4 * (m + 1) + 1) = 0 := by rw [every4, if_neg (by omega)]
    have h2 : every4 f (4 * (m + 1) + 2) = 0 := by rw [every4, if_neg (by omega)]
    have h3 : every4 f (4 * (m + 1) + 3) = 0 := by rw [every4, if_neg (by omega)]
    omega

/-- the difference of two samples -/
def difZ (zs : List Int) (p : Nat × Nat) : Int := max (zs.getD p.1 0 - zs.getD (p.1 - p.2) 0) (zs.getD (p.1 - p.2) 0 - zs.getD p.1 0)
def totZ (zs : List Int) : List (Nat × Nat) → Int
  | [] => 0
  | p :: l => difZ zs p + totZ zs l
theorem totZ_app (zs : List Int) (l m : List (Nat × Nat)) : totZ zs (l ++ m) = totZ zs l + totZ zs m := by
  induction l with
  | nil => simp [totZ]
  | cons p l ih => simp only [List.cons_append, totZ]; omega
theorem totZ_one (zs : List Int) (p : Nat × Nat) : totZ zs [p] = difZ zs p := by simp [totZ]

/-! the edges, in the program's order -/
def rowE (w y : Nat) : Nat → List (Nat × Nat)
  | 0 => []
  | m + 1 => rowE w y m ++ [(y * w + 4 * (m + 1), 1)]
def vertE (w : Nat) : Nat → List (Nat × Nat)
  | 0 => []
  | y + 1 => vertE w y ++ rowE w y (w / 4 - 1)
def colE (w x : Nat) : Nat → List (Nat × Nat)
  | 0 => []
  | m + 1 => colE w x m ++ [(4 * (m + 1) * w + x, w)]
def horE (w h : Nat) : Nat → List (Nat × Nat)
  | 0 => []
  | x + 1 => horE w h x ++ colE w x (h / 4 - 1)
def edgE (w h : Nat) : List (Nat × Nat) := vertE w h ++ horE w h w

theorem rowE_pre (w y : Nat) : ∀ {t u : Nat}, t ≤ u → rowE w y t <+: rowE w y u
  | t, 0, h => by obtain rfl : t = 0 := by omega
                  exact List.prefix_refl _
  | t, u + 1, h => by
    by_cases e : t = u + 1
    · rw [e]; exact List.prefix_refl _
    · exact (rowE_pre w y (by omega)).trans (List.prefix_append _ _)
theorem vertE_pre (w : Nat) : ∀ {t u : Nat}, t ≤ u → vertE w t <+: vertE w u
  | t, 0, h => by obtain rfl : t = 0 := by omega
                  exact List.prefix_refl _
  | t, u + 1, h => by
    by_cases e : t = u + 1
    · rw [e]; exact List.prefix_refl _
    · exact (vertE_pre w (by omega)).trans (List.prefix_append _ _)
theorem colE_pre (w x : Nat) : ∀ {t u : Nat}, t ≤ u → colE w x t <+: colE w x u
  | t, 0, h => by obtain rfl : t = 0 := by omega
                  exact List.prefix_refl _
  | t, u + 1, h => by
    by_cases e : t = u + 1
    · rw [e]; exact List.prefix_refl _
    · exact (colE_pre w x (by omega)).trans (List.prefix_append _ _)
theorem horE_pre (w h : Nat) : ∀ {t u : Nat}, t ≤ u → horE w h t <+: horE w h u
  | t, 0, h => by obtain rfl : t = 0 := by omega
                  exact List.prefix_refl _
  | t, u + 1, h => by
    by_cases e : t = u + 1
    · rw [e]; exact List.prefix_refl _
    · exact (horE_pre w _ (by omega)).trans (List.prefix_append _ _)
theorem vert_item {w h y m : Nat} (hy : y < h) (hm : m < w / 4 - 1) : (vertE w y ++ rowE w y m) ++ [(y * w + 4 * (m + 1), 1)] <+: edgE w h := by
  refine (List.IsPrefix.trans ?_ (vertE_pre w (show y + 1 ≤ h by omega))).trans (List.prefix_append _ _)
  rw [vertE, List.append_assoc]
  refine (List.prefix_append_right_inj _).2 ?_
  have := rowE_pre w y (show m + 1 ≤ w / 4 - 1 by omega)
  rwa [rowE] at this
theorem hor_item {w h x m : Nat} (hx : x < w) (hm : m < h / 4 - 1) : (vertE w h ++ (horE w h x ++ colE w x m)) ++ [(4 * (m + 1) * w + x, w)] <+: edgE w h := by
  rw [edgE, List.append_assoc]
  refine (List.prefix_append_right_inj _).2 (List.IsPrefix.trans ?_ (horE_pre w h (show x + 1 ≤ w by omega)))
  rw [horE, List.append_assoc]
  refine (List.prefix_append_right_inj _).2 ?_
  have := colE_pre w x (show m + 1 ≤ h / 4 - 1 by omega)
  rwa [colE] at this

theorem tot_row (zs : List Int) (w y m : Nat) : totZ zs (rowE w y m) = sumN (fun j => difZ zs (y * w + 4 * (j + 1), 1)) m := by
  induction m with
  | zero => rfl
  | succ m ih => rw [rowE, totZ_app, totZ_one, ih]; rfl
theorem tot_vert (zs : List Int) (w n : Nat) : totZ zs (vertE w n) = sumN (fun y => totZ zs (rowE w y (w / 4 - 1))) n := by
  induction n with
  | zero => rfl
  | succ n ih => rw [vertE, totZ_app, ih]; rfl
theorem tot_col (zs : List Int) (w x m : Nat) : totZ zs (colE w x m) = sumN (fun j => difZ zs (4 * (j + 1) * w + x, w)) m := by
  induction m with
  | zero => rfl
  | succ m ih => rw [colE, totZ_app, totZ_one, ih]; rfl
theorem tot_hor (zs : List Int) (w h n : Nat) : totZ zs (horE w h n) = sumN (fun x => totZ zs (colE w x (h / 4 - 1))) n := by
  induction n with
  | zero => rfl
  | succ n ih => rw [horE, totZ_app, ih]; rfl

/-- the reference's order: sample by sample -/
def vEdge (zs : List Int) (w x y : Nat) : Int := every4 (fun x => difZ zs (y * w + x, 1)) x
def hEdge (zs : List Int) (w x y : Nat) : Int := every4 (fun y => difZ zs (y * w + x, w)) y
def specBl (zs : List Int) (w h : Nat) : Int := sumN (fun y => sumN (fun x => vEdge zs w x y + hEdge zs w x y) w) h
theorem spec_edges {zs : List Int} {w h : Nat} (hw : w % 4 = 0 ∧ 4 ≤ w) (hh : h % 4 = 0 ∧ 4 ≤ h) : specBl zs w h = totZ zs (edgE w h) := by
  obtain ⟨m, rfl⟩ : ∃ m, w = 4 * (m + 1) := ⟨w / 4 - 1, by omega⟩
  obtain ⟨k, rfl⟩ : ∃ k, h = 4 * (k + 1) := ⟨h / 4 - 1, by omega⟩
  rw [specBl, edgE, totZ_app, tot_vert, tot_hor, show 4 * (m + 1) / 4 - 1 = m by omega, show 4 * (k + 1) / 4 - 1 = k by omega]
  have e1 : sumN (fun y => sumN (fun x => vEdge zs (4 * (m + 1)) x y + hEdge zs (4 * (m + 1)) x y) (4 * (m + 1))) (4 * (k + 1)) = sumN (fun y => sumN (fun x => vEdge zs (4 * (m + 1)) x y) (4 * (m + 1))) (4 * (k + 1)) + sumN (fun y => sumN (fun x => hEdge zs (4 * (m + 1)) x y) (4 * (m + 1))) (4 * (k + 1)) := by
    rw [← sumN_add]; exact sumN_congr _ (fun y _ => sumN_add _ _ _)
  rw [e1, sumN_swap (fun x y => hEdge zs (4 * (m + 1)) x y)]
  congr 1
  · refine sumN_congr _ (fun y _ => ?_)
    rw [tot_row]; exact sumN_4 (fun x => difZ zs (y * (4 * (m + 1)) + x, 1)) m
  · refine sumN_congr _ (fun x _ => ?_)
    rw [tot_col]; exact sumN_4 (fun y => difZ zs (y * (4 * (m + 1)) + x, 4 * (m + 1))) k
theorem difZ_bd {zs : List Int} (h : M.samplesB zs = true) (p : Nat × Nat) : 0 ≤ difZ zs p ∧ difZ zs p ≤ 255 := by
  have h1 : ∀ i, 0 ≤ zs.getD i 0 ∧ zs.getD i 0 ≤ 255 := fun i => by
    rw [List.getD_eq_getElem?_getD]
    by_cases hi : i < zs.length
    · rw [List.getElem?_eq_getElem hi, Option.getD_some]
      have := List.all_eq_true.1 h _ (List.getElem_mem hi)
      simpa [M.inB] using this
    · rw [List.getElem?_eq_none (by omega)]; simp
  have := h1 p.1; have := h1 (p.1 - p.2)
  unfold difZ
  omega
theorem totZ_bd {zs : List Int} (h : M.samplesB zs = true) : ∀ l : List (Nat × Nat), 0 ≤ totZ zs l ∧ totZ zs l ≤ 255 * l.length
  | [] => by simp [totZ]
  | p :: l => by have h1 := totZ_bd h l; have h2 := difZ_bd h p; simp only [totZ, List.length_cons, Int.natCast_succ, Int.mul_add]; omega

theorem edgE_len (w h : Nat) : (edgE w h).length = h * (w / 4 - 1) + w * (h / 4 - 1) := by
  have h1 : ∀ y m, (rowE w y m).length = m := fun y m => by
    induction m with
    | zero => rfl
    | succ m ih => simp [rowE, ih]
  have h2 : ∀ n, (vertE w n).length = n * (w / 4 - 1) := fun n => by
    induction n with
    | zero => simp [vertE]
    | succ n ih => rw [vertE, List.length_append, h1, ih, Nat.add_mul, Nat.one_mul]
  have h3 : ∀ x m, (colE w x m).length = m := fun x m => by
    induction m with
    | zero => rfl
    | succ m ih => simp [colE, ih]
  have h4 : ∀ n, (horE w h n).length = n * (h / 4 - 1) := fun n => by
    induction n with
    | zero => simp [horE]
    | succ n ih => rw [horE, List.length_append, h3, ih, Nat.add_mul, Nat.one_mul]
  rw [edgE, List.length_append, h2, h4]
theorem edgE_few {w h : Nat} (hw : w ≤ 32) (hh : h ≤ 32) : (edgE w h).length ≤ 448 := by
  rw [edgE_len]
  have := Nat.mul_le_mul hh (show w / 4 - 1 ≤ 7 by omega)
  have := Nat.mul_le_mul hw (show h / 4 - 1 ≤ 7 by omega)
  omega

/-- an edge's sample and how far the one before it is -/
abbrev EE (N : Nat) := { p : Int × Int // 1 ≤ p.2 ∧ p.2 ≤ p.1 ∧ p.1 < (N : Int) }
abbrev eEnc {N : Nat} (x : EE N) : Array Value := #[.int .i64 x.1.1, .int .i64 x.1.2]
abbrev els {N : Nat} (l : List (EE N)) : List (Nat × Nat) := l.map fun x => (x.1.1.toNat, x.1.2.toNat)

end Go.Proofs.Ytobphddjoebfjaa
