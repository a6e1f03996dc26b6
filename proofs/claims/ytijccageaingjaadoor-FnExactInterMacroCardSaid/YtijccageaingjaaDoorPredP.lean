/- Predictions of a block from its edges, by numbers. -/
import Derived.Test.YtijccageaingjaaDoorEdA
namespace Go.Proofs.YtijccageaingjaaDoor
open Go.RowKit
set_option linter.unusedVariables false
set_option linter.unusedSimpArgs false

def mT (u l : Bool) (f g : Nat → Int) : Nat → Int
  | 0 => 0
  | n + 1 => mT u l f g n + (if u then f n else 0) + (if l then g n else 0)
def mN (u l : Bool) (n : Int) : Int := (if u then n else 0) + (if l then n else 0)
/-- the mean of what is there -/
def mV (u l : Bool) (f g : Nat → Int) : Int :=
  if u then (if l then (mT u l f g 4 + 4) / 8 else (mT u l f g 4 + 2) / 4) else (if l then (mT u l f g 4 + 2) / 4 else 128)
def eOk (f g : Nat → Int) (c : Int) : Prop := (∀ i, i < 4 → 0 ≤ f i ∧ f i ≤ 255) ∧ (∀ i, i < 4 → 0 ≤ g i ∧ g i ≤ 255) ∧ 0 ≤ c ∧ c ≤ 255
theorem mT_bd {u l : Bool} {f g : Nat → Int} {c : Int} (h : eOk f g c) {n : Nat} (hn : n ≤ 4) : 0 ≤ mT u l f g n ∧ mT u l f g n ≤ 510 * n := by
  induction n with
  | zero => simp [mT]
  | succ n ih =>
    have h1 := ih (by omega)
    have h2 := h.1 n (by omega)
    have h3 := h.2.1 n (by omega)
    rw [mT, Int.natCast_succ, Int.mul_add]
    cases u <;> cases l <;> simp <;> omega
/-- the border from the lowest left sample over the corner to the last one above -/
def bo (f g : Nat → Int) (c : Int) (k : Nat) : Int := if k < 4 then g (3 - k) else if k = 4 then c else f (k - 5)
theorem bo_bd {f g : Nat → Int} {c : Int} (h : eOk f g c) {k : Nat} (hk : k < 9) : 0 ≤ bo f g c k ∧ bo f g c k ≤ 255 := by
  unfold bo
  split
  · exact h.2.1 _ (by omega)
  · split
    · exact h.2.2
    · exact h.1 _ (by omega)
def diV (f g : Nat → Int) (c : Int) (x y : Nat) : Int := (bo f g c (3 + x - y) + 2 * bo f g c (4 + x - y) + bo f g c (5 + x - y) + 2) / 4
def plV (f g : Nat → Int) (c : Int) (x y : Nat) : Int := min (max (f x + g y - c) 0) 255
def pS (m : Nat) (f g : Nat → Int) (c : Int) (u l : Bool) (x y : Nat) : Int :=
  match m with
  | 0 => mV u l f g
  | 1 => f x
  | 2 => g y
  | 3 => diV f g c x y
  | _ => plV f g c x y
def pL (m : Nat) (f g : Nat → Int) (c : Int) (u l : Bool) : List Int := (List.range 16).map fun i => pS m f g c u l (i % 4) (i / 4)
theorem pL_len (m : Nat) (f g : Nat → Int) (c : Int) (u l : Bool) : (pL m f g c u l).length = 16 := by simp [pL]
theorem pL_get (m : Nat) (f g : Nat → Int) (c : Int) (u l : Bool) {i : Nat} (h : i < 16) : (pL m f g c u l).getD i 0 = pS m f g c u l (i % 4) (i / 4) := by
  simp [pL, List.getD_eq_getElem?_getD, h]
theorem pS_bd {m : Nat} {f g : Nat → Int} {c : Int} {u l : Bool} (h : eOk f g c) {x y : Nat} (hx : x < 4) (hy : y < 4) : 0 ≤ pS m f g c u l x y ∧ pS m f g c u l x y ≤ 255 := by
  unfold pS
  split
  · have h1 := mT_bd (u := u) (l := l) h (show 4 ≤ 4 by decide)
    unfold mV
    have h2 : l = false → mT u l f g 4 ≤ 1020 := by
      intro e; subst e
      have := h.1 0 (by omega); have := h.1 1 (by omega); have := h.1 2 (by omega); have := h.1 3 (by omega)
      cases u <;> simp [mT] <;> omega
    have h3 : u = false → mT u l f g 4 ≤ 1020 := by
      intro e; subst e
      have := h.2.1 0 (by omega); have := h.2.1 1 (by omega); have := h.2.1 2 (by omega); have := h.2.1 3 (by omega)
      cases l <;> simp [mT] <;> omega
    cases u <;> cases l <;> simp at h1 h2 h3 ⊢ <;> omega
  · exact h.1 x hx
  · exact h.2.1 y hy
  · have h1 := bo_bd h (show 3 + x - y < 9 by omega)
    have h2 := bo_bd h (show 4 + x - y < 9 by omega)
    have h3 := bo_bd h (show 5 + x - y < 9 by omega)
    unfold diV
    omega
  · unfold plV; omega

end Go.Proofs.YtijccageaingjaaDoor
