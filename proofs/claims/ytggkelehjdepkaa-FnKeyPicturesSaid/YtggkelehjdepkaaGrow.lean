/- Worlds that have grown, lists in them. -/
import Derived.Test.YtggkelehjdepkaaSoft
import Derived.Test.YtggkelehjdepkaaApp
namespace Go.Proofs.Ytggkelehjdepkaa
open Go.RowKit
set_option linter.unusedVariables false
set_option linter.unusedSimpArgs false

theorem own_made_g (W : World) (cur : Array Value) (e : TypeId) (cap g : Nat) (hg : g = W.heap.size) (hm : cap ≤ maxLen) (hs : cur.size = cap * 1) : (W.alloc (.cells cur e)).ownsRow W.heap.size e 1 (.slice (some ⟨g, 0, none⟩) 0 cap) 0 [] := by
  subst hg; exact World.ownsRow_made (base := W.heap.size) (e := e) (size := 1) W cur cap (Nat.le_refl _) hm hs
theorem app_go {W0 W' w1 : World} {base E n s : Nat} {row : Option Nat} {v' : Value} {xs : List Value} (hown : w1.ownsRow base E s v' n xs) (hg : W'.grownBy w1 row) (hb : Below W0.heap.size W0 W') (hr : ∀ k, row = some k → W0.heap.size ≤ k) :
    ∃ (A : Option Addr) (c : Nat) (oo : Array Obj) (nn : Nat), v' = .slice A n c ∧ w1 = addsW W0 oo nn ∧ (addsW W0 oo nn).ownsRow base E s (.slice A n c) n xs := by
  obtain ⟨oo, nn, h⟩ := below_adds (hb.grown hg hb.size hr)
  obtain ⟨A, c, e, _⟩ := own_shape hown
  subst e
  subst h
  exact ⟨A, c, oo, nn, rfl, rfl, hown⟩
theorem Soft.of_own {w : World} {base E s n : Nat} {A : Option Addr} {m c : Nat} {xs : List Value} (h : w.ownsRow base E s (.slice A m c) n xs) : Soft w A := fun d hd => by
  obtain ⟨hl, h⟩ := h
  rcases h with ⟨h, _⟩ | ⟨g, cap, cur, h, hb, hg, _⟩
  · injection h with h; rw [h] at hd; cases hd
  · injection h with h; rw [h] at hd; cases hd; exact ⟨cur, E, hg⟩
theorem Soft.new_ {w : World} (cur : Array Value) (t g : Nat) (hg : g = w.heap.size) : Soft (w.alloc (.cells cur t)) (some ⟨g, 0, none⟩) := fun d hd => by
  subst hg; cases hd; exact ⟨cur, t, heap_alloc_new w _⟩
theorem below_more (w : World) (os os' : Array Obj) (n n' : Nat) : Below (addsW w os n).heap.size (addsW w os n) (addsW w (os ++ os') n') := by
  rw [← adds_addsW]; exact addsW_below _ _ _
theorem own_lit_g (W : World) (e : TypeId) (g : Nat) (hg : g = W.heap.size) : (W.alloc (.cells #[] e)).ownsRow W.heap.size e 1 (.slice (some ⟨g, 0, none⟩) 0 0) 0 [] := by
  subst hg; exact World.ownsRow_lit (base := W.heap.size) (e := e) (size := 1) W #[] 0 (Nat.le_refl _) (by decide) rfl
theorem alloc_as (w : World) (o : Obj) : w.alloc o = addsW w #[o] w.drawn := by
  show (⟨w.heap.push o, w.tape, w.drawn, w.os, w.output⟩ : World) = ⟨w.heap ++ #[o], w.tape, w.drawn, w.os, w.output⟩
  rw [Array.push_eq_append]

end Go.Proofs.Ytggkelehjdepkaa
