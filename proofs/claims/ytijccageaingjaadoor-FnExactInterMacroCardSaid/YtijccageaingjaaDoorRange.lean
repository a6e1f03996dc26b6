/- A loop over an iterator, its variable in a box; blocks of cells. -/
import Derived.Test.YtijccageaingjaaDoorBase
import Derived.RangeFuncNested
import Derived.RangeFuncBound
import Derived.RangeFuncCalls
import Derived.RangeFuncLeaves
import Derived.Shelf.Abstract
import Derived.Shelf.RegionOpen
import Derived.WalkKit
import Derived.OwnWalkIn
import Derived.TacticsInMore
import Derived.LoopNIn
import Derived.LoopIn
namespace Go.Proofs.YtijccageaingjaaDoor
open Go.RowKit Go.Shelf
set_option linter.unusedVariables false
set_option linter.unusedSimpArgs false

/-- block k holds these cells -/
def Blk (W : World) (k : Nat) (cs : Array Value) (t : TypeId) : Prop := W.heap[k]? = some (.cells cs t (0, 0))
theorem Blk.lt {W : World} {k : Nat} {cs : Array Value} {t : TypeId} (h : Blk W k cs t) : k < W.heap.size := (Array.getElem?_eq_some_iff.1 h).1
theorem Blk.get {W : World} {k i : Nat} {cs : Array Value} {t : TypeId} {v : Value} (h : Blk W k cs t) (hi : cs[i]? = some v) : W.cell? ⟨k, i, none⟩ = some v := by
  simp [World.cell?, show W.heap[k]? = _ from h, hi]
theorem Blk.hot {W : World} {k : Nat} {cs : Array Value} {t : TypeId} (h : Blk W k cs t) (i : Nat) : W.frozen? ⟨k, i, none⟩ = false := by
  simp [World.frozen?, show W.heap[k]? = _ from h]
theorem Blk.new (W : World) (cs : Array Value) (t : TypeId) (g : Nat) (hg : g = W.heap.size) : Blk (W.alloc (.cells cs t)) g cs t := by subst hg; exact World.alloc_heap_new W _
theorem Blk.alloc {W : World} {k : Nat} {cs : Array Value} {t : TypeId} (h : Blk W k cs t) (o : Obj) : Blk (W.alloc o) k cs t := (Below.heap_alloc W o k h.lt).trans h
theorem Blk.adds {W : World} {k : Nat} {cs : Array Value} {t : TypeId} (h : Blk W k cs t) (os : Array Obj) (n : Nat) : Blk (addsW W os n) k cs t := (heap_addsW W os n k h.lt).trans h
theorem Blk.drew {W : World} {k : Nat} {cs : Array Value} {t : TypeId} (h : Blk W k cs t) : Blk W.drew k cs t := h
theorem Blk.other {W : World} {k : Nat} {cs : Array Value} {t : TypeId} (h : Blk W k cs t) {q : Addr} (hq : k ≠ q.block) (u : Value) : Blk (W.setCell q u) k cs t := (Below.heap_setCell W q u k hq).trans h
theorem Blk.set {W : World} {k : Nat} {cs : Array Value} {t : TypeId} (h : Blk W k cs t) (i : Nat) (u : Value) : Blk (W.setCell ⟨k, i, none⟩ u) k (cs.setIfInBounds i u) t := by
  obtain ⟨hlt, hk⟩ := Array.getElem?_eq_some_iff.1 h
  show (W.heap.modify k _)[k]? = _
  rw [Array.getElem?_eq_getElem (by rw [Array.size_modify]; exact hlt), Array.getElem_modify_self, hk]
  rfl
theorem Blk.below {W W' : World} {B k : Nat} {cs : Array Value} {t : TypeId} (h : Blk W k cs t) (hb : Below B W W') (hk : k < B) : Blk W' k cs t := (hb.block k hk).trans h
theorem Blk.kept {W W' : World} {row : Option Nat} {k : Nat} {cs : Array Value} {t : TypeId} (h : Blk W k cs t) (hg : W.grownBy W' row) (hr : ∀ r, row = some r → ∃ o : Obj, W.heap[r]? = some o ∧ o.isCells = false) : Blk W' k cs t :=
  (hg.block k h.lt (fun e => by obtain ⟨o, ho, hc⟩ := hr k e.symm; rw [show W.heap[k]? = _ from h] at ho; cases ho; cases hc)).trans h
theorem blk_own {β : Type} (B k : Nat) (cs : β → Array Value) (t : TypeId) : OwnFrom B (fun s W => Blk W k (cs s) t) := fun s X Y row hs hg hr => hs.kept hg (fun r e => (hr r e).2)
theorem Blk.put {W : World} {k : Nat} {cs : Array Value} {t : TypeId} (h : Blk W k cs t) {l : Nat} {o : Obj} (o' : Obj) (hl : W.heap[l]? = some o) (ho : o.isCells = false) : Blk (W.putObj l o') k cs t :=
  h.kept (grownBy_putObj' W l o') (fun r e => by cases e; exact ⟨o, hl, ho⟩)
theorem keepsFrom_below {B : Nat} {W W' : World} (h : Below W.heap.size W W') : KeepsFrom B W W' := ⟨h.size, fun k o _ hk _ => (h.block k (Array.getElem?_eq_some_iff.1 hk).1).trans hk⟩
theorem KeepsFrom.set {B : Nat} {W W' : World} (h : KeepsFrom B W W') (a : Addr) (v : Value) : KeepsFrom B W (W'.setCell a v) := h.trans ((KeepsOthers.setCell W' a v).from B)
theorem all_add {P : Program} {C : Code} {Q : Exit → Act → World → Prop} {a : Act} {Y : World} {oo : Array Obj} {nn : Nat}
    (H : ∀ (X : World) (oo : Array Obj) (nn : Nat), X = addsW Y oo nn → Code.wp P C Q a X) : Code.wp P C Q a (addsW Y oo nn) := H _ _ _ rfl

variable {F : Fence} {n : Nat} {P : Program}
/-- one loop variable, which the assign code puts into a new block -/
theorem wpIn_rangeFunc_box {α : Type} {g : Operand} {p k : Nat} {assign body : Code} {Q : Exit → Act → World → Prop} {a : Act} {w : World}
    (hro : F.round = none) (h1 : 1 ≤ n) {gf : Nat} {lb : Array Value} (hg : a.eval g = .func (.func gf) #[] lb) (hFg : F.fn gf) (eg : ∀ args w, (callFunc gf args).run P w = .ok (.enter gf args) w)
    {enc : α → Value} {Kp : World → World → Prop} {S Sp : List α → Prop} {N : Nat} {w0 : World} (hseq : SeqStopsK F (n - 1) P gf lb (fun x => #[enc x]) Kp S Sp N w0)
    (hKt : ∀ {A B C : World}, Kp A B → Kp B C → Kp A C) (hKb : ∀ (W : World) (l : Nat) (o o' : Obj), w.heap.size ≤ l → W.heap[l]? = some o → o.isCells = false → o.isWalk = false → Kp W (W.putObj l o')) (hb0 : Below w0.heap.size w0 w)
    (I : List α → World → Prop) (Ix : Code → List α → World → Prop) (hI : OwnFrom w.heap.size I) (hIx : ∀ c, OwnFrom w.heap.size (Ix c)) (h0 : I [] w) (Bd : α → Nat → World → Prop) (hBd : ∀ x Bx, OwnFrom w.heap.size (fun (_ : Unit) W => Bd x Bx W))
    (hassign : ∀ (l : Nat) (pre : List α) (x : α) (W : World) (K : Act → World → Prop), I pre W → (∀ Bx W', KeepsFrom w.heap.size W W' → Kp W W' → I pre W' → Bd x Bx W' → K { tmps := (a.tmps.setIfInBounds p (enc x)).setIfInBounds k (.pointer (some ⟨Bx, 0, none⟩)), defers := [] } W') →
      assign.wpIn (F.inRound l) (n - 1 - 1) P (Exit.then K (fun _ _ _ => False)) { tmps := a.tmps.setIfInBounds p (enc x), defers := [] } W)
    (hbody : ∀ (l : Nat) (pre : List α) (x : α) (Bx : Nat) (W : World), w.heap.size ≤ l → I pre W → Bd x Bx W → pre.length < N → body.wpIn (F.inRound l) (n - 1 - 1) P (ownPostG w.heap.size Kp I Ix (pre ++ [x]) W) { tmps := (a.tmps.setIfInBounds p (enc x)).setIfInBounds k (.pointer (some ⟨Bx, 0, none⟩)), defers := [] } W)
    (hdone : ∀ (D : Nat) (xs : List α) (W : World), w.heap.size ≤ D → S xs → I xs W → W.heap[D]? = some (.deferred (some [])) → Q .normal { a with defers := { target := .collected D, args := #[] } :: a.defers } W)
    (hstop : ∀ (D : Nat) (c : Code) (pre : List α) (W : World), w.heap.size ≤ D → Sp pre → Ix c pre W → W.heap[D]? = some (.deferred (some [])) → c.wpIn F n P Q { a with defers := { target := .collected D, args := #[] } :: a.defers } W) :
    (Code.rangeFunc g #[p] assign body).wpIn F n P Q a w := by
  refine wpIn_rangeFunc_ownH hro h1 hg hFg eg hseq hKt hKb hb0 (fun _ => rfl) I Ix hI hIx h0
    (fun x a' W => ∃ Bx, Bd x Bx W ∧ a' = { tmps := (a.tmps.setIfInBounds p (enc x)).setIfInBounds k (.pointer (some ⟨Bx, 0, none⟩)), defers := [] })
    (fun x a' s X Y row hs hg hr => by obtain ⟨Bx, h1, h2⟩ := hs; exact ⟨Bx, hBd x Bx () X Y row h1 hg hr, h2⟩) ?_ ?_ hdone hstop
  · intro l pre x W K hi hK
    have e : ((#[p] : Array Tmp).zip #[enc x]).foldl (fun t (p, v) => t.setIfInBounds p v) a.tmps = a.tmps.setIfInBounds p (enc x) := by simp
    rw [e]
    exact hassign l pre x W K hi (fun Bx W' h1 h2 h3 h4 => hK _ _ h1 h2 h3 ⟨Bx, h4, rfl⟩)
  · rintro l pre x a' W hl _ hi ⟨Bx, hb, rfl⟩ hlt
    exact hbody l pre x Bx W hl hi hb hlt

end Go.Proofs.YtijccageaingjaaDoor
