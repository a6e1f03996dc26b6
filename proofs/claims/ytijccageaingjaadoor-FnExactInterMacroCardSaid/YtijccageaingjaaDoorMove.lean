/- More on worlds in which a reader has moved on: they are told by grownBy, and go on through stores, appends and draws. -/
import Derived.Test.YtijccageaingjaaDoorDraw
namespace Go.Proofs.YtijccageaingjaaDoor
open Go.RowKit
set_option linter.unusedVariables false
set_option linter.unusedSimpArgs false

theorem grownBy_setCell (w : World) (a : Addr) (v : Value) : w.grownBy (w.setCell a v) (some a.block) :=
  ⟨rfl, rfl, rfl, by simp [World.setCell], fun k hk hne => Below.heap_setCell w a v k (fun e => hne (by rw [e]))⟩

/-- three cells of block g -/
def Three (w : World) (g : Nat) (u v x : Value) : Prop := g < w.heap.size ∧ w.cell? ⟨g, 0, none⟩ = some u ∧ w.cell? ⟨g, 1, none⟩ = some v ∧ w.cell? ⟨g, 2, none⟩ = some x

end Go.Proofs.YtijccageaingjaaDoor
