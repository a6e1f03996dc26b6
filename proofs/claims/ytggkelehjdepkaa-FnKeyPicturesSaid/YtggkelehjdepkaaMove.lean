/- More on worlds in which a reader has moved on: they are told by grownBy, and go on through stores, appends and draws. -/
import Derived.Test.YtggkelehjdepkaaDraw
namespace Go.Proofs.Ytggkelehjdepkaa
open Go.RowKit
set_option linter.unusedVariables false
set_option linter.unusedSimpArgs false

theorem moved_grown {W w' : World} {B p K : Nat} (h : Moved W B p K w') : W.grownBy w' (some B) := by
  obtain ⟨p', os, k, hp, rfl⟩ := h
  refine ⟨rfl, rfl, rfl, by simp [addsW, World.setCell], fun j hj hne => ?_⟩
  rw [heap_addsW _ _ _ _ (by simpa [World.setCell] using hj)]
  exact Below.heap_setCell W _ _ j (fun e => hne (by rw [e]))
theorem moved_block {W w' : World} {B p K : Nat} (hB : B < W.heap.size) (h : Moved W B p K w') : ∃ p', p' ≤ p + K ∧ w'.heap[B]? = (W.setCell ⟨B, 1, none⟩ (.int .i64 (p' : Int))).heap[B]? := by
  obtain ⟨p', os, k, hp, rfl⟩ := h
  exact ⟨p', hp, heap_addsW _ _ _ _ (by simpa [World.setCell] using hB)⟩
theorem moved_mk {W w' : World} {B p K p' : Nat} (hp : p' ≤ p + K) (g : W.grownBy w' (some B)) (hb : w'.heap[B]? = (W.setCell ⟨B, 1, none⟩ (.int .i64 (p' : Int))).heap[B]?) : Moved W B p K w' := by
  have hb' : Below (W.setCell ⟨B, 1, none⟩ (.int .i64 (p' : Int))).heap.size (W.setCell ⟨B, 1, none⟩ (.int .i64 (p' : Int))) w' := by
    refine ⟨g.os, g.tape, g.output, by simpa [World.setCell] using g.size, fun k hk => ?_⟩
    by_cases e : k = B
    · subst e; exact hb
    · rw [g.block k (by simpa [World.setCell] using hk) (fun h => e (by injection h)), Below.heap_setCell W _ _ k e]
  obtain ⟨os, n, rfl⟩ := below_adds hb'
  exact ⟨p', os, n, hp, rfl⟩
theorem Moved.size {W w' : World} {B p K : Nat} (h : Moved W B p K w') : W.heap.size ≤ w'.heap.size := (moved_grown h).size
theorem Moved.step {W w' w'' : World} {B p K : Nat} {row : Option Nat} (hB : B < W.heap.size) (h : Moved W B p K w') (g : w'.grownBy w'' row) (hr : ∀ k, row = some k → W.heap.size ≤ k) : Moved W B p K w'' := by
  have hs := h.size
  have g0 := moved_grown h
  obtain ⟨p', hp, hb⟩ := moved_block hB h
  refine moved_mk hp ⟨g.os.trans g0.os, g.tape.trans g0.tape, g.output.trans g0.output, Nat.le_trans hs g.size, fun k hk hne => ?_⟩ ?_
  · exact (g.block k (by omega) (fun e => by have := hr k e.symm; omega)).trans (g0.block k hk hne)
  · exact (g.block B (by omega) (fun e => by have := hr B e.symm; omega)).trans hb
theorem grownBy_setCell (w : World) (a : Addr) (v : Value) : w.grownBy (w.setCell a v) (some a.block) :=
  ⟨rfl, rfl, rfl, by simp [World.setCell], fun k hk hne => Below.heap_setCell w a v k (fun e => hne (by rw [e]))⟩
theorem Moved.own {W w' : World} {B p K : Nat} (hB : B < W.heap.size) (h : Moved W B p K w') {a : Addr} (ha : W.heap.size ≤ a.block) (v : Value) : Moved W B p K (w'.setCell a v) :=
  h.step hB (grownBy_setCell w' a v) (fun k e => by injection e with e; omega)
theorem Moved.belo {W w' w'' : World} {B p K : Nat} (hB : B < W.heap.size) (h : Moved W B p K w') (hb : Below w'.heap.size w' w'') : Moved W B p K w'' :=
  h.step hB (row := none) ⟨hb.os, hb.tape, hb.output, hb.size, fun k hk _ => hb.block k hk⟩ (fun k e => by cases e)
theorem Moved.at_ {W w' : World} {B p K : Nat} (hR : RdAt W B p) (h : Moved W B p K w') : ∃ p', p' ≤ p + K ∧ RdAt w' B p' := by
  obtain ⟨p', os, k, hp, rfl⟩ := h
  exact ⟨p', hp, (hR.set p').adds os k⟩
theorem Moved.trans {W w1 w2 : World} {B p p1 K K' K'' : Nat} (hB : B < W.heap.size) (h : Moved W B p K w1) (h2 : Moved w1 B p1 K' w2) (hp : p1 + K' ≤ p + K'') : Moved W B p K'' w2 := by
  have g1 := moved_grown h
  have g2 := moved_grown h2
  have hs := g1.size
  obtain ⟨q1, _, hb1⟩ := moved_block hB h
  obtain ⟨q2, hq2, hb2⟩ := moved_block (by omega) h2
  refine moved_mk (p' := q2) (by omega) ⟨g2.os.trans g1.os, g2.tape.trans g1.tape, g2.output.trans g1.output, Nat.le_trans hs g2.size, fun k hk hne => ?_⟩ ?_
  · exact (g2.block k (by omega) hne).trans (g1.block k hk hne)
  · rw [hb2]
    simp only [World.setCell, Array.getElem?_modify, if_true] at hb1 ⊢
    rw [hb1]
    cases W.heap[B]? with
    | none => rfl
    | some o => cases o <;> simp <;> split <;> simp
theorem Moved.weak {W w' : World} {B p K K' : Nat} (h : Moved W B p K w') (hK : K ≤ K') : Moved W B p K' w' := by
  obtain ⟨p', os, k, hp, rfl⟩ := h
  exact ⟨p', os, k, by omega, rfl⟩
theorem Moved.again {W w1 : World} {B p K K' q : Nat} (hB : B < W.heap.size) (h : Moved W B p K w1) (hq : q ≤ p + K') : Moved W B p K' (w1.setCell ⟨B, 1, none⟩ (.int .i64 (q : Int))) :=
  h.trans hB (Moved.base (p := q) (K := 0) (Nat.le_refl _)) (by omega)
theorem Moved.start {W : World} {B p : Nat} (hR : RdAt W B p) (K : Nat) : Moved W B p K W := by
  have := Moved.base (W := W) (B := B) (p := p) (K := K) (p' := p) (by omega)
  rw [rd_same hR] at this
  exact this
theorem Moved.oldcell {W w' : World} {B p K : Nat} (h : Moved W B p K w') {a : Addr} (ha : a.block < W.heap.size) (hne : a.block ≠ B) : w'.cell? a = W.cell? a :=
  World.cell?_of_block (w := W) ((moved_grown h).block _ ha (fun e => hne (by injection e)))
theorem Moved.oldfrozen {W w' : World} {B p K : Nat} (h : Moved W B p K w') {a : Addr} (ha : a.block < W.heap.size) (hne : a.block ≠ B) : w'.frozen? a = W.frozen? a :=
  World.frozen?_of_block (w := W) ((moved_grown h).block _ ha (fun e => hne (by injection e)))
theorem RdAt.grown {w w' : World} {B p : Nat} {row : Option Nat} (h : RdAt w B p) (g : w.grownBy w' row) (hr : ∀ k, row = some k → B < k) : RdAt w' B p :=
  h.keep fun k hk => g.block k (by have := h.lt; omega) (fun e => by have := hr k e.symm; omega)

/-- three cells of block g -/
def Three (w : World) (g : Nat) (u v x : Value) : Prop := g < w.heap.size ∧ w.cell? ⟨g, 0, none⟩ = some u ∧ w.cell? ⟨g, 1, none⟩ = some v ∧ w.cell? ⟨g, 2, none⟩ = some x

end Go.Proofs.Ytggkelehjdepkaa
