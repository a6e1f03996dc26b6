/- The edges of a block as eleven cells. -/
import Derived.Test.YtijccageaingjaaDoorRange
import Derived.Test.YtijccageaingjaaDoorAgg
import Derived.Test.YtijccageaingjaaDoorMove
import Derived.Test.YtijccageaingjaaDoorNew
namespace Go.Proofs.YtijccageaingjaaDoor
open Go.RowKit
set_option linter.unusedVariables false
set_option linter.unusedSimpArgs false

/-- the eleven cells of the edges -/
def eA (f g : Nat → Int) (c : Int) (u l : Bool) : Array Value :=
  #[.int .i64 (f 0), .int .i64 (f 1), .int .i64 (f 2), .int .i64 (f 3), .int .i64 (g 0), .int .i64 (g 1), .int .i64 (g 2), .int .i64 (g 3), .int .i64 c, .bool u, .bool l]

def upd (f : Nat → Int) (k : Nat) (v : Int) : Nat → Int := fun i => if i = k then v else f i

theorem eA_up {f g : Nat → Int} {c : Int} {u l : Bool} {k : Nat} (h : k < 4) : (eA f g c u l)[k]? = some (.int .i64 (f k)) := by
  match k, h with
  | 0, _ => rfl
  | 1, _ => rfl
  | 2, _ => rfl
  | 3, _ => rfl

theorem eA_left {f g : Nat → Int} {c : Int} {u l : Bool} {k : Nat} (h : k < 4) : (eA f g c u l)[4 + k]? = some (.int .i64 (g k)) := by
  match k, h with
  | 0, _ => rfl
  | 1, _ => rfl
  | 2, _ => rfl
  | 3, _ => rfl

theorem eA_setU {f g : Nat → Int} {c : Int} {u l : Bool} {k : Nat} (h : k < 4) (v : Int) : (eA f g c u l).setIfInBounds k (.int .i64 v) = eA (upd f k v) g c u l := by
  match k, h with
  | 0, _ => simp [eA, upd]
  | 1, _ => simp [eA, upd]
  | 2, _ => simp [eA, upd]
  | 3, _ => simp [eA, upd]

theorem eA_setL {f g : Nat → Int} {c : Int} {u l : Bool} {k : Nat} (h : k < 4) (v : Int) : (eA f g c u l).setIfInBounds (4 + k) (.int .i64 v) = eA f (upd g k v) c u l := by
  match k, h with
  | 0, _ => simp [eA, upd]
  | 1, _ => simp [eA, upd]
  | 2, _ => simp [eA, upd]
  | 3, _ => simp [eA, upd]

theorem upd_ok {f F : Nat → Int} {k : Nat} (h : ∀ i, i < k → f i = F i) {v : Int} (hv : v = F k) : ∀ i, i < k + 1 → upd f k v i = F i := fun i hi => by
  unfold upd
  by_cases e : i = k
  · rw [if_pos e, e, hv]
  · rw [if_neg e]; exact h i (by omega)

theorem upd_low {f F : Nat → Int} {k : Nat} (h : ∀ i, i < k → f i = F i) (v : Int) : ∀ i, i < k → upd f k v i = F i := fun i hi => by
  unfold upd
  rw [if_neg (by omega)]; exact h i hi

def e0 : Array Value := eA (fun _ => 0) (fun _ => 0) 0 false false

theorem Blk.put11 {W : World} {k : Nat} {t : TypeId} (h : Blk W k e0 t) (f g : Nat → Int) (c : Int) (u l : Bool) : Blk (((((((((((W.setCell ⟨k, 0, none⟩ (.int .i64 (f 0))).setCell ⟨k, 1, none⟩ (.int .i64 (f 1))).setCell ⟨k, 2, none⟩ (.int .i64 (f 2))).setCell ⟨k, 3, none⟩ (.int .i64 (f 3))).setCell ⟨k, 4, none⟩ (.int .i64 (g 0))).setCell ⟨k, 5, none⟩ (.int .i64 (g 1))).setCell ⟨k, 6, none⟩ (.int .i64 (g 2))).setCell ⟨k, 7, none⟩ (.int .i64 (g 3))).setCell ⟨k, 8, none⟩ (.int .i64 c)).setCell ⟨k, 9, none⟩ (.bool u)).setCell ⟨k, 10, none⟩ (.bool l)) k (eA f g c u l) t := by
  have := (((((((((((h.set 0 (.int .i64 (f 0))).set 1 (.int .i64 (f 1))).set 2 (.int .i64 (f 2))).set 3 (.int .i64 (f 3))).set 4 (.int .i64 (g 0))).set 5 (.int .i64 (g 1))).set 6 (.int .i64 (g 2))).set 7 (.int .i64 (g 3))).set 8 (.int .i64 c)).set 9 (.bool u)).set 10 (.bool l))
  have e : (((((((((((e0.setIfInBounds 0 (.int .i64 (f 0))).setIfInBounds 1 (.int .i64 (f 1))).setIfInBounds 2 (.int .i64 (f 2))).setIfInBounds 3 (.int .i64 (f 3))).setIfInBounds 4 (.int .i64 (g 0))).setIfInBounds 5 (.int .i64 (g 1))).setIfInBounds 6 (.int .i64 (g 2))).setIfInBounds 7 (.int .i64 (g 3))).setIfInBounds 8 (.int .i64 c)).setIfInBounds 9 (.bool u)).setIfInBounds 10 (.bool l)) = eA f g c u l := by simp [e0, eA]
  rw [e] at this
  exact this

theorem drewNb (w : World) (m : Nat) : Below w.heap.size w (w.drewN m) := ⟨rfl, rfl, rfl, Nat.le_refl _, fun _ _ => rfl⟩

theorem all_add' {P : Program} {C : Code} {Q : Exit → Act → World → Prop} {a : Act} {W : World}
    (H : ∀ (X : World), X = W → Code.wp P C Q a X) : Code.wp P C Q a W := H _ rfl

end Go.Proofs.YtijccageaingjaaDoor
