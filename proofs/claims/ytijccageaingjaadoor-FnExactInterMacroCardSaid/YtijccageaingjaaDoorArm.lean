/- Laws of single operations on whole arrays and structs, for the arms of a walk. Nothing here speaks of a program. -/
import Derived.Test.YtijccageaingjaaDoorAgg
import Derived.Test.YtijccageaingjaaDoorNew
namespace Go.Proofs.YtijccageaingjaaDoor
open Go.RowKit
set_option linter.unusedVariables false
set_option linter.unusedSimpArgs false

section
variable {P : Program}
theorem wpList_wanted {ops : Array Oper} {rest : List Oper} {o : Oper} {a : Act} {w : World} {Q : Exit → Act → World → Prop} (hw : Region.wanted o (yielded ops a.tmps) = true)
    (h : ∀ K : Act → World → Prop, (∀ a w, wpList P ops Q rest a w → K a w) → o.wp P a w K Q) : wpList P ops Q (o :: rest) a w :=
  wpList_step fun K hK => by rw [if_pos hw]; exact h K hK
theorem wp_eql_agg {o : Oper} {a : Act} {w : World} {K : Act → World → Prop} {Q : Exit → Act → World → Prop} (t ty : TypeId) (x y : Operand) (ho : o.op = .binOp .eql t x y ty)
    (xs ys : Array Value) (hx : a.eval x = .agg xs) (hy : a.eval y = .agg ys) (hm : P.eqGuardType P.depth t = false) (b : Bool) (hb : (Op.equalIn 10000 t (.agg xs) (.agg ys)).run P w = .ok b w)
    (h : K (a.put o.dst (.bool b)) w) : o.wp P a w K Q := by
  have h1 := run_eqGuard_agg (P := P) w .eql t x y xs ys hm
  have h2 := run_eql_struct (P := P) w t xs ys
  rw [hb] at h2
  unfold Oper.wp execOp
  simp only [ho, hx, hy, Sem.run_bind, Sem.run_pure, h1, h2, Result.andThen_ok]
  exact h
theorem wp_neq_agg {o : Oper} {a : Act} {w : World} {K : Act → World → Prop} {Q : Exit → Act → World → Prop} (t ty : TypeId) (x y : Operand) (ho : o.op = .binOp .neq t x y ty)
    (xs ys : Array Value) (hx : a.eval x = .agg xs) (hy : a.eval y = .agg ys) (hm : P.eqGuardType P.depth t = false) (b : Bool) (hb : (Op.equalIn 10000 t (.agg xs) (.agg ys)).run P w = .ok b w)
    (h : K (a.put o.dst (.bool (!b))) w) : o.wp P a w K Q := by
  have h1 := run_eqGuard_agg (P := P) w .neq t x y xs ys hm
  have h2 := run_neq_struct (P := P) w t xs ys
  rw [hb] at h2
  unfold Oper.wp execOp
  simp only [ho, hx, hy, Sem.run_bind, Sem.run_pure, h1, h2, Result.andThen_ok]
  exact h
end
section
variable {P : Program}
theorem run_index_int (w : World) (t e : TypeId) (n : Nat) (ht : P.underlying t = some (.array n e)) (he : P.underlying e = some (.int .i64)) (hsz : (sizeOf e).run P w = .ok 1 w) (zs : List Int) (k : Nat) (hk : k < n) (hl : zs.length = n) :
    (Instr.index t (.agg (rowI zs)) (.int .i64 (k : Int))).run P w = .ok (.int .i64 (zs.getD k 0)) w := by
  have hp := run_part_int (P := P) w e he zs k (by omega)
  simp [Instr.index, asIntOf, Sem.run_bind, run_underlying ht, hk, hsz, hp]
theorem run_index_sub (w : World) (t e : TypeId) (n s : Nat) (d : TypeDesc) (ht : P.underlying t = some (.array n e)) (hu : P.underlying e = some d) (hd : (match d with | .struct _ | .array _ _ => true | _ => false) = true) (hi : (P.info? e).map (·.size) = some s) (zs : List Int) (k : Nat) (hk : k < n) :
    (Instr.index t (.agg (rowI zs)) (.int .i64 (k : Int))).run P w = .ok (.agg (rowI (sub zs (k * s) s))) w := by
  have hp := run_part_sub (P := P) w e d s hu hd hi zs (k * s)
  have hsz : (sizeOf e).run P w = .ok s w := by
    cases hq : P.info? e with
    | none => simp [hq] at hi
    | some i =>
      have : i.size = s := by simpa [hq] using hi
      simp [sizeOf, typeInfo, hq, this]
  simp [Instr.index, asIntOf, Sem.run_bind, run_underlying ht, hk, hsz, hp]
end
theorem heap_alloc_at (X : World) (o : Obj) (g : Nat) (h : g = X.heap.size) : (X.alloc o).heap[g]? = some o := by subst h; exact heap_alloc_new _ _
theorem wp_store_new {P : Program} {o : Oper} {a : Act} {W : World} {K : Act → World → Prop} {Q : Exit → Act → World → Prop} (ty : TypeId) (x y : Operand) (ho : o.op = .store ty x y)
    (g : Nat) (cells : Array Value) (hx : a.eval x = .pointer (some ⟨g, 0, none⟩)) (hy : a.eval y = .agg cells) (t : TypeId) (old : Array Value) (hg : g = W.heap.size)
    (hi : (P.info? ty).map (·.size) = some cells.size) (hold : old.size = cells.size) (h1 : cells.all (·.oneCell') = true)
    (h : K (a.put o.dst undef) (W.alloc (.cells cells t))) : o.wp P a (W.alloc (.cells old t)) K Q := by
  refine wp_store_row ty x y ho g cells hx hy t old (heap_alloc_at _ _ _ hg) hi hold h1 ?_
  rw [setRow_alloc _ _ _ _ _ hg]
  exact h

end Go.Proofs.YtijccageaingjaaDoor
