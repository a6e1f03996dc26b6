/- Arrays and structs all of whose cells are ints: read, written and compared in parts. Nothing here speaks of a program. -/
import Derived.WalkKit
import Derived.Laws.Rows
import Derived.Laws.Tables
import Derived.Laws.StructEq
import Derived.OpenShut
namespace Go.Proofs.YtijccageaingjaaDoor
open Go.RowKit
set_option linter.unusedVariables false
set_option linter.unusedSimpArgs false

/-- the cells of such a value -/
def rowI (zs : List Int) : Array Value := (zs.map (Value.int .i64)).toArray
theorem rowI_size (zs : List Int) : (rowI zs).size = zs.length := by simp [rowI]
theorem rowI_get {zs : List Int} {j : Nat} (h : j < zs.length) : (rowI zs)[j]? = some (.int .i64 (zs.getD j 0)) := by
  simp [rowI, List.getD_eq_getElem?_getD, h]
theorem rowI_set (zs : List Int) (j : Nat) (v : Int) : (rowI zs).setIfInBounds j (.int .i64 v) = rowI (zs.set j v) := by
  simp [rowI, List.map_set]
theorem rowI_one (zs : List Int) : (rowI zs).all (·.oneCell') = true := by
  rw [Array.all_eq_true_iff_forall_mem]
  intro v hv
  simp only [rowI, List.mem_toArray, List.mem_map] at hv
  obtain ⟨z, -, rfl⟩ := hv
  rfl
/-- s numbers from o on -/
def sub (zs : List Int) (o s : Nat) : List Int := (zs.drop o).take s
theorem sub_len {zs : List Int} {o s : Nat} (h : o + s ≤ zs.length) : (sub zs o s).length = s := by simp [sub]; omega
theorem sub_at {zs : List Int} {o s i : Nat} (h : i < s) : (sub zs o s).getD i 0 = zs.getD (o + i) 0 := by
  simp [sub, List.getD_eq_getElem?_getD, List.getElem?_take, List.getElem?_drop, h]
theorem sub_all (zs : List Int) : sub zs 0 zs.length = zs := by simp [sub]
/-- xs in place of what stands from o on -/
def spl (zs : List Int) (o : Nat) (xs : List Int) : List Int := zs.take o ++ xs ++ zs.drop (o + xs.length)
theorem spl_len {zs xs : List Int} {o : Nat} (h : o + xs.length ≤ zs.length) : (spl zs o xs).length = zs.length := by simp [spl]; omega
theorem spl_in {zs xs : List Int} {o i : Nat} (h : o + xs.length ≤ zs.length) (h1 : o ≤ i) (h2 : i < o + xs.length) : (spl zs o xs).getD i 0 = xs.getD (i - o) 0 := by
  have e : (zs.take o).length = o := by simp; omega
  rw [spl, List.getD_eq_getElem?_getD, List.getElem?_append_left (by simp [e]; omega), List.getElem?_append_right (by omega), e, ← List.getD_eq_getElem?_getD]
theorem spl_out {zs xs : List Int} {o i : Nat} (h : o + xs.length ≤ zs.length) (h1 : i < o ∨ o + xs.length ≤ i) : (spl zs o xs).getD i 0 = zs.getD i 0 := by
  have e : (zs.take o).length = o := by simp; omega
  rw [spl, List.getD_eq_getElem?_getD, List.getD_eq_getElem?_getD]
  rcases h1 with h1 | h1
  · rw [List.getElem?_append_left (by simp [e]; omega), List.getElem?_append_left (by omega), List.getElem?_take, if_pos h1]
  · rw [List.getElem?_append_right (by simp [e]; omega), List.getElem?_drop]
    congr 2
    simp [e]; omega
theorem spl_full {zs xs : List Int} (h : zs.length = xs.length) : spl zs 0 xs = xs := by simp [spl, ← h]

section
variable {P : Program}

theorem run_loadVar_sub (w : World) (g o s : Nat) (t ty : TypeId) (zs : List Int) (fr : Nat × Nat) (d : TypeDesc) (hg : w.heap[g]? = some (.cells (rowI zs) t fr))
    (hu : P.underlying ty = some d) (hd : (match d with | .struct _ | .array _ _ => true | _ => false) = true) (hi : (P.info? ty).map (·.size) = some s) (hs : o + s ≤ zs.length) :
    (loadVar ty ⟨g, o, none⟩).run P w = .ok (.agg (rowI (sub zs o s))) w := by
  have hl : (loadCells ⟨g, o, none⟩ (rowI (sub zs o s)).toList.length).run P w = .ok (rowI (sub zs o s)).toList.toArray w :=
    run_loadCells_list (P := P) w ⟨g, o, none⟩ (rowI (sub zs o s)).toList (fun j v hv => by
      have hadd : (⟨g, o, none⟩ : Addr).add j = ⟨g, o + j, none⟩ := by unfold Addr.add; split <;> simp_all
      have hj : j < s := by
        have := (List.getElem?_eq_some_iff.1 hv).1
        simp only [Array.length_toList, rowI_size, sub_len hs] at this
        exact this
      rw [hadd, cell_of_row w g (o + j) _ t fr hg, rowI_get (by omega)]
      rw [Array.getElem?_toList, rowI_get (by rw [sub_len hs]; exact hj), sub_at hj] at hv
      exact hv)
  have hsz : (rowI (sub zs o s)).size = s := by rw [rowI_size, sub_len hs]
  cases hq : P.info? ty with
  | none => simp [hq] at hi
  | some i =>
    have hs : i.size = s := by simpa [hq] using hi
    have hagg : (isAgg ty).run P w = .ok true w := by
      unfold isAgg
      rw [Sem.run_bind, run_underlying hu w]
      cases d <;> simp_all
    simp only [Array.length_toList, Array.toArray_toList, hsz] at hl
    simp [loadVar, Sem.run_bind, hagg, sizeOf, typeInfo, hq, hs, hl]

theorem wp_load_sub {o : Oper} {a : Act} {w : World} {K : Act → World → Prop} {Q : Exit → Act → World → Prop} (ty : TypeId) (x : Operand) (ho : o.op = .load ty x)
    (g off s : Nat) (hx : a.eval x = .pointer (some ⟨g, off, none⟩)) (t : TypeId) (zs : List Int) (fr : Nat × Nat) (d : TypeDesc) (hg : w.heap[g]? = some (.cells (rowI zs) t fr))
    (hu : P.underlying ty = some d) (hd : (match d with | .struct _ | .array _ _ => true | _ => false) = true) (hi : (P.info? ty).map (·.size) = some s) (hs : off + s ≤ zs.length)
    (h : K (a.put o.dst (.agg (rowI (sub zs off s)))) w) : o.wp P a w K Q := by
  unfold Oper.wp execOp
  simp only [ho, hx, Instr.loadAt, Instr.sureAddr, Sem.run_bind, Sem.run_pure, Result.andThen_ok, run_loadVar_sub w g off s t ty zs fr d hg hu hd hi hs]
  exact h
theorem wpList_load_sub {ops : Array Oper} {rest : List Oper} {o : Oper} {a : Act} {w : World} {Q : Exit → Act → World → Prop} (hgd : o.guard = none) (ty : TypeId) (x : Operand) (ho : o.op = .load ty x)
    (g off s : Nat) (hx : a.eval x = .pointer (some ⟨g, off, none⟩)) (t : TypeId) (zs : List Int) (fr : Nat × Nat) (d : TypeDesc) (hg : w.heap[g]? = some (.cells (rowI zs) t fr))
    (hu : P.underlying ty = some d) (hd : (match d with | .struct _ | .array _ _ => true | _ => false) = true) (hi : (P.info? ty).map (·.size) = some s) (hs : off + s ≤ zs.length)
    (h : wpList P ops Q rest (a.put o.dst (.agg (rowI (sub zs off s)))) w) : wpList P ops Q (o :: rest) a w :=
  wpList_plain hgd fun _ hK => wp_load_sub ty x ho g off s hx t zs fr d hg hu hd hi hs (hK _ _ h)

theorem setRow_same (w : World) (g : Nat) (cur : Array Value) (t : TypeId) (fr : Nat × Nat) (hg : w.heap[g]? = some (.cells cur t fr)) : w.setRow g cur = w := by
  have hlt : g < w.heap.size := (Array.getElem?_eq_some_iff.1 hg).1
  have hv : w.heap[g] = .cells cur t fr := (Array.getElem?_eq_some_iff.1 hg).2
  unfold World.setRow
  cases w with
  | mk heap tape drawn os output =>
    congr 1
    apply Array.ext
    · simp
    · intro k h1 h2
      simp only [Array.getElem_modify]
      split
      · rename_i hk; subst hk; simp at hv; simp [hv]
      · rfl
theorem run_storeCells_mid (g o : Nat) (t : TypeId) : ∀ (vs : List Value) (i : Nat) (cur : Array Value) (w : World), w.heap[g]? = some (.cells cur t (0, 0)) → o + i + vs.length ≤ cur.size → (∀ v ∈ vs, v.oneCell' = true) →
    (storeCells ⟨g, o, none⟩ vs i).run P w = .ok () (w.setRow g (cur.toList.take (o + i) ++ vs ++ cur.toList.drop (o + i + vs.length)).toArray)
  | [], i, cur, w, hg, hl, _ => by
    simp only [storeCells, List.append_nil, List.length_nil, Nat.add_zero, List.take_append_drop, Array.toArray_toList]
    rw [setRow_same w g cur t (0, 0) hg]
    rfl
  | v :: rest, i, cur, w, hg, hl, h1 => by
    have hi : o + i < cur.size := by simp at hl; omega
    have hadd : (⟨g, o, none⟩ : Addr).add i = ⟨g, o + i, none⟩ := by unfold Addr.add; split <;> simp_all
    have hcell : w.cell? ⟨g, o + i, none⟩ = some cur[o + i] := by simp [World.cell?, hg, hi]
    have hfro : w.frozen? ⟨g, o + i, none⟩ = false := by simp [World.frozen?, hg]
    have hst : (store ((⟨g, o, none⟩ : Addr).add i) v).run P w = .ok () (w.setRow g (cur.setIfInBounds (o + i) v)) := by
      rw [hadd, run_store P w _ v _ (h1 v (by simp)), hcell]
      simp [hfro, setCell_eq_setRow w g (o + i) cur t (0, 0) v hg]
    have ih := run_storeCells_mid g o t rest (i + 1) (cur.setIfInBounds (o + i) v) (w.setRow g (cur.setIfInBounds (o + i) v)) (setRow_heap w g cur _ t _ hg) (by simp at hl ⊢; omega) (fun x hx => h1 x (by simp [hx]))
    simp only [storeCells, Sem.run_bind, hst, Result.andThen_ok, ih, setRow_setRow]
    congr 3
    apply List.ext_getElem?
    intro k
    simp only [Array.toList_setIfInBounds, List.length_cons]
    rw [List.append_assoc, List.append_assoc, List.getElem?_append, List.getElem?_append (l₁ := List.take (o + i) cur.toList)]
    have e1 : (List.take (o + (i + 1)) (cur.toList.set (o + i) v)).length = o + i + 1 := by simp; omega
    have e2 : (List.take (o + i) cur.toList).length = o + i := by simp; omega
    rw [e1, e2]
    by_cases hk : k < o + i
    · rw [if_pos (by omega), if_pos hk, List.getElem?_take, List.getElem?_take, if_pos (by omega), if_pos hk, List.getElem?_set_ne (by omega)]
    · by_cases hk2 : k = o + i
      · subst hk2
        rw [if_pos (by omega), if_neg (by omega), List.getElem?_take, if_pos (by omega), List.getElem?_set_self (by simp; omega)]
        simp
      · rw [if_neg (by omega), if_neg hk, show k - (o + i) = (k - (o + i + 1)) + 1 by omega, List.cons_append, List.getElem?_cons_succ]
        rw [List.getElem?_append, List.getElem?_append]
        split
        · rfl
        · rw [List.getElem?_drop, List.getElem?_drop, List.getElem?_set_ne (by omega)]
          congr 1; omega
theorem run_storeVar_sub (w : World) (g o : Nat) (t ty : TypeId) (zs xs : List Int) (hg : w.heap[g]? = some (.cells (rowI zs) t (0, 0))) (hi : (P.info? ty).map (·.size) = some xs.length)
    (ho : o + xs.length ≤ zs.length) :
    (storeVar ty ⟨g, o, none⟩ (.agg (rowI xs))).run P w = .ok () (w.setRow g (rowI (spl zs o xs))) := by
  have := run_storeCells_mid (P := P) g o t (rowI xs).toList 0 (rowI zs) w hg (by simp [rowI_size]; omega) (fun v hv => (Array.all_eq_true_iff_forall_mem.1 (rowI_one xs)) v (by simpa using hv))
  have e : ((rowI zs).toList.take (o + 0) ++ (rowI xs).toList ++ (rowI zs).toList.drop (o + 0 + (rowI xs).toList.length)).toArray = rowI (spl zs o xs) := by
    simp [rowI, spl, List.map_take, List.map_drop]
  rw [e] at this
  cases hq : P.info? ty with
  | none => simp [hq] at hi
  | some i =>
    have hs : xs.length = i.size := by simp [hq] at hi; omega
    simp [storeVar, sizeOf, typeInfo, hq, Value.cells, rowI_size, hs, this]
theorem wp_store_sub {o : Oper} {a : Act} {w : World} {K : Act → World → Prop} {Q : Exit → Act → World → Prop} (ty : TypeId) (x y : Operand) (ho : o.op = .store ty x y)
    (g off : Nat) (xs : List Int) (hx : a.eval x = .pointer (some ⟨g, off, none⟩)) (hy : a.eval y = .agg (rowI xs))
    (t : TypeId) (zs : List Int) (hg : w.heap[g]? = some (.cells (rowI zs) t (0, 0))) (hi : (P.info? ty).map (·.size) = some xs.length) (hfit : off + xs.length ≤ zs.length)
    (h : K (a.put o.dst undef) (w.setRow g (rowI (spl zs off xs)))) : o.wp P a w K Q := by
  unfold Oper.wp execOp
  simp only [ho, hx, hy, Instr.storeAt, Instr.sureAddr, Sem.run_bind, Sem.run_pure, Result.andThen_ok, run_storeVar_sub w g off t ty zs xs hg hi hfit]
  exact h
theorem wpList_store_sub {ops : Array Oper} {rest : List Oper} {o : Oper} {a : Act} {w : World} {Q : Exit → Act → World → Prop} (hgd : o.guard = none) (ty : TypeId) (x y : Operand) (ho : o.op = .store ty x y)
    (g off : Nat) (xs : List Int) (hx : a.eval x = .pointer (some ⟨g, off, none⟩)) (hy : a.eval y = .agg (rowI xs))
    (t : TypeId) (zs : List Int) (hg : w.heap[g]? = some (.cells (rowI zs) t (0, 0))) (hi : (P.info? ty).map (·.size) = some xs.length) (hfit : off + xs.length ≤ zs.length)
    (h : wpList P ops Q rest (a.put o.dst undef) (w.setRow g (rowI (spl zs off xs)))) : wpList P ops Q (o :: rest) a w :=
  wpList_plain hgd fun _ hK => wp_store_sub ty x y ho g off xs hx hy t zs hg hi hfit (hK _ _ h)
theorem setRow_alloc (w : World) (g : Nat) (cur cs : Array Value) (t : TypeId) (h : g = w.heap.size) : (w.alloc (.cells cur t)).setRow g cs = w.alloc (.cells cs t) := by
  subst h
  unfold World.setRow World.alloc
  congr 1
  apply Array.ext
  · simp
  · intro k h1 h2
    simp only [Array.getElem_modify, Array.getElem_push]
    by_cases hk : k < w.heap.size
    · have : ¬ w.heap.size = k := by omega
      simp [hk, this]
    · have : w.heap.size = k := by simp at h1; omega
      subst this
      simp

/-- arrays compared, part by part -/
theorem run_equalIn_arr (w : World) (d : Nat) (t e : TypeId) (n s : Nat) (ht : P.underlying t = some (.array n e)) (hsz : (sizeOf e).run P w = .ok s w) (xs ys : Array Value) (f : Nat → Bool)
    (hp : ∀ i, i < n → ∃ a b, (part e xs (i * s)).run P w = .ok a w ∧ (part e ys (i * s)).run P w = .ok b w ∧ (Op.equalIn d e a b).run P w = .ok (f i) w) :
    (Op.equalIn (d + 1) t (.agg xs) (.agg ys)).run P w = .ok ((List.range n).all f) w := by
  rw [List.range_eq_range', Op.equalIn]
  simp only [Sem.run_bind, run_underlying ht, Result.andThen_ok, hsz, Std.Legacy.Range.forIn_eq_forIn_range', Std.Legacy.Range.size, Nat.sub_zero, Nat.add_sub_cancel, Nat.div_one]
  have hl : ∀ i ∈ List.range' 0 n 1, i < n := fun i hi => by simpa using (List.mem_range'_1.1 hi).2
  generalize List.range' 0 n 1 = l at hl ⊢
  induction l with
  | nil => simp
  | cons i l ih =>
    obtain ⟨a, b, pa, pb, pe⟩ := hp i (hl i (by simp))
    simp only [List.forIn_cons, Sem.run_bind, pa, pb, pe, Result.andThen_ok, List.all_cons]
    cases hb : f i
    · simp
    · simp only [Bool.not_true, Bool.false_eq_true, if_false, Sem.run_pure, Result.andThen_ok, Bool.true_and]
      exact ih fun j hj => hl j (by simp [hj])
theorem all_range_beq : ∀ (xs ys : List Int), xs.length = ys.length → ((List.range xs.length).all fun i => xs.getD i 0 == ys.getD i 0) = (xs == ys)
  | [], [], _ => rfl
  | x :: xs, y :: ys, h => by
    have ih := all_range_beq xs ys (by simpa using h)
    rw [List.length_cons, List.range_succ_eq_map, List.all_cons, List.all_map]
    simp only [List.getD_cons_zero, Function.comp_def, List.getD_cons_succ, ih]
    simp [List.cons_beq_cons]
  | [], _ :: _, h => by simp at h
  | _ :: _, [], h => by simp at h
theorem run_part_int (w : World) (e : TypeId) (he : P.underlying e = some (.int .i64)) (zs : List Int) (i : Nat) (hi : i < zs.length) : (part e (rowI zs) i).run P w = .ok (.int .i64 (zs.getD i 0)) w := by
  have h := rowI_get hi
  simp [part, isAgg, run_underlying he, h]
theorem run_part_sub (w : World) (e : TypeId) (d : TypeDesc) (s : Nat) (hu : P.underlying e = some d) (hd : (match d with | .struct _ | .array _ _ => true | _ => false) = true) (hi : (P.info? e).map (·.size) = some s) (zs : List Int) (o : Nat) :
    (part e (rowI zs) o).run P w = .ok (.agg (rowI (sub zs o s))) w := by
  cases hq : P.info? e with
  | none => simp [hq] at hi
  | some i =>
    have hs : i.size = s := by simpa [hq] using hi
    have hagg : (isAgg e).run P w = .ok true w := by
      unfold isAgg
      rw [Sem.run_bind, run_underlying hu w]
      cases d <;> simp_all
    have ex : (rowI zs).extract o (o + s) = rowI (sub zs o s) := by
      simp [rowI, sub, List.map_take, List.map_drop]
    simp [part, Sem.run_bind, hagg, sizeOf, typeInfo, hq, hs, ex]
/-- arrays of ints -/
theorem run_equalIn_ints (w : World) (d : Nat) (t e : TypeId) (n : Nat) (ht : P.underlying t = some (.array n e)) (he : P.underlying e = some (.int .i64)) (hsz : (sizeOf e).run P w = .ok 1 w) (xs ys : List Int) (hx : xs.length = n) (hy : ys.length = n) :
    (Op.equalIn (d + 2) t (.agg (rowI xs)) (.agg (rowI ys))).run P w = .ok (xs == ys) w := by
  rw [← all_range_beq xs ys (hx.trans hy.symm), hx]
  refine run_equalIn_arr w (d + 1) t e n 1 ht hsz _ _ _ (fun i hi => ⟨_, _, by rw [Nat.mul_one]; exact run_part_int w e he xs i (by omega), by rw [Nat.mul_one]; exact run_part_int w e he ys i (by omega), run_equalIn_int w d e .i64 .i64 _ _ he⟩)

end

end Go.Proofs.YtijccageaingjaaDoor
