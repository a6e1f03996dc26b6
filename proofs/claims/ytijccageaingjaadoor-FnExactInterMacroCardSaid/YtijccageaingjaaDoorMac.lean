/- Macroblocks copied: all their cells are ints. -/
import Derived.Test.YtijccageaingjaaDoorAgg
import Derived.Test.YtijccageaingjaaDoorEq
import Derived.LoopTactic
import Derived.Deep.DeepCutAuto
namespace Go.Proofs.YtijccageaingjaaDoor
open Go.RowKit
set_option linter.unusedVariables false
set_option linter.unusedSimpArgs false

attribute [local go_sem] size_addsW cell?_addsW frozen?_addsW setCell_addsW drew_addsW adds_addsW setCell_twice alloc_adds0 size_adds0 adds_adds0 sel2 sel3 sel4 sel5 sel6 sel7 sel8 sel9 lt_more lt_more2 lt_more3 lt_more4 adds_drew adds_drewN drewN_addsW ltA_1_1 ltA_1_2 ltA_1_3 ltA_1_4 ltA_1_5 ltA_1_6 ltA_2_1 ltA_2_2 ltA_2_3 ltA_2_4 ltA_2_5 ltA_2_6 ltA_3_1 ltA_3_2 ltA_3_3 ltA_3_4 ltA_3_5 ltA_3_6 ltA_4_1 ltA_4_2 ltA_4_3 ltA_4_4 ltA_4_5 ltA_4_6 ltA_5_1 ltA_5_2 ltA_5_3 ltA_5_4 ltA_5_5 ltA_5_6 ltA_6_1 ltA_6_2 ltA_6_3 ltA_6_4 ltA_6_5 ltA_6_6 ltA_7_1 ltA_7_2 ltA_7_3 ltA_7_4 ltA_7_5 ltA_7_6 ltA_8_1 ltA_8_2 ltA_8_3 ltA_8_4 ltA_8_5 ltA_8_6 ltA_9_1 ltA_9_2 ltA_9_3 ltA_9_4 ltA_9_5 ltA_9_6 ltA_10_1 ltA_10_2 ltA_10_3 ltA_10_4 ltA_10_5 ltA_10_6 ltA_11_1 ltA_11_2 ltA_11_3 ltA_11_4 ltA_11_5 ltA_11_6 ltA_12_1 ltA_12_2 ltA_12_3 ltA_12_4 ltA_12_5 ltA_12_6

theorem setRow_addsW (w : World) (os : Array Obj) (n g : Nat) (cs : Array Value) (h : g < w.heap.size) : (addsW w os n).setRow g cs = addsW (w.setRow g cs) os n := by
  unfold World.setRow addsW
  congr 1
  apply Array.ext_getElem?
  intro k
  simp only [Array.getElem?_modify, Array.getElem?_append, Array.size_modify]
  by_cases hk : k < w.heap.size
  · simp [hk, Array.getElem?_modify]
  · have : ¬ g = k := by omega
    simp [hk, this]
theorem Below.setRow_ {B : Nat} {a w : World} (h : Below B a w) {g : Nat} (hg : B ≤ g) (cs : Array Value) : Below B a (w.setRow g cs) := by
  obtain ⟨h1, h2, h3, h4, h5⟩ := h
  refine ⟨h1, h2, h3, by simpa using h4, fun k hk => ?_⟩
  rw [← h5 k hk]
  simp only [World.setRow, Array.getElem?_modify]
  rw [if_neg (by omega)]
def zL (n : Nat) : List Int := List.replicate n 0
theorem zL_len (n : Nat) : (zL n).length = n := by simp [zL]
/-- k of n numbers are copied -/
def cpL (n k : Nat) (zs : List Int) : List Int := zs.take k ++ List.replicate (n - k) 0
theorem cpL_len {n k : Nat} {zs : List Int} (hz : zs.length = n) (hk : k ≤ n) : (cpL n k zs).length = n := by simp [cpL]; omega
theorem cpL_full {n : Nat} {zs : List Int} (hz : zs.length = n) : cpL n n zs = zs := by simp [cpL, List.take_of_length_le (show zs.length ≤ n by omega)]
theorem cpL_set {n k : Nat} {zs : List Int} (hz : zs.length = n) (h : k < n) : (rowI (cpL n k zs)).setIfInBounds k (.int .i64 (zs.getD k 0)) = rowI (cpL n (k + 1) zs) := by
  rw [rowI_set]
  congr 1
  apply List.ext_getElem?
  intro i
  simp only [cpL, List.getElem?_set, List.getElem?_append, List.length_take, List.getElem?_take, List.getElem?_replicate, List.length_append, List.length_replicate]
  by_cases h1 : k = i
  · subst h1; simp [show k < zs.length by omega, List.getD_eq_getElem?_getD, h, show min k zs.length = k by omega, show min (k + 1) zs.length = k + 1 by omega, show k < k + (n - k) by omega]
  · rw [if_neg h1]
    by_cases h2 : i < k
    · simp [show min k zs.length = k by omega, show min (k + 1) zs.length = k + 1 by omega, h2, show i < k + 1 by omega]
    · simp [show min k zs.length = k by omega, show min (k + 1) zs.length = k + 1 by omega, h2, show ¬ i < k + 1 by omega]
      by_cases h3 : i - k < n - k
      · rw [if_pos h3, if_pos (by omega)]
      · rw [if_neg h3, if_neg (by omega)]
theorem cpL_at {n k : Nat} {zs : List Int} (hz : zs.length = n) (h : k < n) : (rowI (cpL n k zs))[k]? = some (.int .i64 0) := by
  rw [rowI_get (by rw [cpL_len hz (by omega)]; exact h)]
  congr 2
  rw [cpL, List.getD_eq_getElem?_getD, List.getElem?_append_right (by simp; omega)]
  simp [show min k zs.length = k by omega, List.getElem?_replicate, show 0 < n - k by omega]

theorem heap2_16 (w : World) (x y : Array Value) (t : TypeId) (u : Array Value) : (((w.alloc (.cells u t)).alloc (.cells x t)).alloc (.cells y t)).heap[w.heap.size + 1 + 1]? = some (.cells y t (0, 0)) ∧ (((w.alloc (.cells u t)).alloc (.cells x t)).alloc (.cells y t)).heap[w.heap.size + 1]? = some (.cells x t (0, 0)) := by
  constructor
  · have := heap_alloc_new ((w.alloc (.cells u t)).alloc (.cells x t)) (.cells y t); simpa using this
  · rw [Below.heap_alloc _ _ _ (by simp)]; exact heap_alloc2_new _ _ _
theorem infoA16 : (Tryd.prog.info? 30).map (·.size) = some 16 := by kernel_rfl

theorem heap2_4 (w : World) (x y : Array Value) (t : TypeId) (u : Array Value) : (((w.alloc (.cells u t)).alloc (.cells x t)).alloc (.cells y t)).heap[w.heap.size + 1 + 1]? = some (.cells y t (0, 0)) ∧ (((w.alloc (.cells u t)).alloc (.cells x t)).alloc (.cells y t)).heap[w.heap.size + 1]? = some (.cells x t (0, 0)) := by
  constructor
  · have := heap_alloc_new ((w.alloc (.cells u t)).alloc (.cells x t)) (.cells y t); simpa using this
  · rw [Below.heap_alloc _ _ _ (by simp)]; exact heap_alloc2_new _ _ _
theorem infoA4 : (Tryd.prog.info? 29).map (·.size) = some 4 := by kernel_rfl

theorem cpL_spl {n o s : Nat} {zs : List Int} (hz : zs.length = n) (h : o + s ≤ n) : spl (cpL n o zs) o (sub zs o s) = cpL n (o + s) zs := by
  have e1 : (zs.take o).length = o := by simp; omega
  have e2 : (sub zs o s).length = s := sub_len (by omega)
  rw [spl, e2, cpL, List.take_append_of_le_length (by omega), List.take_take, Nat.min_self, List.drop_append, e1, List.drop_of_length_le (by rw [e1]; omega), List.nil_append, List.drop_replicate]
  rw [cpL, List.take_add]
  rw [show n - o - (o + s - o) = n - (o + s) by omega]
  rfl
theorem heap3 (w : World) (u x y : Array Value) (t1 t2 t3 : TypeId) (oo : Array Obj) (nn : Nat) :
    (addsW (((w.alloc (.cells u t1)).alloc (.cells x t2)).alloc (.cells y t3)) oo nn).heap[w.heap.size]? = some (.cells u t1 (0, 0)) ∧
    (addsW (((w.alloc (.cells u t1)).alloc (.cells x t2)).alloc (.cells y t3)) oo nn).heap[w.heap.size + 1]? = some (.cells x t2 (0, 0)) ∧
    (addsW (((w.alloc (.cells u t1)).alloc (.cells x t2)).alloc (.cells y t3)) oo nn).heap[w.heap.size + 1 + 1]? = some (.cells y t3 (0, 0)) := by
  refine ⟨?_, ?_, ?_⟩
  · rw [heap_addsW _ _ _ _ (by simp; omega), Below.heap_alloc _ _ _ (by simp; omega), Below.heap_alloc _ _ _ (by simp)]; exact heap_alloc_new _ _
  · rw [heap_addsW _ _ _ _ (by simp), Below.heap_alloc _ _ _ (by simp)]; exact heap_alloc2_new _ _ _
  · rw [heap_addsW _ _ _ _ (by simp)]
    have := heap_alloc_new ((w.alloc (.cells u t1)).alloc (.cells x t2)) (.cells y t3); simpa using this
theorem setRow3 (w : World) (u x y cs : Array Value) (t1 t2 t3 : TypeId) (oo : Array Obj) (nn : Nat) :
    (addsW (((w.alloc (.cells u t1)).alloc (.cells x t2)).alloc (.cells y t3)) oo nn).setRow (w.heap.size + 1 + 1) cs = addsW (((w.alloc (.cells u t1)).alloc (.cells x t2)).alloc (.cells cs t3)) oo nn := by
  rw [setRow_addsW _ _ _ _ _ (by simp), setRow_alloc _ _ _ _ _ (by simp)]
theorem infoA64 : (Tryd.prog.info? 31).map (·.size) = some 64 := by kernel_rfl

theorem infoMac : (Tryd.prog.info? 33).map (·.size) = some 71 := by kernel_rfl
theorem setRow3b (w : World) (u x y cs : Array Value) (t1 t2 t3 : TypeId) : (((w.alloc (.cells u t1)).alloc (.cells x t2)).alloc (.cells y t3)).setRow (w.heap.size + 1 + 1) cs = ((w.alloc (.cells u t1)).alloc (.cells x t2)).alloc (.cells cs t3) := setRow_alloc _ _ _ _ _ (by simp)

end Go.Proofs.YtijccageaingjaaDoor
