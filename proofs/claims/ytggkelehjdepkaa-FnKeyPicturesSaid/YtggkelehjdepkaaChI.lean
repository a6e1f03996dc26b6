/- The program's first probabilities. -/
import Derived.Test.YtggkelehjdepkaaEnc
import Derived.Laws.Rows
import Derived.Laws.Tables
namespace Go.Proofs.Ytggkelehjdepkaa
open Go.RowKit
set_option linter.unusedVariables false
set_option linter.unusedSimpArgs false

attribute [local go_sem] size_addsW cell?_addsW frozen?_addsW setCell_addsW drew_addsW adds_addsW setCell_twice alloc_adds0 size_adds0 adds_adds0 sel2 sel3 sel4 sel5 sel6 sel7 sel8 sel9 lt_more lt_more2 lt_more3 lt_more4 adds_drew adds_drewN drewN_addsW ltA_1_1 ltA_1_2 ltA_1_3 ltA_1_4 ltA_1_5 ltA_1_6 ltA_2_1 ltA_2_2 ltA_2_3 ltA_2_4 ltA_2_5 ltA_2_6 ltA_3_1 ltA_3_2 ltA_3_3 ltA_3_4 ltA_3_5 ltA_3_6 ltA_4_1 ltA_4_2 ltA_4_3 ltA_4_4 ltA_4_5 ltA_4_6 ltA_5_1 ltA_5_2 ltA_5_3 ltA_5_4 ltA_5_5 ltA_5_6 ltA_6_1 ltA_6_2 ltA_6_3 ltA_6_4 ltA_6_5 ltA_6_6 ltA_7_1 ltA_7_2 ltA_7_3 ltA_7_4 ltA_7_5 ltA_7_6 ltA_8_1 ltA_8_2 ltA_8_3 ltA_8_4 ltA_8_5 ltA_8_6 ltA_9_1 ltA_9_2 ltA_9_3 ltA_9_4 ltA_9_5 ltA_9_6 ltA_10_1 ltA_10_2 ltA_10_3 ltA_10_4 ltA_10_5 ltA_10_6 ltA_11_1 ltA_11_2 ltA_11_3 ltA_11_4 ltA_11_5 ltA_11_6 ltA_12_1 ltA_12_2 ltA_12_3 ltA_12_4 ltA_12_5 ltA_12_6

/-- forty probabilities, the first k set -/
def ch40 (k : Nat) : Array Value := copyA .i64 40 k (List.replicate 40 2048)

theorem ch40_one (k : Nat) : (ch40 k).all (·.oneCell') = true := by
  rw [Array.all_eq_true_iff_forall_mem]
  intro x hx
  simp only [ch40, copyA, List.mem_toArray, List.mem_map] at hx
  obtain ⟨z, _, rfl⟩ := hx
  rfl
theorem ch40_size {k : Nat} (h : k ≤ 40) : (ch40 k).size = 40 := by simp [ch40, copyA]; omega
theorem ch40_full : ch40 40 = ((List.replicate 40 2048).map (Value.int .i64)).toArray := copyA_full (by simp)
theorem infoCh : (Try.prog.info? 107).map (·.size) = some 40 := by kernel_rfl
theorem setRow_alloc_allocI (w : World) (o : Obj) (old cs : Array Value) (t : TypeId) : ((w.alloc (.cells old t)).alloc o).setRow w.heap.size cs = (w.alloc (.cells cs t)).alloc o := by
  show (⟨((w.heap.push (.cells old t)).push o).modify w.heap.size _, w.tape, w.drawn, w.os, w.output⟩ : World) = ⟨(w.heap.push (.cells cs t)).push o, w.tape, w.drawn, w.os, w.output⟩
  congr 1
  apply Array.ext_getElem?
  intro k
  simp only [Array.getElem?_modify, Array.getElem?_push, Array.size_push]
  by_cases h : k = w.heap.size
  · subst h; simp
  · rw [if_neg (fun e => h e.symm)]
    by_cases h2 : k = w.heap.size + 1
    · simp [h2]
    · simp [h2, h]
def ChI (w : World) (i : Value) (wr : World) : Prop := ∃ k : Nat, k ≤ 40 ∧ i = .int .i64 (k : Int) ∧ wr = (w.alloc (.cells (ch40 0) 107)).alloc (.cells (ch40 k) 107)

set_option maxRecDepth 100000 in
theorem I_newChances (w : World) :
    Calls Try.prog 67 #[] w fun e w' => e = .returned (.agg (ch40 40)) ∧ Below w.heap.size w w' := by
  go_enter Try.func67, Try.ntmps67
  go_wp2_with fail
  go_loopw [3, 2] (fun i s2 wr => ChI w i wr) (fun i _ _ => 40 - (intOf i).toNat)
  case atStart => exact ⟨0, by omega, rfl, rfl⟩
  case round =>
    obtain ⟨k, hk, rfl, rfl⟩ := hrel
    by_cases hlt : k < 40
    · have hd1 : decide ((k : Int) < 40) = true := by simp; omega
      have hF : (ch40 k)[k]? = some (.int .i64 0) := copyA_at (by simp) hlt
      have HS := Lib.hid (copyA_set (kd := .i64) (n := 40) (k := k) (zs := List.replicate 40 2048) (by simp) hlt)
      have HV := Lib.hid (show (List.replicate 40 (2048 : Int)).getD k 0 = 2048 by rw [List.getD_eq_getElem?_getD, List.getElem?_replicate, if_pos hlt]; rfl)
      go_wp2_with fail
      go_roundw
      case rel => exact ⟨k + 1, by omega, by go_num, by unfold ch40; rw [← HS.out, HV.out]⟩
      case measure => simp [intOf]; omega
    · obtain rfl : k = 40 := by omega
      go_wp2_with (first | (refine wpList_load_row rfl 107 (.tmp 1) rfl (w.heap.size + 1) rfl 107 (ch40 40) (0, 0) _ (heap_alloc2_new _ _ _) Try.underlying107 rfl (by rw [ch40_size (by omega)]; exact infoCh) ?_) | (refine wpList_store_row rfl 107 (.tmp 0) (.tmp 9) rfl w.heap.size (ch40 40) rfl rfl 107 (ch40 0) (heap_alloc2_old _ _ _) (by rw [ch40_size (by omega)]; exact infoCh) (by rw [ch40_size (by omega), ch40_size (by omega)]) (ch40_one _) ?_; rw [setRow_alloc_allocI]))
      exact bodyPost_ret (v := .agg (ch40 40)) (results_cell_row (p := 0) (ty := 107) rfl _ _ w.heap.size 107 (ch40 40) (0, 0) _ rfl (heap_alloc2_old _ _ _) Try.underlying107 rfl (by rw [ch40_size (by omega)]; exact infoCh)) rfl ⟨rfl, (by repeat' (first | (with_reducible exact Below.refl _ _) | (with_reducible refine Below.adds_ ?_ ?_ _ _) | (with_reducible refine Below.alloc ?_ ?_ _) | (with_reducible refine Below.drew ?_) | (with_reducible refine Below.setCell ?_ ?_ _) | (with_reducible assumption) | go_size | (simp only [size_addsW, World.size_alloc, World.size_drew, World.size_setCell]; omega)))⟩

end Go.Proofs.Ytggkelehjdepkaa
