/- Macroblocks copied: all their cells are ints. -/
import Derived.Test.YtggkelehjdepkaaAgg
import Derived.Test.YtggkelehjdepkaaEq
import Derived.LoopTactic
import Derived.Deep.DeepCutAuto
namespace Go.Proofs.Ytggkelehjdepkaa
open Go.RowKit
set_option linter.unusedVariables false
set_option linter.unusedSimpArgs false

attribute [local go_sem] size_addsW cell?_addsW frozen?_addsW setCell_addsW drew_addsW adds_addsW setCell_twice alloc_adds0 size_adds0 adds_adds0 sel2 sel3 sel4 sel5 sel6 sel7 sel8 sel9 lt_more lt_more2 lt_more3 lt_more4 adds_drew adds_drewN drewN_addsW ltA_1_1 ltA_1_2 ltA_1_3 ltA_1_4 ltA_1_5 ltA_1_6 ltA_2_1 ltA_2_2 ltA_2_3 ltA_2_4 ltA_2_5 ltA_2_6 ltA_3_1 ltA_3_2 ltA_3_3 ltA_3_4 ltA_3_5 ltA_3_6 ltA_4_1 ltA_4_2 ltA_4_3 ltA_4_4 ltA_4_5 ltA_4_6 ltA_5_1 ltA_5_2 ltA_5_3 ltA_5_4 ltA_5_5 ltA_5_6 ltA_6_1 ltA_6_2 ltA_6_3 ltA_6_4 ltA_6_5 ltA_6_6 ltA_7_1 ltA_7_2 ltA_7_3 ltA_7_4 ltA_7_5 ltA_7_6 ltA_8_1 ltA_8_2 ltA_8_3 ltA_8_4 ltA_8_5 ltA_8_6 ltA_9_1 ltA_9_2 ltA_9_3 ltA_9_4 ltA_9_5 ltA_9_6 ltA_10_1 ltA_10_2 ltA_10_3 ltA_10_4 ltA_10_5 ltA_10_6 ltA_11_1 ltA_11_2 ltA_11_3 ltA_11_4 ltA_11_5 ltA_11_6 ltA_12_1 ltA_12_2 ltA_12_3 ltA_12_4 ltA_12_5 ltA_12_6

theorem setRow_addsW (w : World) (os : Array Obj) (n g : Nat) (cs : Array Value) (h : g < w.heap.size) : (addsW w os n).setRow g cs = addsW (w.setRow g cs) os n := by
  unfold World.setRow addsW
  congr 1
  apply Array.ext_getElem?
  intro k
  simp only [Array.getElem?_modify, Array.getElem?_append, Array.size_modify]
  by_cases hk : k < w.heap.size
  · simp [hk, Array.getElem?_modify]
  · have : ¬ g = k := by omega
    simp [hk, this]
theorem Below.setRow_ {B : Nat} {a w : World} (h : Below B a w) {g : Nat} (hg : B ≤ g) (cs : Array Value) : Below B a (w.setRow g cs) := by
  obtain ⟨h1, h2, h3, h4, h5⟩ := h
  refine ⟨h1, h2, h3, by simpa using h4, fun k hk => ?_⟩
  rw [← h5 k hk]
  simp only [World.setRow, Array.getElem?_modify]
  rw [if_neg (by omega)]
def zL (n : Nat) : List Int := List.replicate n 0
theorem zL_len (n : Nat) : (zL n).length = n := by simp [zL]
/-- k of n numbers are copied -/
def cpL (n k : Nat) (zs : List Int) : List Int := zs.take k ++ List.replicate (n - k) 0
theorem cpL_len {n k : Nat} {zs : List Int} (hz : zs.length = n) (hk : k ≤ n) : (cpL n k zs).length = n := by simp [cpL]; omega
theorem cpL_full {n : Nat} {zs : List Int} (hz : zs.length = n) : cpL n n zs = zs := by simp [cpL, List.take_of_length_le (show zs.length ≤ n by omega)]
theorem cpL_set {n k : Nat} {zs : List Int} (hz : zs.length = n) (h : k < n) : (rowI (cpL n k zs)).setIfInBounds k (.int .i64 (zs.getD k 0)) = rowI (cpL n (k + 1) zs) := by
  rw [rowI_set]
  congr 1
  apply List.ext_getElem?
  intro i
  simp only [cpL, List.getElem?_set, List.getElem?_append, List.length_take, List.getElem?_take, List.getElem?_replicate, List.length_append, List.length_replicate]
  by_cases h1 : k = i
  · subst h1; simp [show k < zs.length by omega, List.getD_eq_getElem?_getD, h, show min k zs.length = k by omega, show min (k + 1) zs.length = k + 1 by omega, show k < k + (n - k) by omega]
  · rw [if_neg h1]
    by_cases h2 : i < k
    · simp [show min k zs.length = k by omega, show min (k + 1) zs.length = k + 1 by omega, h2, show i < k + 1 by omega]
    · simp [show min k zs.length = k by omega, show min (k + 1) zs.length = k + 1 by omega, h2, show ¬ i < k + 1 by omega]
      by_cases h3 : i - k < n - k
      · rw [if_pos h3, if_pos (by omega)]
      · rw [if_neg h3, if_neg (by omega)]
theorem cpL_at {n k : Nat} {zs : List Int} (hz : zs.length = n) (h : k < n) : (rowI (cpL n k zs))[k]? = some (.int .i64 0) := by
  rw [rowI_get (by rw [cpL_len hz (by omega)]; exact h)]
  congr 2
  rw [cpL, List.getD_eq_getElem?_getD, List.getElem?_append_right (by simp; omega)]
  simp [show min k zs.length = k by omega, List.getElem?_replicate, show 0 < n - k by omega]

theorem heap2_16 (w : World) (x y : Array Value) (t : TypeId) (u : Array Value) : (((w.alloc (.cells u t)).alloc (.cells x t)).alloc (.cells y t)).heap[w.heap.size + 1 + 1]? = some (.cells y t (0, 0)) ∧ (((w.alloc (.cells u t)).alloc (.cells x t)).alloc (.cells y t)).heap[w.heap.size + 1]? = some (.cells x t (0, 0)) := by
  constructor
  · have := heap_alloc_new ((w.alloc (.cells u t)).alloc (.cells x t)) (.cells y t); simpa using this
  · rw [Below.heap_alloc _ _ _ (by simp)]; exact heap_alloc2_new _ _ _
theorem infoA16 : (Try.prog.info? 26).map (·.size) = some 16 := by kernel_rfl

set_option maxHeartbeats 1000000 in
theorem L_toIntA16 (zs : List Int) (w : World) (hz : zs.length = 16) :
    Calls Try.prog 73 #[.agg (rowI zs)] w fun e w' => e = .returned (.agg (rowI zs)) ∧ Below w.heap.size w w' := by
  have HZ := Lib.hid hz
  clear hz
  go_enter Try.func73, Try.ntmps73
  go_wp2_with fail
  go_loopw [4] (fun i wr => ∃ k : Nat, k ≤ 16 ∧ i = .int .i64 (k : Int) ∧ wr = ((w.alloc (.cells (rowI zs) 26)).alloc (.cells (rowI (zL 16)) 26)).alloc (.cells (rowI (cpL 16 k zs)) 26)) (fun i _ => 16 - (intOf i).toNat)
  case atStart => exact ⟨0, Nat.zero_le _, rfl, rfl⟩
  case round =>
    obtain ⟨k, hk, rfl, rfl⟩ := hrel
    by_cases hlt : k < 16
    · have hc := rowI_get (zs := zs) (j := k) (by rw [HZ.out]; exact hlt)
      obtain ⟨x, hx⟩ : ∃ x, x = zs.getD k 0 := ⟨_, rfl⟩
      rw [← hx] at hc
      have HX := Lib.hid hx
      clear hx
      have hF := cpL_at HZ.out hlt
      have HS := Lib.hid (cpL_set HZ.out hlt)
      have hd1 : decide ((k : Int) < 16) = true := by simp; omega
      go_wp2_with fail
      go_roundw
      case rel => exact ⟨k + 1, by omega, by go_num, by rw [HX.out, HS.out]⟩
      case measure => simp [intOf]; omega
    · obtain rfl : k = 16 := by omega
      rw [cpL_full HZ.out]
      have hh := heap2_16 w (rowI (zL 16)) (rowI zs) 26 (rowI zs)
      have HH := Lib.hid hh
      clear hh
      go_wp2_with (first | (refine wpList_load_sub rfl 26 (.tmp 3) rfl (w.heap.size + 1 + 1) 0 16 rfl 26 zs (0, 0) _ HH.out.1 Try.underlying26 rfl infoA16 (by rw [HZ.out]; exact Nat.le_refl _) ?_; rw [show sub zs 0 16 = zs by rw [← HZ.out]; exact sub_all zs]) | (refine wpList_store_sub rfl 26 (.tmp 2) (.tmp 14) rfl (w.heap.size + 1) 0 zs rfl rfl 26 (zL 16) HH.out.2 (by rw [HZ.out]; exact infoA16) (by rw [HZ.out]; exact Nat.le_refl _) ?_; rw [spl_full (by rw [HZ.out]; rfl)]))
      refine bodyPost_ret (v := .agg (rowI zs)) (by exact results_cell_row Try.results73 _ _ (w.heap.size + 1) 26 (rowI zs) (0, 0) _ rfl (setRow_heap _ _ (rowI (zL 16)) _ _ _ HH.out.2) Try.underlying26 rfl (by rw [rowI_size, HZ.out]; exact infoA16)) rfl ?_
      exact ⟨rfl, Below.setRow_ (by repeat' (first | (with_reducible exact Below.refl _ _) | (with_reducible refine Below.adds_ ?_ ?_ _ _) | (with_reducible refine Below.alloc ?_ ?_ _) | (with_reducible refine Below.drew ?_) | (with_reducible refine Below.setCell ?_ ?_ _) | (with_reducible assumption) | go_size | (simp only [size_addsW, World.size_alloc, World.size_drew, World.size_setCell]; omega))) (by omega) _⟩

theorem heap2_4 (w : World) (x y : Array Value) (t : TypeId) (u : Array Value) : (((w.alloc (.cells u t)).alloc (.cells x t)).alloc (.cells y t)).heap[w.heap.size + 1 + 1]? = some (.cells y t (0, 0)) ∧ (((w.alloc (.cells u t)).alloc (.cells x t)).alloc (.cells y t)).heap[w.heap.size + 1]? = some (.cells x t (0, 0)) := by
  constructor
  · have := heap_alloc_new ((w.alloc (.cells u t)).alloc (.cells x t)) (.cells y t); simpa using this
  · rw [Below.heap_alloc _ _ _ (by simp)]; exact heap_alloc2_new _ _ _
theorem infoA4 : (Try.prog.info? 25).map (·.size) = some 4 := by kernel_rfl

set_option maxHeartbeats 1000000 in
theorem L_toIntA4 (zs : List Int) (w : World) (hz : zs.length = 4) :
    Calls Try.prog 44 #[.agg (rowI zs)] w fun e w' => e = .returned (.agg (rowI zs)) ∧ Below w.heap.size w w' := by
  have HZ := Lib.hid hz
  clear hz
  go_enter Try.func44, Try.ntmps44
  go_wp2_with fail
  go_loopw [4] (fun i wr => ∃ k : Nat, k ≤ 4 ∧ i = .int .i64 (k : Int) ∧ wr = ((w.alloc (.cells (rowI zs) 25)).alloc (.cells (rowI (zL 4)) 25)).alloc (.cells (rowI (cpL 4 k zs)) 25)) (fun i _ => 4 - (intOf i).toNat)
  case atStart => exact ⟨0, Nat.zero_le _, rfl, rfl⟩
  case round =>
    obtain ⟨k, hk, rfl, rfl⟩ := hrel
    by_cases hlt : k < 4
    · have hc := rowI_get (zs := zs) (j := k) (by rw [HZ.out]; exact hlt)
      obtain ⟨x, hx⟩ : ∃ x, x = zs.getD k 0 := ⟨_, rfl⟩
      rw [← hx] at hc
      have HX := Lib.hid hx
      clear hx
      have hF := cpL_at HZ.out hlt
      have HS := Lib.hid (cpL_set HZ.out hlt)
      have hd1 : decide ((k : Int) < 4) = true := by simp; omega
      go_wp2_with fail
      go_roundw
      case rel => exact ⟨k + 1, by omega, by go_num, by rw [HX.out, HS.out]⟩
      case measure => simp [intOf]; omega
    · obtain rfl : k = 4 := by omega
      rw [cpL_full HZ.out]
      have hh := heap2_4 w (rowI (zL 4)) (rowI zs) 25 (rowI zs)
      have HH := Lib.hid hh
      clear hh
      go_wp2_with (first | (refine wpList_load_sub rfl 25 (.tmp 3) rfl (w.heap.size + 1 + 1) 0 4 rfl 25 zs (0, 0) _ HH.out.1 Try.underlying25 rfl infoA4 (by rw [HZ.out]; exact Nat.le_refl _) ?_; rw [show sub zs 0 4 = zs by rw [← HZ.out]; exact sub_all zs]) | (refine wpList_store_sub rfl 25 (.tmp 2) (.tmp 14) rfl (w.heap.size + 1) 0 zs rfl rfl 25 (zL 4) HH.out.2 (by rw [HZ.out]; exact infoA4) (by rw [HZ.out]; exact Nat.le_refl _) ?_; rw [spl_full (by rw [HZ.out]; rfl)]))
      refine bodyPost_ret (v := .agg (rowI zs)) (by exact results_cell_row Try.results44 _ _ (w.heap.size + 1) 25 (rowI zs) (0, 0) _ rfl (setRow_heap _ _ (rowI (zL 4)) _ _ _ HH.out.2) Try.underlying25 rfl (by rw [rowI_size, HZ.out]; exact infoA4)) rfl ?_
      exact ⟨rfl, Below.setRow_ (by repeat' (first | (with_reducible exact Below.refl _ _) | (with_reducible refine Below.adds_ ?_ ?_ _ _) | (with_reducible refine Below.alloc ?_ ?_ _) | (with_reducible refine Below.drew ?_) | (with_reducible refine Below.setCell ?_ ?_ _) | (with_reducible assumption) | go_size | (simp only [size_addsW, World.size_alloc, World.size_drew, World.size_setCell]; omega))) (by omega) _⟩

theorem cpL_spl {n o s : Nat} {zs : List Int} (hz : zs.length = n) (h : o + s ≤ n) : spl (cpL n o zs) o (sub zs o s) = cpL n (o + s) zs := by
  have e1 : (zs.take o).length = o := by simp; omega
  have e2 : (sub zs o s).length = s := sub_len (by omega)
  rw [spl, e2, cpL, List.take_append_of_le_length (by omega), List.take_take, Nat.min_self, List.drop_append, e1, List.drop_of_length_le (by rw [e1]; omega), List.nil_append, List.drop_replicate]
  rw [cpL, List.take_add]
  rw [show n - o - (o + s - o) = n - (o + s) by omega]
  rfl
theorem heap3 (w : World) (u x y : Array Value) (t1 t2 t3 : TypeId) (oo : Array Obj) (nn : Nat) :
    (addsW (((w.alloc (.cells u t1)).alloc (.cells x t2)).alloc (.cells y t3)) oo nn).heap[w.heap.size]? = some (.cells u t1 (0, 0)) ∧
    (addsW (((w.alloc (.cells u t1)).alloc (.cells x t2)).alloc (.cells y t3)) oo nn).heap[w.heap.size + 1]? = some (.cells x t2 (0, 0)) ∧
    (addsW (((w.alloc (.cells u t1)).alloc (.cells x t2)).alloc (.cells y t3)) oo nn).heap[w.heap.size + 1 + 1]? = some (.cells y t3 (0, 0)) := by
  refine ⟨?_, ?_, ?_⟩
  · rw [heap_addsW _ _ _ _ (by simp; omega), Below.heap_alloc _ _ _ (by simp; omega), Below.heap_alloc _ _ _ (by simp)]; exact heap_alloc_new _ _
  · rw [heap_addsW _ _ _ _ (by simp), Below.heap_alloc _ _ _ (by simp)]; exact heap_alloc2_new _ _ _
  · rw [heap_addsW _ _ _ _ (by simp)]
    have := heap_alloc_new ((w.alloc (.cells u t1)).alloc (.cells x t2)) (.cells y t3); simpa using this
theorem setRow3 (w : World) (u x y cs : Array Value) (t1 t2 t3 : TypeId) (oo : Array Obj) (nn : Nat) :
    (addsW (((w.alloc (.cells u t1)).alloc (.cells x t2)).alloc (.cells y t3)) oo nn).setRow (w.heap.size + 1 + 1) cs = addsW (((w.alloc (.cells u t1)).alloc (.cells x t2)).alloc (.cells cs t3)) oo nn := by
  rw [setRow_addsW _ _ _ _ _ (by simp), setRow_alloc _ _ _ _ _ (by simp)]
theorem infoA64 : (Try.prog.info? 27).map (·.size) = some 64 := by kernel_rfl

set_option maxRecDepth 100000 in
set_option maxHeartbeats 1000000 in
theorem L_toIntA16A4 (zs : List Int) (w : World) (hz : zs.length = 64) :
    Calls Try.prog 45 #[.agg (rowI zs)] w fun e w' => e = .returned (.agg (rowI zs)) ∧ Below w.heap.size w w' := by
  have HZ := Lib.hid hz
  have HF := Lib.hid (show #[.int .i64 0, .int .i64 0, .int .i64 0, .int .i64 0, .int .i64 0, .int .i64 0, .int .i64 0, .int .i64 0, .int .i64 0, .int .i64 0, .int .i64 0, .int .i64 0, .int .i64 0, .int .i64 0, .int .i64 0, .int .i64 0, .int .i64 0, .int .i64 0, .int .i64 0, .int .i64 0, .int .i64 0, .int .i64 0, .int .i64 0, .int .i64 0, .int .i64 0, .int .i64 0, .int .i64 0, .int .i64 0, .int .i64 0, .int .i64 0, .int .i64 0, .int .i64 0, .int .i64 0, .int .i64 0, .int .i64 0, .int .i64 0, .int .i64 0, .int .i64 0, .int .i64 0, .int .i64 0, .int .i64 0, .int .i64 0, .int .i64 0, .int .i64 0, .int .i64 0, .int .i64 0, .int .i64 0, .int .i64 0, .int .i64 0, .int .i64 0, .int .i64 0, .int .i64 0, .int .i64 0, .int .i64 0, .int .i64 0, .int .i64 0, .int .i64 0, .int .i64 0, .int .i64 0, .int .i64 0, .int .i64 0, .int .i64 0, .int .i64 0, .int .i64 0] = rowI (zL 64) by kernel_rfl)
  clear hz
  go_enter Try.func45, Try.ntmps45
  go_wp2_with fail
  simp only [HF.out]
  go_loopw [4] (fun i wr => ∃ (k : Nat) (oo : Array Obj) (nn : Nat), k ≤ 4 ∧ i = .int .i64 (k : Int) ∧ wr = addsW (((w.alloc (.cells (rowI zs) 27)).alloc (.cells (rowI (zL 64)) 27)).alloc (.cells (rowI (cpL 64 (k * 16) zs)) 27)) oo nn) (fun i _ => 4 - (intOf i).toNat)
  case atStart => exact ⟨0, #[], _, Nat.zero_le _, rfl, self_adds _⟩
  case round =>
    obtain ⟨k, oo, nn, hk, rfl, rfl⟩ := hrel
    by_cases hlt : k < 4
    · have hd1 : decide ((k : Int) < 4) = true := by simp; omega
      have HS := Lib.hid (show spl (cpL 64 (k * 16) zs) (k * 16) (sub zs (k * 16) 16) = cpL 64 ((k + 1) * 16) zs by rw [cpL_spl HZ.out (by omega), show k * 16 + 16 = (k + 1) * 16 by omega])
      go_wp2_with (first | (refine wpList_load_sub rfl 26 (.tmp 11) rfl w.heap.size (k * 16) 16 rfl 27 zs (0, 0) _ (heap3 _ _ _ _ _ _ _ _ _).1 Try.underlying26 rfl infoA16 (by rw [HZ.out]; omega) ?_) | (go_at_call 73; refine (L_toIntA16 (sub zs (k * 16) 16) _ (sub_len (by rw [HZ.out]; omega))).mono ?_; rintro e w' ⟨rfl, hb⟩; obtain ⟨o1, n1, rfl⟩ := below_adds hb; clear hb) | (refine wpList_store_sub rfl 26 (.tmp 14) (.tmp 13) rfl (w.heap.size + 1 + 1) (k * 16) (sub zs (k * 16) 16) rfl rfl 27 (cpL 64 (k * 16) zs) (heap3 _ _ _ _ _ _ _ _ _).2.2 (by rw [sub_len (by rw [HZ.out]; omega)]; exact infoA16) (by rw [sub_len (by rw [HZ.out]; omega), cpL_len HZ.out (by omega)]; omega) ?_; rw [setRow3, HS.out]))
      go_roundw
      case rel => exact ⟨k + 1, _, _, by omega, by go_num, rfl⟩
      case measure => simp [intOf]; omega
    · obtain rfl : k = 4 := by omega
      rw [show cpL 64 (4 * 16) zs = zs from cpL_full HZ.out]
      go_wp2_with (first | (refine wpList_load_sub rfl 27 (.tmp 3) rfl (w.heap.size + 1 + 1) 0 64 rfl 27 zs (0, 0) _ (heap3 _ _ _ _ _ _ _ _ _).2.2 Try.underlying27 rfl infoA64 (by rw [HZ.out]; exact Nat.le_refl _) ?_; rw [show sub zs 0 64 = zs by rw [← HZ.out]; exact sub_all zs]) | (refine wpList_store_sub rfl 27 (.tmp 2) (.tmp 15) rfl (w.heap.size + 1) 0 zs rfl rfl 27 (zL 64) (heap3 _ _ _ _ _ _ _ _ _).2.1 (by rw [HZ.out]; exact infoA64) (by rw [HZ.out, zL_len]; exact Nat.le_refl _) ?_; rw [spl_full (by rw [HZ.out, zL_len])]))
      refine bodyPost_ret (v := .agg (rowI zs)) (by exact results_cell_row Try.results45 _ _ (w.heap.size + 1) 27 (rowI zs) (0, 0) _ rfl (setRow_heap _ _ (rowI (zL 64)) _ _ _ (heap3 _ _ _ _ _ _ _ _ _).2.1) Try.underlying27 rfl (by rw [rowI_size, HZ.out]; exact infoA64)) rfl ?_
      exact ⟨rfl, Below.setRow_ (by repeat' (first | (with_reducible exact Below.refl _ _) | (with_reducible refine Below.adds_ ?_ ?_ _ _) | (with_reducible refine Below.alloc ?_ ?_ _) | (with_reducible refine Below.drew ?_) | (with_reducible refine Below.setCell ?_ ?_ _) | (with_reducible assumption) | go_size | (simp only [size_addsW, World.size_alloc, World.size_drew, World.size_setCell]; omega))) (by omega) _⟩

theorem infoMac : (Try.prog.info? 29).map (·.size) = some 71 := by kernel_rfl
theorem setRow3b (w : World) (u x y cs : Array Value) (t1 t2 t3 : TypeId) : (((w.alloc (.cells u t1)).alloc (.cells x t2)).alloc (.cells y t3)).setRow (w.heap.size + 1 + 1) cs = ((w.alloc (.cells u t1)).alloc (.cells x t2)).alloc (.cells cs t3) := setRow_alloc _ _ _ _ _ (by simp)

set_option maxRecDepth 100000 in
set_option maxHeartbeats 2000000 in
theorem L_toMacro (zs : List Int) (w : World) (hz : zs.length = 71) :
    Calls Try.prog 22 #[.agg (rowI zs)] w fun e w' => e = .returned (.agg (rowI zs)) ∧ Below w.heap.size w w' := by
  have HZ := Lib.hid hz
  have c0 := rowI_get (zs := zs) (j := 0) (by omega)
  have c1 := rowI_get (zs := zs) (j := 1) (by omega)
  have c2 := rowI_get (zs := zs) (j := 2) (by omega)
  have s0 : (rowI (cpL 71 0 zs)).setIfInBounds 0 (.int .i64 (zs.getD 0 0)) = rowI (cpL 71 1 zs) := cpL_set hz (by omega)
  have s1 : (rowI (cpL 71 1 zs)).setIfInBounds 1 (.int .i64 (zs.getD 1 0)) = rowI (cpL 71 2 zs) := cpL_set hz (by omega)
  have s2 : (rowI (cpL 71 2 zs)).setIfInBounds 2 (.int .i64 (zs.getD 2 0)) = rowI (cpL 71 3 zs) := cpL_set hz (by omega)
  have d0 := cpL_at (k := 0) hz (by omega)
  have d1 := cpL_at (k := 1) hz (by omega)
  have d2 := cpL_at (k := 2) hz (by omega)
  obtain ⟨x0, HX0⟩ : ∃ x0, zs.getD 0 0 = x0 := ⟨_, rfl⟩
  rw [HX0] at c0 s0
  generalize zs.getD 1 0 = x1 at c1 s1
  generalize zs.getD 2 0 = x2 at c2 s2
  have D2 : (rowI (cpL 71 1 zs))[2]? = some (.int .i64 0) := by
    rw [rowI_get (by rw [cpL_len hz (by omega)]; omega)]; congr 2; rw [cpL, List.getD_eq_getElem?_getD, List.getElem?_append_right (by simp; omega)]; simp [show min 1 zs.length = 1 by omega]
  have hx0 : zs.getD 0 0 = x0 := HX0
  have e1 : rowI (x0 :: zL 70) = rowI (cpL 71 1 zs) := by
    congr 1
    cases zs with
    | nil => simp at hz
    | cons y ys => simp at hx0; subst hx0; simp [cpL, zL]
  have HE := Lib.hid e1
  clear hz hx0 HX0 e1
  go_enter Try.func22, Try.ntmps22
  go_upto_region 2 with fail
  go_cut [] (fun wx => wx = ((w.alloc (.cells (rowI zs) 52)).alloc (.cells (rowI (zL 71)) 29)).alloc (.cells (rowI (x0 :: zL 70)) 29))
  case first =>
    go_wp2_with fail
    go_meet
    rfl
  case rest =>
    subst hcut
    rw [HE.out]
    have l4 := sub_len (zs := zs) (o := 3) (s := 4) (by rw [HZ.out]; omega)
    have l64 := sub_len (zs := zs) (o := 7) (s := 64) (by rw [HZ.out]; omega)
    have HL4 := Lib.hid l4
    have HL64 := Lib.hid l64
    have HS3 := Lib.hid (show spl (cpL 71 3 zs) 3 (sub zs 3 4) = cpL 71 7 zs from cpL_spl HZ.out (by omega))
    have HS7 := Lib.hid (show spl (cpL 71 7 zs) 7 (sub zs 7 64) = zs by rw [cpL_spl HZ.out (by omega)]; exact cpL_full HZ.out)
    clear l4 l64
    go_wp2_with (first
      | (go_at_call 43; refine (L_toVector x1 x2 _).mono ?_; rintro e w' ⟨rfl, hb⟩; obtain ⟨o1, n1, rfl⟩ := below_adds hb; clear hb)
      | (refine wpList_load_sub rfl 25 (.tmp 11) rfl w.heap.size 3 4 rfl 52 zs (0, 0) _ (heap3 _ _ _ _ _ _ _ _ _).1 Try.underlying25 rfl infoA4 (by rw [HZ.out]; omega) ?_)
      | (go_at_call 44; refine (L_toIntA4 (sub zs 3 4) _ HL4.out).mono ?_; rintro e w' ⟨rfl, hb⟩; obtain ⟨o1, n1, rfl⟩ := below_adds hb; clear hb)
      | (refine wpList_store_sub rfl 25 (.tmp 14) (.tmp 13) rfl (w.heap.size + 1 + 1) 3 (sub zs 3 4) rfl rfl 29 (cpL 71 3 zs) (heap3 _ _ _ _ _ _ _ _ _).2.2 (by rw [HL4.out]; exact infoA4) (by rw [HL4.out, cpL_len HZ.out (by omega)]; omega) ?_; rw [setRow3, HS3.out])
      | (refine wpList_load_sub rfl 27 (.tmp 15) rfl w.heap.size 7 64 rfl 52 zs (0, 0) _ (heap3 _ _ _ _ _ _ _ _ _).1 Try.underlying27 rfl infoA64 (by rw [HZ.out]; omega) ?_)
      | (go_at_call 45; refine (L_toIntA16A4 (sub zs 7 64) _ HL64.out).mono ?_; rintro e w' ⟨rfl, hb⟩; obtain ⟨o1, n1, rfl⟩ := below_adds hb; clear hb)
      | (refine wpList_store_sub rfl 27 (.tmp 18) (.tmp 17) rfl (w.heap.size + 1 + 1) 7 (sub zs 7 64) rfl rfl 29 (cpL 71 7 zs) (heap3 _ _ _ _ _ _ _ _ _).2.2 (by rw [HL64.out]; exact infoA64) (by rw [HL64.out, cpL_len HZ.out (by omega)]; omega) ?_; rw [setRow3, HS7.out])
      | (refine wpList_load_sub rfl 29 (.tmp 3) rfl (w.heap.size + 1 + 1) 0 71 rfl 29 zs (0, 0) _ (heap3 _ _ _ _ _ _ _ _ _).2.2 Try.underlying29 rfl infoMac (by rw [HZ.out]; omega) ?_; rw [show sub zs 0 71 = zs by rw [← HZ.out]; exact sub_all zs])
      | (refine wpList_store_sub rfl 29 (.tmp 2) (.tmp 19) rfl (w.heap.size + 1) 0 zs rfl rfl 29 (zL 71) (heap3 _ _ _ _ _ _ _ _ _).2.1 (by rw [HZ.out]; exact infoMac) (by rw [HZ.out, zL_len]; exact Nat.le_refl _) ?_; rw [spl_full (by rw [HZ.out, zL_len])]))
    refine bodyPost_ret (v := .agg (rowI zs)) (by exact results_cell_row Try.results22 _ _ (w.heap.size + 1) 29 (rowI zs) (0, 0) _ rfl (setRow_heap _ _ (rowI (zL 71)) _ _ _ (heap3 _ _ _ _ _ _ _ _ _).2.1) Try.underlying29 rfl (by rw [rowI_size, HZ.out]; exact infoMac)) rfl ?_
    exact ⟨rfl, Below.setRow_ (by repeat' (first | (with_reducible exact Below.refl _ _) | (with_reducible refine Below.adds_ ?_ ?_ _ _) | (with_reducible refine Below.alloc ?_ ?_ _) | (with_reducible refine Below.drew ?_) | (with_reducible refine Below.setCell ?_ ?_ _) | (with_reducible assumption) | go_size | (simp only [size_addsW, World.size_alloc, World.size_drew, World.size_setCell]; omega))) (by omega) _⟩

end Go.Proofs.Ytggkelehjdepkaa
