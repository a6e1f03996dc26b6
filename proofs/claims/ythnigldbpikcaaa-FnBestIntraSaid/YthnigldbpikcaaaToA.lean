/- Arrays of numbers and edges copied; the inputs opened. -/
import Derived.Test.YthnigldbpikcaaaPredM
import Derived.Test.YthnigldbpikcaaaPredL
import Derived.Test.YthnigldbpikcaaaFlat
import Derived.LoopTactic
import Derived.Deep.DeepCutAuto
namespace Go.Proofs.Ythnigldbpikcaaa
open Go.RowKit Go.Deep
set_option linter.unusedVariables false
set_option linter.unusedSimpArgs false

attribute [local go_sem] size_addsW cell?_addsW frozen?_addsW setCell_addsW drew_addsW adds_addsW setCell_twice alloc_adds0 size_adds0 adds_adds0 sel2 sel3 sel4 sel5 sel6 sel7 sel8 sel9 lt_more lt_more2 lt_more3 lt_more4 adds_drew adds_drewN drewN_addsW ltA_1_1 ltA_1_2 ltA_1_3 ltA_1_4 ltA_1_5 ltA_1_6 ltA_2_1 ltA_2_2 ltA_2_3 ltA_2_4 ltA_2_5 ltA_2_6 ltA_3_1 ltA_3_2 ltA_3_3 ltA_3_4 ltA_3_5 ltA_3_6 ltA_4_1 ltA_4_2 ltA_4_3 ltA_4_4 ltA_4_5 ltA_4_6 ltA_5_1 ltA_5_2 ltA_5_3 ltA_5_4 ltA_5_5 ltA_5_6 ltA_6_1 ltA_6_2 ltA_6_3 ltA_6_4 ltA_6_5 ltA_6_6 ltA_7_1 ltA_7_2 ltA_7_3 ltA_7_4 ltA_7_5 ltA_7_6 ltA_8_1 ltA_8_2 ltA_8_3 ltA_8_4 ltA_8_5 ltA_8_6 ltA_9_1 ltA_9_2 ltA_9_3 ltA_9_4 ltA_9_5 ltA_9_6 ltA_10_1 ltA_10_2 ltA_10_3 ltA_10_4 ltA_10_5 ltA_10_6 ltA_11_1 ltA_11_2 ltA_11_3 ltA_11_4 ltA_11_5 ltA_11_6 ltA_12_1 ltA_12_2 ltA_12_3 ltA_12_4 ltA_12_5 ltA_12_6

theorem setRow_addsW (w : World) (os : Array Obj) (n g : Nat) (cs : Array Value) (h : g < w.heap.size) : (addsW w os n).setRow g cs = addsW (w.setRow g cs) os n := by
  unfold World.setRow addsW
  congr 1
  apply Array.ext_getElem?
  intro k
  simp only [Array.getElem?_modify, Array.getElem?_append, Array.size_modify]
  by_cases hk : k < w.heap.size
  · simp [hk, Array.getElem?_modify]
  · have : ¬ g = k := by omega
    simp [hk, this]
theorem Below.setRow_ {B : Nat} {a w : World} (h : Below B a w) {g : Nat} (hg : B ≤ g) (cs : Array Value) : Below B a (w.setRow g cs) := by
  obtain ⟨h1, h2, h3, h4, h5⟩ := h
  refine ⟨h1, h2, h3, by simpa using h4, fun k hk => ?_⟩
  rw [← h5 k hk]
  simp only [World.setRow, Array.getElem?_modify]
  rw [if_neg (by omega)]
def zL (n : Nat) : List Int := List.replicate n 0
theorem zL_len (n : Nat) : (zL n).length = n := by simp [zL]
/-- k of n numbers are copied -/
def cpL (n k : Nat) (zs : List Int) : List Int := zs.take k ++ List.replicate (n - k) 0
theorem cpL_len {n k : Nat} {zs : List Int} (hz : zs.length = n) (hk : k ≤ n) : (cpL n k zs).length = n := by simp [cpL]; omega
theorem cpL_full {n : Nat} {zs : List Int} (hz : zs.length = n) : cpL n n zs = zs := by simp [cpL, List.take_of_length_le (show zs.length ≤ n by omega)]
theorem cpL_set {n k : Nat} {zs : List Int} (hz : zs.length = n) (h : k < n) : (rowI (cpL n k zs)).setIfInBounds k (.int .i64 (zs.getD k 0)) = rowI (cpL n (k + 1) zs) := by
  rw [rowI_set]
  congr 1
  apply List.ext_getElem?
  intro i
  simp only [cpL, List.getElem?_set, List.getElem?_append, List.length_take, List.getElem?_take, List.getElem?_replicate, List.length_append, List.length_replicate]
  by_cases h1 : k = i
  · subst h1; simp [show k < zs.length by omega, List.getD_eq_getElem?_getD, h, show min k zs.length = k by omega, show min (k + 1) zs.length = k + 1 by omega, show k < k + (n - k) by omega]
  · rw [if_neg h1]
    by_cases h2 : i < k
    · simp [show min k zs.length = k by omega, show min (k + 1) zs.length = k + 1 by omega, h2, show i < k + 1 by omega]
    · simp [show min k zs.length = k by omega, show min (k + 1) zs.length = k + 1 by omega, h2, show ¬ i < k + 1 by omega]
      by_cases h3 : i - k < n - k
      · rw [if_pos h3, if_pos (by omega)]
      · rw [if_neg h3, if_neg (by omega)]
theorem cpL_at {n k : Nat} {zs : List Int} (hz : zs.length = n) (h : k < n) : (rowI (cpL n k zs))[k]? = some (.int .i64 0) := by
  rw [rowI_get (by rw [cpL_len hz (by omega)]; exact h)]
  congr 2
  rw [cpL, List.getD_eq_getElem?_getD, List.getElem?_append_right (by simp; omega)]
  simp [show min k zs.length = k by omega, List.getElem?_replicate, show 0 < n - k by omega]

theorem heap2_16 (w : World) (x y : Array Value) (t : TypeId) (u : Array Value) : (((w.alloc (.cells u t)).alloc (.cells x t)).alloc (.cells y t)).heap[w.heap.size + 1 + 1]? = some (.cells y t (0, 0)) ∧ (((w.alloc (.cells u t)).alloc (.cells x t)).alloc (.cells y t)).heap[w.heap.size + 1]? = some (.cells x t (0, 0)) := by
  constructor
  · have := heap_alloc_new ((w.alloc (.cells u t)).alloc (.cells x t)) (.cells y t); simpa using this
  · rw [Below.heap_alloc _ _ _ (by simp)]; exact heap_alloc2_new _ _ _

set_option maxHeartbeats 1000000 in
theorem L_toIntA16 (zs : List Int) (w : World) (hz : zs.length = 16) :
    Calls Try.prog 13 #[.agg (rowI zs)] w fun e w' => e = .returned (.agg (rowI zs)) ∧ Below w.heap.size w w' := by
  have HZ := Lib.hid hz
  clear hz
  go_enter Try.func13, Try.ntmps13
  go_wp2_with fail
  go_loopw [4] (fun i wr => ∃ k : Nat, k ≤ 16 ∧ i = .int .i64 (k : Int) ∧ wr = ((w.alloc (.cells (rowI zs) 28)).alloc (.cells (rowI (zL 16)) 28)).alloc (.cells (rowI (cpL 16 k zs)) 28)) (fun i _ => 16 - (intOf i).toNat)
  case atStart => exact ⟨0, Nat.zero_le _, rfl, rfl⟩
  case round =>
    obtain ⟨k, hk, rfl, rfl⟩ := hrel
    by_cases hlt : k < 16
    · have hc := rowI_get (zs := zs) (j := k) (by rw [HZ.out]; exact hlt)
      obtain ⟨x, hx⟩ : ∃ x, x = zs.getD k 0 := ⟨_, rfl⟩
      rw [← hx] at hc
      have HX := Lib.hid hx
      clear hx
      have hF := cpL_at HZ.out hlt
      have HS := Lib.hid (cpL_set HZ.out hlt)
      have hd1 : decide ((k : Int) < 16) = true := by simp; omega
      go_wp2_with fail
      go_roundw
      case rel => exact ⟨k + 1, by omega, by go_num, by rw [HX.out, HS.out]⟩
      case measure => simp [intOf]; omega
    · obtain rfl : k = 16 := by omega
      rw [cpL_full HZ.out]
      have hh := heap2_16 w (rowI (zL 16)) (rowI zs) 28 (rowI zs)
      have HH := Lib.hid hh
      clear hh
      go_wp2_with (first | (refine wpList_load_sub rfl 28 (.tmp 3) rfl (w.heap.size + 1 + 1) 0 16 rfl 28 zs (0, 0) _ HH.out.1 Try.underlying28 rfl infoA16 (by rw [HZ.out]; exact Nat.le_refl _) ?_; rw [show sub zs 0 16 = zs by rw [← HZ.out]; exact sub_all zs]) | (refine wpList_store_sub rfl 28 (.tmp 2) (.tmp 14) rfl (w.heap.size + 1) 0 zs rfl rfl 28 (zL 16) HH.out.2 (by rw [HZ.out]; exact infoA16) (by rw [HZ.out]; exact Nat.le_refl _) ?_; rw [spl_full (by rw [HZ.out]; rfl)]))
      refine bodyPost_ret (v := .agg (rowI zs)) (by exact results_cell_row Try.results13 _ _ (w.heap.size + 1) 28 (rowI zs) (0, 0) _ rfl (setRow_heap _ _ (rowI (zL 16)) _ _ _ HH.out.2) Try.underlying28 rfl (by rw [rowI_size, HZ.out]; exact infoA16)) rfl ?_
      exact ⟨rfl, Below.setRow_ (by repeat' (first | (with_reducible exact Below.refl _ _) | (with_reducible refine Below.adds_ ?_ ?_ _ _) | (with_reducible refine Below.alloc ?_ ?_ _) | (with_reducible refine Below.drew ?_) | (with_reducible refine Below.setCell ?_ ?_ _) | (with_reducible assumption) | go_size | (simp only [size_addsW, World.size_alloc, World.size_drew, World.size_setCell]; omega))) (by omega) _⟩

theorem heap2_4 (w : World) (x y : Array Value) (t : TypeId) (u : Array Value) : (((w.alloc (.cells u t)).alloc (.cells x t)).alloc (.cells y t)).heap[w.heap.size + 1 + 1]? = some (.cells y t (0, 0)) ∧ (((w.alloc (.cells u t)).alloc (.cells x t)).alloc (.cells y t)).heap[w.heap.size + 1]? = some (.cells x t (0, 0)) := by
  constructor
  · have := heap_alloc_new ((w.alloc (.cells u t)).alloc (.cells x t)) (.cells y t); simpa using this
  · rw [Below.heap_alloc _ _ _ (by simp)]; exact heap_alloc2_new _ _ _
theorem infoA4 : (Try.prog.info? 23).map (·.size) = some 4 := by kernel_rfl

set_option maxHeartbeats 1000000 in
theorem L_toIntA4 (zs : List Int) (w : World) (hz : zs.length = 4) :
    Calls Try.prog 27 #[.agg (rowI zs)] w fun e w' => e = .returned (.agg (rowI zs)) ∧ Below w.heap.size w w' := by
  have HZ := Lib.hid hz
  clear hz
  go_enter Try.func27, Try.ntmps27
  go_wp2_with fail
  go_loopw [4] (fun i wr => ∃ k : Nat, k ≤ 4 ∧ i = .int .i64 (k : Int) ∧ wr = ((w.alloc (.cells (rowI zs) 23)).alloc (.cells (rowI (zL 4)) 23)).alloc (.cells (rowI (cpL 4 k zs)) 23)) (fun i _ => 4 - (intOf i).toNat)
  case atStart => exact ⟨0, Nat.zero_le _, rfl, rfl⟩
  case round =>
    obtain ⟨k, hk, rfl, rfl⟩ := hrel
    by_cases hlt : k < 4
    · have hc := rowI_get (zs := zs) (j := k) (by rw [HZ.out]; exact hlt)
      obtain ⟨x, hx⟩ : ∃ x, x = zs.getD k 0 := ⟨_, rfl⟩
      rw [← hx] at hc
      have HX := Lib.hid hx
      clear hx
      have hF := cpL_at HZ.out hlt
      have HS := Lib.hid (cpL_set HZ.out hlt)
      have hd1 : decide ((k : Int) < 4) = true := by simp; omega
      go_wp2_with fail
      go_roundw
      case rel => exact ⟨k + 1, by omega, by go_num, by rw [HX.out, HS.out]⟩
      case measure => simp [intOf]; omega
    · obtain rfl : k = 4 := by omega
      rw [cpL_full HZ.out]
      have hh := heap2_4 w (rowI (zL 4)) (rowI zs) 23 (rowI zs)
      have HH := Lib.hid hh
      clear hh
      go_wp2_with (first | (refine wpList_load_sub rfl 23 (.tmp 3) rfl (w.heap.size + 1 + 1) 0 4 rfl 23 zs (0, 0) _ HH.out.1 Try.underlying23 rfl infoA4 (by rw [HZ.out]; exact Nat.le_refl _) ?_; rw [show sub zs 0 4 = zs by rw [← HZ.out]; exact sub_all zs]) | (refine wpList_store_sub rfl 23 (.tmp 2) (.tmp 14) rfl (w.heap.size + 1) 0 zs rfl rfl 23 (zL 4) HH.out.2 (by rw [HZ.out]; exact infoA4) (by rw [HZ.out]; exact Nat.le_refl _) ?_; rw [spl_full (by rw [HZ.out]; rfl)]))
      refine bodyPost_ret (v := .agg (rowI zs)) (by exact results_cell_row Try.results27 _ _ (w.heap.size + 1) 23 (rowI zs) (0, 0) _ rfl (setRow_heap _ _ (rowI (zL 4)) _ _ _ HH.out.2) Try.underlying23 rfl (by rw [rowI_size, HZ.out]; exact infoA4)) rfl ?_
      exact ⟨rfl, Below.setRow_ (by repeat' (first | (with_reducible exact Below.refl _ _) | (with_reducible refine Below.adds_ ?_ ?_ _ _) | (with_reducible refine Below.alloc ?_ ?_ _) | (with_reducible refine Below.drew ?_) | (with_reducible refine Below.setCell ?_ ?_ _) | (with_reducible assumption) | go_size | (simp only [size_addsW, World.size_alloc, World.size_drew, World.size_setCell]; omega))) (by omega) _⟩

theorem flatA4 : FlatI Try.prog 23 := flat_array Try.underlying23 (flat_int Try.underlying3 (by kernel_rfl)) (by kernel_rfl)
theorem flatA16 : FlatI Try.prog 28 := flat_array Try.underlying28 (flat_int Try.underlying3 (by kernel_rfl)) (by kernel_rfl)
theorem okWide_array {P : Program} {w : World} {r : Reach} {base : Nat} {t e : TypeId} {n : Nat} {v : Value} (ht : P.underlying t = some (.array n e)) (h : Value.okWide P w r base t v) : ∃ cs, v = .agg cs ∧ cs.size = P.cellsOf t := by
  simp only [Value.okWide, ht] at h
  obtain ⟨cs, h1, h2, _⟩ := h
  exact ⟨cs, h1, h2⟩
theorem four {l : List Value} (h : l.length = 4) (hc : ∀ c ∈ l, ∃ z : Int, c = .int .i64 z ∧ (Lit.int .i64 z).wf = true) : ∃ f : Nat → Int, l = [.int .i64 (f 0), .int .i64 (f 1), .int .i64 (f 2), .int .i64 (f 3)] := by
  match l, h with
  | [a, b, c, d], _ =>
    obtain ⟨x, rfl, -⟩ := hc a (by simp)
    obtain ⟨y, rfl, -⟩ := hc b (by simp)
    obtain ⟨z, rfl, -⟩ := hc c (by simp)
    obtain ⟨t, rfl, -⟩ := hc d (by simp)
    exact ⟨fun i => [x, y, z, t].getD i 0, rfl⟩
theorem eleven {l : List Value} (h : l.length = 11) : ∃ c0 c1 c2 c3 c4 c5 c6 c7 c8 c9 c10, l = [c0, c1, c2, c3, c4, c5, c6, c7, c8, c9, c10] := by
  match l, h with
  | [c0, c1, c2, c3, c4, c5, c6, c7, c8, c9, c10], _ => exact ⟨c0, c1, c2, c3, c4, c5, c6, c7, c8, c9, c10, rfl⟩

theorem open_edges {H : Type} {enc : TypeId × Value → H} {w : World} {base : Nat} {spare : Nat → Bool} {held : Bool} {v : Value} {d : DataW H} {p : List MemPlace} {cs : Array Value}
    (hv : v = .agg cs) (h : DataW.Trod enc Try.prog w base spare held 34 v d p) : ∃ (f g : Nat → Int) (c : Int) (u l : Bool), v = .agg (eA f g c u l) := by
  subst hv
  obtain ⟨fuel, hf⟩ := h
  simp only [Value.cells] at hf
  obtain ⟨xs, n, _, _, hl, hx, hg⟩ := DataW.trod_struct Try.underlying34 hf
  have hl' : cs.toList.length = 11 := hl.trans (by kernel_rfl)
  obtain ⟨c0, c1, c2, c3, c4, c5, c6, c7, c8, c9, c10, e⟩ := eleven hl'
  rw [e] at hg
  have hx5 : xs.length = 5 := hx
  match xs, hx5 with
  | [x0, x1, x2, x3, x4], _ =>
    have g0 := hg 0 _ rfl
    have g1 := hg 1 _ rfl
    have g2 := hg 2 _ rfl
    have g3 := hg 3 _ rfl
    have g4 := hg 4 _ rfl
    obtain ⟨l0, f0⟩ := flatA4 _ _ _ _ _ _ _ _ _ g0
    obtain ⟨l1, f1⟩ := flatA4 _ _ _ _ _ _ _ _ _ g1
    obtain ⟨f, hf0⟩ := four (by rw [l0]; kernel_rfl) f0
    obtain ⟨g, hg0⟩ := four (by rw [l1]; kernel_rfl) f1
    obtain ⟨c, hc, -⟩ := DataW.trod_int Try.underlying3 g2
    obtain ⟨u, hu, -⟩ := DataW.trod_bool Try.underlying4 g3
    obtain ⟨l, hl2, -⟩ := DataW.trod_bool Try.underlying4 g4
    have k4 : Try.prog.cellsOf 23 = 4 := by kernel_rfl
    have k1 : Try.prog.cellsOf 3 = 1 := by kernel_rfl
    have k2 : Try.prog.cellsOf 4 = 1 := by kernel_rfl
    have q0 := (show ([c0, c1, c2, c3] : List Value) = List.take (Try.prog.cellsOf 23) (List.drop 0 [c0, c1, c2, c3, c4, c5, c6, c7, c8, c9, c10]) by rw [k4]; rfl).trans hf0
    have q1 := (show ([c4, c5, c6, c7] : List Value) = List.take (Try.prog.cellsOf 23) (List.drop 4 [c0, c1, c2, c3, c4, c5, c6, c7, c8, c9, c10]) by rw [k4]; rfl).trans hg0
    have q2 := (show ([c8] : List Value) = List.take (Try.prog.cellsOf 3) (List.drop 8 [c0, c1, c2, c3, c4, c5, c6, c7, c8, c9, c10]) by rw [k1]; rfl).trans hc
    have q3 := (show ([c9] : List Value) = List.take (Try.prog.cellsOf 4) (List.drop 9 [c0, c1, c2, c3, c4, c5, c6, c7, c8, c9, c10]) by rw [k2]; rfl).trans hu
    have q4 := (show ([c10] : List Value) = List.take (Try.prog.cellsOf 4) (List.drop 10 [c0, c1, c2, c3, c4, c5, c6, c7, c8, c9, c10]) by rw [k2]; rfl).trans hl2
    simp only [List.cons.injEq, and_true] at q0 q1 q2 q3 q4
    obtain ⟨rfl, rfl, rfl, rfl⟩ := q0
    obtain ⟨rfl, rfl, rfl, rfl⟩ := q1
    subst q2 q3 q4
    exact ⟨f, g, c, u, l, by rw [← Array.toArray_toList (xs := cs), e]; rfl⟩

end Go.Proofs.Ythnigldbpikcaaa
