/- What is coded can be decoded: by lists, with no program in sight. -/
import Derived.Test.YtndbdfbjiaaloaaDecL
namespace Go.Proofs.Ytndbdfbjiaaloaa
open Go.RowKit
set_option linter.unusedVariables false
set_option linter.unusedSimpArgs false

attribute [local go_sem] size_addsW cell?_addsW frozen?_addsW setCell_addsW drew_addsW adds_addsW setCell_twice alloc_adds0 size_adds0 adds_adds0 sel2 sel3 sel4 sel5 sel6 sel7 sel8 sel9 lt_more lt_more2 lt_more3 lt_more4 adds_drew adds_drewN drewN_addsW ltA_1_1 ltA_1_2 ltA_1_3 ltA_1_4 ltA_1_5 ltA_1_6 ltA_2_1 ltA_2_2 ltA_2_3 ltA_2_4 ltA_2_5 ltA_2_6 ltA_3_1 ltA_3_2 ltA_3_3 ltA_3_4 ltA_3_5 ltA_3_6 ltA_4_1 ltA_4_2 ltA_4_3 ltA_4_4 ltA_4_5 ltA_4_6 ltA_5_1 ltA_5_2 ltA_5_3 ltA_5_4 ltA_5_5 ltA_5_6 ltA_6_1 ltA_6_2 ltA_6_3 ltA_6_4 ltA_6_5 ltA_6_6 ltA_7_1 ltA_7_2 ltA_7_3 ltA_7_4 ltA_7_5 ltA_7_6 ltA_8_1 ltA_8_2 ltA_8_3 ltA_8_4 ltA_8_5 ltA_8_6 ltA_9_1 ltA_9_2 ltA_9_3 ltA_9_4 ltA_9_5 ltA_9_6 ltA_10_1 ltA_10_2 ltA_10_3 ltA_10_4 ltA_10_5 ltA_10_6 ltA_11_1 ltA_11_2 ltA_11_3 ltA_11_4 ltA_11_5 ltA_11_6 ltA_12_1 ltA_12_2 ltA_12_3 ltA_12_4 ltA_12_5 ltA_12_6

/-- the contexts, the bits of the first k decisions -/
def ctxL (zs : List Int) (k : Nat) : List Int := (List.range k).map (bnC zs)
def bitL (zs : List Int) (k : Nat) : List Int := (List.range k).map (bnB zs)
theorem ctxL_len (zs : List Int) (k : Nat) : (ctxL zs k).length = k := by simp [ctxL]
theorem bitL_len (zs : List Int) (k : Nat) : (bitL zs k).length = k := by simp [bitL]
theorem ctxL_succ (zs : List Int) (k : Nat) : ctxL zs (k + 1) = ctxL zs k ++ [bnC zs k] := by simp [ctxL, List.range_succ]
theorem bitL_succ (zs : List Int) (k : Nat) : bitL zs (k + 1) = bitL zs k ++ [bnB zs k] := by simp [bitL, List.range_succ]
theorem ctxL_at {zs : List Int} {k i : Nat} (h : i < k) : (ctxL zs k).getD i 0 = bnC zs i := by
  simp [ctxL, List.getD_eq_getElem?_getD, List.getElem?_map, List.getElem?_range, h]
theorem ctxB_of {zs : List Int} {n : Nat} (hn : n ≤ 20000) (h : ∀ i, i < n → 0 ≤ bnC zs i ∧ bnC zs i < 40) : ctxB (ctxL zs n) = true := by
  rw [ctxB, ctxL_len, decide_eq_true hn, Bool.true_and]
  simp only [ctxUp, List.all_eq_true, List.mem_range]
  intro i hi
  rw [ctxL_at hi]
  have := h i hi
  simp [M.inB]; omega
theorem decK_congr {d c c' : Nat → Int} : ∀ {k : Nat}, (∀ i, i < k → c i = c' i) → M.decK d c k = M.decK d c' k
  | 0, _ => rfl
  | k + 1, h => by
    rw [M.decK, M.decK, decK_congr (fun i hi => h i (by omega)), h k (by omega)]
theorem decB_congr {d c c' : Nat → Int} {k : Nat} (h : ∀ i, i ≤ k → c i = c' i) : M.decB d c k = M.decB d c' k := by
  rw [M.decB, M.decB, decK_congr (fun i hi => h i (by omega)), h k (Nat.le_refl _)]
theorem round_list {zs : List Int} {n : Nat} (hv : binsB zs n = true) (more : List Int) (hby : ∀ i, 0 ≤ (encL zs n ++ more).getD i 0 ∧ (encL zs n ++ more).getD i 0 ≤ 255) : decOut (encL zs n ++ more) (ctxL zs n) = bitL zs n := by
  have hok := binsB_ok hv
  rw [decOut, ctxB_of hok.1 (fun i hi => (hok.2 i hi).1)]
  simp only [if_true, decL, bitL, ctxL_len]
  apply List.map_congr_left
  intro i hi
  have hi' := List.mem_range.1 hi
  rw [decB_congr (c := cxF (ctxL zs n)) (c' := bnC zs) (fun j hj => ctxL_at (show j < n by omega))]
  refine M.round_trip (byD_byte hby) hok.2 (fun j hj => ?_) i hi'
  have he : encL zs n = M.encBytes (bnC zs) (bnB zs) n := by simp [encL, hv]
  rw [byD, he, List.getD_eq_getElem?_getD, List.getElem?_append_left hj, ← List.getD_eq_getElem?_getD]

end Go.Proofs.Ytndbdfbjiaaloaa
