/- What one cell changed does to a valid macroblock. -/
import Derived.Test.YtndbdfbjiaaloaaMacE
namespace Go.Proofs.Ytndbdfbjiaaloaa
open Go.RowKit
set_option linter.unusedVariables false
set_option linter.unusedSimpArgs false

theorem getD_set_ne {zs : List Int} {i j : Nat} {v : Int} (h : i ≠ j) : (zs.set i v).getD j 0 = zs.getD j 0 := by
  rw [List.getD_eq_getElem?_getD, List.getD_eq_getElem?_getD, List.getElem?_set_ne h]
theorem getD_set_eq {zs : List Int} {i : Nat} {v : Int} (h : i < zs.length) : (zs.set i v).getD i 0 = v := by
  rw [List.getD_eq_getElem?_getD, List.getElem?_set_self h]; rfl
theorem sub_set_lo {zs : List Int} {i off s : Nat} {v : Int} (h : i < off) : sub (zs.set i v) off s = sub zs off s := by
  unfold sub; rw [List.drop_set, if_pos h]
theorem sub_set_hi {zs : List Int} {i off s : Nat} {v : Int} (h : off + s ≤ i) : sub (zs.set i v) off s = sub zs off s := by
  unfold sub; rw [List.drop_set, if_neg (by omega), List.take_set, List.set_eq_of_length_le (by rw [List.length_take]; omega)]
theorem sub_set_in {zs : List Int} {i off s : Nat} {v : Int} (h : off ≤ i) : sub (zs.set i v) off s = (sub zs off s).set (i - off) v := by
  unfold sub; rw [List.drop_set, if_neg (by omega), List.take_set]
theorem all_set {p : Int → Bool} {l : List Int} {i : Nat} {v : Int} (h : l.all p = true) (hv : p v = true) : (l.set i v).all p = true := by
  rw [List.all_eq_true] at *
  intro x hx
  rcases List.mem_or_eq_of_mem_set hx with hx | rfl
  · exact h x hx
  · exact hv
theorem set_zL {l : List Int} {i n : Nat} {v : Int} (hi : i < l.length) (hv : v ≠ 0) : (l.set i v == zL n) = false := by
  rw [beq_eq_false_iff_ne]
  intro e
  have := congrArg (fun l => l.getD i 0) e
  simp only [getD_set_eq hi] at this
  rw [zL, List.getD_eq_getElem?_getD, List.getElem?_replicate] at this
  split at this <;> simp at this <;> omega
theorem macB_parts {zs : List Int} (h : macB zs = true) : M.inB (mkK zs) 0 2 = true ∧ M.vecB (zs.getD 1 0) (zs.getD 2 0) = true ∧ modB (mdL zs) = true ∧ absB 4080 (lvL zs) = true ∧ (mkK zs == 1 || (zs.getD 1 0 == 0 && zs.getD 2 0 == 0)) = true ∧ (mkK zs == 2 || mdL zs == zL 4) = true ∧ (mkK zs != 0 || lvL zs == zL 64) = true := by
  unfold macB at h
  simp only [Bool.and_eq_true] at h
  obtain ⟨⟨⟨⟨⟨⟨h1, h2⟩, h3⟩, h4⟩, h5⟩, h6⟩, h7⟩ := h
  exact ⟨h1, h2, h3, h4, by simpa using h5, h6, h7⟩
theorem macB_vec {zs : List Int} (hl : zs.length = 71) (h : macB zs = true) : macB ((zs.set 1 1).set 2 0) = (mkK zs == 1) := by
  obtain ⟨h1, h2, h3, h4, h5, h6, h7⟩ := macB_parts h
  have e0 : mkK ((zs.set 1 1).set 2 0) = mkK zs := by unfold mkK; rw [getD_set_ne (by decide), getD_set_ne (by decide)]
  have e1 : ((zs.set 1 1).set 2 0).getD 1 0 = 1 := by rw [getD_set_ne (by decide), getD_set_eq (by omega)]
  have e2 : ((zs.set 1 1).set 2 0).getD 2 0 = 0 := by rw [getD_set_eq (by rw [List.length_set]; omega)]
  have e3 : mdL ((zs.set 1 1).set 2 0) = mdL zs := by unfold mdL; rw [sub_set_lo (by decide), sub_set_lo (by decide)]
  have e4 : lvL ((zs.set 1 1).set 2 0) = lvL zs := by unfold lvL; rw [sub_set_lo (by decide), sub_set_lo (by decide)]
  unfold macB
  rw [e0, e1, e2, e3, e4, h1, h3, h4, h6, h7, show M.vecB 1 0 = true by decide]
  cases mkK zs == 1 <;> decide
theorem macB_mode {zs : List Int} (hl : zs.length = 71) (h : macB zs = true) : macB (zs.set 5 1) = (mkK zs == 2) := by
  obtain ⟨h1, h2, h3, h4, h5, h6, h7⟩ := macB_parts h
  have e0 : mkK (zs.set 5 1) = mkK zs := by unfold mkK; rw [getD_set_ne (by decide)]
  have e1 : (zs.set 5 1).getD 1 0 = zs.getD 1 0 := getD_set_ne (by decide)
  have e2 : (zs.set 5 1).getD 2 0 = zs.getD 2 0 := getD_set_ne (by decide)
  have e3 : mdL (zs.set 5 1) = (mdL zs).set 2 1 := by unfold mdL; rw [sub_set_in (by decide)]
  have e4 : lvL (zs.set 5 1) = lvL zs := by unfold lvL; rw [sub_set_lo (by decide)]
  have hm : (mdL zs).length = 4 := sub_len (by omega)
  unfold macB
  rw [e0, e1, e2, e3, e4, h1, h2, h4, h5, h7, set_zL (by omega) (by decide), show modB ((mdL zs).set 2 1) = true from all_set h3 (by decide)]
  cases mkK zs == 2 <;> decide
theorem macB_level {zs : List Int} (hl : zs.length = 71) (h : macB zs = true) : macB (zs.set 26 5) = (mkK zs != 0) := by
  obtain ⟨h1, h2, h3, h4, h5, h6, h7⟩ := macB_parts h
  have e0 : mkK (zs.set 26 5) = mkK zs := by unfold mkK; rw [getD_set_ne (by decide)]
  have e1 : (zs.set 26 5).getD 1 0 = zs.getD 1 0 := getD_set_ne (by decide)
  have e2 : (zs.set 26 5).getD 2 0 = zs.getD 2 0 := getD_set_ne (by decide)
  have e3 : mdL (zs.set 26 5) = mdL zs := by unfold mdL; rw [sub_set_hi (by decide)]
  have e4 : lvL (zs.set 26 5) = (lvL zs).set 19 5 := by unfold lvL; rw [sub_set_in (by decide)]
  have hm : (lvL zs).length = 64 := sub_len (by omega)
  unfold macB
  rw [e0, e1, e2, e3, e4, h1, h2, h3, h5, h6, set_zL (by omega) (by decide), show absB 4080 ((lvL zs).set 19 5) = true from all_set h4 (by decide)]
  cases mkK zs != 0 <;> decide

end Go.Proofs.Ytndbdfbjiaaloaa
