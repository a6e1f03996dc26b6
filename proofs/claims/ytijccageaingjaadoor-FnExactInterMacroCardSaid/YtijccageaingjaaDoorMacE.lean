/- Arrays compared, loaded and stored at operations that may be guarded. -/
import Derived.Test.YtijccageaingjaaDoorMacV
import Derived.Test.YtijccageaingjaaDoorArm
namespace Go.Proofs.YtijccageaingjaaDoor
open Go.RowKit
set_option linter.unusedVariables false
set_option linter.unusedSimpArgs false

attribute [local go_sem] size_addsW cell?_addsW frozen?_addsW setCell_addsW drew_addsW adds_addsW setCell_twice alloc_adds0 size_adds0 adds_adds0 sel2 sel3 sel4 sel5 sel6 sel7 sel8 sel9 lt_more lt_more2 lt_more3 lt_more4 adds_drew adds_drewN drewN_addsW ltA_1_1 ltA_1_2 ltA_1_3 ltA_1_4 ltA_1_5 ltA_1_6 ltA_2_1 ltA_2_2 ltA_2_3 ltA_2_4 ltA_2_5 ltA_2_6 ltA_3_1 ltA_3_2 ltA_3_3 ltA_3_4 ltA_3_5 ltA_3_6 ltA_4_1 ltA_4_2 ltA_4_3 ltA_4_4 ltA_4_5 ltA_4_6 ltA_5_1 ltA_5_2 ltA_5_3 ltA_5_4 ltA_5_5 ltA_5_6 ltA_6_1 ltA_6_2 ltA_6_3 ltA_6_4 ltA_6_5 ltA_6_6 ltA_7_1 ltA_7_2 ltA_7_3 ltA_7_4 ltA_7_5 ltA_7_6 ltA_8_1 ltA_8_2 ltA_8_3 ltA_8_4 ltA_8_5 ltA_8_6 ltA_9_1 ltA_9_2 ltA_9_3 ltA_9_4 ltA_9_5 ltA_9_6 ltA_10_1 ltA_10_2 ltA_10_3 ltA_10_4 ltA_10_5 ltA_10_6 ltA_11_1 ltA_11_2 ltA_11_3 ltA_11_4 ltA_11_5 ltA_11_6 ltA_12_1 ltA_12_2 ltA_12_3 ltA_12_4 ltA_12_5 ltA_12_6

theorem all_parts (xs ys : List Int) (n s : Nat) (hs : 0 < s) (hx : xs.length = n * s) (hy : ys.length = n * s) : ((List.range n).all fun i => sub xs (i * s) s == sub ys (i * s) s) = (xs == ys) := by
  rw [Bool.eq_iff_iff]
  simp only [List.all_eq_true, List.mem_range, beq_iff_eq]
  constructor
  · intro h
    apply List.ext_getElem?
    intro j
    by_cases hj : j < n * s
    · have hi : j / s < n := by rw [Nat.div_lt_iff_lt_mul hs]; exact hj
      have hm := Nat.mod_lt j hs
      have e1 := Nat.div_add_mod j s
      rw [Nat.mul_comm] at e1
      have h2 := congrArg (fun l => l.getD (j % s) 0) (h _ hi)
      simp only [sub_at hm, e1] at h2
      rw [List.getElem?_eq_getElem (by omega), List.getElem?_eq_getElem (by omega)]
      simp only [List.getD_eq_getElem?_getD, List.getElem?_eq_getElem (show j < xs.length by omega), List.getElem?_eq_getElem (show j < ys.length by omega), Option.getD_some] at h2
      rw [h2]
    · rw [List.getElem?_eq_none (by omega), List.getElem?_eq_none (by omega)]
  · intro h i _
    rw [h]
theorem eq4 (w : World) (xs ys : List Int) (hx : xs.length = 4) (hy : ys.length = 4) : (Op.equalIn 10000 29 (.agg (rowI xs)) (.agg (rowI ys))).run Tryd.prog w = .ok (xs == ys) w :=
  run_equalIn_ints w 9998 29 3 4 Tryd.underlying29 Tryd.underlying3 (by kernel_rfl) xs ys hx hy
theorem eq64 (w : World) (xs ys : List Int) (hx : xs.length = 64) (hy : ys.length = 64) : (Op.equalIn 10000 31 (.agg (rowI xs)) (.agg (rowI ys))).run Tryd.prog w = .ok (xs == ys) w := by
  rw [← all_parts xs ys 4 16 (by decide) hx hy]
  refine run_equalIn_arr w 9999 31 30 4 16 Tryd.underlying31 (by kernel_rfl) _ _ _ (fun i hi => ⟨_, _, run_part_sub w 30 _ 16 Tryd.underlying30 rfl infoA16 xs _, run_part_sub w 30 _ 16 Tryd.underlying30 rfl infoA16 ys _, ?_⟩)
  exact run_equalIn_ints w 9997 30 3 16 Tryd.underlying30 Tryd.underlying3 (by kernel_rfl) _ _ (sub_len (by omega)) (sub_len (by omega))

/-- the parts of a macroblock -/
def mkK (zs : List Int) : Int := zs.getD 0 0
def mdL (zs : List Int) : List Int := sub zs 3 4
def lvL (zs : List Int) : List Int := sub zs 7 64
def modB (l : List Int) : Bool := l.all fun z => M.inB z 0 4
/-- a macroblock is valid -/
def macB (zs : List Int) : Bool :=
  M.inB (mkK zs) 0 2 && M.vecB (zs.getD 1 0) (zs.getD 2 0) && modB (mdL zs) && absB 4080 (lvL zs) && (mkK zs == 1 || (zs.getD 1 0 == 0 && zs.getD 2 0 == 0)) && (mkK zs == 2 || mdL zs == zL 4) && (mkK zs != 0 || lvL zs == zL 64)
theorem modB_take {zs : List Int} {k : Nat} (h : k < zs.length) (ht : modB (zs.take k) = true) (hz : M.inB (zs.getD k 0) 0 4 = true) : modB (zs.take (k + 1)) = true := by
  rw [List.take_succ_eq_append_getElem h, modB, List.all_append, ← modB, ht]
  simp only [List.getD_eq_getElem?_getD, List.getElem?_eq_getElem h, Option.getD_some] at hz
  simp [hz]
theorem modB_no {zs : List Int} {k : Nat} (h : k < zs.length) (hz : M.inB (zs.getD k 0) 0 4 = false) : modB zs = false := by
  simp only [modB, List.all_eq_false]
  refine ⟨zs[k], List.getElem_mem h, ?_⟩
  simp only [List.getD_eq_getElem?_getD, List.getElem?_eq_getElem h, Option.getD_some] at hz
  simp [hz]
theorem sub_sub (zs : List Int) (o s p q : Nat) (h : p + q ≤ s) : sub (sub zs o s) p q = sub zs (o + p) q := by
  apply List.ext_getElem?
  intro i
  simp only [sub, List.getElem?_take, List.getElem?_drop]
  by_cases hi : i < q
  · rw [if_pos hi, if_pos (by omega), if_pos hi, Nat.add_assoc]
  · rw [if_neg hi, if_neg hi]

end Go.Proofs.YtijccageaingjaaDoor
