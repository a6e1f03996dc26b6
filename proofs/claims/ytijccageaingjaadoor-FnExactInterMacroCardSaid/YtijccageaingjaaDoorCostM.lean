/- MotionCost, both. -/
import Derived.Test.YtijccageaingjaaDoorCost
namespace Go.Proofs.YtijccageaingjaaDoor
open Go.RowKit
set_option linter.unusedVariables false
set_option linter.unusedSimpArgs false

attribute [local go_sem] size_addsW cell?_addsW frozen?_addsW setCell_addsW drew_addsW adds_addsW setCell_twice alloc_adds0 size_adds0 adds_adds0 sel2 sel3 sel4 sel5 sel6 sel7 sel8 sel9 lt_more lt_more2 lt_more3 lt_more4 adds_drew adds_drewN drewN_addsW ltA_1_1 ltA_1_2 ltA_1_3 ltA_1_4 ltA_1_5 ltA_1_6 ltA_2_1 ltA_2_2 ltA_2_3 ltA_2_4 ltA_2_5 ltA_2_6 ltA_3_1 ltA_3_2 ltA_3_3 ltA_3_4 ltA_3_5 ltA_3_6 ltA_4_1 ltA_4_2 ltA_4_3 ltA_4_4 ltA_4_5 ltA_4_6 ltA_5_1 ltA_5_2 ltA_5_3 ltA_5_4 ltA_5_5 ltA_5_6 ltA_6_1 ltA_6_2 ltA_6_3 ltA_6_4 ltA_6_5 ltA_6_6 ltA_7_1 ltA_7_2 ltA_7_3 ltA_7_4 ltA_7_5 ltA_7_6 ltA_8_1 ltA_8_2 ltA_8_3 ltA_8_4 ltA_8_5 ltA_8_6 ltA_9_1 ltA_9_2 ltA_9_3 ltA_9_4 ltA_9_5 ltA_9_6 ltA_10_1 ltA_10_2 ltA_10_3 ltA_10_4 ltA_10_5 ltA_10_6 ltA_11_1 ltA_11_2 ltA_11_3 ltA_11_4 ltA_11_5 ltA_11_6 ltA_12_1 ltA_12_2 ltA_12_3 ltA_12_4 ltA_12_5 ltA_12_6

theorem halfV_even (a b : Int) (zs : List Int) (X Y : Int) : halfV a b zs (2 * X) (2 * Y) = pix a b zs X Y := by
  unfold halfV
  rw [if_pos (by omega), if_pos (by omega), show 2 * X / 2 = X by omega, show 2 * Y / 2 = Y by omega]
theorem cost_lists (a b : Int) (ts rs : List Int) (x y u v : Int) : sad (fun k => (mvL a b ts x y 0 0 64).getD k 0) (fun k => (mvL a b rs x y u v 64).getD k 0) (mvL a b ts x y 0 0 64).length = cost a b ts rs x y u v := by
  rw [mvL_len]
  refine sad_congr 64 (fun k hk => ⟨?_, mvL_get _ _ _ _ _ _ _ _ _ hk⟩)
  show (mvL a b ts x y 0 0 64).getD k 0 = _
  rw [mvL_get _ _ _ _ _ _ _ _ _ hk, mvF, Int.add_zero, Int.add_zero, halfV_even]; rfl
theorem mvL_bytes {a b : Int} {zs : List Int} (h : M.samplesB zs = true) (x y u v : Int) (k : Nat) : 0 ≤ (mvL a b zs x y u v 64).getD k 0 ∧ (mvL a b zs x y u v 64).getD k 0 ≤ 255 := by
  by_cases hk : k < 64
  · rw [mvL_get _ _ _ _ _ _ _ _ _ hk]; exact halfV_bd h _ _
  · rw [List.getD_eq_getElem?_getD, List.getElem?_eq_none (by rw [mvL_len]; omega)]; simp

def mcB (a b : Int) (ts : List Int) (a' b' : Int) (rs : List Int) (x y u v : Int) : Bool := sameB a b ts a' b' rs && begB a b x y && M.vecB u v
def mcV (a b : Int) (ts : List Int) (a' b' : Int) (rs : List Int) (x y u v : Int) : Int := if mcB a b ts a' b' rs x y u v then cost a b ts rs x y u v else -1
theorem sameB_of {a b a' b' : Int} {ts rs : List Int} (h : sameB a b ts a' b' rs = true) : picB a b ts = true ∧ picB a' b' rs = true ∧ a = a' ∧ b = b' := by
  simp only [sameB, Bool.and_eq_true, decide_eq_true_eq] at h
  exact ⟨h.1.1, h.1.2, h.2.1, h.2.2⟩
theorem vecB_bd {u v : Int} (h : M.vecB u v = true) : -16 ≤ u ∧ u ≤ 16 ∧ -16 ≤ v ∧ v ≤ 16 := by simpa [M.vecB] using h

end Go.Proofs.YtijccageaingjaaDoor
