/- NewPicture, and alive, which asks it. -/
import Derived.Test.YtijccageaingjaaDoorSmall
import Derived.LoopTactic
import Derived.Deep.OwnRows
namespace Go.Proofs.YtijccageaingjaaDoor
open Go.RowKit
set_option linter.unusedVariables false
set_option linter.unusedSimpArgs false

attribute [local go_sem] size_addsW cell?_addsW frozen?_addsW setCell_addsW drew_addsW adds_addsW setCell_twice alloc_adds0 size_adds0 adds_adds0 sel2 sel3 sel4 sel5 sel6 sel7 sel8 sel9 lt_more lt_more2 lt_more3 lt_more4 adds_drew adds_drewN drewN_addsW ltA_1_1 ltA_1_2 ltA_1_3 ltA_1_4 ltA_1_5 ltA_1_6 ltA_2_1 ltA_2_2 ltA_2_3 ltA_2_4 ltA_2_5 ltA_2_6 ltA_3_1 ltA_3_2 ltA_3_3 ltA_3_4 ltA_3_5 ltA_3_6 ltA_4_1 ltA_4_2 ltA_4_3 ltA_4_4 ltA_4_5 ltA_4_6 ltA_5_1 ltA_5_2 ltA_5_3 ltA_5_4 ltA_5_5 ltA_5_6 ltA_6_1 ltA_6_2 ltA_6_3 ltA_6_4 ltA_6_5 ltA_6_6 ltA_7_1 ltA_7_2 ltA_7_3 ltA_7_4 ltA_7_5 ltA_7_6 ltA_8_1 ltA_8_2 ltA_8_3 ltA_8_4 ltA_8_5 ltA_8_6 ltA_9_1 ltA_9_2 ltA_9_3 ltA_9_4 ltA_9_5 ltA_9_6 ltA_10_1 ltA_10_2 ltA_10_3 ltA_10_4 ltA_10_5 ltA_10_6 ltA_11_1 ltA_11_2 ltA_11_3 ltA_11_4 ltA_11_5 ltA_11_6 ltA_12_1 ltA_12_2 ltA_12_3 ltA_12_4 ltA_12_5 ltA_12_6

/-- n cells of which the first k hold v, the others 0 -/
def fillA (n k : Nat) (v : Int) : Array Value := ((List.replicate k v ++ List.replicate (n - k) 0).map (Value.int .i64)).toArray

theorem fillA_at {n k : Nat} {v : Int} (h : k < n) : (fillA n k v)[k]? = some (.int .i64 0) := by
  simp only [fillA, List.getElem?_toArray, List.getElem?_map]
  rw [List.getElem?_append_right (by simp), List.getElem?_replicate]
  simp; omega
theorem fillA_set {n k : Nat} {v : Int} (h : k < n) : (fillA n k v).setIfInBounds k (.int .i64 v) = fillA n (k + 1) v := by
  apply Array.ext_getElem?
  intro i
  simp only [fillA, Array.getElem?_setIfInBounds, List.getElem?_toArray, List.getElem?_map, List.size_toArray, List.length_map, List.length_append, List.length_replicate, List.getElem?_append, List.getElem?_replicate]
  by_cases h1 : k = i
  · subst h1; simp; omega
  · by_cases h2 : i < k
    · have h3 : i < k + 1 := by omega
      simp [h1, h2, h3]
    · have h3 : ¬ i < k + 1 := by omega
      simp only [h1, if_false, h2, h3]
      have : (i - k < n - k) ↔ (i - (k + 1) < n - (k + 1)) := by omega
      by_cases h4 : i - k < n - k
      · simp [h4, this.1 h4]
      · have h5 : ¬ i - (k + 1) < n - (k + 1) := fun h => h4 (this.2 h)
        simp [h4, h5]
theorem made_fillA (n : Nat) (v : Int) : madeCells #[.int .i64 0] n = fillA n 0 v := by
  apply Array.ext_getElem?
  intro i
  simp only [madeCells, fillA, Array.getElem?_map, List.getElem?_toArray, List.getElem?_map, List.replicate_zero, List.nil_append, Nat.sub_zero, List.getElem?_replicate, Array.getElem?_range]
  by_cases h : i < n <;> simp [h, Nat.mod_one]
theorem fillA_full (n : Nat) (v : Int) : fillA n n v = ((List.replicate n v).map (Value.int .i64)).toArray := by simp [fillA]

theorem infoInt : (Tryd.prog.info? 3).map (fun i => (i.zero, i.size, i.bytes)) = some (some (.int .i64 0), 1, 8) := by kernel_rfl

def sideB (n : Int) : Bool := decide (8 ≤ n ∧ n ≤ 32 ∧ n % 8 = 0)

theorem I_sideValid (n : Int) (w : World) : Calls Tryd.prog 48 #[.int .i64 n] w fun e w' => e = .returned (.bool (sideB n)) ∧ w = w' := by
  go_enter Tryd.func48, Tryd.ntmps48
  go_wp2
  all_goals
    go_returns
    exact ⟨M.ret_bool (by rw [Bool.eq_iff_iff]; simp [sideB] <;> omega), rfl⟩

/-- a picture in new memory -/
def NewPic (a b : Nat) (v : Int) (w : World) (e : Ending) (w' : World) : Prop :=
  ∃ g : Nat, e = .returned (.agg #[.int .i64 (a : Int), .int .i64 (b : Int), .slice (some ⟨g, 0, none⟩) (a * b) (a * b)]) ∧ RowAt .i64 w' (some ⟨g, 0, none⟩) (List.replicate (a * b) v) ∧ w.heap.size ≤ g ∧ Below w.heap.size w w'

end Go.Proofs.YtijccageaingjaaDoor
