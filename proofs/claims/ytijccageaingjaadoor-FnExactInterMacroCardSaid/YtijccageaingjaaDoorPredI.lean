/- The program's five predictions of a sample. -/
import Derived.Test.YtijccageaingjaaDoorPredP
import Derived.Test.YtijccageaingjaaDoorFilter
import Derived.LoopTactic
import Derived.Deep.QuietTactic
import Derived.BigQuiet
import Derived.Deep.RegionHeld3
import Derived.Deep.DeepCutAuto
namespace Go.Proofs.YtijccageaingjaaDoor
open Go.RowKit
set_option linter.unusedVariables false
set_option linter.unusedSimpArgs false

attribute [local go_sem] size_addsW cell?_addsW frozen?_addsW setCell_addsW drew_addsW adds_addsW setCell_twice alloc_adds0 size_adds0 adds_adds0 sel2 sel3 sel4 sel5 sel6 sel7 sel8 sel9 lt_more lt_more2 lt_more3 lt_more4 adds_drew adds_drewN drewN_addsW ltA_1_1 ltA_1_2 ltA_1_3 ltA_1_4 ltA_1_5 ltA_1_6 ltA_2_1 ltA_2_2 ltA_2_3 ltA_2_4 ltA_2_5 ltA_2_6 ltA_3_1 ltA_3_2 ltA_3_3 ltA_3_4 ltA_3_5 ltA_3_6 ltA_4_1 ltA_4_2 ltA_4_3 ltA_4_4 ltA_4_5 ltA_4_6 ltA_5_1 ltA_5_2 ltA_5_3 ltA_5_4 ltA_5_5 ltA_5_6 ltA_6_1 ltA_6_2 ltA_6_3 ltA_6_4 ltA_6_5 ltA_6_6 ltA_7_1 ltA_7_2 ltA_7_3 ltA_7_4 ltA_7_5 ltA_7_6 ltA_8_1 ltA_8_2 ltA_8_3 ltA_8_4 ltA_8_5 ltA_8_6 ltA_9_1 ltA_9_2 ltA_9_3 ltA_9_4 ltA_9_5 ltA_9_6 ltA_10_1 ltA_10_2 ltA_10_3 ltA_10_4 ltA_10_5 ltA_10_6 ltA_11_1 ltA_11_2 ltA_11_3 ltA_11_4 ltA_11_5 ltA_11_6 ltA_12_1 ltA_12_2 ltA_12_3 ltA_12_4 ltA_12_5 ltA_12_6

theorem I_rounded (T n : Int) (w : World) (hT : 0 ≤ T ∧ T ≤ 100000) (hn : 1 ≤ n ∧ n ≤ 1000) : Calls Tryd.prog 51 #[.int .i64 T, .int .i64 n] w fun e w' => e = .returned (.int .i64 ((2 * T + n) / (2 * n))) ∧ w = w' := by
  have h1 : ¬ 2 * n = 0 := by omega
  have h2 : 0 ≤ 2 * T + n := by omega
  have h3 : 0 ≤ (2 * T + n) / (2 * n) ∧ (2 * T + n) / (2 * n) ≤ 201000 := ⟨Int.ediv_nonneg h2 (by omega), Int.le_trans (Int.ediv_le_self _ h2) (by omega)⟩
  have h4 : (2 * T + n).tdiv (2 * n) = (2 * T + n) / (2 * n) := Int.tdiv_eq_ediv_of_nonneg h2
  go_enter Tryd.func51, Tryd.ntmps51
  go_wp2
  go_returns
  exact ⟨rfl, rfl⟩

def boA (f g : Nat → Int) (c : Int) : Array Value :=
  #[.int .i64 (g 3), .int .i64 (g 2), .int .i64 (g 1), .int .i64 (g 0), .int .i64 c, .int .i64 (f 0), .int .i64 (f 1), .int .i64 (f 2), .int .i64 (f 3)]
theorem boA_get {f g : Nat → Int} {c : Int} {k : Nat} (h : k < 9) : (boA f g c)[k]? = some (.int .i64 (bo f g c k)) := by
  match k, h with
  | 0, _ => rfl
  | 1, _ => rfl
  | 2, _ => rfl
  | 3, _ => rfl
  | 4, _ => rfl
  | 5, _ => rfl
  | 6, _ => rfl
  | 7, _ => rfl
  | 8, _ => rfl

def mRel (u l : Bool) (f g : Nat → Int) (W : World) (T n i : Value) (wr : World) : Prop := ∃ k : Nat, k ≤ 4 ∧ i = .int .i64 (k : Int) ∧ T = .int .i64 (mT u l f g k) ∧ n = .int .i64 (mN u l k) ∧ wr = W

end Go.Proofs.YtijccageaingjaaDoor
