/- PROVED: the law laws.FnExactFilterLimit returns true for every input (the program's FilterLimit answers as the reference's does), the table quantSteps holding what the program's text lays (the card ties it); no other conditions. -/
import Derived.Test.YtpdpnallgonnmaaDoorCards
import Derived.Test.YtpdpnallgonnmaaDoorTie
import Derived.WalkKit
import Derived.WalkLawsBesides
import Derived.Handy
import Derived.ProofKit
import Derived.OpenShut
import Derived.ChangeOld
import Derived.Below
import Derived.Deep.DeepHandedRow
import Derived.Lib.LaidTab
import Derived.Lib.SmallJoins
import Derived.Lib.Hide
namespace Go.Proofs.YtpdpnallgonnmaaDoor.fnExactFilterLimit
open Go.ChangeShapes Go.WideShapes Go.ChangeAt Go.RowKit
set_option linter.unusedVariables false
set_option linter.unusedSimpArgs false

theorem own : ownKnob Tryd.prog.godebug = none := by kernel_rfl
theorem laidOut : laidOutB Tryd.prog = true := by kernel_rfl
theorem gTab : Tryd.prog.globalNamed "loop.example/videocodec/impl.quantSteps" = some 0 := by kernel_rfl
theorem gTabType : (Tryd.prog.globals[0]?).map (·.type) = some 26 := by kernel_rfl
theorem cells26 : Tryd.prog.cellsOf 26 = 16 := by kernel_rfl
theorem cells3 : Tryd.prog.cellsOf 3 = 1 := by kernel_rfl
def steps : List Int := [1, 2, 4, 8, 12, 16, 24, 32, 48, 64, 96, 128, 192, 256, 384, 512]
theorem table {W : World} (h : laidMetH Tryd.prog Rows.fnExactFilterLimitRow.laid W) : Lib.TabIs Tryd.prog W "loop.example/videocodec/impl.quantSteps" .i64 steps :=
  Lib.tabIs_of_head (rest := []) gTab gTabType Tryd.underlying26 Tryd.underlying3 cells3 cells26 h

theorem walkNo (q : Int) (w : World) (hq : ¬ (0 ≤ q ∧ q ≤ 15)) : Calls Tryd.prog 3 #[.int .i64 q] w fun e w' => e = .returned (.bool true) ∧ Below w.heap.size w w' := by
  rcases (show q < 0 ∨ 15 < q by omega) with h | h
  · go_enter Tryd.func3, Tryd.ntmps3
    go_wp2
    go_returns
    exact ⟨rfl, by go_grown⟩
  · have hd : decide (q ≤ 15) = false := by simp; omega
    go_enter Tryd.func3, Tryd.ntmps3
    go_wp2
    go_returns
    exact ⟨rfl, by go_grown⟩
set_option maxHeartbeats 4000000 in
theorem walkYes (q : Int) (w : World) (hq : 0 ≤ q ∧ q ≤ 15) (hc : ∀ i, i < 16 → w.cell? ⟨0, i, none⟩ = some (.int .i64 (steps.getD i 0))) (h0 : 0 < w.heap.size) : Calls Tryd.prog 3 #[.int .i64 q] w fun e w' => e = .returned (.bool true) ∧ Below w.heap.size w w' := by
  have HC := Lib.hid hc
  clear hc
  rcases (show q = 0 ∨ q = 1 ∨ q = 2 ∨ q = 3 ∨ q = 4 ∨ q = 5 ∨ q = 6 ∨ q = 7 ∨ q = 8 ∨ q = 9 ∨ q = 10 ∨ q = 11 ∨ q = 12 ∨ q = 13 ∨ q = 14 ∨ q = 15 by omega) with rfl | rfl | rfl | rfl | rfl | rfl | rfl | rfl | rfl | rfl | rfl | rfl | rfl | rfl | rfl | rfl
  · have c := HC.out 0 (by omega); simp [steps] at c; go_enter Tryd.func3, Tryd.ntmps3; go_wp2; go_returns; exact ⟨rfl, by go_grown⟩
  · have c := HC.out 1 (by omega); simp [steps] at c; go_enter Tryd.func3, Tryd.ntmps3; go_wp2; go_returns; exact ⟨rfl, by go_grown⟩
  · have c := HC.out 2 (by omega); simp [steps] at c; go_enter Tryd.func3, Tryd.ntmps3; go_wp2; go_returns; exact ⟨rfl, by go_grown⟩
  · have c := HC.out 3 (by omega); simp [steps] at c; go_enter Tryd.func3, Tryd.ntmps3; go_wp2; go_returns; exact ⟨rfl, by go_grown⟩
  · have c := HC.out 4 (by omega); simp [steps] at c; go_enter Tryd.func3, Tryd.ntmps3; go_wp2; go_returns; exact ⟨rfl, by go_grown⟩
  · have c := HC.out 5 (by omega); simp [steps] at c; go_enter Tryd.func3, Tryd.ntmps3; go_wp2; go_returns; exact ⟨rfl, by go_grown⟩
  · have c := HC.out 6 (by omega); simp [steps] at c; go_enter Tryd.func3, Tryd.ntmps3; go_wp2; go_returns; exact ⟨rfl, by go_grown⟩
  · have c := HC.out 7 (by omega); simp [steps] at c; go_enter Tryd.func3, Tryd.ntmps3; go_wp2; go_returns; exact ⟨rfl, by go_grown⟩
  · have c := HC.out 8 (by omega); simp [steps] at c; go_enter Tryd.func3, Tryd.ntmps3; go_wp2; go_returns; exact ⟨rfl, by go_grown⟩
  · have c := HC.out 9 (by omega); simp [steps] at c; go_enter Tryd.func3, Tryd.ntmps3; go_wp2; go_returns; exact ⟨rfl, by go_grown⟩
  · have c := HC.out 10 (by omega); simp [steps] at c; go_enter Tryd.func3, Tryd.ntmps3; go_wp2; go_returns; exact ⟨rfl, by go_grown⟩
  · have c := HC.out 11 (by omega); simp [steps] at c; go_enter Tryd.func3, Tryd.ntmps3; go_wp2; go_returns; exact ⟨rfl, by go_grown⟩
  · have c := HC.out 12 (by omega); simp [steps] at c; go_enter Tryd.func3, Tryd.ntmps3; go_wp2; go_returns; exact ⟨rfl, by go_grown⟩
  · have c := HC.out 13 (by omega); simp [steps] at c; go_enter Tryd.func3, Tryd.ntmps3; go_wp2; go_returns; exact ⟨rfl, by go_grown⟩
  · have c := HC.out 14 (by omega); simp [steps] at c; go_enter Tryd.func3, Tryd.ntmps3; go_wp2; go_returns; exact ⟨rfl, by go_grown⟩
  · have c := HC.out 15 (by omega); simp [steps] at c; go_enter Tryd.func3, Tryd.ntmps3; go_wp2; go_returns; exact ⟨rfl, by go_grown⟩

theorem walk (q : Int) (w : World) (hc : ∀ i, i < 16 → w.cell? ⟨0, i, none⟩ = some (.int .i64 (steps.getD i 0))) : Calls Tryd.prog 3 #[.int .i64 q] w fun e w' => e = .returned (.bool true) ∧ Below w.heap.size w w' := by
  by_cases hq : 0 ≤ q ∧ q ≤ 15
  · exact walkYes q w hq hc (World.block_lt_of_cell? w _ (hc 0 (by omega)))
  · exact walkNo q w hq

theorem contract (H : Type) (enc : TypeId × Value → H) (W : World) (base : Nat) (args : Array Value) (ds gs : List (DataW H)) (before : List MemPlace)
    (hval : ∀ (j : Nat) t v, Tryd.f3.params[j]? = some t → args[j]? = some v → Value.okWide Tryd.prog W .any base t v)
    (hW : DataW.Whole enc Tryd.prog Tryd.f3.params.toList Rows.fnExactFilterLimitSpec.vars false W args.toList ds gs before) (hL : laidMetH Tryd.prog Rows.fnExactFilterLimitRow.laid W) :
    Calls Tryd.prog 3 args W fun e W' => ∃ v, e = .returned v ∧ Rows.fnExactFilterLimitSpec.post enc Tryd.prog Tryd.f3 false true false false W args v W' := by
  have hW' := hW
  obtain ⟨p, q, hA0, hV, rfl, hfz, hnd⟩ := hW
  have hA : DataW.TrodAll enc Tryd.prog W 0 (fun _ => true) true Tryd.f3.params.toList args.toList ds p := hA0
  rw [Tryd.params3] at hA hval
  obtain ⟨v0, vs0, d0, ds0, p0, q0, hargs, rfl, rfl, h0, r0⟩ := trodAll_cons hA
  obtain ⟨rfl, rfl, rfl⟩ := trodAll_nil r0
  obtain rfl : args = #[v0] := by cases args; simp_all
  have k0 := h0
  have lt0 : ∀ x ∈ p0, x.block < W.heap.size := by obtain ⟨m, hm⟩ := k0; exact DataW.trod_lt m _ _ _ hm
  obtain ⟨g, t, cs, fuel, dg, pg, rfl, hg1, hg2, hg3, hg4, rfl⟩ := trodVars_one hV
  obtain ⟨x, rfl, -, -, wx⟩ := open_int Tryd.underlying3 (hval 0 3 v0 rfl rfl) h0
  have hcell : ∀ i, i < 16 → W.cell? ⟨0, i, none⟩ = some (.int .i64 (steps.getD i 0)) := fun i hi => (table hL).cell gTab i hi
  refine (walk x W hcell).mono fun e W' ⟨he, bel⟩ => ?_
  subst he
  obtain rfl : t = 26 := by
    have e0 : g = 0 := Option.some.inj (hg1.symm.trans gTab)
    subst e0
    exact Option.some.inj (hg2.symm.trans gTabType)
  have kg : DataW.Trod enc Tryd.prog W 0 (fun _ => true) true 26 (.agg cs) dg pg := ⟨fuel, hg4⟩
  have ltg : ∀ x ∈ pg, x.block < W.heap.size := by obtain ⟨m, hm⟩ := kg; exact DataW.trod_lt m _ _ _ hm
  obtain ⟨fuel', hg4'⟩ := Below.trod laidOut (by kernel_rfl) (of_decide_eq_true (by kernel_rfl)) kg bel ltg
  have hv := trodVars_mk1 hg1 hg2 (Joins.var_stays hg1 hg3 bel (Nat.le_refl _)) hg4'
  exact ⟨_, rfl, _, _, _, [], _, _, hW', trodAll_mk1 (shut_bool Tryd.underlying4 _), (trodAll_cons_mk (Below.trod laidOut (by kernel_rfl) (of_decide_eq_true (by kernel_rfl)) k0 bel lt0) trodAll_mk0), hv, bel.frame _, fun h => by cases h⟩

noncomputable def laidWorld (os : Os) : World :=
  { World.holding Tryd.prog os ⟨#[], #[], []⟩ with heap := (World.holding Tryd.prog os ⟨#[], #[], []⟩).heap.modify 0 fun
      | .cells _ t frozen => .cells #[.int .i64 1, .int .i64 2, .int .i64 4, .int .i64 8, .int .i64 12, .int .i64 16, .int .i64 24, .int .i64 32, .int .i64 48, .int .i64 64, .int .i64 96, .int .i64 128, .int .i64 192, .int .i64 256, .int .i64 384, .int .i64 512] t frozen
      | o => o }
theorem laid_met (os : Os) : laidMet Tryd.prog Rows.fnExactFilterLimitRow.laid ((laidWorld os).forCall (fun _ _ => 0) ⟨#[], #[.int .i64 0], []⟩).memory :=
  laidMet_of_run' 8 (by kernel_rfl) (by kernel_rfl)
theorem reads (os : Os) {H : Type} (enc : TypeId × Value → H) : ∃ places, DataW.whole enc Tryd.prog ((laidWorld os).forCall (fun _ _ => 0) ⟨#[], #[.int .i64 0], []⟩).memory Tryd.f3.params.toList Rows.fnExactFilterLimitSpec.vars false #[Value.int .i64 0].toList 8 = some ([.lit (.int .i64 0)], [Rows.laid_loop_example_videocodec_impl_quantSteps], places) :=
  ⟨MemPlace.row ⟨0, 0, none⟩ 16, by kernel_rfl⟩

set_option maxRecDepth 100000 in
theorem lifted (os : Os) (started : os.Started) (H : Type) (enc : TypeId × Value → H) (F : Stop.Interp) :
    ReturnsInHanded {} Tryd.checked os 3 .any ((OpenSpec.ofChange Rows.fnExactFilterLimitSpec).preRow enc Tryd.prog Tryd.f3 Rows.fnExactFilterLimitRow.domain false Rows.fnExactFilterLimitRow.laid) (((OpenSpec.ofChange Rows.fnExactFilterLimitSpec).at F).post enc Tryd.prog Tryd.f3 false true false false) := by
  obtain ⟨places, hx⟩ := reads os enc
  refine returnsInHanded_of_row (C := Tryd.checked) (s := OpenSpec.ofChange Rows.fnExactFilterLimitSpec) own started (by kernel_rfl) Tryd.func3
    (witness_row_at (enc := enc) (C := Tryd.checked) false (laidWorld os) #[.int .i64 0] rfl (by kernel_rfl) (by kernel_rfl) (by kernel_rfl)
      (OpenSpec.preRow_of_cond 8 hx (by kernel_rfl) (fun k hk => by cases hk) (by kernel_rfl) (laid_met os))) ?_
  intro W base args ds gs before hval hW _ _ _ hL _ _
  exact contract H enc W base args ds gs before hval hW hL

theorem said : Rows.FnExactFilterLimitSaid :=
  OpenClaim.holds_of_cond 3 Tryd.f3 rfl rfl rfl rfl rfl rfl rfl ⟨rfl, rfl, rfl, rfl, rfl⟩ rfl rfl rfl rfl rfl (by kernel_rfl) Tryd.func3 (by kernel_rfl)
    (of_decide_eq_true (by kernel_rfl)) (by unfold Func.isWrapper; first | (rw [if_pos (by decide +kernel)]; kernel_rfl) | (rw [if_neg (by decide +kernel)]; exact ⟨rfl, rfl⟩))
    (fun os started H enc _ F => by rw [OpenClaim.pre_eq_preRow]; exact lifted os started H enc F)

theorem plain (f : FuncId) (fn : Func) (hf : Tryd.pinned.checked.prog.funcNamed "loop.example/videocodec/laws.FnExactFilterLimit" = some f) (hfn : Tryd.pinned.checked.prog.funcs[f]? = some fn) :
    false = Tryd.pinned.checked.prog.looks [] ∧ ∀ (j : Nat) t, fn.params[j]? = some t → Tryd.pinned.checked.prog.wantsStandIn t = false := by
  obtain rfl : f = 3 := Option.some.inj ((show Tryd.prog.funcNamed "loop.example/videocodec/laws.FnExactFilterLimit" = some 3 by kernel_rfl).symm.trans hf) |>.symm
  obtain rfl : fn = Tryd.f3 := (Option.some.inj (Tryd.func3.symm.trans hfn)).symm
  refine ⟨by kernel_rfl, fun j t ht => ?_⟩
  rw [Tryd.params3] at ht
  obtain rfl : t = 3 := by simpa using Array.mem_of_getElem? ht
  exact (show Tryd.prog.wantsStandIn 3 = false by kernel_rfl)

theorem proved : Rows.FnExactFilterLimitCardSaid :=
  Claim7.holds_tied_plain_at .later [] _ _ _ _ said (fun _ h => by cases h) (by kernel_rfl) (fun _ h => by cases h) fnExactFilterLimit_row_tie rfl ⟨rfl, rfl⟩ (by kernel_rfl) rfl plain (by kernel_rfl)
#print axioms proved
end Go.Proofs.YtpdpnallgonnmaaDoor.fnExactFilterLimit
