/- PROVED: the law laws.FnExactMacroValid returns true for every input (the program's MacroValid answers as the reference's does); no conditions. -/
import Derived.Test.YtndbdfbjiaaloaaRows
import Derived.Test.YtndbdfbjiaaloaaMacJ
import Derived.Test.YtndbdfbjiaaloaaMacS
import Derived.Test.YtndbdfbjiaaloaaMac
import Derived.Test.YtndbdfbjiaaloaaFlat
import Derived.WalkKit
import Derived.ProofKit
import Derived.OpenShut
import Derived.ShutString
import Derived.ChangeOld
import Derived.Below
import Derived.Lib.SmallJoins
namespace Go.Proofs.Ytndbdfbjiaaloaa.fnExactMacroValid
open Go.ChangeShapes Go.WideShapes Go.ChangeAt Go.RowKit
open Go.ChangeMaps (open_string shut_string)
set_option linter.unusedVariables false
set_option linter.unusedSimpArgs false

theorem own : ownKnob Try.prog.godebug = none := by kernel_rfl
theorem laidOut : laidOutB Try.prog = true := by kernel_rfl

attribute [local go_sem] size_addsW cell?_addsW frozen?_addsW setCell_addsW drew_addsW adds_addsW setCell_twice alloc_adds0 size_adds0 adds_adds0 sel2 sel3 sel4 sel5 sel6 sel7 sel8 sel9 lt_more lt_more2 lt_more3 lt_more4 adds_drew adds_drewN drewN_addsW ltA_1_1 ltA_1_2 ltA_1_3 ltA_1_4 ltA_1_5 ltA_1_6 ltA_2_1 ltA_2_2 ltA_2_3 ltA_2_4 ltA_2_5 ltA_2_6 ltA_3_1 ltA_3_2 ltA_3_3 ltA_3_4 ltA_3_5 ltA_3_6 ltA_4_1 ltA_4_2 ltA_4_3 ltA_4_4 ltA_4_5 ltA_4_6 ltA_5_1 ltA_5_2 ltA_5_3 ltA_5_4 ltA_5_5 ltA_5_6 ltA_6_1 ltA_6_2 ltA_6_3 ltA_6_4 ltA_6_5 ltA_6_6 ltA_7_1 ltA_7_2 ltA_7_3 ltA_7_4 ltA_7_5 ltA_7_6 ltA_8_1 ltA_8_2 ltA_8_3 ltA_8_4 ltA_8_5 ltA_8_6 ltA_9_1 ltA_9_2 ltA_9_3 ltA_9_4 ltA_9_5 ltA_9_6 ltA_10_1 ltA_10_2 ltA_10_3 ltA_10_4 ltA_10_5 ltA_10_6 ltA_11_1 ltA_11_2 ltA_11_3 ltA_11_4 ltA_11_5 ltA_11_6 ltA_12_1 ltA_12_2 ltA_12_3 ltA_12_4 ltA_12_5 ltA_12_6
theorem flatA4 : FlatI Try.prog 25 := flat_array Try.underlying25 (flat_int Try.underlying3 (by kernel_rfl)) (by kernel_rfl)
theorem flatA16 : FlatI Try.prog 26 := flat_array Try.underlying26 (flat_int Try.underlying3 (by kernel_rfl)) (by kernel_rfl)
theorem flatA64 : FlatI Try.prog 27 := flat_array Try.underlying27 flatA16 (by kernel_rfl)
theorem flatVec : FlatI Try.prog 50 := by
  refine flat_struct Try.underlying50 (fun i f hf => ?_) (by kernel_rfl)
  match i with
  | 0 => simp at hf; subst hf; exact flat_int Try.underlying3 (by kernel_rfl)
  | 1 => simp at hf; subst hf; exact flat_int Try.underlying3 (by kernel_rfl)
  | n + 2 => simp at hf
theorem flatMac : FlatI Try.prog 52 := by
  refine flat_struct Try.underlying52 (fun i f hf => ?_) (by kernel_rfl)
  match i with
  | 0 => simp at hf; subst hf; exact flat_int Try.underlying3 (by kernel_rfl)
  | 1 => simp at hf; subst hf; exact flatVec
  | 2 => simp at hf; subst hf; exact flatA4
  | 3 => simp at hf; subst hf; exact flatA64
  | n + 4 => simp at hf
theorem infoLM : (Try.prog.info? 52).map (·.size) = some 71 := by kernel_rfl
theorem heap1l (w : World) (u : Array Value) (t : TypeId) (oo : Array Obj) (nn : Nat) : (addsW (w.alloc (.cells u t)) oo nn).heap[w.heap.size]? = some (.cells u t (0, 0)) := by
  rw [heap_addsW _ _ _ _ (by simp)]; exact heap_alloc_new _ _

set_option maxHeartbeats 1000000 in
set_option maxRecDepth 100000 in
theorem walk (zs : List Int) (w : World) (hz : zs.length = 71) :
    Calls Try.prog 5 #[.agg (rowI zs)] w fun e w' => e = .returned (.bool true) ∧ Below w.heap.size w w' := by
  have HZ := Lib.hid hz
  have hs := Lib.hid (show sub zs 0 71 = zs by rw [← hz]; exact sub_all zs)
  clear hz
  obtain ⟨b, hb⟩ : ∃ b, b = macB zs := ⟨_, rfl⟩
  have SM := Lib.hid (show ∀ W, Calls Try.prog 17 #[.agg (rowI zs)] W fun e w' => e = .returned (.bool b) ∧ Below W.heap.size W w' from fun W => by rw [hb]; exact S_MacroValid zs W HZ.out)
  have IM := Lib.hid (show ∀ W, Calls Try.prog 30 #[.agg (rowI zs)] W fun e w' => e = .returned (.bool b) ∧ Below W.heap.size W w' from fun W => by rw [hb]; exact I_MacroValid zs W HZ.out)
  clear hb
  go_enter Try.func5, Try.ntmps5
  go_wp2_with (first
    | (focus ((with_reducible refine wpList_wanted ?_ (fun K hK => ?_)); rotate_left; (refine wp_load_sub 52 (.tmp 1) ?ho w.heap.size 0 71 ?hx 52 zs (0, 0) _ ?hg Try.underlying52 rfl infoLM ?hs (hK _ _ ?_)); (case ho => with_reducible rfl); (case hx => rfl); (case hg => first | exact heap_alloc_new _ _ | exact heap1l _ _ _ _ _); (case hs => rw [HZ.out]; omega); rw [hs.out]; rotate_left; rfl))
    | (go_at_call 29; refine (L_toMacro zs _ HZ.out).mono ?_; rintro e w' ⟨rfl, hb⟩; obtain ⟨o1, n1, rfl⟩ := below_adds hb; clear hb) | (go_at_call 17; refine (SM.out _).mono ?_; rintro e w' ⟨rfl, hb⟩; obtain ⟨o1, n1, rfl⟩ := below_adds hb; clear hb) | (go_at_call 30; refine (IM.out _).mono ?_; rintro e w' ⟨rfl, hb⟩; obtain ⟨o1, n1, rfl⟩ := below_adds hb; clear hb))
  cases b
  all_goals
    go_wp2_with fail
    go_returns
    exact ⟨rfl, (by repeat' (first | (with_reducible exact Below.refl _ _) | (with_reducible refine Below.adds_ ?_ ?_ _ _) | (with_reducible refine Below.alloc ?_ ?_ _) | (with_reducible refine Below.drew ?_) | (with_reducible refine Below.setCell ?_ ?_ _) | (with_reducible assumption) | go_size | (simp only [size_addsW, World.size_alloc, World.size_drew, World.size_setCell]; omega)))⟩

set_option maxRecDepth 100000 in
theorem lifted (os : Os) (started : os.Started) (H : Type) (enc : TypeId × Value → H) :
    ReturnsInHanded {} Try.checked os 5 .any (Rows.fnExactMacroValidSpec.pre6 enc Try.prog Try.f5 Rows.fnExactMacroValidRow.domain false) (Rows.fnExactMacroValidSpec.post enc Try.prog Try.f5 false true false false) := by
  refine returnsInHanded_of_change (C := Try.checked) own started (by kernel_rfl) Try.func5
    (ChangeSpec.witness6 (enc := enc) (C := Try.checked) false ⟨#[], #[.agg #[.int .i64 0, .int .i64 0, .int .i64 0, .int .i64 0, .int .i64 0, .int .i64 0, .int .i64 0, .int .i64 0, .int .i64 0, .int .i64 0, .int .i64 0, .int .i64 0, .int .i64 0, .int .i64 0, .int .i64 0, .int .i64 0, .int .i64 0, .int .i64 0, .int .i64 0, .int .i64 0, .int .i64 0, .int .i64 0, .int .i64 0, .int .i64 0, .int .i64 0, .int .i64 0, .int .i64 0, .int .i64 0, .int .i64 0, .int .i64 0, .int .i64 0, .int .i64 0, .int .i64 0, .int .i64 0, .int .i64 0, .int .i64 0, .int .i64 0, .int .i64 0, .int .i64 0, .int .i64 0, .int .i64 0, .int .i64 0, .int .i64 0, .int .i64 0, .int .i64 0, .int .i64 0, .int .i64 0, .int .i64 0, .int .i64 0, .int .i64 0, .int .i64 0, .int .i64 0, .int .i64 0, .int .i64 0, .int .i64 0, .int .i64 0, .int .i64 0, .int .i64 0, .int .i64 0, .int .i64 0, .int .i64 0, .int .i64 0, .int .i64 0, .int .i64 0, .int .i64 0, .int .i64 0, .int .i64 0, .int .i64 0, .int .i64 0, .int .i64 0, .int .i64 0]], []⟩ 8 (by kernel_rfl) (by kernel_rfl) (by kernel_rfl) (by kernel_rfl)) ?_
  intro W base args ds gs before hval0 hW hcnd _
  have hval : ∀ (j : Nat) t v, Try.f5.params[j]? = some t → args[j]? = some v → Value.okWide Try.prog W .any base t v := hval0
  have hW' := hW
  obtain ⟨p, q, hA0, hV, rfl, hfz, hnd⟩ := hW
  have hA : DataW.TrodAll enc Try.prog W 0 (fun _ => true) true Try.f5.params.toList args.toList ds p := hA0
  rw [Try.params5] at hA hval
  obtain ⟨v0, vs0, d0, ds0, p0, q0, hargs, rfl, rfl, h0, r0⟩ := trodAll_cons hA
  obtain ⟨rfl, rfl, rfl⟩ := trodAll_nil r0
  obtain rfl : args = #[v0] := by cases args; simp_all
  obtain ⟨rfl, rfl⟩ := trodVars_none hV
  have k0 := h0
  have lt0 : ∀ x ∈ p0, x.block < W.heap.size := by obtain ⟨m, hm⟩ := k0; exact DataW.trod_lt m _ _ _ hm
  obtain ⟨cs0, hcs0, -⟩ := okWide_struct Try.underlying52 (hval 0 52 v0 rfl rfl)
  obtain ⟨zs, rfl, hz0', -⟩ := open_flat flatMac hcs0 h0
  have hz0 : zs.length = 71 := hz0'.trans (by kernel_rfl)
  clear hcs0 hz0'
  clear hA0 hval0
  refine (walk zs W hz0).mono fun e W' ⟨he, bel⟩ => ?_
  subst he
  exact ⟨_, rfl, _, _, _, [], _, [], hW', trodAll_mk1 (shut_bool Try.underlying4 _), (trodAll_cons_mk (Below.trod laidOut (by kernel_rfl) (of_decide_eq_true (by kernel_rfl)) k0 bel lt0) trodAll_mk0), rfl, bel.frame _, fun h => by cases h⟩

theorem over : Rows.fnExactMacroValidRow.holds Try.pinned (OpenSpec.ofChange Rows.fnExactMacroValidSpec) :=
  OpenClaim.holds_of_wide 5 Try.f5 rfl rfl rfl rfl rfl rfl rfl ⟨rfl, rfl, rfl, rfl, rfl⟩ rfl rfl rfl rfl rfl (by kernel_rfl) Try.func5 (by kernel_rfl)
    (of_decide_eq_true (by kernel_rfl)) (by unfold Func.isWrapper; first | (rw [if_pos (by decide +kernel)]; kernel_rfl) | (rw [if_neg (by decide +kernel)]; exact ⟨rfl, rfl⟩))
    (fun os started H enc _ => lifted os started H enc)

theorem proved : Rows.FnExactMacroValidSaid := over
#print axioms proved
end Go.Proofs.Ytndbdfbjiaaloaa.fnExactMacroValid
