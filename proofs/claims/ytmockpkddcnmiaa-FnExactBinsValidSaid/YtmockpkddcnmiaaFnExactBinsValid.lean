/- PROVED: the law laws.FnExactBinsValid returns true for every input (the program's BinsValid answers as the reference's does); no conditions. -/
import Derived.Test.YtmockpkddcnmiaaRows
import Derived.Test.YtmockpkddcnmiaaBins
import Derived.Test.YtmockpkddcnmiaaFlat
import Derived.WalkKit
import Derived.ProofKit
import Derived.OpenShut
import Derived.ShutString
import Derived.ChangeOld
import Derived.Below
import Derived.Lib.SmallJoins
namespace Go.Proofs.Ytmockpkddcnmiaa.fnExactBinsValid
open Go.ChangeShapes Go.WideShapes Go.ChangeAt Go.RowKit
open Go.ChangeMaps (open_string shut_string)
set_option linter.unusedVariables false
set_option linter.unusedSimpArgs false

theorem own : ownKnob Try.prog.godebug = none := by kernel_rfl
theorem laidOut : laidOutB Try.prog = true := by kernel_rfl

attribute [local go_sem] size_addsW cell?_addsW frozen?_addsW setCell_addsW drew_addsW adds_addsW setCell_twice alloc_adds0 size_adds0 adds_adds0 sel2 sel3 sel4 sel5 sel6 sel7 sel8 sel9 lt_more lt_more2 lt_more3 lt_more4 adds_drew adds_drewN drewN_addsW ltA_1_1 ltA_1_2 ltA_1_3 ltA_1_4 ltA_1_5 ltA_1_6 ltA_2_1 ltA_2_2 ltA_2_3 ltA_2_4 ltA_2_5 ltA_2_6 ltA_3_1 ltA_3_2 ltA_3_3 ltA_3_4 ltA_3_5 ltA_3_6 ltA_4_1 ltA_4_2 ltA_4_3 ltA_4_4 ltA_4_5 ltA_4_6 ltA_5_1 ltA_5_2 ltA_5_3 ltA_5_4 ltA_5_5 ltA_5_6 ltA_6_1 ltA_6_2 ltA_6_3 ltA_6_4 ltA_6_5 ltA_6_6 ltA_7_1 ltA_7_2 ltA_7_3 ltA_7_4 ltA_7_5 ltA_7_6 ltA_8_1 ltA_8_2 ltA_8_3 ltA_8_4 ltA_8_5 ltA_8_6 ltA_9_1 ltA_9_2 ltA_9_3 ltA_9_4 ltA_9_5 ltA_9_6 ltA_10_1 ltA_10_2 ltA_10_3 ltA_10_4 ltA_10_5 ltA_10_6 ltA_11_1 ltA_11_2 ltA_11_3 ltA_11_4 ltA_11_5 ltA_11_6 ltA_12_1 ltA_12_2 ltA_12_3 ltA_12_4 ltA_12_5 ltA_12_6
theorem flatBin : FlatI Try.prog 71 := by
  refine flat_struct Try.underlying71 (fun i f hf => ?_) (by kernel_rfl)
  match i with
  | 0 => simp at hf; subst hf; exact flat_int Try.underlying3 (by kernel_rfl)
  | 1 => simp at hf; subst hf; exact flat_int Try.underlying3 (by kernel_rfl)
  | n + 2 => simp at hf

set_option maxHeartbeats 1000000 in
theorem walk (a_zs : Option Addr) (n cap_zs : Nat) (zs : List Int) (w : World) (hr : RowAt .i64 w a_zs zs) (hz : zs.length = n * 2) (hlm : n ≤ maxLen) :
    Calls Try.prog 4 #[.slice a_zs n cap_zs] w fun e w' => e = .returned (.bool true) ∧ Below w.heap.size w w' := by
  unfold maxLen at hlm
  have HR := Lib.hid hr
  have HZ := Lib.hid hz
  clear hr hz
  by_cases hbig : (1048576 : Int) < (n : Int)
  · go_enter Try.func4, Try.ntmps4
    go_wp2_with (go_at_call 18; refine (L_szBinS _ _ _ _ _ (by omega) (by omega)).mono ?_; rintro e w' ⟨rfl, rfl⟩; rw [if_pos (by omega)])
    go_returns
    exact ⟨rfl, (by repeat' (first | (with_reducible exact Below.refl _ _) | (with_reducible refine Below.adds_ ?_ ?_ _ _) | (with_reducible refine Below.alloc ?_ ?_ _) | (with_reducible refine Below.drew ?_) | (with_reducible refine Below.setCell ?_ ?_ _) | (with_reducible assumption) | go_size | (simp only [size_addsW, World.size_alloc, World.size_drew, World.size_setCell]; omega)))⟩
  · go_enter Try.func4, Try.ntmps4
    go_wp2_with fail
    refine (L_szBinS _ _ _ _ _ (by omega) (by omega)).mono ?_
    rintro e w' ⟨rfl, rfl⟩
    rw [if_neg (by omega)]
    go_wp2_with fail
    refine (L_toBinS _ _ _ zs _ HR.out HZ.out (by omega)).mono ?_
    rintro e w' ⟨g1, rfl, hr1, hg1, hb⟩
    obtain ⟨o2, n2, rfl⟩ := below_adds hb
    clear hb
    go_wp2_with fail
    refine (S_BinsValid _ _ _ zs _ hr1 HZ.out (by omega)).mono ?_
    rintro e w' ⟨rfl, rfl⟩
    clear hr1
    go_wp2_with fail
    refine (L_toBinS _ _ _ zs _ (HR.out.keep (by repeat' (first | (with_reducible exact Below.refl _ _) | (with_reducible refine Below.adds_ ?_ ?_ _ _) | (with_reducible refine Below.alloc ?_ ?_ _) | (with_reducible refine Below.drew ?_) | (with_reducible refine Below.setCell ?_ ?_ _) | (with_reducible assumption) | go_size | (simp only [size_addsW, World.size_alloc, World.size_drew, World.size_setCell]; omega)))) HZ.out (by omega)).mono ?_
    rintro e w' ⟨g2, rfl, hr2, hg2, hb⟩
    obtain ⟨o3, n3, rfl⟩ := below_adds hb
    clear hb
    simp only [adds_addsW] at hr2 ⊢
    go_wp2_with fail
    refine (I_BinsValid _ _ _ zs _ hr2 HZ.out (by omega)).mono ?_
    rintro e w' ⟨rfl, hb⟩
    obtain ⟨o4, n4, rfl⟩ := below_adds hb
    clear hb
    have HR2 := Lib.hid (hr2.keep (addsW_below _ o4 n4))
    clear hr2
    cases hv : binsB zs n
    all_goals
      go_wp2_with fail
      refine (L_toBinS _ _ _ zs _ (HR.out.keep (by repeat' (first | (with_reducible exact Below.refl _ _) | (with_reducible refine Below.adds_ ?_ ?_ _ _) | (with_reducible refine Below.alloc ?_ ?_ _) | (with_reducible refine Below.drew ?_) | (with_reducible refine Below.setCell ?_ ?_ _) | (with_reducible assumption) | go_size | (simp only [size_addsW, World.size_alloc, World.size_drew, World.size_setCell]; omega)))) HZ.out (by omega)).mono ?_
      rintro e w' ⟨g3, rfl, hr3, hg3, hb⟩
      obtain ⟨o5, n5, rfl⟩ := below_adds hb
      clear hb
      have hr2 := HR2.out.keep (addsW_below _ o5 n5)
      simp only [adds_addsW, Array.append_assoc] at hr2 hr3
      have HR3 := Lib.hid hr3
      have HR4 := Lib.hid hr2
      clear hr3 hr2
      go_wp2_with fail
      refine (L_eqBinS _ _ _ _ _ zs _ HR4.out HR3.out HZ.out (by omega)).mono ?_
      rintro e w' ⟨rfl, hb⟩
      obtain ⟨o6, n6, rfl⟩ := below_adds hb
      clear hb
      go_wp2_with fail
      go_returns
      exact ⟨rfl, (by repeat' (first | (with_reducible exact Below.refl _ _) | (with_reducible refine Below.adds_ ?_ ?_ _ _) | (with_reducible refine Below.alloc ?_ ?_ _) | (with_reducible refine Below.drew ?_) | (with_reducible refine Below.setCell ?_ ?_ _) | (with_reducible assumption) | go_size | (simp only [size_addsW, World.size_alloc, World.size_drew, World.size_setCell]; omega)))⟩

set_option maxRecDepth 100000 in
theorem lifted (os : Os) (started : os.Started) (H : Type) (enc : TypeId × Value → H) :
    ReturnsInHanded {} Try.checked os 4 .any (Rows.fnExactBinsValidSpec.pre6 enc Try.prog Try.f4 Rows.fnExactBinsValidRow.domain false) (Rows.fnExactBinsValidSpec.post enc Try.prog Try.f4 false true false false) := by
  refine returnsInHanded_of_change (C := Try.checked) own started (by kernel_rfl) Try.func4
    (ChangeSpec.witness6 (enc := enc) (C := Try.checked) false ⟨#[], #[.slice none 0 0], []⟩ 8 (by kernel_rfl) (by kernel_rfl) (by kernel_rfl) (by kernel_rfl)) ?_
  intro W base args ds gs before hval0 hW hcnd _
  have hval : ∀ (j : Nat) t v, Try.f4.params[j]? = some t → args[j]? = some v → Value.okWide Try.prog W .any base t v := hval0
  have hW' := hW
  obtain ⟨p, q, hA0, hV, rfl, hfz, hnd⟩ := hW
  have hA : DataW.TrodAll enc Try.prog W 0 (fun _ => true) true Try.f4.params.toList args.toList ds p := hA0
  rw [Try.params4] at hA hval
  obtain ⟨v0, vs0, d0, ds0, p0, q0, hargs, rfl, rfl, h0, r0⟩ := trodAll_cons hA
  obtain ⟨rfl, rfl, rfl⟩ := trodAll_nil r0
  obtain rfl : args = #[v0] := by cases args; simp_all
  obtain ⟨rfl, rfl⟩ := trodVars_none hV
  have k0 := h0
  have lt0 : ∀ x ∈ p0, x.block < W.heap.size := by obtain ⟨m, hm⟩ := k0; exact DataW.trod_lt m _ _ _ hm
  obtain ⟨a_zs, n, cap_zs, zs, rfl, hr0, hz0, hn0, -⟩ := open_flats (s := 2) Try.underlying27 flatBin (by kernel_rfl) (by decide) (hval 0 27 v0 rfl rfl) h0
  clear hA0 hval0
  refine (walk a_zs n cap_zs zs W hr0 hz0 hn0).mono fun e W' ⟨he, bel⟩ => ?_
  subst he
  exact ⟨_, rfl, _, _, _, [], _, [], hW', trodAll_mk1 (shut_bool Try.underlying4 _), (trodAll_cons_mk (Below.trod laidOut (by kernel_rfl) (of_decide_eq_true (by kernel_rfl)) k0 bel lt0) trodAll_mk0), rfl, bel.frame _, fun h => by cases h⟩

theorem over : Rows.fnExactBinsValidRow.holds Try.pinned (OpenSpec.ofChange Rows.fnExactBinsValidSpec) :=
  OpenClaim.holds_of_wide 4 Try.f4 rfl rfl rfl rfl rfl rfl rfl ⟨rfl, rfl, rfl, rfl, rfl⟩ rfl rfl rfl rfl rfl (by kernel_rfl) Try.func4 (by kernel_rfl)
    (of_decide_eq_true (by kernel_rfl)) (by unfold Func.isWrapper; first | (rw [if_pos (by decide +kernel)]; kernel_rfl) | (rw [if_neg (by decide +kernel)]; exact ⟨rfl, rfl⟩))
    (fun os started H enc _ => lifted os started H enc)

theorem proved : Rows.FnExactBinsValidSaid := over
#print axioms proved
end Go.Proofs.Ytmockpkddcnmiaa.fnExactBinsValid
