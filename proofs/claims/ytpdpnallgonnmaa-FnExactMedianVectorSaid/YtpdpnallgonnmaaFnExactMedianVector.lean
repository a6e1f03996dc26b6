/- PROVED: the law laws.FnExactMedianVector returns true for every input (the program's MedianVector answers as the reference's does); no conditions. -/
import Derived.Test.YtpdpnallgonnmaaRows
import Derived.Test.YtpdpnallgonnmaaSmall
import Derived.Deep.RegionHeld3
import Derived.Deep.DeepCutAuto
import Derived.WalkKit
import Derived.ProofKit
import Derived.OpenShut
import Derived.ShutString
import Derived.ChangeOld
import Derived.Below
import Derived.Lib.SmallJoins
namespace Go.Proofs.Ytpdpnallgonnmaa.fnExactMedianVector
open Go.ChangeShapes Go.WideShapes Go.ChangeAt Go.RowKit
open Go.ChangeMaps (open_string shut_string)
set_option linter.unusedVariables false
set_option linter.unusedSimpArgs false

theorem own : ownKnob Try.prog.godebug = none := by kernel_rfl
theorem laidOut : laidOutB Try.prog = true := by kernel_rfl

attribute [local go_sem] size_addsW cell?_addsW frozen?_addsW setCell_addsW drew_addsW adds_addsW lt_more lt_more2 lt_more3 lt_more4 adds_drew adds_drewN drewN_addsW ltA_1_1 ltA_1_2 ltA_1_3 ltA_1_4 ltA_1_5 ltA_1_6 ltA_2_1 ltA_2_2 ltA_2_3 ltA_2_4 ltA_2_5 ltA_2_6 ltA_3_1 ltA_3_2 ltA_3_3 ltA_3_4 ltA_3_5 ltA_3_6 ltA_4_1 ltA_4_2 ltA_4_3 ltA_4_4 ltA_4_5 ltA_4_6 ltA_5_1 ltA_5_2 ltA_5_3 ltA_5_4 ltA_5_5 ltA_5_6 ltA_6_1 ltA_6_2 ltA_6_3 ltA_6_4 ltA_6_5 ltA_6_6 ltA_7_1 ltA_7_2 ltA_7_3 ltA_7_4 ltA_7_5 ltA_7_6 ltA_8_1 ltA_8_2 ltA_8_3 ltA_8_4 ltA_8_5 ltA_8_6 ltA_9_1 ltA_9_2 ltA_9_3 ltA_9_4 ltA_9_5 ltA_9_6 ltA_10_1 ltA_10_2 ltA_10_3 ltA_10_4 ltA_10_5 ltA_10_6 ltA_11_1 ltA_11_2 ltA_11_3 ltA_11_4 ltA_11_5 ltA_11_6 ltA_12_1 ltA_12_2 ltA_12_3 ltA_12_4 ltA_12_5 ltA_12_6

theorem walk (x : Int) (y : Int) (z : Int) (u : Int) (s : Int) (t : Int) (w : World) (w_x : (Lit.int .i64 x).wf = true) (w_y : (Lit.int .i64 y).wf = true) (w_z : (Lit.int .i64 z).wf = true) (w_u : (Lit.int .i64 u).wf = true) (w_s : (Lit.int .i64 s).wf = true) (w_t : (Lit.int .i64 t).wf = true) :
    Calls Try.prog 7 #[.agg #[.int .i64 x, .int .i64 y], .agg #[.int .i64 z, .int .i64 u], .agg #[.int .i64 s, .int .i64 t]] w fun e w' => e = .returned (.bool true) ∧ Below w.heap.size w w' := by
  go_enter Try.func7, Try.ntmps7
  go_upto_region 1 with fail
  go_cut [7] (fun s7 wx => ∃ g : Nat, s7 = .pointer (some ⟨g, 0, none⟩) ∧ Below w.heap.size w wx ∧ Two wx w.heap.size (.int .i64 x) (.int .i64 y) ∧ Two wx (w.heap.size + 1) (.int .i64 z) (.int .i64 u) ∧ Two wx (w.heap.size + 1 + 1) (.int .i64 s) (.int .i64 t) ∧ Two wx g (.int .i64 (M.med x z s)) (.int .i64 (M.med y u t)))
  case first =>
    go_region_held3 (fun w' => w'.cell? ⟨w.heap.size, 0, none⟩ = some (.int .i64 x) ∧ w'.cell? ⟨w.heap.size, 1, none⟩ = some (.int .i64 y) ∧ w'.cell? ⟨w.heap.size + 1, 0, none⟩ = some (.int .i64 z) ∧ w'.cell? ⟨w.heap.size + 1, 1, none⟩ = some (.int .i64 u) ∧ w'.cell? ⟨w.heap.size + 1 + 1, 0, none⟩ = some (.int .i64 s) ∧ w'.cell? ⟨w.heap.size + 1 + 1, 1, none⟩ = some (.int .i64 t)) (first | (go_simp; done) | (go_keep; done))
      (first | (go_at_call 17; refine (L_toVector _ _ _).mono ?_; rintro e w' ⟨rfl, hb⟩; obtain ⟨o1, n1, rfl⟩ := below_adds hb; clear hb) | (go_at_call 24; refine (S_MedianVector _ _ _ _ _ _ _).mono ?_; rintro e w' ⟨rfl, hb⟩; obtain ⟨o1, n1, rfl⟩ := below_adds hb; clear hb))
    all_goals
      go_wp2_with fail
      go_meet
      exact ⟨_, rfl, (by repeat' (first | (with_reducible exact Below.refl _ _) | (with_reducible refine Below.adds_ ?_ ?_ _ _) | (with_reducible refine Below.alloc ?_ ?_ _) | (with_reducible refine Below.drew ?_) | (with_reducible refine Below.setCell ?_ ?_ _) | (with_reducible assumption) | go_size | (simp only [size_addsW, World.size_alloc, World.size_drew, World.size_setCell]; omega))), ⟨by (first | (go_simp; done) | (simp only [size_addsW, World.size_alloc, World.size_drew, World.size_setCell]; omega)), by (go_simp; done), by (go_simp; done)⟩, ⟨by (first | (go_simp; done) | (simp only [size_addsW, World.size_alloc, World.size_drew, World.size_setCell]; omega)), by (go_simp; done), by (go_simp; done)⟩, ⟨by (first | (go_simp; done) | (simp only [size_addsW, World.size_alloc, World.size_drew, World.size_setCell]; omega)), by (go_simp; done), by (go_simp; done)⟩, ⟨by (first | (go_simp; done) | (simp only [size_addsW, World.size_alloc, World.size_drew, World.size_setCell]; omega)), by (go_simp; done), by (go_simp; done)⟩⟩
  case rest =>
    obtain ⟨g, rfl, hB, ⟨l0, a0, a1⟩, ⟨l1, b0, b1⟩, ⟨l2, c0, c1⟩, ⟨lg, g0, g1⟩⟩ := hcut
    go_upto_region 2 with fail
    go_cut [8] (fun s8 wx => ∃ q : Nat, s8 = .pointer (some ⟨q, 0, none⟩) ∧ Below w.heap.size w wx ∧ Two wx g (.int .i64 (M.med x z s)) (.int .i64 (M.med y u t)) ∧ Two wx q (.int .i64 (M.med x z s)) (.int .i64 (M.med y u t)))
    case first =>
      have hBs := hB.size
      go_region_held3 (fun w' => w'.cell? ⟨w.heap.size, 0, none⟩ = some (.int .i64 x) ∧ w'.cell? ⟨w.heap.size, 1, none⟩ = some (.int .i64 y) ∧ w'.cell? ⟨w.heap.size + 1, 0, none⟩ = some (.int .i64 z) ∧ w'.cell? ⟨w.heap.size + 1, 1, none⟩ = some (.int .i64 u) ∧ w'.cell? ⟨w.heap.size + 1 + 1, 0, none⟩ = some (.int .i64 s) ∧ w'.cell? ⟨w.heap.size + 1 + 1, 1, none⟩ = some (.int .i64 t)) (first | (go_simp; done) | (go_keep; done))
        (first | (go_at_call 17; refine (L_toVector _ _ _).mono ?_; rintro e w' ⟨rfl, hb⟩; obtain ⟨o1, n1, rfl⟩ := below_adds hb; clear hb) | (go_at_call 25; refine (I_MedianVector _ _ _ _ _ _ _).mono ?_; rintro e w' ⟨rfl, hb⟩; obtain ⟨o1, n1, rfl⟩ := below_adds hb; clear hb))
      all_goals
        go_wp2_with fail
        go_meet
        exact ⟨_, rfl, (by repeat' (first | (with_reducible exact Below.refl _ _) | (with_reducible refine Below.adds_ ?_ ?_ _ _) | (with_reducible refine Below.alloc ?_ ?_ _) | (with_reducible refine Below.drew ?_) | (with_reducible refine Below.setCell ?_ ?_ _) | (with_reducible assumption) | go_size | (simp only [size_addsW, World.size_alloc, World.size_drew, World.size_setCell]; omega))), ⟨by (first | (go_simp; done) | (simp only [size_addsW, World.size_alloc, World.size_drew, World.size_setCell]; omega)), by (go_simp; done), by (go_simp; done)⟩, ⟨by (first | (go_simp; done) | (simp only [size_addsW, World.size_alloc, World.size_drew, World.size_setCell]; omega)), by (go_simp; done), by (go_simp; done)⟩⟩
    case rest =>
      obtain ⟨q, rfl, hB2, ⟨lg2, g20, g21⟩, ⟨lq, q0, q1⟩⟩ := hcut
      have hBs2 := hB2.size
      go_wp2_with (go_at_call 26; refine (L_eqVector _ _ _ _ _).mono ?_; rintro e w' ⟨rfl, hb⟩; obtain ⟨o1, n1, rfl⟩ := below_adds hb; clear hb)
      go_returns
      exact ⟨rfl, (by repeat' (first | (with_reducible exact Below.refl _ _) | (with_reducible refine Below.adds_ ?_ ?_ _ _) | (with_reducible refine Below.alloc ?_ ?_ _) | (with_reducible refine Below.drew ?_) | (with_reducible refine Below.setCell ?_ ?_ _) | (with_reducible assumption) | go_size | (simp only [size_addsW, World.size_alloc, World.size_drew, World.size_setCell]; omega)))⟩

set_option maxRecDepth 100000 in
theorem lifted (os : Os) (started : os.Started) (H : Type) (enc : TypeId × Value → H) :
    ReturnsInHanded {} Try.checked os 7 .any (Rows.fnExactMedianVectorSpec.pre6 enc Try.prog Try.f7 Rows.fnExactMedianVectorRow.domain false) (Rows.fnExactMedianVectorSpec.post enc Try.prog Try.f7 false true false false) := by
  refine returnsInHanded_of_change (C := Try.checked) own started (by kernel_rfl) Try.func7
    (ChangeSpec.witness6 (enc := enc) (C := Try.checked) false ⟨#[], #[.agg #[.int .i64 0, .int .i64 0], .agg #[.int .i64 0, .int .i64 0], .agg #[.int .i64 0, .int .i64 0]], []⟩ 8 (by kernel_rfl) (by kernel_rfl) (by kernel_rfl) (by kernel_rfl)) ?_
  intro W base args ds gs before hval0 hW hcnd _
  have hval : ∀ (j : Nat) t v, Try.f7.params[j]? = some t → args[j]? = some v → Value.okWide Try.prog W .any base t v := hval0
  have hW' := hW
  obtain ⟨p, q, hA0, hV, rfl, hfz, hnd⟩ := hW
  have hA : DataW.TrodAll enc Try.prog W 0 (fun _ => true) true Try.f7.params.toList args.toList ds p := hA0
  rw [Try.params7] at hA hval
  obtain ⟨v0, vs0, d0, ds0, p0, q0, hargs, rfl, rfl, h0, r0⟩ := trodAll_cons hA
  obtain ⟨v1, vs1, d1, ds1, p1, q1, rfl, rfl, rfl, h1, r1⟩ := trodAll_cons r0
  obtain ⟨v2, vs2, d2, ds2, p2, q2, rfl, rfl, rfl, h2, r2⟩ := trodAll_cons r1
  obtain ⟨rfl, rfl, rfl⟩ := trodAll_nil r2
  obtain rfl : args = #[v0, v1, v2] := by cases args; simp_all
  obtain ⟨rfl, rfl⟩ := trodVars_none hV
  have k0 := h0
  have lt0 : ∀ x ∈ p0, x.block < W.heap.size := by obtain ⟨m, hm⟩ := k0; exact DataW.trod_lt m _ _ _ hm
  have k1 := h1
  have lt1 : ∀ x ∈ p1, x.block < W.heap.size := by obtain ⟨m, hm⟩ := k1; exact DataW.trod_lt m _ _ _ hm
  have k2 := h2
  have lt2 : ∀ x ∈ p2, x.block < W.heap.size := by obtain ⟨m, hm⟩ := k2; exact DataW.trod_lt m _ _ _ hm
  obtain ⟨c00, c01, y00, y01, m0, rfl, -, -, hy00, hy01⟩ := Joins.open_agg2 Try.underlying24 (by kernel_rfl) (by kernel_rfl) (hval 0 24 v0 rfl rfl) h0
  obtain ⟨x, e_x, -, w_x⟩ := DataW.trod_int Try.underlying3 hy00
  simp only [List.cons.injEq, and_true] at e_x
  subst e_x
  obtain ⟨y, e_y, -, w_y⟩ := DataW.trod_int Try.underlying3 hy01
  simp only [List.cons.injEq, and_true] at e_y
  subst e_y
  obtain ⟨c10, c11, y10, y11, m1, rfl, -, -, hy10, hy11⟩ := Joins.open_agg2 Try.underlying24 (by kernel_rfl) (by kernel_rfl) (hval 1 24 v1 rfl rfl) h1
  obtain ⟨z, e_z, -, w_z⟩ := DataW.trod_int Try.underlying3 hy10
  simp only [List.cons.injEq, and_true] at e_z
  subst e_z
  obtain ⟨u, e_u, -, w_u⟩ := DataW.trod_int Try.underlying3 hy11
  simp only [List.cons.injEq, and_true] at e_u
  subst e_u
  obtain ⟨c20, c21, y20, y21, m2, rfl, -, -, hy20, hy21⟩ := Joins.open_agg2 Try.underlying24 (by kernel_rfl) (by kernel_rfl) (hval 2 24 v2 rfl rfl) h2
  obtain ⟨s, e_s, -, w_s⟩ := DataW.trod_int Try.underlying3 hy20
  simp only [List.cons.injEq, and_true] at e_s
  subst e_s
  obtain ⟨t, e_t, -, w_t⟩ := DataW.trod_int Try.underlying3 hy21
  simp only [List.cons.injEq, and_true] at e_t
  subst e_t
  clear hA0 hval0
  refine (walk x y z u s t W w_x w_y w_z w_u w_s w_t).mono fun e W' ⟨he, bel⟩ => ?_
  subst he
  exact ⟨_, rfl, _, _, _, [], _, [], hW', trodAll_mk1 (shut_bool Try.underlying4 _), (trodAll_cons_mk (Below.trod laidOut (by kernel_rfl) (of_decide_eq_true (by kernel_rfl)) k0 bel lt0) (trodAll_cons_mk (Below.trod laidOut (by kernel_rfl) (of_decide_eq_true (by kernel_rfl)) k1 bel lt1) (trodAll_cons_mk (Below.trod laidOut (by kernel_rfl) (of_decide_eq_true (by kernel_rfl)) k2 bel lt2) trodAll_mk0))), rfl, bel.frame _, fun h => by cases h⟩

theorem over : Rows.fnExactMedianVectorRow.holds Try.pinned (OpenSpec.ofChange Rows.fnExactMedianVectorSpec) :=
  OpenClaim.holds_of_wide 7 Try.f7 rfl rfl rfl rfl rfl rfl rfl ⟨rfl, rfl, rfl, rfl, rfl⟩ rfl rfl rfl rfl rfl (by kernel_rfl) Try.func7 (by kernel_rfl)
    (of_decide_eq_true (by kernel_rfl)) (by unfold Func.isWrapper; first | (rw [if_pos (by decide +kernel)]; kernel_rfl) | (rw [if_neg (by decide +kernel)]; exact ⟨rfl, rfl⟩))
    (fun os started H enc _ => lifted os started H enc)

theorem proved : Rows.FnExactMedianVectorSaid := over
#print axioms proved
end Go.Proofs.Ytpdpnallgonnmaa.fnExactMedianVector
