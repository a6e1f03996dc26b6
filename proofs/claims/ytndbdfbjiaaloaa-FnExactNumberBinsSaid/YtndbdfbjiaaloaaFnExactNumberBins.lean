/- PROVED: the law laws.FnExactNumberBins returns true for every input (the program's NumberBins answers as the reference's, in memory of its own); no conditions. -/
import Derived.Test.YtndbdfbjiaaloaaRows
import Derived.Test.YtndbdfbjiaaloaaMarkC
import Derived.WalkKit
import Derived.ProofKit
import Derived.OpenShut
import Derived.ShutString
import Derived.ChangeOld
import Derived.Below
import Derived.Lib.SmallJoins
namespace Go.Proofs.Ytndbdfbjiaaloaa.fnExactNumberBins
open Go.ChangeShapes Go.WideShapes Go.ChangeAt Go.RowKit
open Go.ChangeMaps (open_string shut_string)
set_option linter.unusedVariables false
set_option linter.unusedSimpArgs false

theorem own : ownKnob Try.prog.godebug = none := by kernel_rfl
theorem laidOut : laidOutB Try.prog = true := by kernel_rfl

attribute [local go_sem] size_addsW cell?_addsW frozen?_addsW setCell_addsW drew_addsW adds_addsW setCell_twice alloc_adds0 size_adds0 adds_adds0 sel2 sel3 sel4 sel5 sel6 sel7 sel8 sel9 lt_more lt_more2 lt_more3 lt_more4 adds_drew adds_drewN drewN_addsW ltA_1_1 ltA_1_2 ltA_1_3 ltA_1_4 ltA_1_5 ltA_1_6 ltA_2_1 ltA_2_2 ltA_2_3 ltA_2_4 ltA_2_5 ltA_2_6 ltA_3_1 ltA_3_2 ltA_3_3 ltA_3_4 ltA_3_5 ltA_3_6 ltA_4_1 ltA_4_2 ltA_4_3 ltA_4_4 ltA_4_5 ltA_4_6 ltA_5_1 ltA_5_2 ltA_5_3 ltA_5_4 ltA_5_5 ltA_5_6 ltA_6_1 ltA_6_2 ltA_6_3 ltA_6_4 ltA_6_5 ltA_6_6 ltA_7_1 ltA_7_2 ltA_7_3 ltA_7_4 ltA_7_5 ltA_7_6 ltA_8_1 ltA_8_2 ltA_8_3 ltA_8_4 ltA_8_5 ltA_8_6 ltA_9_1 ltA_9_2 ltA_9_3 ltA_9_4 ltA_9_5 ltA_9_6 ltA_10_1 ltA_10_2 ltA_10_3 ltA_10_4 ltA_10_5 ltA_10_6 ltA_11_1 ltA_11_2 ltA_11_3 ltA_11_4 ltA_11_5 ltA_11_6 ltA_12_1 ltA_12_2 ltA_12_3 ltA_12_4 ltA_12_5 ltA_12_6
theorem Soft.ltD {w : World} {A : Option Addr} (h : Soft w A) {d : Addr} (hd : A = some d) : d.block < w.heap.size := by
  obtain ⟨cur, t, h⟩ := h d hd
  exact (Array.getElem?_eq_some_iff.1 h).1
theorem Marked.size {w w' : World} {A : Option Addr} (h : Marked w A w') : w.heap.size ≤ w'.heap.size := (h.below (N := 0) (fun _ _ => Nat.zero_le _)).size

set_option maxHeartbeats 4000000 in
theorem walk (n : Int) (b : Int) (w : World) (w_n : (Lit.int .i64 n).wf = true) (w_b : (Lit.int .i64 b).wf = true) :
    Calls Try.prog 6 #[.int .i64 n, .int .i64 b] w fun e w' => e = .returned (.bool true) ∧ Below w.heap.size w w' := by
  have hm := nbN_le n b
  have hl := nbL_len n b
  obtain ⟨m, hm'⟩ : ∃ m, m = nbN n b := ⟨_, rfl⟩
  obtain ⟨zs, hzs⟩ : ∃ zs, zs = nbL n b := ⟨_, rfl⟩
  have IN := Lib.hid (show ∀ W, Calls Try.prog 32 #[.int .i64 n, .int .i64 b] W (BinsOut m zs W) from fun W => by rw [hm', hzs]; exact I_NumberBins n b W)
  have SN := Lib.hid (show ∀ W, Calls Try.prog 31 #[.int .i64 n, .int .i64 b] W (BinsOut m zs W) from fun W => by rw [hm', hzs]; exact S_NumberBins n b W)
  rw [← hm', ← hzs] at hl
  rw [← hm'] at hm
  have HL := Lib.hid hl
  clear hm' hzs hl w_n w_b
  go_enter Try.func6, Try.ntmps6
  go_wp2_with fail
  refine (SN.out _).mono ?_
  rintro e w1 ⟨A, c, rfl, hc, hr, hA, hs, hb⟩
  have R1 := Lib.hid hr
  have LT := Lib.hid (show ∀ d, A = some d → d.block < w1.heap.size from fun d hd => Soft.ltD hs hd)
  have B1 := Lib.hid hb
  have z1 := hb.size
  clear hr hA hs hb
  go_wp2_with fail
  refine (IN.out _).mono ?_
  rintro e w2 ⟨G, cg, rfl, hcg, hr, hA, hs, hb⟩
  have RG := Lib.hid hr
  have GE := Lib.hid hA
  have SG := Lib.hid hs
  have B2 := Lib.hid hb
  have z2 := hb.size
  clear hr hA hs hb
  have NE := Lib.hid (show ∀ d d', G = some d → A = some d' → d'.block ≠ d.block from fun d d' h h' => by have := GE.out d h; have := LT.out d' h'; omega)
  go_wp2_with fail
  refine (L_eqBinS _ _ m _ _ zs _ RG.out (R1.out.keep B2.out) HL.out (by omega)).mono ?_
  rintro e w3 ⟨rfl, hb⟩
  have B3 := Lib.hid hb
  have z3 := hb.size
  clear hb
  go_wp2_with fail
  refine (L_markBinA G _ m zs 1 _ (RG.out.keep B3.out) (SG.out.keep B3.out) HL.out (by omega) (by omega)).mono ?_
  rintro e w4 ⟨rfl, hM, hr, hs⟩
  have R4 := Lib.hid (hM.row ((R1.out.keep B2.out).keep B3.out) NE.out)
  have RM := Lib.hid hr
  have B4 := Lib.hid (hM.below GE.out)
  have z4 := hM.size
  clear hM hr hs
  go_wp2_with fail
  refine (L_heldBinA G _ m 1 _ RM.out (by omega) (by omega)).mono ?_
  rintro e w5 ⟨rfl, hb⟩
  have B5 := Lib.hid hb
  have z5 := hb.size
  clear hb
  go_wp2_with fail
  refine (IN.out _).mono ?_
  rintro e w6 ⟨H, ch, rfl, hch, hr, -, -, hb⟩
  have R6 := Lib.hid hr
  have B6 := Lib.hid hb
  have z6 := hb.size
  clear hr hb
  go_wp2_with fail
  refine (L_eqBinS _ _ m _ _ zs _ R6.out ((R4.out.keep B5.out).keep B6.out) HL.out (by omega)).mono ?_
  rintro e w7 ⟨rfl, hb⟩
  have B7 := Lib.hid hb
  have z7 := hb.size
  clear hb
  go_wp2_with fail
  refine (L_heldBinA G _ m 1 _ (((RM.out.keep B5.out).keep B6.out).keep B7.out) (by omega) (by omega)).mono ?_
  rintro e w8 ⟨rfl, hb⟩
  have B8 := Lib.hid hb
  have z8 := hb.size
  clear hb
  go_wp2_with fail
  go_returns
  exact ⟨rfl, ((((((B1.out.trans (B2.out.mono (by omega))).trans (B3.out.mono (by omega))).trans (B4.out.mono (by omega))).trans (B5.out.mono (by omega))).trans (B6.out.mono (by omega))).trans (B7.out.mono (by omega))).trans (B8.out.mono (by omega))⟩

set_option maxRecDepth 100000 in
theorem lifted (os : Os) (started : os.Started) (H : Type) (enc : TypeId × Value → H) :
    ReturnsInHanded {} Try.checked os 6 .any (Rows.fnExactNumberBinsSpec.pre6 enc Try.prog Try.f6 Rows.fnExactNumberBinsRow.domain false) (Rows.fnExactNumberBinsSpec.post enc Try.prog Try.f6 false true false false) := by
  refine returnsInHanded_of_change (C := Try.checked) own started (by kernel_rfl) Try.func6
    (ChangeSpec.witness6 (enc := enc) (C := Try.checked) false ⟨#[], #[.int .i64 0, .int .i64 0], []⟩ 8 (by kernel_rfl) (by kernel_rfl) (by kernel_rfl) (by kernel_rfl)) ?_
  intro W base args ds gs before hval0 hW hcnd _
  have hval : ∀ (j : Nat) t v, Try.f6.params[j]? = some t → args[j]? = some v → Value.okWide Try.prog W .any base t v := hval0
  have hW' := hW
  obtain ⟨p, q, hA0, hV, rfl, hfz, hnd⟩ := hW
  have hA : DataW.TrodAll enc Try.prog W 0 (fun _ => true) true Try.f6.params.toList args.toList ds p := hA0
  rw [Try.params6] at hA hval
  obtain ⟨v0, vs0, d0, ds0, p0, q0, hargs, rfl, rfl, h0, r0⟩ := trodAll_cons hA
  obtain ⟨v1, vs1, d1, ds1, p1, q1, rfl, rfl, rfl, h1, r1⟩ := trodAll_cons r0
  obtain ⟨rfl, rfl, rfl⟩ := trodAll_nil r1
  obtain rfl : args = #[v0, v1] := by cases args; simp_all
  obtain ⟨rfl, rfl⟩ := trodVars_none hV
  have k0 := h0
  have lt0 : ∀ x ∈ p0, x.block < W.heap.size := by obtain ⟨m, hm⟩ := k0; exact DataW.trod_lt m _ _ _ hm
  have k1 := h1
  have lt1 : ∀ x ∈ p1, x.block < W.heap.size := by obtain ⟨m, hm⟩ := k1; exact DataW.trod_lt m _ _ _ hm
  obtain ⟨n, rfl, -, -, w_n⟩ := open_int Try.underlying3 (hval 0 3 v0 rfl rfl) h0
  obtain ⟨b, rfl, -, -, w_b⟩ := open_int Try.underlying3 (hval 1 3 v1 rfl rfl) h1
  clear hA0 hval0
  refine (walk n b W w_n w_b).mono fun e W' ⟨he, bel⟩ => ?_
  subst he
  exact ⟨_, rfl, _, _, _, [], _, [], hW', trodAll_mk1 (shut_bool Try.underlying4 _), (trodAll_cons_mk (Below.trod laidOut (by kernel_rfl) (of_decide_eq_true (by kernel_rfl)) k0 bel lt0) (trodAll_cons_mk (Below.trod laidOut (by kernel_rfl) (of_decide_eq_true (by kernel_rfl)) k1 bel lt1) trodAll_mk0)), rfl, bel.frame _, fun h => by cases h⟩

theorem over : Rows.fnExactNumberBinsRow.holds Try.pinned (OpenSpec.ofChange Rows.fnExactNumberBinsSpec) :=
  OpenClaim.holds_of_wide 6 Try.f6 rfl rfl rfl rfl rfl rfl rfl ⟨rfl, rfl, rfl, rfl, rfl⟩ rfl rfl rfl rfl rfl (by kernel_rfl) Try.func6 (by kernel_rfl)
    (of_decide_eq_true (by kernel_rfl)) (by unfold Func.isWrapper; first | (rw [if_pos (by decide +kernel)]; kernel_rfl) | (rw [if_neg (by decide +kernel)]; exact ⟨rfl, rfl⟩))
    (fun os started H enc _ => lifted os started H enc)

theorem proved : Rows.FnExactNumberBinsSaid := over
#print axioms proved
end Go.Proofs.Ytndbdfbjiaaloaa.fnExactNumberBins
