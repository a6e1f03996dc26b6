/- PROVED: the law laws.FnExactMacroBins returns true for every input (the program's MacroBins answers as the reference's, in memory of its own); no conditions. -/
import Derived.Test.YtggkelehjdepkaaRows
import Derived.Test.YtggkelehjdepkaaAmB
import Derived.Test.YtggkelehjdepkaaMac
import Derived.Test.YtggkelehjdepkaaFlat
import Derived.WalkKit
import Derived.ProofKit
import Derived.OpenShut
import Derived.ShutString
import Derived.ChangeOld
import Derived.Below
import Derived.Lib.SmallJoins
namespace Go.Proofs.Ytggkelehjdepkaa.fnExactMacroBins
open Go.ChangeShapes Go.WideShapes Go.ChangeAt Go.RowKit
open Go.ChangeMaps (open_string shut_string)
set_option linter.unusedVariables false
set_option linter.unusedSimpArgs false

theorem own : ownKnob Try.prog.godebug = none := by kernel_rfl
theorem laidOut : laidOutB Try.prog = true := by kernel_rfl

attribute [local go_sem] size_addsW cell?_addsW frozen?_addsW setCell_addsW drew_addsW adds_addsW setCell_twice alloc_adds0 size_adds0 adds_adds0 sel2 sel3 sel4 sel5 sel6 sel7 sel8 sel9 lt_more lt_more2 lt_more3 lt_more4 adds_drew adds_drewN drewN_addsW ltA_1_1 ltA_1_2 ltA_1_3 ltA_1_4 ltA_1_5 ltA_1_6 ltA_2_1 ltA_2_2 ltA_2_3 ltA_2_4 ltA_2_5 ltA_2_6 ltA_3_1 ltA_3_2 ltA_3_3 ltA_3_4 ltA_3_5 ltA_3_6 ltA_4_1 ltA_4_2 ltA_4_3 ltA_4_4 ltA_4_5 ltA_4_6 ltA_5_1 ltA_5_2 ltA_5_3 ltA_5_4 ltA_5_5 ltA_5_6 ltA_6_1 ltA_6_2 ltA_6_3 ltA_6_4 ltA_6_5 ltA_6_6 ltA_7_1 ltA_7_2 ltA_7_3 ltA_7_4 ltA_7_5 ltA_7_6 ltA_8_1 ltA_8_2 ltA_8_3 ltA_8_4 ltA_8_5 ltA_8_6 ltA_9_1 ltA_9_2 ltA_9_3 ltA_9_4 ltA_9_5 ltA_9_6 ltA_10_1 ltA_10_2 ltA_10_3 ltA_10_4 ltA_10_5 ltA_10_6 ltA_11_1 ltA_11_2 ltA_11_3 ltA_11_4 ltA_11_5 ltA_11_6 ltA_12_1 ltA_12_2 ltA_12_3 ltA_12_4 ltA_12_5 ltA_12_6
theorem Soft.ltD {w : World} {A : Option Addr} (h : Soft w A) {d : Addr} (hd : A = some d) : d.block < w.heap.size := by
  obtain ⟨cur, t, h⟩ := h d hd
  exact (Array.getElem?_eq_some_iff.1 h).1
theorem Marked.size {w w' : World} {A : Option Addr} (h : Marked w A w') : w.heap.size ≤ w'.heap.size := (h.below (N := 0) (fun _ _ => Nat.zero_le _)).size
theorem flatA4 : FlatI Try.prog 25 := flat_array Try.underlying25 (flat_int Try.underlying3 (by kernel_rfl)) (by kernel_rfl)
theorem flatA16 : FlatI Try.prog 26 := flat_array Try.underlying26 (flat_int Try.underlying3 (by kernel_rfl)) (by kernel_rfl)
theorem flatA64 : FlatI Try.prog 27 := flat_array Try.underlying27 flatA16 (by kernel_rfl)
theorem flatVec : FlatI Try.prog 50 := by
  refine flat_struct Try.underlying50 (fun i f hf => ?_) (by kernel_rfl)
  match i with
  | 0 => simp at hf; subst hf; exact flat_int Try.underlying3 (by kernel_rfl)
  | 1 => simp at hf; subst hf; exact flat_int Try.underlying3 (by kernel_rfl)
  | n + 2 => simp at hf
theorem flatMac : FlatI Try.prog 52 := by
  refine flat_struct Try.underlying52 (fun i f hf => ?_) (by kernel_rfl)
  match i with
  | 0 => simp at hf; subst hf; exact flat_int Try.underlying3 (by kernel_rfl)
  | 1 => simp at hf; subst hf; exact flatVec
  | 2 => simp at hf; subst hf; exact flatA4
  | 3 => simp at hf; subst hf; exact flatA64
  | n + 4 => simp at hf
theorem infoLM : (Try.prog.info? 52).map (·.size) = some 71 := by kernel_rfl
theorem heap1l (w : World) (u : Array Value) (t : TypeId) (oo : Array Obj) (nn : Nat) : (addsW (w.alloc (.cells u t)) oo nn).heap[w.heap.size]? = some (.cells u t (0, 0)) := by
  rw [heap_addsW _ _ _ _ (by simp)]; exact heap_alloc_new _ _

set_option maxHeartbeats 4000000 in
set_option maxRecDepth 100000 in
theorem walk (zs : List Int) (b : Bool) (w : World) (hz : zs.length = 71) :
    Calls Try.prog 5 #[.agg (rowI zs), .bool b] w fun e w' => e = .returned (.bool true) ∧ Below w.heap.size w w' := by
  have HZ := Lib.hid hz
  have hs := Lib.hid (show sub zs 0 71 = zs by rw [← hz]; exact sub_all zs)
  have hm := mbM_le hz b
  have hl := mbL_len zs b
  obtain ⟨m, hm'⟩ : ∃ m, m = mbM zs b := ⟨_, rfl⟩
  obtain ⟨ls, hzs⟩ : ∃ ls, ls = mbL zs b := ⟨_, rfl⟩
  have IN := Lib.hid (show ∀ W, Calls Try.prog 8 #[.agg (rowI zs), .bool b] W (BinsOut m ls W) from fun W => by rw [hm', hzs]; exact I_MacroBins zs b W HZ.out)
  have SN := Lib.hid (show ∀ W, Calls Try.prog 9 #[.agg (rowI zs), .bool b] W (BinsOut m ls W) from fun W => by rw [hm', hzs]; exact S_MacroBins zs b W HZ.out)
  rw [← hm', ← hzs] at hl
  rw [← hm'] at hm
  have HL := Lib.hid hl
  clear hm' hzs hl hz
  go_enter Try.func5, Try.ntmps5
  go_wp2_with (first | (focus ((with_reducible refine wpList_wanted ?_ (fun K hK => ?_)); rotate_left; (refine wp_load_sub 52 (.tmp 2) ?ho w.heap.size 0 71 ?hx 52 zs (0, 0) _ ?hg Try.underlying52 rfl infoLM ?hs (hK _ _ ?_)); (case ho => with_reducible rfl); (case hx => rfl); (case hg => exact heap_alloc_new _ _); (case hs => rw [HZ.out]; omega); rw [hs.out]; rotate_left; rfl)) | (go_at_call 9; fail))
  refine (L_toMacro zs _ HZ.out).mono ?_
  rintro e X1 ⟨rfl, hb⟩
  have HX1 := Lib.hid (show Blk X1 w.heap.size (rowI zs) 52 from (Blk.new w _ _ _ rfl).below hb (by simp))
  have B1 := Lib.hid ((Below.alloc (Below.refl w.heap.size w) (Nat.le_refl _) (.cells (rowI zs) 52)).trans (hb.mono (by simp)))
  have zX1 := HX1.out.lt
  clear hb
  go_wp2_with fail
  refine (SN.out _).mono ?_
  rintro e w1 ⟨A, c, rfl, hc, hr, hA, hs1, hb⟩
  have R1 := Lib.hid hr
  have LT := Lib.hid (show ∀ d, A = some d → d.block < w1.heap.size from fun d hd => Soft.ltD hs1 hd)
  have K1 := Lib.hid (HX1.out.below hb zX1)
  have B2 := Lib.hid (B1.out.trans (hb.mono B1.out.size))
  have z1 := K1.out.lt
  clear hr hA hs1 hb HX1 zX1 B1
  go_wp2_with (focus ((with_reducible refine wpList_wanted ?_ (fun K hK => ?_)); rotate_left; (refine wp_load_sub 52 (.tmp 2) ?ho w.heap.size 0 71 ?hx 52 zs (0, 0) _ ?hg Try.underlying52 rfl infoLM ?hs (hK _ _ ?_)); (case ho => with_reducible rfl); (case hx => rfl); (case hg => exact K1.out); (case hs => rw [HZ.out]; omega); rw [hs.out]; rotate_left; rfl))
  refine (L_toMacro zs _ HZ.out).mono ?_
  rintro e X2 ⟨rfl, hb⟩
  have K2 := Lib.hid (K1.out.below hb z1)
  have R2 := Lib.hid (R1.out.keep hb)
  have B3 := Lib.hid (B2.out.trans (hb.mono B2.out.size))
  have z2 := hb.size
  clear hb K1 R1 B2
  go_wp2_with fail
  refine (IN.out _).mono ?_
  rintro e w2 ⟨G, cg, rfl, hcg, hr, hA, hs1, hb⟩
  have RG := Lib.hid hr
  have GE := Lib.hid (show ∀ d, G = some d → X2.heap.size ≤ d.block from hA)
  have SG := Lib.hid hs1
  have K3 := Lib.hid (K2.out.below hb (by omega))
  have R3 := Lib.hid (R2.out.keep hb)
  have B4 := Lib.hid (B3.out.trans (hb.mono B3.out.size))
  have z3 := hb.size
  clear hr hA hs1 hb K2 R2 B3
  have NE := Lib.hid (show ∀ d d', G = some d → A = some d' → d'.block ≠ d.block from fun d d' h h' => by have := GE.out d h; have := LT.out d' h'; omega)
  go_wp2_with fail
  refine (L_eqBinS _ _ m _ _ ls _ RG.out R3.out HL.out (by omega)).mono ?_
  rintro e w3 ⟨rfl, hb⟩
  have K4 := Lib.hid (K3.out.below hb K3.out.lt)
  have R4 := Lib.hid (R3.out.keep hb)
  have RG4 := Lib.hid (RG.out.keep hb)
  have SG4 := Lib.hid (SG.out.keep hb)
  have B5 := Lib.hid (B4.out.trans (hb.mono B4.out.size))
  have z4 := hb.size
  clear hb K3 R3 RG SG B4
  go_wp2_with fail
  refine (L_markBinA G _ m ls 1 _ RG4.out SG4.out HL.out (by omega) (by omega)).mono ?_
  rintro e w4 ⟨rfl, hM, hr, hs1⟩
  have hbM := hM.below (N := X2.heap.size) GE.out
  have K5 := Lib.hid (K4.out.below hbM (by omega))
  have R5 := Lib.hid (hM.row R4.out NE.out)
  have RM := Lib.hid hr
  have B6 := Lib.hid (B5.out.trans (hbM.mono (by omega)))
  have z5 := hM.size
  clear hM hr hs1 hbM K4 R4 RG4 SG4 B5
  go_wp2_with fail
  refine (L_heldBinA G _ m 1 _ RM.out (by omega) (by omega)).mono ?_
  rintro e w5 ⟨rfl, hb⟩
  have K6 := Lib.hid (K5.out.below hb K5.out.lt)
  have R6 := Lib.hid (R5.out.keep hb)
  have RM6 := Lib.hid (RM.out.keep hb)
  have B7 := Lib.hid (B6.out.trans (hb.mono B6.out.size))
  have z6 := K6.out.lt
  clear hb K5 R5 RM B6
  go_wp2_with (focus ((with_reducible refine wpList_wanted ?_ (fun K hK => ?_)); rotate_left; (refine wp_load_sub 52 (.tmp 2) ?ho w.heap.size 0 71 ?hx 52 zs (0, 0) _ ?hg Try.underlying52 rfl infoLM ?hs (hK _ _ ?_)); (case ho => with_reducible rfl); (case hx => rfl); (case hg => exact K6.out); (case hs => rw [HZ.out]; omega); rw [hs.out]; rotate_left; rfl))
  refine (L_toMacro zs _ HZ.out).mono ?_
  rintro e X3 ⟨rfl, hb⟩
  have R7 := Lib.hid (R6.out.keep hb)
  have RM7 := Lib.hid (RM6.out.keep hb)
  have B8 := Lib.hid (B7.out.trans (hb.mono B7.out.size))
  clear hb K6 R6 RM6 B7
  go_wp2_with fail
  refine (IN.out _).mono ?_
  rintro e w6 ⟨H, ch, rfl, hch, hr, -, -, hb⟩
  have RH := Lib.hid hr
  have R8 := Lib.hid (R7.out.keep hb)
  have RM8 := Lib.hid (RM7.out.keep hb)
  have B9 := Lib.hid (B8.out.trans (hb.mono B8.out.size))
  clear hr hb R7 RM7 B8
  go_wp2_with fail
  refine (L_eqBinS _ _ m _ _ ls _ RH.out R8.out HL.out (by omega)).mono ?_
  rintro e w7 ⟨rfl, hb⟩
  have RM9 := Lib.hid (RM8.out.keep hb)
  have B10 := Lib.hid (B9.out.trans (hb.mono B9.out.size))
  clear hb RM8 B9
  go_wp2_with fail
  refine (L_heldBinA G _ m 1 _ RM9.out (by omega) (by omega)).mono ?_
  rintro e w8 ⟨rfl, hb⟩
  have B11 := Lib.hid (B10.out.trans (hb.mono B10.out.size))
  clear hb B10
  go_wp2_with fail
  go_returns
  exact ⟨rfl, B11.out⟩

set_option maxRecDepth 100000 in
theorem lifted (os : Os) (started : os.Started) (H : Type) (enc : TypeId × Value → H) :
    ReturnsInHanded {} Try.checked os 5 .any (Rows.fnExactMacroBinsSpec.pre6 enc Try.prog Try.f5 Rows.fnExactMacroBinsRow.domain false) (Rows.fnExactMacroBinsSpec.post enc Try.prog Try.f5 false true false false) := by
  refine returnsInHanded_of_change (C := Try.checked) own started (by kernel_rfl) Try.func5
    (ChangeSpec.witness6 (enc := enc) (C := Try.checked) false ⟨#[], #[.agg #[.int .i64 0, .int .i64 0, .int .i64 0, .int .i64 0, .int .i64 0, .int .i64 0, .int .i64 0, .int .i64 0, .int .i64 0, .int .i64 0, .int .i64 0, .int .i64 0, .int .i64 0, .int .i64 0, .int .i64 0, .int .i64 0, .int .i64 0, .int .i64 0, .int .i64 0, .int .i64 0, .int .i64 0, .int .i64 0, .int .i64 0, .int .i64 0, .int .i64 0, .int .i64 0, .int .i64 0, .int .i64 0, .int .i64 0, .int .i64 0, .int .i64 0, .int .i64 0, .int .i64 0, .int .i64 0, .int .i64 0, .int .i64 0, .int .i64 0, .int .i64 0, .int .i64 0, .int .i64 0, .int .i64 0, .int .i64 0, .int .i64 0, .int .i64 0, .int .i64 0, .int .i64 0, .int .i64 0, .int .i64 0, .int .i64 0, .int .i64 0, .int .i64 0, .int .i64 0, .int .i64 0, .int .i64 0, .int .i64 0, .int .i64 0, .int .i64 0, .int .i64 0, .int .i64 0, .int .i64 0, .int .i64 0, .int .i64 0, .int .i64 0, .int .i64 0, .int .i64 0, .int .i64 0, .int .i64 0, .int .i64 0, .int .i64 0, .int .i64 0, .int .i64 0], .bool false], []⟩ 8 (by kernel_rfl) (by kernel_rfl) (by kernel_rfl) (by kernel_rfl)) ?_
  intro W base args ds gs before hval0 hW hcnd _
  have hval : ∀ (j : Nat) t v, Try.f5.params[j]? = some t → args[j]? = some v → Value.okWide Try.prog W .any base t v := hval0
  have hW' := hW
  obtain ⟨p, q, hA0, hV, rfl, hfz, hnd⟩ := hW
  have hA : DataW.TrodAll enc Try.prog W 0 (fun _ => true) true Try.f5.params.toList args.toList ds p := hA0
  rw [Try.params5] at hA hval
  obtain ⟨v0, vs0, d0, ds0, p0, q0, hargs, rfl, rfl, h0, r0⟩ := trodAll_cons hA
  obtain ⟨v1, vs1, d1, ds1, p1, q1, rfl, rfl, rfl, h1, r1⟩ := trodAll_cons r0
  obtain ⟨rfl, rfl, rfl⟩ := trodAll_nil r1
  obtain rfl : args = #[v0, v1] := by cases args; simp_all
  obtain ⟨rfl, rfl⟩ := trodVars_none hV
  have k0 := h0
  have lt0 : ∀ x ∈ p0, x.block < W.heap.size := by obtain ⟨m, hm⟩ := k0; exact DataW.trod_lt m _ _ _ hm
  have k1 := h1
  have lt1 : ∀ x ∈ p1, x.block < W.heap.size := by obtain ⟨m, hm⟩ := k1; exact DataW.trod_lt m _ _ _ hm
  obtain ⟨cs0, hcs0, -⟩ := okWide_struct Try.underlying52 (hval 0 52 v0 rfl rfl)
  obtain ⟨zs, rfl, hz0', -⟩ := open_flat flatMac hcs0 h0
  have hz0 : zs.length = 71 := hz0'.trans (by kernel_rfl)
  clear hcs0 hz0'
  obtain ⟨b, rfl, -, -⟩ := open_bool Try.underlying4 (hval 1 4 v1 rfl rfl) h1
  clear hA0 hval0
  refine (walk zs b W hz0).mono fun e W' ⟨he, bel⟩ => ?_
  subst he
  exact ⟨_, rfl, _, _, _, [], _, [], hW', trodAll_mk1 (shut_bool Try.underlying4 _), (trodAll_cons_mk (Below.trod laidOut (by kernel_rfl) (of_decide_eq_true (by kernel_rfl)) k0 bel lt0) (trodAll_cons_mk (Below.trod laidOut (by kernel_rfl) (of_decide_eq_true (by kernel_rfl)) k1 bel lt1) trodAll_mk0)), rfl, bel.frame _, fun h => by cases h⟩

theorem over : Rows.fnExactMacroBinsRow.holds Try.pinned (OpenSpec.ofChange Rows.fnExactMacroBinsSpec) :=
  OpenClaim.holds_of_wide 5 Try.f5 rfl rfl rfl rfl rfl rfl rfl ⟨rfl, rfl, rfl, rfl, rfl⟩ rfl rfl rfl rfl rfl (by kernel_rfl) Try.func5 (by kernel_rfl)
    (of_decide_eq_true (by kernel_rfl)) (by unfold Func.isWrapper; first | (rw [if_pos (by decide +kernel)]; kernel_rfl) | (rw [if_neg (by decide +kernel)]; exact ⟨rfl, rfl⟩))
    (fun os started H enc _ => lifted os started H enc)

theorem proved : Rows.FnExactMacroBinsSaid := over
#print axioms proved
end Go.Proofs.Ytggkelehjdepkaa.fnExactMacroBins
