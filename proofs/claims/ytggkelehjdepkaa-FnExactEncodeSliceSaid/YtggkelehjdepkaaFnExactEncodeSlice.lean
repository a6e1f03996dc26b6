/- PROVED: the law laws.FnExactEncodeSlice returns true for every input (the program's EncodeSlice answers as the reference's does, in memory of its own); no conditions. -/
import Derived.Test.YtggkelehjdepkaaRows
import Derived.Test.YtggkelehjdepkaaSlI
import Derived.Test.YtggkelehjdepkaaMarkB
import Derived.Test.YtggkelehjdepkaaFlat
import Derived.WalkKit
import Derived.ProofKit
import Derived.OpenShut
import Derived.ShutString
import Derived.ChangeOld
import Derived.Below
import Derived.Lib.SmallJoins
namespace Go.Proofs.Ytggkelehjdepkaa.fnExactEncodeSlice
open Go.ChangeShapes Go.WideShapes Go.ChangeAt Go.RowKit
open Go.ChangeMaps (open_string shut_string)
set_option linter.unusedVariables false
set_option linter.unusedSimpArgs false

theorem own : ownKnob Try.prog.godebug = none := by kernel_rfl
theorem laidOut : laidOutB Try.prog = true := by kernel_rfl

attribute [local go_sem] size_addsW cell?_addsW frozen?_addsW setCell_addsW drew_addsW adds_addsW setCell_twice alloc_adds0 size_adds0 adds_adds0 sel2 sel3 sel4 sel5 sel6 sel7 sel8 sel9 lt_more lt_more2 lt_more3 lt_more4 adds_drew adds_drewN drewN_addsW ltA_1_1 ltA_1_2 ltA_1_3 ltA_1_4 ltA_1_5 ltA_1_6 ltA_2_1 ltA_2_2 ltA_2_3 ltA_2_4 ltA_2_5 ltA_2_6 ltA_3_1 ltA_3_2 ltA_3_3 ltA_3_4 ltA_3_5 ltA_3_6 ltA_4_1 ltA_4_2 ltA_4_3 ltA_4_4 ltA_4_5 ltA_4_6 ltA_5_1 ltA_5_2 ltA_5_3 ltA_5_4 ltA_5_5 ltA_5_6 ltA_6_1 ltA_6_2 ltA_6_3 ltA_6_4 ltA_6_5 ltA_6_6 ltA_7_1 ltA_7_2 ltA_7_3 ltA_7_4 ltA_7_5 ltA_7_6 ltA_8_1 ltA_8_2 ltA_8_3 ltA_8_4 ltA_8_5 ltA_8_6 ltA_9_1 ltA_9_2 ltA_9_3 ltA_9_4 ltA_9_5 ltA_9_6 ltA_10_1 ltA_10_2 ltA_10_3 ltA_10_4 ltA_10_5 ltA_10_6 ltA_11_1 ltA_11_2 ltA_11_3 ltA_11_4 ltA_11_5 ltA_11_6 ltA_12_1 ltA_12_2 ltA_12_3 ltA_12_4 ltA_12_5 ltA_12_6
theorem flatA4 : FlatI Try.prog 25 := flat_array Try.underlying25 (flat_int Try.underlying3 (by kernel_rfl)) (by kernel_rfl)
theorem flatA16 : FlatI Try.prog 26 := flat_array Try.underlying26 (flat_int Try.underlying3 (by kernel_rfl)) (by kernel_rfl)
theorem flatA64 : FlatI Try.prog 27 := flat_array Try.underlying27 flatA16 (by kernel_rfl)
theorem flatVec : FlatI Try.prog 50 := by
  refine flat_struct Try.underlying50 (fun i f hf => ?_) (by kernel_rfl)
  match i with
  | 0 => simp at hf; subst hf; exact flat_int Try.underlying3 (by kernel_rfl)
  | 1 => simp at hf; subst hf; exact flat_int Try.underlying3 (by kernel_rfl)
  | n + 2 => simp at hf
theorem flatMac : FlatI Try.prog 52 := by
  refine flat_struct Try.underlying52 (fun i f hf => ?_) (by kernel_rfl)
  match i with
  | 0 => simp at hf; subst hf; exact flat_int Try.underlying3 (by kernel_rfl)
  | 1 => simp at hf; subst hf; exact flatVec
  | 2 => simp at hf; subst hf; exact flatA4
  | 3 => simp at hf; subst hf; exact flatA64
  | n + 4 => simp at hf
theorem Soft.lt {w : World} {A : Option Addr} (h : Soft w A) {d : Addr} (hd : A = some d) : d.block < w.heap.size := by
  obtain ⟨cur, t, hc⟩ := h d hd
  rcases Nat.lt_or_ge d.block w.heap.size with h | h
  · exact h
  · rw [Array.getElem?_eq_none h] at hc; cases hc
theorem encL_short (zs : List Int) (n : Nat) : (encL zs n).length ≤ 40004 := by
  cases hv : binsB zs n
  · simp [encL, hv]
  · exact encL_len zs n (binsB_ok hv).1
theorem RowAt.lt {k : IntKind} {w : World} {A : Option Addr} {zs : List Int} (h : RowAt k w A zs) (hz : zs ≠ []) : ∃ d, A = some d ∧ d.block < w.heap.size := by
  obtain ⟨b, off, e, hb, _⟩ := h hz
  exact ⟨_, e, hb⟩
theorem slB_short (zs : List Int) (b : Bool) (n : Nat) : (slB zs b n).length ≤ 40004 := by
  unfold slB
  split
  · exact encL_short _ _
  · simp
/-- a row below a mark is as it was -/
theorem mlow {w w' : World} {A B : Option Addr} {kd : IntKind} {zs : List Int} {W : World} (h : Marked w A w') (hA : ∀ d, A = some d → W.heap.size ≤ d.block) (hr : RowAt kd W B zs) (hb : Below W.heap.size W w) : RowAt kd w' B zs := fun hz => by
  obtain ⟨b, off, rfl, hlt, hc⟩ := hr hz
  have hsz := hb.size
  refine ⟨b, off, rfl, by rw [h.size]; omega, fun i hi => ?_⟩
  have e1 : w'.cell? ⟨b, off + i, none⟩ = w.cell? ⟨b, off + i, none⟩ := World.cell?_of_block (w := w) (a := ⟨b, off + i, none⟩) (h.block b fun d hd e => by have := hA d hd; omega)
  rw [e1]
  exact (hb.cell (p := ⟨b, off + i, none⟩) hlt).trans (hc i hi)

set_option maxHeartbeats 4000000 in
set_option maxRecDepth 100000 in
theorem walk (a_zs : Option Addr) (n cap_zs : Nat) (zs : List Int) (b : Bool) (w : World) (hr : RowAt .i64 w a_zs zs) (hz : zs.length = n * 71) (hlm : n ≤ maxLen) :
    Calls Try.prog 4 #[.slice a_zs n cap_zs, .bool b] w fun e w' => e = .returned (.bool true) ∧ Below w.heap.size w w' := by
  unfold maxLen at hlm
  have HR := Lib.hid hr
  have HZ := Lib.hid hz
  clear hr hz
  by_cases hbig : (1048576 : Int) < (n : Int)
  · go_enter Try.func4, Try.ntmps4
    go_wp2_with (go_at_call 13; refine (L_szMacroS _ _ _ _ _ (by omega) (by omega)).mono ?_; rintro e w' ⟨rfl, rfl⟩; rw [if_pos (by omega)])
    go_returns
    exact ⟨rfl, (by repeat' (first | (with_reducible exact Below.refl _ _) | (with_reducible refine Below.adds_ ?_ ?_ _ _) | (with_reducible refine Below.alloc ?_ ?_ _) | (with_reducible refine Below.drew ?_) | (with_reducible refine Below.setCell ?_ ?_ _) | (with_reducible assumption) | go_size | (simp only [size_addsW, World.size_alloc, World.size_drew, World.size_setCell]; omega)))⟩
  · have hn : n ≤ 1048576 := by omega
    obtain ⟨L, hL⟩ : ∃ L, L = slB zs b n := ⟨_, rfl⟩
    have hll : L.length ≤ 40004 := by rw [hL]; exact slB_short zs b n
    have HL := Lib.hid hL
    clear hL
    go_enter Try.func4, Try.ntmps4
    go_wp2_with fail
    refine (L_szMacroS _ _ _ _ _ (by omega) (by omega)).mono ?_
    rintro e w' ⟨rfl, rfl⟩
    rw [if_neg (by omega)]
    go_wp2_with fail
    refine (L_toMacroS _ _ _ zs _ HR.out HZ.out hn).mono ?_
    rintro e wa ⟨ga, rfl, hra, -, hga, ba⟩
    have Ba := Lib.hid ba
    have Hra := Lib.hid hra
    have za := ba.size
    clear ba hra
    go_wp2_with fail
    refine (S_EncodeSlice _ n _ zs b _ Hra.out HZ.out (by omega)).mono ?_
    rw [← HL.out]
    rintro e wb ⟨Aw, cw, rfl, hrw, haw, ⟨hsw, -⟩, bb⟩
    have Bb := Lib.hid bb
    have Hrw := Lib.hid hrw
    have Hsw := Lib.hid hsw
    have zb := bb.size
    have hawl : ∀ d, Aw = some d → d.block < wb.heap.size := fun d hd => Soft.lt hsw hd
    have Hawl := Lib.hid hawl
    clear bb hrw hsw haw hawl
    have Bwb := Lib.hid (Ba.out.trans (Bb.out.mono za))
    go_wp2_with fail
    refine (L_toMacroS _ _ _ zs _ (HR.out.keep Bwb.out) HZ.out hn).mono ?_
    rintro e wc ⟨gx, rfl, hrx, hsx, hgx, bc⟩
    have Bc := Lib.hid bc
    have Hrx := Lib.hid hrx
    have Hsx := Lib.hid hsx
    have zc := bc.size
    have hgxl : gx < wc.heap.size := Soft.lt hsx rfl
    clear bc hrx hsx
    go_wp2_with fail
    refine (I_EncodeSlice _ n _ zs b _ Hrx.out HZ.out (by omega)).mono ?_
    rw [← HL.out]
    rintro e wd ⟨Ag, cg, rfl, hrg, hag, ⟨hsg, -⟩, bd⟩
    have Bd := Lib.hid bd
    have Hrg := Lib.hid hrg
    have Hag := Lib.hid hag
    have Hsg := Lib.hid hsg
    have zd := bd.size
    clear bd hrg hag hsg
    have Bbd := Lib.hid (Bc.out.trans (Bd.out.mono zc))
    go_wp2_with fail
    refine (L_eqByteS _ _ _ _ L _ Hrg.out (Hrw.out.keep Bbd.out) (by omega)).mono ?_
    rintro e we ⟨rfl, be⟩
    have Be := Lib.hid be
    have ze := be.size
    clear be
    have Bbe := Lib.hid (Bbd.out.trans (Be.out.mono (by omega)))
    have Bce := Lib.hid (Bd.out.trans (Be.out.mono zd))
    have Bwe := Lib.hid (Bwb.out.trans (Bbe.out.mono (by omega)))
    go_wp2_with fail
    refine (L_toMacroS _ _ _ zs _ (HR.out.keep Bwe.out) HZ.out hn).mono ?_
    rintro e wf ⟨gf, rfl, hrf, -, -, bf⟩
    have Bf := Lib.hid bf
    have Hrf := Lib.hid hrf
    have zf := bf.size
    clear bf hrf
    go_wp2_with fail
    refine (L_eqMacroS _ _ _ _ _ zs _ ((Hrx.out.keep Bce.out).keep Bf.out) Hrf.out HZ.out (by omega)).mono ?_
    rintro e wg ⟨rfl, bg⟩
    have Bg := Lib.hid bg
    have zg := bg.size
    clear bg
    have Beg := Lib.hid (Bf.out.trans (Bg.out.mono zf))
    have Bdg := Lib.hid (Be.out.trans (Beg.out.mono ze))
    have Bcg := Lib.hid (Bce.out.trans (Beg.out.mono (by omega)))
    have Bbg := Lib.hid (Bbe.out.trans (Beg.out.mono (by omega)))
    have Bwg := Lib.hid (Bwe.out.trans (Beg.out.mono (by omega)))
    go_wp2_with fail
    refine (L_markMacroS _ _ _ zs _ _ (Hrx.out.keep Bcg.out) (Hsx.out.keep Bcg.out) HZ.out hn (by omega)).mono ?_
    rintro e wh ⟨rfl, mh⟩
    have Mh := Lib.hid mh
    have zh := mh.size
    clear mh
    have Hrg2 := Lib.hid (Mh.out.row (Hrg.out.keep Bdg.out) (fun d d' h1 h2 => by cases h1; have := Hag.out d' h2; simp; omega))
    have Hsg2 := Lib.hid (Mh.out.soft (Hsg.out.keep Bdg.out) (fun d d' h1 h2 => by cases h1; have := Hag.out d' h2; simp; omega))
    have Hrw2 := Lib.hid (mlow (W := wb) Mh.out (fun d hd => by cases hd; exact hgx) Hrw.out Bbg.out)
    have HR2 := Lib.hid (mlow (W := w) Mh.out (fun d hd => by cases hd; show w.heap.size ≤ gx; omega) HR.out Bwg.out)
    have Bwh := Lib.hid (Bwg.out.trans (Mh.out.below (N := w.heap.size) (fun d hd => by cases hd; show w.heap.size ≤ gx; omega)))
    go_wp2_with fail
    refine (L_eqByteS _ _ _ _ L _ Hrg2.out Hrw2.out (by omega)).mono ?_
    rintro e wi ⟨rfl, bi⟩
    have Bi := Lib.hid bi
    have zi := bi.size
    clear bi
    go_wp2_with fail
    refine (L_markByteS _ _ L _ _ (Hrg2.out.keep Bi.out) (Hsg2.out.keep Bi.out) (by omega) (by omega)).mono ?_
    rintro e wj ⟨rfl, mj, hrj, hsj⟩
    have Mj := Lib.hid mj
    have Hrj := Lib.hid hrj
    have zj := mj.size
    clear mj hrj hsj
    have Hrw3 := Lib.hid (Mj.out.row (Hrw2.out.keep Bi.out) (fun d d' h1 h2 => by have := Hag.out d h1; have := Hawl.out d' h2; omega))
    have Bwi := Lib.hid (Bwh.out.trans (Bi.out.mono (by omega)))
    have HR3 := Lib.hid (mlow (W := w) Mj.out (fun d hd => by have := Hag.out d hd; omega) HR.out Bwi.out)
    have Bwj := Lib.hid (Bwi.out.trans (Mj.out.below (N := w.heap.size) (fun d hd => by have := Hag.out d hd; omega)))
    go_wp2_with fail
    refine (L_heldByteS _ _ L.length 1 _ Hrj.out (by omega) (by omega)).mono ?_
    rintro e wk ⟨rfl, bk⟩
    have Bk := Lib.hid bk
    have zk := bk.size
    clear bk
    go_wp2_with fail
    refine (L_toMacroS _ _ _ zs _ (HR3.out.keep Bk.out) HZ.out hn).mono ?_
    rintro e wl ⟨gl, rfl, hrl, -, -, bl⟩
    have Bl := Lib.hid bl
    have Hrl := Lib.hid hrl
    have zl := bl.size
    clear bl hrl
    go_wp2_with fail
    refine (I_EncodeSlice _ n _ zs b _ Hrl.out HZ.out (by omega)).mono ?_
    rw [← HL.out]
    rintro e wm ⟨Ah, ch, rfl, hrh, -, -, bm⟩
    have Bm := Lib.hid bm
    have Hrh := Lib.hid hrh
    have zm := bm.size
    clear bm hrh
    have Bjm := Lib.hid ((Bk.out.trans (Bl.out.mono zk)).trans (Bm.out.mono (by omega)))
    go_wp2_with fail
    refine (L_eqByteS _ _ _ _ L _ Hrh.out (Hrw3.out.keep Bjm.out) (by omega)).mono ?_
    rintro e wn ⟨rfl, bn⟩
    have Bn := Lib.hid bn
    have zn := bn.size
    clear bn
    have Bjn := Lib.hid (Bjm.out.trans (Bn.out.mono (by omega)))
    go_wp2_with fail
    refine (L_heldByteS _ _ L.length 1 _ (Hrj.out.keep Bjn.out) (by omega) (by omega)).mono ?_
    rintro e wo ⟨rfl, bo⟩
    have Bo := Lib.hid bo
    clear bo
    go_wp2_with fail
    go_returns
    exact ⟨rfl, (Bwj.out.trans (Bjn.out.mono (by omega))).trans (Bo.out.mono (by omega))⟩

set_option maxRecDepth 100000 in
theorem lifted (os : Os) (started : os.Started) (H : Type) (enc : TypeId × Value → H) :
    ReturnsInHanded {} Try.checked os 4 .any (Rows.fnExactEncodeSliceSpec.pre6 enc Try.prog Try.f4 Rows.fnExactEncodeSliceRow.domain false) (Rows.fnExactEncodeSliceSpec.post enc Try.prog Try.f4 false true false false) := by
  refine returnsInHanded_of_change (C := Try.checked) own started (by kernel_rfl) Try.func4
    (ChangeSpec.witness6 (enc := enc) (C := Try.checked) false ⟨#[], #[.slice none 0 0, .bool false], []⟩ 8 (by kernel_rfl) (by kernel_rfl) (by kernel_rfl) (by kernel_rfl)) ?_
  intro W base args ds gs before hval0 hW hcnd _
  have hval : ∀ (j : Nat) t v, Try.f4.params[j]? = some t → args[j]? = some v → Value.okWide Try.prog W .any base t v := hval0
  have hW' := hW
  obtain ⟨p, q, hA0, hV, rfl, hfz, hnd⟩ := hW
  have hA : DataW.TrodAll enc Try.prog W 0 (fun _ => true) true Try.f4.params.toList args.toList ds p := hA0
  rw [Try.params4] at hA hval
  obtain ⟨v0, vs0, d0, ds0, p0, q0, hargs, rfl, rfl, h0, r0⟩ := trodAll_cons hA
  obtain ⟨v1, vs1, d1, ds1, p1, q1, rfl, rfl, rfl, h1, r1⟩ := trodAll_cons r0
  obtain ⟨rfl, rfl, rfl⟩ := trodAll_nil r1
  obtain rfl : args = #[v0, v1] := by cases args; simp_all
  obtain ⟨rfl, rfl⟩ := trodVars_none hV
  have k0 := h0
  have lt0 : ∀ x ∈ p0, x.block < W.heap.size := by obtain ⟨m, hm⟩ := k0; exact DataW.trod_lt m _ _ _ hm
  have k1 := h1
  have lt1 : ∀ x ∈ p1, x.block < W.heap.size := by obtain ⟨m, hm⟩ := k1; exact DataW.trod_lt m _ _ _ hm
  obtain ⟨a_zs, n, cap_zs, zs, rfl, hr0, hz0, hn0, -⟩ := open_flats (s := 71) Try.underlying40 flatMac (by kernel_rfl) (by decide) (hval 0 40 v0 rfl rfl) h0
  obtain ⟨b, rfl, -, -⟩ := open_bool Try.underlying4 (hval 1 4 v1 rfl rfl) h1
  clear hA0 hval0
  refine (walk a_zs n cap_zs zs b W hr0 hz0 hn0).mono fun e W' ⟨he, bel⟩ => ?_
  subst he
  exact ⟨_, rfl, _, _, _, [], _, [], hW', trodAll_mk1 (shut_bool Try.underlying4 _), (trodAll_cons_mk (Below.trod laidOut (by kernel_rfl) (of_decide_eq_true (by kernel_rfl)) k0 bel lt0) (trodAll_cons_mk (Below.trod laidOut (by kernel_rfl) (of_decide_eq_true (by kernel_rfl)) k1 bel lt1) trodAll_mk0)), rfl, bel.frame _, fun h => by cases h⟩

theorem over : Rows.fnExactEncodeSliceRow.holds Try.pinned (OpenSpec.ofChange Rows.fnExactEncodeSliceSpec) :=
  OpenClaim.holds_of_wide 4 Try.f4 rfl rfl rfl rfl rfl rfl rfl ⟨rfl, rfl, rfl, rfl, rfl⟩ rfl rfl rfl rfl rfl (by kernel_rfl) Try.func4 (by kernel_rfl)
    (of_decide_eq_true (by kernel_rfl)) (by unfold Func.isWrapper; first | (rw [if_pos (by decide +kernel)]; kernel_rfl) | (rw [if_neg (by decide +kernel)]; exact ⟨rfl, rfl⟩))
    (fun os started H enc _ => lifted os started H enc)

theorem proved : Rows.FnExactEncodeSliceSaid := over
#print axioms proved
end Go.Proofs.Ytggkelehjdepkaa.fnExactEncodeSlice
