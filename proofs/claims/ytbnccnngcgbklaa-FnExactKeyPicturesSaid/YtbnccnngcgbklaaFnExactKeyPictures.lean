/- PROVED: the law laws.FnExactKeyPictures returns true for every input (the program's KeyPictures answers as the reference's does, in memory of its own, and leaves its argument as it was); no conditions. -/
import Derived.Test.YtbnccnngcgbklaaRows
import Derived.Test.YtbnccnngcgbklaaCodSO
import Derived.Test.YtbnccnngcgbklaaKeyP
import Derived.Deep.RegionHeld3
import Derived.Deep.DeepCutAuto
import Derived.WalkKit
import Derived.ProofKit
import Derived.OpenShut
import Derived.ShutString
import Derived.ChangeOld
import Derived.Below
import Derived.Lib.SmallJoins
namespace Go.Proofs.Ytbnccnngcgbklaa.fnExactKeyPictures
open Go.ChangeShapes Go.WideShapes Go.ChangeAt Go.RowKit
open Go.ChangeMaps (open_string shut_string)
set_option linter.unusedVariables false
set_option linter.unusedSimpArgs false

theorem own : ownKnob Try.prog.godebug = none := by kernel_rfl
theorem laidOut : laidOutB Try.prog = true := by kernel_rfl

attribute [local go_sem] size_addsW cell?_addsW frozen?_addsW setCell_addsW drew_addsW adds_addsW setCell_twice alloc_adds0 size_adds0 adds_adds0 sel2 sel3 sel4 sel5 sel6 sel7 sel8 sel9 lt_more lt_more2 lt_more3 lt_more4 adds_drew adds_drewN drewN_addsW ltA_1_1 ltA_1_2 ltA_1_3 ltA_1_4 ltA_1_5 ltA_1_6 ltA_2_1 ltA_2_2 ltA_2_3 ltA_2_4 ltA_2_5 ltA_2_6 ltA_3_1 ltA_3_2 ltA_3_3 ltA_3_4 ltA_3_5 ltA_3_6 ltA_4_1 ltA_4_2 ltA_4_3 ltA_4_4 ltA_4_5 ltA_4_6 ltA_5_1 ltA_5_2 ltA_5_3 ltA_5_4 ltA_5_5 ltA_5_6 ltA_6_1 ltA_6_2 ltA_6_3 ltA_6_4 ltA_6_5 ltA_6_6 ltA_7_1 ltA_7_2 ltA_7_3 ltA_7_4 ltA_7_5 ltA_7_6 ltA_8_1 ltA_8_2 ltA_8_3 ltA_8_4 ltA_8_5 ltA_8_6 ltA_9_1 ltA_9_2 ltA_9_3 ltA_9_4 ltA_9_5 ltA_9_6 ltA_10_1 ltA_10_2 ltA_10_3 ltA_10_4 ltA_10_5 ltA_10_6 ltA_11_1 ltA_11_2 ltA_11_3 ltA_11_4 ltA_11_5 ltA_11_6 ltA_12_1 ltA_12_2 ltA_12_3 ltA_12_4 ltA_12_5 ltA_12_6
theorem len_ok {w : World} {A : Option Addr} {n : Nat} {E : Nat → CdE} (h : CSAt w A n E) (hn : n + sm (totS E) n ≤ 1048576) : lenOk n E := fun i hi => by
  have h1 : (E i).n + sm (E i).l (E i).n ≤ sm (totS E) n := sm_at (totS E) hi
  refine ⟨by omega, fun j hj => ⟨((h.2 i hi).1.2 j hj).2.1, ?_⟩⟩
  have := sm_at (E i).l hj
  omega
theorem Soft.lt {w : World} {A : Option Addr} (h : Soft w A) {d : Addr} (hd : A = some d) : d.block < w.heap.size := by
  obtain ⟨cur, t, hc⟩ := h d hd
  rcases Nat.lt_or_ge d.block w.heap.size with h | h
  · exact h
  · rw [Array.getElem?_eq_none h] at hc; cases hc

set_option maxHeartbeats 4000000 in
set_option maxRecDepth 100000 in
theorem walk (A : Option Addr) (n cap : Nat) (E : Nat → CdE) (w : World) (hcs : CSAt w A n E) (hn : n ≤ maxLen) :
    Calls Try.prog 4 #[.slice A n cap] w fun e w' => e = .returned (.bool true) ∧ Below w.heap.size w w' := by
  unfold maxLen at hn
  have HS := Lib.hid hcs
  clear hcs
  by_cases hbig : (1048576 : Int) < (n : Int) + (sm (totS E) n : Nat)
  · have CZ := Lib.hid (show Calls Try.prog 11 #[.slice A n cap, .int .i64 1048576] w fun e w' => e = .returned (.int .i64 (-1)) ∧ Below w.heap.size w w' from by have := L_szCodedS A n cap E 1048576 w HS.out (by omega) (by omega); rwa [if_pos hbig] at this)
    clear hbig
    go_enter Try.func4, Try.ntmps4
    go_wp2_with (go_at_call 11; refine (CZ.out).mono ?_; rintro e w' ⟨rfl, hb⟩; obtain ⟨o1, n1, rfl⟩ := below_adds hb; clear hb)
    go_returns
    exact ⟨rfl, (by repeat' (first | (with_reducible exact Below.refl _ _) | (with_reducible refine Below.adds_ ?_ ?_ _ _) | (with_reducible refine Below.alloc ?_ ?_ _) | (with_reducible refine Below.drew ?_) | (with_reducible refine Below.setCell ?_ ?_ _) | (with_reducible assumption) | go_size | (simp only [size_addsW, World.size_alloc, World.size_drew, World.size_setCell]; omega)))⟩
  · have hN : n + sm (totS E) n ≤ 1048576 := by omega
    have hn1 : n ≤ 1048576 := by omega
    have CZ := Lib.hid (show Calls Try.prog 11 #[.slice A n cap, .int .i64 1048576] w fun e w' => e = .returned (.int .i64 (1048576 - ((n : Int) + (sm (totS E) n : Nat)))) ∧ Below w.heap.size w w' from by have := L_szCodedS A n cap E 1048576 w HS.out (by omega) (by omega); rwa [if_neg hbig] at this)
    have hr0 : 0 ≤ (1048576 : Int) - ((n : Int) + (sm (totS E) n : Nat)) := by omega
    clear hbig hn
    have HLO := Lib.hid (len_ok HS.out hN)
    obtain ⟨L, hL⟩ : ∃ L, L = keysL (fun k => (E k).i) n := ⟨_, rfl⟩
    have hll : L.length ≤ 8 := by rw [hL]; exact keysL_len _ _
    have HL := Lib.hid hL
    clear hL
    have CT := Lib.hid (show ∀ W, Below w.heap.size w W → Calls Try.prog 13 #[.slice A n cap] W fun e w' => ∃ g tb p, e = .returned (.slice (some ⟨g, 0, none⟩) n n) ∧ COwn w' g n n tb p E ∧ g = W.heap.size ∧ Below W.heap.size W w' from fun W hW => (L_toCodedS A n cap E W (HS.out.keep hW) hN).mono (fun e w' h => by obtain ⟨tb, p, h1, h2, h3⟩ := h; exact ⟨_, tb, p, h1, h2, rfl, h3⟩))
    have CSK := Lib.hid (show ∀ W g tb p, COwn W g n n tb p E → Calls Try.prog 12 #[.slice (some ⟨g, 0, none⟩) n n] W (IntsGotK L W) from fun W g tb p hW => by rw [HL.out]; exact S_KeyPictures _ n n _ _ W (hW.cs HLO.out) (fun k hk => rfl) hn1)
    have CIK := Lib.hid (show ∀ W g tb p, COwn W g n n tb p E → Calls Try.prog 14 #[.slice (some ⟨g, 0, none⟩) n n] W (IntsGotK L W) from fun W g tb p hW => by rw [HL.out]; exact I_KeyPictures _ n n _ _ W (hW.cs HLO.out) (fun k hk => rfl) hn1)
    have CEC := Lib.hid (show ∀ W g g' tb tb' p p', COwn W g n n tb p E → COwn W g' n n tb' p' E → Calls Try.prog 16 #[.slice (some ⟨g, 0, none⟩) n n, .slice (some ⟨g', 0, none⟩) n n] W fun e w' => e = .returned (.bool true) ∧ Below W.heap.size W w' from fun W g g' tb tb' p p' h h' => L_eqCodedS g g' n n n tb tb' p p' E W h h' HLO.out hN)
    have CM := Lib.hid (show ∀ W g tb p hi, COwn W g n n tb p E → (g < hi ∧ ∀ i, i < n → ∀ s, s < (E i).n → p i s < hi) → Calls Try.prog 17 #[.slice (some ⟨g, 0, none⟩) n n, .int .i64 1] W fun e w' => (∃ k1 : Int, 0 ≤ k1 ∧ k1 ≤ 1000000000 ∧ e = .returned (.int .i64 k1)) ∧ Twx (fun b => g ≤ b ∧ b < hi) W w' from fun W g tb p hi h h' => L_markCodedS g n n tb p E 1 W h HLO.out hN (by omega) hi h')
    clear hN
    generalize (1048576 : Int) - ((n : Int) + (sm (totS E) n : Nat)) = r at CZ hr0
    go_enter Try.func4, Try.ntmps4
    go_wp2_with fail
    refine (CZ.out).mono ?_
    rintro e wz ⟨rfl, bz⟩
    have Bz := Lib.hid bz
    have zz := bz.size
    clear bz CZ
    go_wp2_with fail
    refine (CT.out _ Bz.out).mono ?_
    rintro e wa ⟨ga, tba, pa, rfl, hoa, -, ba⟩
    have Ba := Lib.hid (Bz.out.trans (ba.mono zz))
    have Hoa := Lib.hid hoa
    have za := ba.size
    clear ba hoa Bz
    go_wp2_with fail
    refine (CSK.out _ _ _ _ Hoa.out).mono ?_
    rintro e wb ⟨Aw, cw, rfl, hrw, haw, ⟨hsw, hcw⟩, bb⟩
    have Hrw := Lib.hid hrw
    have zb := bb.size
    have Bwb := Lib.hid (Ba.out.trans (bb.mono (by omega)))
    have Hawl := Lib.hid (show ∀ d, Aw = some d → d.block < wb.heap.size from fun d hd => Soft.lt hsw hd)
    clear bb hrw hsw haw hcw Hoa Ba CSK
    go_wp2_with fail
    refine (CT.out _ Bwb.out).mono ?_
    rintro e wc ⟨gx, tbx, px, rfl, hox, hgx, bc⟩
    have Bc := Lib.hid bc
    have Hox := Lib.hid hox
    have zc := bc.size
    have hgxl : gx < wc.heap.size := hox.b.lt
    have hgx' : wb.heap.size ≤ gx := by omega
    clear hgx
    have HHI := Lib.hid (show gx < wc.heap.size ∧ ∀ i, i < n → ∀ s, s < (E i).n → px i s < wc.heap.size from ⟨hox.b.lt, fun i hi s hs => ((hox.r i hi).1.r s hs).1.lt⟩)
    clear bc hox
    go_wp2_with fail
    refine (CIK.out _ _ _ _ Hox.out).mono ?_
    rintro e wd ⟨Ag, cg, rfl, hrg, hag, ⟨hsg, hcg⟩, bd⟩
    have Bd := Lib.hid bd
    have Hrg := Lib.hid hrg
    have Hag := Lib.hid hag
    have Hsg := Lib.hid hsg
    have zd := bd.size
    clear bd hrg hag hsg hcg
    have Bbd := Lib.hid (Bc.out.trans (Bd.out.mono zc))
    go_wp2_with fail
    refine (L_eqIntS _ _ _ _ L _ Hrg.out (Hrw.out.keep Bbd.out) (by omega)).mono ?_
    rintro e we ⟨rfl, be⟩
    have Be := Lib.hid be
    have ze := be.size
    clear be
    have Bbe := Lib.hid (Bbd.out.trans (Be.out.mono (by omega)))
    have Bce := Lib.hid (Bd.out.trans (Be.out.mono zd))
    have Bwe := Lib.hid (Bwb.out.trans (Bbe.out.mono (by omega)))
    go_wp2_with fail
    refine (CT.out _ Bwe.out).mono ?_
    rintro e wf ⟨gf, tbf, pf, rfl, hof, -, bf⟩
    have Bf := Lib.hid bf
    have Hof := Lib.hid hof
    have zf := bf.size
    clear bf hof
    go_wp2_with fail
    refine (CEC.out _ _ _ _ _ _ _ ((Hox.out.below Bce.out).below Bf.out) Hof.out).mono ?_
    rintro e wg ⟨rfl, bg⟩
    have Bg := Lib.hid bg
    have zg := bg.size
    clear bg
    have Beg := Lib.hid (Bf.out.trans (Bg.out.mono zf))
    have Bdg := Lib.hid (Be.out.trans (Beg.out.mono ze))
    have Bcg := Lib.hid (Bce.out.trans (Beg.out.mono (by omega)))
    have Bbg := Lib.hid (Bbe.out.trans (Beg.out.mono (by omega)))
    have Bwg := Lib.hid (Bwe.out.trans (Beg.out.mono (by omega)))
    go_wp2_with fail
    refine (CM.out _ _ _ _ _ (Hox.out.below Bcg.out) HHI.out).mono ?_
    rintro e wh ⟨⟨k1, hk10, hk11, rfl⟩, mh⟩
    have Mh := Lib.hid mh
    have zh := mh.size
    clear mh
    have Hrg2 := Lib.hid (Mh.out.row (Hrg.out.keep Bdg.out) (fun d hd => by have := Hag.out d hd; omega))
    have Hsg2 := Lib.hid (Mh.out.soft (Hsg.out.keep Bdg.out) (fun d hd => by have := Hag.out d hd; omega))
    have Hrw2 := Lib.hid (Mh.out.row (Hrw.out.keep Bbg.out) (fun d hd => by have := Hawl.out d hd; omega))
    have Bwh := Lib.hid (Bwg.out.trans (Mh.out.below (N := w.heap.size) (fun b hb => by omega)))
    go_wp2_with fail
    refine (L_eqIntS _ _ _ _ L _ Hrg2.out Hrw2.out (by omega)).mono ?_
    rintro e wi ⟨rfl, bi⟩
    have Bi := Lib.hid bi
    have zi := bi.size
    clear bi
    go_wp2_with fail
    refine (L_markIntS _ _ L _ _ (Hrg2.out.keep Bi.out) (Hsg2.out.keep Bi.out) (by omega) (by omega)).mono ?_
    rintro e wj ⟨rfl, mj, hrj, hsj⟩
    have Mj := Lib.hid mj
    have Hrj := Lib.hid hrj
    have zj := mj.size
    clear mj hrj hsj
    have Hrw3 := Lib.hid (Mj.out.row (Hrw2.out.keep Bi.out) (fun d d' h1 h2 => by have := Hag.out d h1; have := Hawl.out d' h2; omega))
    have Bwi := Lib.hid (Bwh.out.trans (Bi.out.mono (by omega)))
    have Bwj := Lib.hid (Bwi.out.trans (Mj.out.below (N := w.heap.size) (fun d hd => by have := Hag.out d hd; omega)))
    go_wp2_with fail
    refine (L_heldIntS _ _ L.length 1 _ Hrj.out (by omega) (by omega)).mono ?_
    rintro e wk ⟨rfl, bk⟩
    have Bk := Lib.hid bk
    have zk := bk.size
    clear bk
    have Bwk := Lib.hid (Bwj.out.trans (Bk.out.mono (by omega)))
    go_wp2_with fail
    refine (CT.out _ Bwk.out).mono ?_
    rintro e wl ⟨gl, tbl, pl, rfl, hol, -, bl⟩
    have Bl := Lib.hid bl
    have Hol := Lib.hid hol
    have zl := bl.size
    clear bl hol
    go_wp2_with fail
    refine (CIK.out _ _ _ _ Hol.out).mono ?_
    rintro e wm ⟨Ah, ch, rfl, hrh, -, -, bm⟩
    have Bm := Lib.hid bm
    have Hrh := Lib.hid hrh
    have zm := bm.size
    clear bm hrh
    have Bjm := Lib.hid ((Bk.out.trans (Bl.out.mono zk)).trans (Bm.out.mono (by omega)))
    go_wp2_with fail
    refine (L_eqIntS _ _ _ _ L _ Hrh.out (Hrw3.out.keep Bjm.out) (by omega)).mono ?_
    rintro e wn ⟨rfl, bn⟩
    have Bn := Lib.hid bn
    have zn := bn.size
    clear bn
    have Bjn := Lib.hid (Bjm.out.trans (Bn.out.mono (by omega)))
    go_wp2_with fail
    refine (L_heldIntS _ _ L.length 1 _ (Hrj.out.keep Bjn.out) (by omega) (by omega)).mono ?_
    rintro e wo ⟨rfl, bo⟩
    have Bo := Lib.hid bo
    clear bo
    go_wp2_with fail
    go_returns
    exact ⟨rfl, (Bwj.out.trans (Bjn.out.mono (by omega))).trans (Bo.out.mono (by omega))⟩

set_option maxRecDepth 100000 in
theorem lifted (os : Os) (started : os.Started) (H : Type) (enc : TypeId × Value → H) :
    ReturnsInHanded {} Try.checked os 4 .any (Rows.fnExactKeyPicturesSpec.pre6 enc Try.prog Try.f4 Rows.fnExactKeyPicturesRow.domain false) (Rows.fnExactKeyPicturesSpec.post enc Try.prog Try.f4 false true false false) := by
  refine returnsInHanded_of_change (C := Try.checked) own started (by kernel_rfl) Try.func4
    (ChangeSpec.witness6 (enc := enc) (C := Try.checked) false ⟨#[], #[.slice none 0 0], []⟩ 8 (by kernel_rfl) (by kernel_rfl) (by kernel_rfl) (by kernel_rfl)) ?_
  intro W base args ds gs before hval0 hW hcnd _
  have hval : ∀ (j : Nat) t v, Try.f4.params[j]? = some t → args[j]? = some v → Value.okWide Try.prog W .any base t v := hval0
  have hW' := hW
  obtain ⟨p, q, hA0, hV, rfl, hfz, hnd⟩ := hW
  have hA : DataW.TrodAll enc Try.prog W 0 (fun _ => true) true Try.f4.params.toList args.toList ds p := hA0
  rw [Try.params4] at hA hval
  obtain ⟨v0, vs0, d0, ds0, p0, q0, hargs, rfl, rfl, h0, r0⟩ := trodAll_cons hA
  obtain ⟨rfl, rfl, rfl⟩ := trodAll_nil r0
  obtain rfl : args = #[v0] := by cases args; simp_all
  obtain ⟨rfl, rfl⟩ := trodVars_none hV
  have k0 := h0
  have lt0 : ∀ x ∈ p0, x.block < W.heap.size := by obtain ⟨m, hm⟩ := k0; exact DataW.trod_lt m _ _ _ hm
  obtain ⟨A, n, cap, E, rfl, hcs0, hn0⟩ := open_css (hval 0 31 v0 rfl rfl) h0
  clear hA0 hval0
  refine (walk A n cap E W hcs0 hn0).mono fun e W' ⟨he, bel⟩ => ?_
  subst he
  exact ⟨_, rfl, _, _, _, [], _, [], hW', trodAll_mk1 (shut_bool Try.underlying4 _), (trodAll_cons_mk (Below.trod laidOut (by kernel_rfl) (of_decide_eq_true (by kernel_rfl)) k0 bel lt0) trodAll_mk0), rfl, bel.frame _, fun h => by cases h⟩

theorem over : Rows.fnExactKeyPicturesRow.holds Try.pinned (OpenSpec.ofChange Rows.fnExactKeyPicturesSpec) :=
  OpenClaim.holds_of_wide 4 Try.f4 rfl rfl rfl rfl rfl rfl rfl ⟨rfl, rfl, rfl, rfl, rfl⟩ rfl rfl rfl rfl rfl (by kernel_rfl) Try.func4 (by kernel_rfl)
    (of_decide_eq_true (by kernel_rfl)) (by unfold Func.isWrapper; first | (rw [if_pos (by decide +kernel)]; kernel_rfl) | (rw [if_neg (by decide +kernel)]; exact ⟨rfl, rfl⟩))
    (fun os started H enc _ => lifted os started H enc)

theorem proved : Rows.FnExactKeyPicturesSaid := over
#print axioms proved
end Go.Proofs.Ytbnccnngcgbklaa.fnExactKeyPictures
