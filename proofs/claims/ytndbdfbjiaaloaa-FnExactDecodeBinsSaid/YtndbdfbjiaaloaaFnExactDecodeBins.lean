/- PROVED: the law laws.FnExactDecodeBins returns true for every input (the program's DecodeBins answers as the reference's does, in memory of its own); no conditions. -/
import Derived.Test.YtndbdfbjiaaloaaRows
import Derived.Test.YtndbdfbjiaaloaaMarkB
import Derived.Test.YtndbdfbjiaaloaaDecL
import Derived.WalkKit
import Derived.ProofKit
import Derived.OpenShut
import Derived.ShutString
import Derived.ChangeOld
import Derived.Below
import Derived.Lib.SmallJoins
namespace Go.Proofs.Ytndbdfbjiaaloaa.fnExactDecodeBins
open Go.ChangeShapes Go.WideShapes Go.ChangeAt Go.RowKit
open Go.ChangeMaps (open_string shut_string)
set_option linter.unusedVariables false
set_option linter.unusedSimpArgs false

theorem own : ownKnob Try.prog.godebug = none := by kernel_rfl
theorem laidOut : laidOutB Try.prog = true := by kernel_rfl

attribute [local go_sem] size_addsW cell?_addsW frozen?_addsW setCell_addsW drew_addsW adds_addsW setCell_twice alloc_adds0 size_adds0 adds_adds0 sel2 sel3 sel4 sel5 sel6 sel7 sel8 sel9 lt_more lt_more2 lt_more3 lt_more4 adds_drew adds_drewN drewN_addsW ltA_1_1 ltA_1_2 ltA_1_3 ltA_1_4 ltA_1_5 ltA_1_6 ltA_2_1 ltA_2_2 ltA_2_3 ltA_2_4 ltA_2_5 ltA_2_6 ltA_3_1 ltA_3_2 ltA_3_3 ltA_3_4 ltA_3_5 ltA_3_6 ltA_4_1 ltA_4_2 ltA_4_3 ltA_4_4 ltA_4_5 ltA_4_6 ltA_5_1 ltA_5_2 ltA_5_3 ltA_5_4 ltA_5_5 ltA_5_6 ltA_6_1 ltA_6_2 ltA_6_3 ltA_6_4 ltA_6_5 ltA_6_6 ltA_7_1 ltA_7_2 ltA_7_3 ltA_7_4 ltA_7_5 ltA_7_6 ltA_8_1 ltA_8_2 ltA_8_3 ltA_8_4 ltA_8_5 ltA_8_6 ltA_9_1 ltA_9_2 ltA_9_3 ltA_9_4 ltA_9_5 ltA_9_6 ltA_10_1 ltA_10_2 ltA_10_3 ltA_10_4 ltA_10_5 ltA_10_6 ltA_11_1 ltA_11_2 ltA_11_3 ltA_11_4 ltA_11_5 ltA_11_6 ltA_12_1 ltA_12_2 ltA_12_3 ltA_12_4 ltA_12_5 ltA_12_6
theorem Soft.ltD {w : World} {A : Option Addr} (h : Soft w A) {d : Addr} (hd : A = some d) : d.block < w.heap.size := by
  obtain ⟨cur, t, hc⟩ := h d hd
  rcases Nat.lt_or_ge d.block w.heap.size with h | h
  · exact h
  · rw [Array.getElem?_eq_none h] at hc; cases hc
theorem decOut_len (ds xs : List Int) : (decOut ds xs).length ≤ 20000 := by
  unfold decOut
  split
  · rename_i h
    simp [ctxB] at h
    rw [decL_len]; exact h.1
  · simp
theorem RowAt.new_ (k : IntKind) {w : World} (zs : List Int) (t : TypeId) (g : Nat) (hg : g = w.heap.size) : RowAt k (w.alloc (.cells (zs.map (Value.int k)).toArray t)) (some ⟨g, 0, none⟩) zs := by
  subst hg; exact RowAt.new k w zs t
theorem toB (A : Option Addr) (c : Nat) (zs : List Int) (w : World) (hr : RowAt .u8 w A zs) (hl : zs.length ≤ 1048576) :
    Calls Try.prog 41 #[.slice A zs.length c] w fun e w' => ∃ g, e = .returned (.slice (some ⟨g, 0, none⟩) zs.length zs.length) ∧ RowAt .u8 w' (some ⟨g, 0, none⟩) zs ∧ Soft w' (some ⟨g, 0, none⟩) ∧ w.heap.size ≤ g ∧ g < w'.heap.size ∧ Below w.heap.size w w' :=
  (L_toByteS A c zs w hr hl).mono (by
    rintro e w' ⟨rfl, o, rfl, rfl⟩
    exact ⟨_, rfl, RowAt.new_ .u8 _ _ _ rfl, Soft.new_ _ _ _ rfl, Nat.le_refl _, by simp, by rw [alloc_as]; exact addsW_below _ _ _⟩)
theorem toI (A : Option Addr) (c : Nat) (zs : List Int) (w : World) (hr : RowAt .i64 w A zs) (hl : zs.length ≤ 1048576) :
    Calls Try.prog 42 #[.slice A zs.length c] w fun e w' => ∃ g, e = .returned (.slice (some ⟨g, 0, none⟩) zs.length zs.length) ∧ RowAt .i64 w' (some ⟨g, 0, none⟩) zs ∧ Soft w' (some ⟨g, 0, none⟩) ∧ w.heap.size ≤ g ∧ g < w'.heap.size ∧ Below w.heap.size w w' :=
  (L_toIntS A c zs w hr hl).mono (by
    rintro e w' ⟨rfl, o, rfl, rfl⟩
    exact ⟨_, rfl, RowAt.new_ .i64 _ _ _ rfl, Soft.new_ _ _ _ rfl, Nat.le_refl _, by simp, by rw [alloc_as]; exact addsW_below _ _ _⟩)

set_option maxHeartbeats 4000000 in
set_option maxRecDepth 100000 in
theorem walk (a_zs : Option Addr) (len_zs cap_zs : Nat) (zs : List Int) (a_us : Option Addr) (len_us cap_us : Nat) (us : List Int) (w : World) (w_zs : IsRow .u8 w a_zs len_zs cap_zs zs) (w_us : IsRow .i64 w a_us len_us cap_us us) :
    Calls Try.prog 9 #[.slice a_zs len_zs cap_zs, .slice a_us len_us cap_us] w fun e w' => e = .returned (.bool true) ∧ Below w.heap.size w w' := by
  obtain ⟨hr, hlen, hlm, hwf⟩ := RowAt.of_row w_zs
  unfold maxLen at hlm
  generalize zs.take len_zs = ys at hr hlen hwf
  obtain rfl := hlen
  clear w_zs
  have HR := Lib.hid hr
  have HW := Lib.hid (show ∀ i, 0 ≤ ys.getD i 0 ∧ ys.getD i 0 ≤ 255 from fun i => bounds_u8 (hwf i))
  clear hr hwf
  obtain ⟨hr, hlen, hlm2, hwf⟩ := RowAt.of_row w_us
  unfold maxLen at hlm2
  generalize us.take len_us = xs at hr hlen hwf
  obtain rfl := hlen
  clear w_us hwf
  have HX := Lib.hid hr
  clear hr
  by_cases hbig : (1048576 : Int) < (ys.length : Int)
  · go_enter Try.func9, Try.ntmps9
    go_wp2_with fail
    go_returns
    exact ⟨rfl, (by repeat' (first | (with_reducible exact Below.refl _ _) | (with_reducible refine Below.adds_ ?_ ?_ _ _) | (with_reducible refine Below.alloc ?_ ?_ _) | (with_reducible refine Below.drew ?_) | (with_reducible refine Below.setCell ?_ ?_ _) | (with_reducible assumption) | go_size | (simp only [size_addsW, World.size_alloc, World.size_drew, World.size_setCell]; omega)))⟩
  · by_cases hbig2 : (1048576 : Int) < (xs.length : Int)
    · go_enter Try.func9, Try.ntmps9
      go_wp2_with fail
      go_returns
      exact ⟨rfl, (by repeat' (first | (with_reducible exact Below.refl _ _) | (with_reducible refine Below.adds_ ?_ ?_ _ _) | (with_reducible refine Below.alloc ?_ ?_ _) | (with_reducible refine Below.drew ?_) | (with_reducible refine Below.setCell ?_ ?_ _) | (with_reducible assumption) | go_size | (simp only [size_addsW, World.size_alloc, World.size_drew, World.size_setCell]; omega)))⟩
    · have hn1 : ys.length ≤ 1048576 := by omega
      have hn2 : xs.length ≤ 1048576 := by omega
      obtain ⟨L, hL⟩ : ∃ L, L = decOut ys xs := ⟨_, rfl⟩
      have hll : L.length ≤ 20000 := by rw [hL]; exact decOut_len ys xs
      have HL := Lib.hid hL
      clear hL
      go_enter Try.func9, Try.ntmps9
      go_wp2_with fail
      refine (toB _ _ ys _ HR.out hn1).mono ?_
      rintro e w1 ⟨g1, rfl, hr1, -, hg1, hl1, hf⟩
      have F1 := Lib.hid hf
      have z1 := hf.size
      clear hf
      have B0_1 := F1
      have R1 := Lib.hid hr1; clear hr1
      go_wp2_with fail
      refine (toI _ _ xs _ (HX.out.keep B0_1.out) hn2).mono ?_
      rintro e w2 ⟨g2, rfl, hr2, -, hg2, hl2, hf⟩
      have F2 := Lib.hid hf
      have z2 := hf.size
      clear hf
      have B0_2 := Lib.hid (B0_1.out.trans (F2.out.mono (by omega)))
      have B1_2 := F2
      have R2 := Lib.hid hr2; clear hr2
      go_wp2_with fail
      refine (S_DecodeBins _ _ _ _ ys xs _ (R1.out.keep B1_2.out) R2.out (fun d e => by cases e; show g1 < _; omega) HW.out (by omega) (by omega)).mono ?_
      rw [← HL.out]
      rintro e w3 ⟨Aw, cw, rfl, hrw, -, hsw, hf⟩
      have F3 := Lib.hid hf
      have z3 := hf.size
      clear hf
      have B0_3 := Lib.hid (B0_2.out.trans (F3.out.mono (by omega)))
      have B1_3 := Lib.hid (B1_2.out.trans (F3.out.mono (by omega)))
      have RW := Lib.hid hrw; clear hrw
      have hWl : ∀ d, Aw = some d → d.block < w3.heap.size := fun d hd => Soft.ltD hsw hd
      have HWl := Lib.hid hWl; clear hWl hsw
      go_wp2_with fail
      refine (toB _ _ ys _ (HR.out.keep B0_3.out) hn1).mono ?_
      rintro e w4 ⟨gp, rfl, hrp, hsp, hgp, hlp, hf⟩
      have F4 := Lib.hid hf
      have z4 := hf.size
      clear hf
      have B0_4 := Lib.hid (B0_3.out.trans (F4.out.mono (by omega)))
      have B3_4 := F4
      have RP := Lib.hid hrp; clear hrp
      have SP := Lib.hid hsp; clear hsp
      go_wp2_with fail
      refine (toI _ _ xs _ (HX.out.keep B0_4.out) hn2).mono ?_
      rintro e w5 ⟨gq, rfl, hrq, hsq, hgq, hlq, hf⟩
      have F5 := Lib.hid hf
      have z5 := hf.size
      clear hf
      have B0_5 := Lib.hid (B0_4.out.trans (F5.out.mono (by omega)))
      have B3_5 := Lib.hid (B3_4.out.trans (F5.out.mono (by omega)))
      have B4_5 := F5
      have RQ := Lib.hid hrq; clear hrq
      have SQ := Lib.hid hsq; clear hsq
      go_wp2_with fail
      refine (I_DecodeBins _ _ _ _ ys xs _ (RP.out.keep B4_5.out) RQ.out (fun d e => by cases e; show gp < _; omega) (Nat.le_refl _) HW.out (by omega) (by omega)).mono ?_
      rw [← HL.out]
      rintro e w6 ⟨Ag, cg, rfl, hrg, hag, hsg, hf⟩
      have F6 := Lib.hid hf
      have z6 := hf.size
      clear hf
      have B0_6 := Lib.hid (B0_5.out.trans (F6.out.mono (by omega)))
      have B3_6 := Lib.hid (B3_5.out.trans (F6.out.mono (by omega)))
      have B4_6 := Lib.hid (B4_5.out.trans (F6.out.mono (by omega)))
      have B5_6 := F6
      have RG := Lib.hid hrg; clear hrg
      have HAg := Lib.hid hag; clear hag
      have SG := Lib.hid hsg; clear hsg
      go_wp2_with fail
      refine (L_eqIntS _ _ _ _ L _ RG.out (RW.out.keep B3_6.out) (by omega)).mono ?_
      rintro e w7 ⟨rfl, hf⟩
      have F7 := Lib.hid hf
      have z7 := hf.size
      clear hf
      have B0_7 := Lib.hid (B0_6.out.trans (F7.out.mono (by omega)))
      have B3_7 := Lib.hid (B3_6.out.trans (F7.out.mono (by omega)))
      have B4_7 := Lib.hid (B4_6.out.trans (F7.out.mono (by omega)))
      have B5_7 := Lib.hid (B5_6.out.trans (F7.out.mono (by omega)))
      have B6_7 := F7
      go_wp2_with fail
      refine (toB _ _ ys _ (HR.out.keep B0_7.out) hn1).mono ?_
      rintro e w8 ⟨g8, rfl, hr8, -, -, -, hf⟩
      have F8 := Lib.hid hf
      have z8 := hf.size
      clear hf
      have B0_8 := Lib.hid (B0_7.out.trans (F8.out.mono (by omega)))
      have B3_8 := Lib.hid (B3_7.out.trans (F8.out.mono (by omega)))
      have B4_8 := Lib.hid (B4_7.out.trans (F8.out.mono (by omega)))
      have B5_8 := Lib.hid (B5_7.out.trans (F8.out.mono (by omega)))
      have B6_8 := Lib.hid (B6_7.out.trans (F8.out.mono (by omega)))
      have R8 := Lib.hid hr8; clear hr8
      go_wp2_with fail
      refine (L_eqByteS _ _ _ _ ys _ (RP.out.keep B4_8.out) R8.out (by omega)).mono ?_
      rintro e w9 ⟨rfl, hf⟩
      have F9 := Lib.hid hf
      have z9 := hf.size
      clear hf
      have B0_9 := Lib.hid (B0_8.out.trans (F9.out.mono (by omega)))
      have B3_9 := Lib.hid (B3_8.out.trans (F9.out.mono (by omega)))
      have B4_9 := Lib.hid (B4_8.out.trans (F9.out.mono (by omega)))
      have B5_9 := Lib.hid (B5_8.out.trans (F9.out.mono (by omega)))
      have B6_9 := Lib.hid (B6_8.out.trans (F9.out.mono (by omega)))
      go_wp2_with fail
      refine (toI _ _ xs _ (HX.out.keep B0_9.out) hn2).mono ?_
      rintro e w10 ⟨g10, rfl, hr10, -, -, -, hf⟩
      have F10 := Lib.hid hf
      have z10 := hf.size
      clear hf
      have B0_10 := Lib.hid (B0_9.out.trans (F10.out.mono (by omega)))
      have B3_10 := Lib.hid (B3_9.out.trans (F10.out.mono (by omega)))
      have B4_10 := Lib.hid (B4_9.out.trans (F10.out.mono (by omega)))
      have B5_10 := Lib.hid (B5_9.out.trans (F10.out.mono (by omega)))
      have B6_10 := Lib.hid (B6_9.out.trans (F10.out.mono (by omega)))
      have R10 := Lib.hid hr10; clear hr10
      go_wp2_with fail
      refine (L_eqIntS _ _ _ _ xs _ (RQ.out.keep B5_10.out) R10.out (by omega)).mono ?_
      rintro e w11 ⟨rfl, hf⟩
      have F11 := Lib.hid hf
      have z11 := hf.size
      clear hf
      have B0_11 := Lib.hid (B0_10.out.trans (F11.out.mono (by omega)))
      have B3_11 := Lib.hid (B3_10.out.trans (F11.out.mono (by omega)))
      have B4_11 := Lib.hid (B4_10.out.trans (F11.out.mono (by omega)))
      have B5_11 := Lib.hid (B5_10.out.trans (F11.out.mono (by omega)))
      have B6_11 := Lib.hid (B6_10.out.trans (F11.out.mono (by omega)))
      have RP11 := Lib.hid (RP.out.keep B4_11.out)
      have SP11 := Lib.hid (SP.out.keep B4_11.out)
      have RQ11 := Lib.hid (RQ.out.keep B5_11.out)
      have SQ11 := Lib.hid (SQ.out.keep B5_11.out)
      have RG11 := Lib.hid (RG.out.keep B6_11.out)
      have SG11 := Lib.hid (SG.out.keep B6_11.out)
      go_wp2_with fail
      refine (L_markByteS _ _ ys _ _ RP11.out SP11.out (by omega) (by omega)).mono ?_
      rintro e w12 ⟨rfl, hf, -, -⟩
      have F12 := Lib.hid hf
      have z12 := hf.size
      clear hf
      have B0_12 := Lib.hid (B0_11.out.trans (F12.out.below (N := w.heap.size) (fun d hd => by cases hd; simp only; omega)))
      have B3_12 := Lib.hid (B3_11.out.trans (F12.out.below (N := w3.heap.size) (fun d hd => by cases hd; simp only; omega)))
      have RQ12 := Lib.hid (F12.out.row RQ11.out (fun d d' h1 h2 => by cases h1; cases h2; simp only; omega))
      have SQ12 := Lib.hid (F12.out.soft SQ11.out (fun d d' h1 h2 => by cases h1; cases h2; simp only; omega))
      have RG12 := Lib.hid (F12.out.row RG11.out (fun d d' h1 h2 => by cases h1; have := HAg.out d' h2; simp only; omega))
      have SG12 := Lib.hid (F12.out.soft SG11.out (fun d d' h1 h2 => by cases h1; have := HAg.out d' h2; simp only; omega))
      go_wp2_with fail
      refine (L_markIntS _ _ xs _ _ RQ12.out SQ12.out (by omega) (by omega)).mono ?_
      rintro e w13 ⟨rfl, hf, -, -⟩
      have F13 := Lib.hid hf
      have z13 := hf.size
      clear hf
      have B0_13 := Lib.hid (B0_12.out.trans (F13.out.below (N := w.heap.size) (fun d hd => by cases hd; simp only; omega)))
      have B3_13 := Lib.hid (B3_12.out.trans (F13.out.below (N := w3.heap.size) (fun d hd => by cases hd; simp only; omega)))
      have RG13 := Lib.hid (F13.out.row RG12.out (fun d d' h1 h2 => by cases h1; have := HAg.out d' h2; simp only; omega))
      have SG13 := Lib.hid (F13.out.soft SG12.out (fun d d' h1 h2 => by cases h1; have := HAg.out d' h2; simp only; omega))
      have hsum : ¬ ((1 : Int) + (ys.length : Int) + (xs.length : Int) < 0) := by omega
      go_wp2_with fail
      refine (L_eqIntS _ _ _ _ L _ RG13.out (RW.out.keep B3_13.out) (by omega)).mono ?_
      rintro e w14 ⟨rfl, hf⟩
      have F14 := Lib.hid hf
      have z14 := hf.size
      clear hf
      have B0_14 := Lib.hid (B0_13.out.trans (F14.out.mono (by omega)))
      have B3_14 := Lib.hid (B3_13.out.trans (F14.out.mono (by omega)))
      have RG14 := Lib.hid (RG13.out.keep F14.out)
      have SG14 := Lib.hid (SG13.out.keep F14.out)
      go_wp2_with fail
      refine (L_markIntS _ _ L _ _ RG14.out SG14.out (by omega) (by omega)).mono ?_
      rintro e w15 ⟨rfl, hf, hmk, -⟩
      have F15 := Lib.hid hf
      have z15 := hf.size
      clear hf
      have B0_15 := Lib.hid (B0_14.out.trans (F15.out.below (N := w.heap.size) (fun d hd => by have := HAg.out d hd; omega)))
      have B3_15 := Lib.hid (B3_14.out.trans (F15.out.below (N := w3.heap.size) (fun d hd => by have := HAg.out d hd; omega)))
      have MK := Lib.hid hmk; clear hmk
      go_wp2_with fail
      refine (L_heldIntS _ _ L.length 1 _ MK.out (by omega) (by omega)).mono ?_
      rintro e w16 ⟨rfl, hf⟩
      have F16 := Lib.hid hf
      have z16 := hf.size
      clear hf
      have B0_16 := Lib.hid (B0_15.out.trans (F16.out.mono (by omega)))
      have B3_16 := Lib.hid (B3_15.out.trans (F16.out.mono (by omega)))
      have B15_16 := F16
      go_wp2_with fail
      refine (toB _ _ ys _ (HR.out.keep B0_16.out) hn1).mono ?_
      rintro e w17 ⟨g17, rfl, hr17, -, hg17, hl17, hf⟩
      have F17 := Lib.hid hf
      have z17 := hf.size
      clear hf
      have B0_17 := Lib.hid (B0_16.out.trans (F17.out.mono (by omega)))
      have B3_17 := Lib.hid (B3_16.out.trans (F17.out.mono (by omega)))
      have B15_17 := Lib.hid (B15_16.out.trans (F17.out.mono (by omega)))
      have R17 := Lib.hid hr17; clear hr17
      go_wp2_with fail
      refine (toI _ _ xs _ (HX.out.keep B0_17.out) hn2).mono ?_
      rintro e w18 ⟨g18, rfl, hr18, -, -, -, hf⟩
      have F18 := Lib.hid hf
      have z18 := hf.size
      clear hf
      have B0_18 := Lib.hid (B0_17.out.trans (F18.out.mono (by omega)))
      have B3_18 := Lib.hid (B3_17.out.trans (F18.out.mono (by omega)))
      have B15_18 := Lib.hid (B15_17.out.trans (F18.out.mono (by omega)))
      have B17_18 := F18
      have R18 := Lib.hid hr18; clear hr18
      go_wp2_with fail
      refine (I_DecodeBins _ _ _ _ ys xs _ (R17.out.keep B17_18.out) R18.out (fun d e => by cases e; show g17 < _; omega) (Nat.le_refl _) HW.out (by omega) (by omega)).mono ?_
      rw [← HL.out]
      rintro e w19 ⟨Ah, ch, rfl, hrh, -, -, hf⟩
      have F19 := Lib.hid hf
      have z19 := hf.size
      clear hf
      have B0_19 := Lib.hid (B0_18.out.trans (F19.out.mono (by omega)))
      have B3_19 := Lib.hid (B3_18.out.trans (F19.out.mono (by omega)))
      have B15_19 := Lib.hid (B15_18.out.trans (F19.out.mono (by omega)))
      have B17_19 := Lib.hid (B17_18.out.trans (F19.out.mono (by omega)))
      have RH := Lib.hid hrh; clear hrh
      go_wp2_with fail
      refine (L_eqIntS _ _ _ _ L _ RH.out (RW.out.keep B3_19.out) (by omega)).mono ?_
      rintro e w20 ⟨rfl, hf⟩
      have F20 := Lib.hid hf
      have z20 := hf.size
      clear hf
      have B0_20 := Lib.hid (B0_19.out.trans (F20.out.mono (by omega)))
      have B3_20 := Lib.hid (B3_19.out.trans (F20.out.mono (by omega)))
      have B15_20 := Lib.hid (B15_19.out.trans (F20.out.mono (by omega)))
      have B17_20 := Lib.hid (B17_19.out.trans (F20.out.mono (by omega)))
      go_wp2_with fail
      refine (L_heldIntS _ _ L.length 1 _ (MK.out.keep B15_20.out) (by omega) (by omega)).mono ?_
      rintro e w21 ⟨rfl, hf⟩
      have F21 := Lib.hid hf
      have z21 := hf.size
      clear hf
      have B0_21 := Lib.hid (B0_20.out.trans (F21.out.mono (by omega)))
      have B3_21 := Lib.hid (B3_20.out.trans (F21.out.mono (by omega)))
      have B15_21 := Lib.hid (B15_20.out.trans (F21.out.mono (by omega)))
      have B17_21 := Lib.hid (B17_20.out.trans (F21.out.mono (by omega)))
      go_wp2_with fail
      go_returns
      exact ⟨rfl, B0_21.out⟩

set_option maxRecDepth 100000 in
theorem lifted (os : Os) (started : os.Started) (H : Type) (enc : TypeId × Value → H) :
    ReturnsInHanded {} Try.checked os 9 .any (Rows.fnExactDecodeBinsSpec.pre6 enc Try.prog Try.f9 Rows.fnExactDecodeBinsRow.domain false) (Rows.fnExactDecodeBinsSpec.post enc Try.prog Try.f9 false true false false) := by
  refine returnsInHanded_of_change (C := Try.checked) own started (by kernel_rfl) Try.func9
    (ChangeSpec.witness6 (enc := enc) (C := Try.checked) false ⟨#[], #[.slice none 0 0, .slice none 0 0], []⟩ 8 (by kernel_rfl) (by kernel_rfl) (by kernel_rfl) (by kernel_rfl)) ?_
  intro W base args ds gs before hval0 hW hcnd _
  have hval : ∀ (j : Nat) t v, Try.f9.params[j]? = some t → args[j]? = some v → Value.okWide Try.prog W .any base t v := hval0
  have hW' := hW
  obtain ⟨p, q, hA0, hV, rfl, hfz, hnd⟩ := hW
  have hA : DataW.TrodAll enc Try.prog W 0 (fun _ => true) true Try.f9.params.toList args.toList ds p := hA0
  rw [Try.params9] at hA hval
  obtain ⟨v0, vs0, d0, ds0, p0, q0, hargs, rfl, rfl, h0, r0⟩ := trodAll_cons hA
  obtain ⟨v1, vs1, d1, ds1, p1, q1, rfl, rfl, rfl, h1, r1⟩ := trodAll_cons r0
  obtain ⟨rfl, rfl, rfl⟩ := trodAll_nil r1
  obtain rfl : args = #[v0, v1] := by cases args; simp_all
  obtain ⟨rfl, rfl⟩ := trodVars_none hV
  have k0 := h0
  have lt0 : ∀ x ∈ p0, x.block < W.heap.size := by obtain ⟨m, hm⟩ := k0; exact DataW.trod_lt m _ _ _ hm
  have k1 := h1
  have lt1 : ∀ x ∈ p1, x.block < W.heap.size := by obtain ⟨m, hm⟩ := k1; exact DataW.trod_lt m _ _ _ hm
  obtain ⟨aa0, ll0, cc0, rfl⟩ := okWide_slice Try.underlying22 (hval 0 22 v0 rfl rfl)
  obtain ⟨f0, hf0⟩ := h0
  simp only [Value.cells] at hf0
  obtain ⟨a_zs, len_zs, cap_zs, zs, e_zs, w_zs⟩ : ∃ a l c zs, (.slice aa0 ll0 cc0 : Value) = .slice a l c ∧ IsRow .u8 W a l c zs := by
    rcases open_ints Try.underlying22 Try.underlying5 (by kernel_rfl) hf0 with ⟨hcs, _⟩ | ⟨x, l, c, zs, hcs, _, hl, hm, hz, _, hcell, hwz⟩
    · simp only [List.cons.injEq, and_true] at hcs; exact ⟨none, 0, 0, [], hcs, .inl ⟨rfl, rfl, rfl, rfl⟩⟩
    · simp only [List.cons.injEq, and_true] at hcs; exact ⟨some x, l, c, zs, hcs, .inr ⟨x, rfl, hl, hm, by simpa using hz, hcell, hwz⟩⟩
  simp only [Value.slice.injEq] at e_zs
  obtain ⟨rfl, rfl, rfl⟩ := e_zs
  obtain ⟨aa1, ll1, cc1, rfl⟩ := okWide_slice Try.underlying62 (hval 1 62 v1 rfl rfl)
  obtain ⟨f1, hf1⟩ := h1
  simp only [Value.cells] at hf1
  obtain ⟨a_us, len_us, cap_us, us, e_us, w_us⟩ : ∃ a l c zs, (.slice aa1 ll1 cc1 : Value) = .slice a l c ∧ IsRow .i64 W a l c zs := by
    rcases open_ints Try.underlying62 Try.underlying3 (by kernel_rfl) hf1 with ⟨hcs, _⟩ | ⟨x, l, c, zs, hcs, _, hl, hm, hz, _, hcell, hwz⟩
    · simp only [List.cons.injEq, and_true] at hcs; exact ⟨none, 0, 0, [], hcs, .inl ⟨rfl, rfl, rfl, rfl⟩⟩
    · simp only [List.cons.injEq, and_true] at hcs; exact ⟨some x, l, c, zs, hcs, .inr ⟨x, rfl, hl, hm, by simpa using hz, hcell, hwz⟩⟩
  simp only [Value.slice.injEq] at e_us
  obtain ⟨rfl, rfl, rfl⟩ := e_us
  clear hA0 hval0
  refine (walk _ _ _ zs _ _ _ us W w_zs w_us).mono fun e W' ⟨he, bel⟩ => ?_
  subst he
  exact ⟨_, rfl, _, _, _, [], _, [], hW', trodAll_mk1 (shut_bool Try.underlying4 _), (trodAll_cons_mk (Below.trod laidOut (by kernel_rfl) (of_decide_eq_true (by kernel_rfl)) k0 bel lt0) (trodAll_cons_mk (Below.trod laidOut (by kernel_rfl) (of_decide_eq_true (by kernel_rfl)) k1 bel lt1) trodAll_mk0)), rfl, bel.frame _, fun h => by cases h⟩

theorem over : Rows.fnExactDecodeBinsRow.holds Try.pinned (OpenSpec.ofChange Rows.fnExactDecodeBinsSpec) :=
  OpenClaim.holds_of_wide 9 Try.f9 rfl rfl rfl rfl rfl rfl rfl ⟨rfl, rfl, rfl, rfl, rfl⟩ rfl rfl rfl rfl rfl (by kernel_rfl) Try.func9 (by kernel_rfl)
    (of_decide_eq_true (by kernel_rfl)) (by unfold Func.isWrapper; first | (rw [if_pos (by decide +kernel)]; kernel_rfl) | (rw [if_neg (by decide +kernel)]; exact ⟨rfl, rfl⟩))
    (fun os started H enc _ => lifted os started H enc)

theorem proved : Rows.FnExactDecodeBinsSaid := over
#print axioms proved
end Go.Proofs.Ytndbdfbjiaaloaa.fnExactDecodeBins
