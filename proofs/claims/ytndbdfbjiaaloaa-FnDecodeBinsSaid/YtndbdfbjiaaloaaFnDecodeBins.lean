/- PROVED: the law laws.FnDecodeBins returns true for every input (the bits for the first contexts are a prefix of the bits for all; coding the decoded bits again and decoding them returns them; it answers as the reference does); no conditions. -/
import Derived.Test.YtndbdfbjiaaloaaRows
import Derived.Test.YtndbdfbjiaaloaaDrawF
import Derived.Test.YtndbdfbjiaaloaaDecP
import Derived.Test.YtndbdfbjiaaloaaNew
import Derived.Test.YtndbdfbjiaaloaaSame
import Derived.LoopTactic
import Derived.Deep.DeepCutAuto
import Derived.Lib.SmallJoins
import Derived.WalkKit
import Derived.ProofKit
import Derived.OpenShut
import Derived.ShutString
import Derived.ChangeOld
import Derived.Below
import Derived.Lib.SmallJoins
namespace Go.Proofs.Ytndbdfbjiaaloaa.fnDecodeBins
open Go.ChangeShapes Go.WideShapes Go.ChangeAt Go.RowKit
open Go.ChangeMaps (open_string shut_string)
set_option linter.unusedVariables false
set_option linter.unusedSimpArgs false

theorem own : ownKnob Try.prog.godebug = none := by kernel_rfl
theorem laidOut : laidOutB Try.prog = true := by kernel_rfl

attribute [local go_sem] size_addsW cell?_addsW frozen?_addsW setCell_addsW drew_addsW adds_addsW setCell_twice alloc_adds0 size_adds0 adds_adds0 sel2 sel3 sel4 sel5 sel6 sel7 sel8 sel9 lt_more lt_more2 lt_more3 lt_more4 adds_drew adds_drewN drewN_addsW ltA_1_1 ltA_1_2 ltA_1_3 ltA_1_4 ltA_1_5 ltA_1_6 ltA_2_1 ltA_2_2 ltA_2_3 ltA_2_4 ltA_2_5 ltA_2_6 ltA_3_1 ltA_3_2 ltA_3_3 ltA_3_4 ltA_3_5 ltA_3_6 ltA_4_1 ltA_4_2 ltA_4_3 ltA_4_4 ltA_4_5 ltA_4_6 ltA_5_1 ltA_5_2 ltA_5_3 ltA_5_4 ltA_5_5 ltA_5_6 ltA_6_1 ltA_6_2 ltA_6_3 ltA_6_4 ltA_6_5 ltA_6_6 ltA_7_1 ltA_7_2 ltA_7_3 ltA_7_4 ltA_7_5 ltA_7_6 ltA_8_1 ltA_8_2 ltA_8_3 ltA_8_4 ltA_8_5 ltA_8_6 ltA_9_1 ltA_9_2 ltA_9_3 ltA_9_4 ltA_9_5 ltA_9_6 ltA_10_1 ltA_10_2 ltA_10_3 ltA_10_4 ltA_10_5 ltA_10_6 ltA_11_1 ltA_11_2 ltA_11_3 ltA_11_4 ltA_11_5 ltA_11_6 ltA_12_1 ltA_12_2 ltA_12_3 ltA_12_4 ltA_12_5 ltA_12_6

def DBRel (W : World) (xs D : List Int) (n : Nat) (v i : Value) (wr : World) : Prop := ∃ k : Nat, k ≤ n ∧ i = .int .i64 (k : Int) ∧ wr.ownsRow W.heap.size 35 2 v k ((flatI (cxF xs) (cxF D) k).map (Value.int .i64)) ∧ Below W.heap.size W wr
def DBCut (W : World) (xs D : List Int) (k : Nat) (s6 : Value) (wx : World) : Prop := wx.ownsRow W.heap.size 35 2 s6 (k + 1) ((flatI (cxF xs) (cxF D) (k + 1)).map (Value.int .i64)) ∧ Below W.heap.size W wx
theorem own_lit2b (W : World) (e : TypeId) (g base : Nat) (hg : g = W.heap.size) (hb : base ≤ g) : (W.alloc (.cells #[] e)).ownsRow base e 2 (.slice (some ⟨g, 0, none⟩) 0 0) 0 [] := by
  subst hg; exact World.ownsRow_lit (base := base) (e := e) (size := 2) W #[] 0 hb (by decide) rfl
theorem encL_getB (zs : List Int) (n : Nat) : ∀ i, 0 ≤ (encL zs n).getD i 0 ∧ (encL zs n).getD i 0 ≤ 255 := byte_mem (encL_mem zs n)
theorem RowAt.cellB {k : IntKind} {w w' : World} {b off i : Nat} {zs : List Int} (h : RowAt k w (some ⟨b, off, none⟩) zs) (hb : Below w.heap.size w w') (hi : i < zs.length) : w'.cell? ⟨b, off + i, none⟩ = some (.int k (zs.getD i 0)) := by
  obtain ⟨b', off', e, hlt, hc⟩ := h (by intro e; subst e; simp at hi)
  injection e with e
  injection e with e1 e2
  subst e1 e2
  exact (hb.cell (p := ⟨b, off + i, none⟩) hlt).trans (hc i hi)

set_option maxHeartbeats 4000000 in
set_option maxRecDepth 100000 in
theorem walk (a_zs : Option Addr) (len_zs cap_zs : Nat) (zs : List Int) (w : World) (w_zs : IsRow .u8 w a_zs len_zs cap_zs zs) :
    Calls Try.prog 12 #[.slice a_zs len_zs cap_zs] w fun e w' => e = .returned (.bool true) ∧ Below w.heap.size w w' := by
  have hlm := (RowAt.of_row w_zs).2.2.1
  unfold maxLen at hlm
  have HI := Lib.hid w_zs
  clear w_zs
  by_cases hbig : 1048576 < len_zs
  · go_enter Try.func12, Try.ntmps12
    go_wp2
    go_returns
    exact ⟨rfl, (by repeat' (first | (with_reducible exact Below.refl _ _) | (with_reducible refine Below.adds_ ?_ ?_ _ _) | (with_reducible refine Below.alloc ?_ ?_ _) | (with_reducible refine Below.drew ?_) | (with_reducible refine Below.setCell ?_ ?_ _) | (with_reducible assumption) | go_size | (simp only [size_addsW, World.size_alloc, World.size_drew, World.size_setCell]; omega)))⟩
  · go_enter Try.func12, Try.ntmps12
    go_wp2_with fail
    refine (S_DrawDecodeBins _ _ _ zs _ (IsRow.keep HI.out (by repeat' (first | (with_reducible exact Below.refl _ _) | (with_reducible refine Below.adds_ ?_ ?_ _ _) | (with_reducible refine Below.alloc ?_ ?_ _) | (with_reducible refine Below.drew ?_) | (with_reducible refine Below.setCell ?_ ?_ _) | (with_reducible assumption) | go_size | (simp only [size_addsW, World.size_alloc, World.size_drew, World.size_setCell]; omega))))).mono ?_
    rintro e w1 ⟨A, B, ca, cb, ds, xs, rfl, hca, hdl, hxl, hcb, hcbm, hra, hrb, hlt, hby, hb⟩
    unfold maxLen at hcbm
    have B1 := Lib.hid hb
    have RA := Lib.hid hra
    have RB := Lib.hid hrb
    have LT := Lib.hid hlt
    have BY := Lib.hid hby
    have z1 := hb.size
    clear hb hra hrb hlt hby
    obtain ⟨D, hD⟩ : ∃ D, D = decOut ds xs := ⟨_, rfl⟩
    have HD := Lib.hid hD
    clear hD
    go_wp2_with fail
    refine (I_DecodeBins A B ca cb ds xs _ RA.out RB.out LT.out hca BY.out (by omega) (by omega)).mono ?_
    rw [← HD.out]
    rintro e w2 ⟨A2, c2, rfl, hr2, hA2, ⟨hsf2, hc2⟩, hb2⟩
    have R2 := Lib.hid hr2
    have F2 := Lib.hid hb2
    have z2 := hb2.size
    clear hb2 hr2 hA2 hsf2
    go_wp2_with fail
    refine (S_DecodeBins A B ca cb ds xs _ (RA.out.keep F2.out) (RB.out.keep F2.out) (fun d hd => by have := LT.out d hd; omega) BY.out (by omega) (by omega)).mono ?_
    rw [← HD.out]
    rintro e w3 ⟨A3, c3, rfl, hr3, -, -, hb3⟩
    have R3 := Lib.hid hr3
    have F3 := Lib.hid hb3
    have z3 := hb3.size
    clear hb3 hr3
    have hDl : D.length ≤ 100 := by
      rw [HD.out]
      cases hc : ctxB xs
      · rw [decOut_no hc]; simp
      · rw [decOut_len hc]; omega
    go_wp2_with fail
    refine (L_sameInts _ _ _ _ D _ (R2.out.keep F3.out) R3.out (by omega)).mono ?_
    rintro e w4 ⟨rfl, hb4⟩
    have BW := Lib.hid (((B1.out.trans (F2.out.mono (by omega))).trans (F3.out.mono (by omega))).trans (hb4.mono (by omega)))
    have F4 := Lib.hid (show Below w2.heap.size w2 w4 from F3.out.trans (hb4.mono (by omega)))
    have F41 := Lib.hid (F2.out.trans (F4.out.mono (by omega)))
    have z4 := hb4.size
    clear hb4
    have RAc := Lib.hid (RA.out.keep F41.out)
    have RBc := Lib.hid (RB.out.keep F41.out)
    have R2c := Lib.hid (R2.out.keep F4.out)
    have LTc := Lib.hid (show ∀ d, A = some d → d.block < w4.heap.size from fun d hd => by have := LT.out d hd; omega)
    clear RA RB R2 R3 LT F2 F3 F4 F41 B1
    cases hv : ctxB xs
    · have t0 : xs.length ≠ 0 := ctxB_len hv (by omega)
      have hD0 : D.length = 0 := by rw [HD.out, decOut_no hv]; rfl
      have t1 : ((D.length : Int) != (xs.length : Int)) = true := by simp; omega
      have t2 : ((D.length : Int) == 0) = true := by rw [hD0]; rfl
      clear hD0 t0
      go_wp2_with (go_at_call 18; refine (L_alive _).mono ?_; rintro e w' ⟨rfl, hb⟩; obtain ⟨o1, n1, rfl⟩ := below_adds hb; clear hb)
      go_returns
      exact ⟨rfl, BW.out.trans ((addsW_below _ _ _).mono (by omega))⟩
    · have hDx : D.length = xs.length := by rw [HD.out, decOut_len hv]
      have HDX := Lib.hid hDx
      have HV := Lib.hid hv
      have t1 : ((D.length : Int) != (xs.length : Int)) = false := by simp [hDx]
      clear hDx hv
      obtain ⟨i0, hi, hz0, hz1, hz2⟩ := info_parts infoBin
      go_wp2_with fail
      go_loopw [6, 7] (fun v i wr => DBRel w4 xs D D.length v i wr) (fun _ i _ => D.length - (intOf i).toNat)
      case atStart => exact ⟨0, Nat.zero_le _, rfl, own_lit2b _ 35 _ _ rfl (Nat.le_refl _), (by repeat' (first | (with_reducible exact Below.refl _ _) | (with_reducible refine Below.adds_ ?_ ?_ _ _) | (with_reducible refine Below.alloc ?_ ?_ _) | (with_reducible refine Below.drew ?_) | (with_reducible refine Below.setCell ?_ ?_ _) | (with_reducible assumption) | go_size | (simp only [size_addsW, World.size_alloc, World.size_drew, World.size_setCell]; omega)))⟩
      case round =>
        obtain ⟨k, hk, rfl, hown, hbel⟩ := hrel
        have HO := Lib.hid hown
        have HB := Lib.hid hbel
        have hzr := hbel.size
        clear hown hbel t1
        by_cases hlt : k < D.length
        · obtain ⟨b, off, x, rfl, hb, hx, hc⟩ := (RBc.out.keep HB.out).at_ (show k < xs.length by have := HDX.out; omega)
          obtain ⟨b', off', y, rfl, hb', hy, hc'⟩ := (R2c.out.keep HB.out).at_ hlt
          have HX := Lib.hid (show x = cxF xs k from hx)
          have HY := Lib.hid (show y = cxF D k from hy)
          have hk0 : (0 : Int) ≤ (k : Int) := by omega
          have hk1 : (k : Int) < (xs.length : Int) := by have := HDX.out; omega
          have hk2 : (k : Int) < (D.length : Int) := by omega
          clear hx hy
          go_upto_region 13 with fail
          refine wp_region_held_drew (S := (fun wx => wx.cell? ⟨b, off + k, none⟩ = some (.int .i64 x) ∧ wx.cell? ⟨b', off' + k, none⟩ = some (.int .i64 y))) (by kernel_rfl) ?_ (fun hHeld => ?_)
          · (first | (go_simp; done) | (go_keep; done) | exact ⟨by rw [HX.out]; exact RowAt.cellB RBc.out HB1.out (by have := HDX.out; omega), by rw [HY.out]; exact RowAt.cellB R2c.out HB1.out hlt⟩)
          refine wpAnyH_take (i := 0) (oi := _) (v := ?_) rfl (by kernel_rfl) (by kernel_rfl) (by kernel_rfl) (fun _ _ _ h => h) (Or.inl ⟨by rfl, ?_⟩) (by assumption) ?_
          rotate_left
          · intro w hSw; (try dsimp only at hSw); go_simp; (try with_reducible rfl)
          try dsimp only [List.getElem_toArray, List.getElem_cons_succ, List.getElem_cons_zero]
          simp only [Act.put, List.setIfInBounds_toArray, List.set_cons_zero, List.set_cons_succ]
          refine wpAnyH_take (i := 1) (oi := _) (v := ?_) rfl (by kernel_rfl) (by kernel_rfl) (by kernel_rfl) (fun _ _ _ h => h) (Or.inl ⟨by rfl, ?_⟩) (by assumption) ?_
          rotate_left
          · intro w hSw; (try dsimp only at hSw); go_simp; (try with_reducible rfl)
          try dsimp only [List.getElem_toArray, List.getElem_cons_succ, List.getElem_cons_zero]
          simp only [Act.put, List.setIfInBounds_toArray, List.set_cons_zero, List.set_cons_succ]
          refine wpAnyH_take (i := 2) (oi := _) (v := ?_) rfl (by kernel_rfl) (by kernel_rfl) (by kernel_rfl) (fun _ _ _ h => h) (Or.inl ⟨by rfl, ?_⟩) (by assumption) ?_
          rotate_left
          · intro w hSw; (try dsimp only at hSw); go_simp; (try with_reducible rfl)
          try dsimp only [List.getElem_toArray, List.getElem_cons_succ, List.getElem_cons_zero]
          simp only [Act.put, List.setIfInBounds_toArray, List.set_cons_zero, List.set_cons_succ]
          refine wpAnyH_take (i := 3) (oi := _) (v := ?_) rfl (by kernel_rfl) (by kernel_rfl) (by kernel_rfl) (fun _ _ _ h => h) (Or.inl ⟨by rfl, ?_⟩) (by assumption) ?_
          rotate_left
          · intro w hSw; (try dsimp only at hSw); go_simp; (try with_reducible rfl)
          try dsimp only [List.getElem_toArray, List.getElem_cons_succ, List.getElem_cons_zero]
          simp only [Act.put, List.setIfInBounds_toArray, List.set_cons_zero, List.set_cons_succ]
          refine wpAnyH_take (i := 4) (oi := _) (v := ?_) rfl (by kernel_rfl) (by kernel_rfl) (by kernel_rfl) (fun _ _ _ h => h) (Or.inl ⟨by rfl, ?_⟩) (by assumption) ?_
          rotate_left
          · intro w hSw; (try dsimp only at hSw); go_simp; (try with_reducible rfl)
          try dsimp only [List.getElem_toArray, List.getElem_cons_succ, List.getElem_cons_zero]
          simp only [Act.put, List.setIfInBounds_toArray, List.set_cons_zero, List.set_cons_succ]
          refine wpAnyH_take (i := 5) (oi := _) (v := ?_) rfl (by kernel_rfl) (by kernel_rfl) (by kernel_rfl) (fun _ _ _ h => h) (Or.inl ⟨by rfl, ?_⟩) (by assumption) ?_
          rotate_left
          · intro w hSw; (try dsimp only at hSw); go_simp; (try with_reducible rfl)
          try dsimp only [List.getElem_toArray, List.getElem_cons_succ, List.getElem_cons_zero]
          simp only [Act.put, List.setIfInBounds_toArray, List.set_cons_zero, List.set_cons_succ]
          refine wpAnyH_take (i := 6) (oi := _) (v := ?_) rfl (by kernel_rfl) (by kernel_rfl) (by kernel_rfl) (fun _ _ _ h => h) (Or.inl ⟨by rfl, ?_⟩) (by assumption) ?_
          rotate_left
          · intro w hSw; (try dsimp only at hSw); go_simp; (try with_reducible rfl)
          try dsimp only [List.getElem_toArray, List.getElem_cons_succ, List.getElem_cons_zero]
          simp only [Act.put, List.setIfInBounds_toArray, List.set_cons_zero, List.set_cons_succ]
          refine wpAnyH_take (i := 7) (oi := _) (v := ?_) rfl (by kernel_rfl) (by kernel_rfl) (by kernel_rfl) (fun _ _ _ h => h) (Or.inl ⟨by rfl, ?_⟩) (by assumption) ?_
          rotate_left
          · intro w hSw; (try dsimp only at hSw); go_simp; (try with_reducible rfl)
          try dsimp only [List.getElem_toArray, List.getElem_cons_succ, List.getElem_cons_zero]
          simp only [Act.put, List.setIfInBounds_toArray, List.set_cons_zero, List.set_cons_succ]
          refine wpAnyH_take (i := 8) (oi := _) (v := ?_) rfl (by kernel_rfl) (by kernel_rfl) (by kernel_rfl) (fun _ _ _ h => h) (Or.inl ⟨by rfl, ?_⟩) (by assumption) ?_
          rotate_left
          · intro w hSw; (try dsimp only at hSw); go_simp; (try with_reducible rfl)
          try dsimp only [List.getElem_toArray, List.getElem_cons_succ, List.getElem_cons_zero]
          simp only [Act.put, List.setIfInBounds_toArray, List.set_cons_zero, List.set_cons_succ]
          refine wpAnyH_take (i := 9) (oi := _) (v := ?_) rfl (by kernel_rfl) (by kernel_rfl) (by kernel_rfl) (fun _ _ _ h => h) (Or.inl ⟨by rfl, ?_⟩) (by assumption) ?_
          rotate_left
          · intro w hSw; (try dsimp only at hSw); go_simp; (try with_reducible rfl)
          try dsimp only [List.getElem_toArray, List.getElem_cons_succ, List.getElem_cons_zero]
          simp only [Act.put, List.setIfInBounds_toArray, List.set_cons_zero, List.set_cons_succ]
          refine wpAnyH_ready (rs := [10]) (by kernel_rfl) (by simp) ?_
          refine AllReadyH.cons (o := _) rfl (fun K hK => ?_) ?_
          · (try dsimp only [List.getElem_toArray, List.getElem_cons_succ, List.getElem_cons_zero]); go_simp
            refine hK.out _ _ ?_ (fun hHeld => ?_)
            · (first | (go_simp; done) | (go_keep; done) | exact ⟨by rw [HX.out]; exact RowAt.cellB RBc.out HB1.out (by have := HDX.out; omega), by rw [HY.out]; exact RowAt.cellB R2c.out HB1.out hlt⟩)
            clear hK K
            try simp only [Act.put, List.setIfInBounds_toArray, List.set_cons_zero, List.set_cons_succ]
            refine wpAnyH_ready (rs := [11]) (by kernel_rfl) (by simp) ?_
            refine AllReadyH.cons (o := _) rfl (fun K hK => ?_) ?_
            · (try dsimp only [List.getElem_toArray, List.getElem_cons_succ, List.getElem_cons_zero])
              (rw [if_pos (by rfl)]; refine wp_append_own _ _ _ 32 rfl w4.heap.size 35 i0 (.agg #[.int .i64 0, .int .i64 0]) 2 16 Try.underlying32 hi hz0 hz1 hz2 rfl (by decide) _ _ _ rfl (HO.out.alloc _) ⟨wr.heap.size, 0, none⟩ 1 1 [.int .i64 x, .int .i64 y] rfl rfl (news2 (by go_simp; done) (by go_simp; done)) (one2 rfl rfl) (by unfold maxLen; omega) (by omega) (by simp; omega) ?_; intro v' w1' hown1 hgrow1 _; have HB1 := Lib.hid (Below.grown (Below.drew (Below.alloc HB.out hzr _)) hgrow1 (by simp; omega) (fun q e => (HO.out.lt q e).1)); have HO1 := Lib.hid hown1; clear hown1 hgrow1)
              refine hK.out _ _ ?_ (fun hHeld => ?_)
              · (first | (go_simp; done) | (go_keep; done) | exact ⟨by rw [HX.out]; exact RowAt.cellB RBc.out HB1.out (by have := HDX.out; omega), by rw [HY.out]; exact RowAt.cellB R2c.out HB1.out hlt⟩)
              clear hK K
              try simp only [Act.put, List.setIfInBounds_toArray, List.set_cons_zero, List.set_cons_succ]
              refine wpAnyH_take (i := 12) (oi := _) (v := ?_) rfl (by kernel_rfl) (by kernel_rfl) (by kernel_rfl) (fun _ _ _ h => h) (Or.inl ⟨by rfl, ?_⟩) (by assumption) ?_
              rotate_left
              · intro w hSw; (try dsimp only at hSw); go_simp; (try with_reducible rfl)
              try dsimp only [List.getElem_toArray, List.getElem_cons_succ, List.getElem_cons_zero]
              simp only [Act.put, List.setIfInBounds_toArray, List.set_cons_zero, List.set_cons_succ]
              refine wpAnyH_done (by kernel_rfl) ?_ _
              go_wp2_with fail
              go_roundw
              case rel => exact ⟨k + 1, by omega, by go_num, by rw [flatI, List.map_append, ← HX.out, ← HY.out]; exact HO1.out, HB1.out⟩
              case measure => simp [intOf]; omega
            exact AllReadyH.nil
          exact AllReadyH.nil
        · obtain rfl : k = D.length := by omega
          have RAr := Lib.hid (RAc.out.keep HB.out)
          have RBr := Lib.hid (RBc.out.keep HB.out)
          have R2r := Lib.hid (R2c.out.keep HB.out)
          have LTr := Lib.hid (show ∀ d, A = some d → d.block < wr.heap.size from fun d hd => by have := LTc.out d hd; omega)
          have BWr := Lib.hid (BW.out.trans (HB.out.mono (by omega)))
          obtain ⟨Al, cl, el, hll, hcl, -, hrl, -⟩ := RowAt.of_ownS HO.out
          subst el
          have RL := Lib.hid hrl
          have HLL := Lib.hid hll
          clear hrl hll HO RAc RBc R2c LTc HB
          have hDx := HDX.out
          obtain ⟨N, hN⟩ : ∃ N, N = D.length / 2 := ⟨_, rfl⟩
          have hN1 : (D.length : Int) / 2 = (N : Int) := by omega
          have hN2 : N ≤ D.length := by omega
          have hN3 : (N : Int) ≤ (cb : Int) := by omega
          have hN4 : (N : Int) ≤ (c2 : Int) := by omega
          have hN0 : (0 : Int) ≤ (N : Int) := by omega
          clear hN
          have e1 : decOut ds (xs.take N) = D.take N := by rw [HD.out]; exact decOut_take HV.out (by omega)
          have e2 : decOut (encL (flatI (cxF xs) (cxF D) D.length) D.length) xs = D := by
            have h := again (ds := ds) HV.out (encL_getB _ _)
            rw [← HD.out, ← hDx] at h
            exact h
          have hl1 : (xs.take N).length = N := by rw [List.length_take]; omega
          have hl2 : (D.take N).length = N := by rw [List.length_take]; omega
          obtain ⟨Z, hZ⟩ : ∃ Z, Z = encL (flatI (cxF xs) (cxF D) D.length) D.length := ⟨_, rfl⟩
          have hZl : Z.length ≤ 40004 := by rw [hZ]; exact encL_len _ _ (by omega)
          have DEC1 := Lib.hid (show ∀ W, Below wr.heap.size wr W → Calls Try.prog 43 #[.slice A ds.length ca, .slice B N cb] W (IntsGotD (D.take N) W) from fun W hW => by
            have h := I_DecodeBins A B ca cb ds (xs.take N) W (RAr.out.keep hW) ((RBr.out.take N).keep hW) (fun d hd => by have := LTr.out d hd; have := hW.size; omega) hca BY.out (by omega) (by omega)
            rw [hl1, e1] at h
            exact h)
          have SAME1 := Lib.hid (show ∀ W A c, RowAt .i64 W A (D.take N) → Below wr.heap.size wr W → Calls Try.prog 50 #[.slice A N c, .slice A2 N c2] W (fun e w' => e = .returned (.bool true) ∧ Below W.heap.size W w') from fun W A c hA hW => by
            have h := L_sameInts A A2 c c2 (D.take N) W hA ((R2r.out.take N).keep hW) (by omega)
            rw [hl2] at h
            exact h)
          have ENC := Lib.hid (show ∀ W, Below wr.heap.size wr W → Calls Try.prog 38 #[.slice Al D.length cl] W (BytesGot Z W) from fun W hW => by
            have h := I_EncodeBins Al D.length cl (flatI (cxF xs) (cxF D) D.length) W (RL.out.keep hW) HLL.out (by omega)
            rw [← hZ] at h
            exact h)
          have DEC2 := Lib.hid (show ∀ W A c, RowAt .u8 W A Z → (∀ d, A = some d → d.block < W.heap.size) → Z.length ≤ c → Below wr.heap.size wr W → Calls Try.prog 43 #[.slice A Z.length c, .slice B xs.length cb] W (IntsGotD D W) from fun W A c hA hlt hc hW => by
            have h := I_DecodeBins A B c cb Z xs W hA (RBr.out.keep hW) hlt hc (by rw [hZ]; exact encL_getB _ _) (by omega) (by omega)
            rw [hZ, e2] at h
            rw [hZ]
            exact h)
          have SAME2 := Lib.hid (show ∀ W A c, RowAt .i64 W A D → Below wr.heap.size wr W → Calls Try.prog 50 #[.slice A D.length c, .slice A2 D.length c2] W (fun e w' => e = .returned (.bool true) ∧ Below W.heap.size W w') from fun W A c hA hW => L_sameInts A A2 c c2 D W hA (R2r.out.keep hW) (by omega))
          have HL2 := Lib.hid hl2
          clear e1 e2 hl1 hl2 hZ hDx
          go_wp2_with fail
          refine wp_region_held_drew (S := (fun wx => True)) (by kernel_rfl) ?_ (fun hHeld => ?_)
          · trivial
          refine wpAnyH_take (i := 0) (oi := _) (v := ?_) rfl (by kernel_rfl) (by kernel_rfl) (by kernel_rfl) (fun _ _ _ h => h) (Or.inl ⟨by rfl, ?_⟩) (by assumption) ?_
          rotate_left
          · intro w hSw; (try dsimp only at hSw); go_simp; (try with_reducible rfl)
          try dsimp only [List.getElem_toArray, List.getElem_cons_succ, List.getElem_cons_zero]
          simp only [Act.put, List.setIfInBounds_toArray, List.set_cons_zero, List.set_cons_succ]
          refine wpAnyH_take (i := 1) (oi := _) (v := ?_) rfl (by kernel_rfl) (by kernel_rfl) (by kernel_rfl) (fun _ _ _ h => h) (Or.inl ⟨by rfl, ?_⟩) (by assumption) ?_
          rotate_left
          · intro w hSw; (try dsimp only at hSw); go_simp; (try with_reducible rfl)
          try dsimp only [List.getElem_toArray, List.getElem_cons_succ, List.getElem_cons_zero]
          simp only [Act.put, List.setIfInBounds_toArray, List.set_cons_zero, List.set_cons_succ]
          refine wpAnyH_take (i := 2) (oi := _) (v := ?_) rfl (by kernel_rfl) (by kernel_rfl) (by kernel_rfl) (fun _ _ _ h => h) (Or.inl ⟨by rfl, ?_⟩) (by assumption) ?_
          rotate_left
          · intro w hSw; (try dsimp only at hSw); go_simp; (try with_reducible rfl)
          try dsimp only [List.getElem_toArray, List.getElem_cons_succ, List.getElem_cons_zero]
          simp only [Act.put, List.setIfInBounds_toArray, List.set_cons_zero, List.set_cons_succ]
          refine wpAnyH_take (i := 3) (oi := _) (v := ?_) rfl (by kernel_rfl) (by kernel_rfl) (by kernel_rfl) (fun _ _ _ h => h) (Or.inl ⟨by rfl, ?_⟩) (by assumption) ?_
          rotate_left
          · intro w hSw; (try dsimp only at hSw); go_simp; (try with_reducible rfl)
          try dsimp only [List.getElem_toArray, List.getElem_cons_succ, List.getElem_cons_zero]
          simp only [Act.put, List.setIfInBounds_toArray, List.set_cons_zero, List.set_cons_succ]
          refine wpAnyH_take (i := 5) (oi := _) (v := ?_) rfl (by kernel_rfl) (by kernel_rfl) (by kernel_rfl) (fun _ _ _ h => h) (Or.inl ⟨by rfl, ?_⟩) (by assumption) ?_
          rotate_left
          · intro w hSw; (try dsimp only at hSw); go_simp; (try with_reducible rfl)
          try dsimp only [List.getElem_toArray, List.getElem_cons_succ, List.getElem_cons_zero]
          simp only [Act.put, List.setIfInBounds_toArray, List.set_cons_zero, List.set_cons_succ]
          refine wpAnyH_take (i := 6) (oi := _) (v := ?_) rfl (by kernel_rfl) (by kernel_rfl) (by kernel_rfl) (fun _ _ _ h => h) (Or.inl ⟨by rfl, ?_⟩) (by assumption) ?_
          rotate_left
          · intro w hSw; (try dsimp only at hSw); go_simp; (try with_reducible rfl)
          try dsimp only [List.getElem_toArray, List.getElem_cons_succ, List.getElem_cons_zero]
          simp only [Act.put, List.setIfInBounds_toArray, List.set_cons_zero, List.set_cons_succ]
          refine wpAnyH_take (i := 7) (oi := _) (v := ?_) rfl (by kernel_rfl) (by kernel_rfl) (by kernel_rfl) (fun _ _ _ h => h) (Or.inl ⟨by rfl, ?_⟩) (by assumption) ?_
          rotate_left
          · intro w hSw; (try dsimp only at hSw); go_simp; (try with_reducible rfl)
          try dsimp only [List.getElem_toArray, List.getElem_cons_succ, List.getElem_cons_zero]
          simp only [Act.put, List.setIfInBounds_toArray, List.set_cons_zero, List.set_cons_succ]
          refine wpAnyH_ready (rs := [4]) (by kernel_rfl) (by simp) ?_
          refine AllReadyH.cons (o := _) rfl (fun K hK => ?_) ?_
          · (try dsimp only [List.getElem_toArray, List.getElem_cons_succ, List.getElem_cons_zero]); go_simp
            (first | (go_at_call 43; (with_reducible refine (DEC1.out _ (by repeat' (first | (with_reducible exact Below.refl _ _) | (with_reducible refine Below.adds_ ?_ ?_ _ _) | (with_reducible refine Below.alloc ?_ ?_ _) | (with_reducible refine Below.drew ?_) | (with_reducible refine Below.setCell ?_ ?_ _) | (with_reducible assumption) | go_size | (simp only [size_addsW, World.size_alloc, World.size_drew, World.size_setCell]; omega)))).mono ?_); rintro e w' ⟨A8, c8, rfl, hr8, -, -, hb⟩; rw [HL2.out]; have R8 := Lib.hid hr8; obtain ⟨o8, n8, rfl⟩ := below_adds hb; clear hb hr8) | (go_at_call 50; (with_reducible refine (SAME1.out _ _ _ (by have hx := R8.out; (try simp only [adds_addsW, adds_drew, Array.append_assoc] at hx); exact hx) (by repeat' (first | (with_reducible exact Below.refl _ _) | (with_reducible refine Below.adds_ ?_ ?_ _ _) | (with_reducible refine Below.alloc ?_ ?_ _) | (with_reducible refine Below.drew ?_) | (with_reducible refine Below.setCell ?_ ?_ _) | (with_reducible assumption) | go_size | (simp only [size_addsW, World.size_alloc, World.size_drew, World.size_setCell]; omega)))).mono ?_); rintro e w' ⟨rfl, hb⟩; obtain ⟨o9, n9, rfl⟩ := below_adds hb; clear hb) | (go_at_call 38; (with_reducible refine (ENC.out _ (by repeat' (first | (with_reducible exact Below.refl _ _) | (with_reducible refine Below.adds_ ?_ ?_ _ _) | (with_reducible refine Below.alloc ?_ ?_ _) | (with_reducible refine Below.drew ?_) | (with_reducible refine Below.setCell ?_ ?_ _) | (with_reducible assumption) | go_size | (simp only [size_addsW, World.size_alloc, World.size_drew, World.size_setCell]; omega)))).mono ?_); rintro e w' ⟨A10, c10, rfl, hr10, -, ⟨hs10, hc10⟩, hb⟩; have R10 := Lib.hid hr10; have S10 := Lib.hid hs10; obtain ⟨o10, n10, rfl⟩ := below_adds hb; clear hb hr10 hs10) | (go_at_call 43; refine (DEC2.out _ _ _ (by have hx := R10.out; simp only [adds_addsW, adds_drew, Array.append_assoc] at hx; exact hx) (fun d hd => by have hx := S10.out; simp only [adds_addsW, adds_drew, Array.append_assoc] at hx; obtain ⟨cur, t, h⟩ := hx d hd; exact (Array.getElem?_eq_some_iff.1 h).1) hc10 (by repeat' (first | (with_reducible exact Below.refl _ _) | (with_reducible refine Below.adds_ ?_ ?_ _ _) | (with_reducible refine Below.alloc ?_ ?_ _) | (with_reducible refine Below.drew ?_) | (with_reducible refine Below.setCell ?_ ?_ _) | (with_reducible assumption) | go_size | (simp only [size_addsW, World.size_alloc, World.size_drew, World.size_setCell]; omega)))).mono ?_; rintro e w' ⟨A11, c11, rfl, hr11, -, -, hb⟩; have R11 := Lib.hid hr11; obtain ⟨o11, n11, rfl⟩ := below_adds hb; clear hb hr11) | (go_at_call 50; refine (SAME2.out _ _ _ (by have hx := R11.out; simp only [adds_addsW, adds_drew, Array.append_assoc] at hx; exact hx) (by repeat' (first | (with_reducible exact Below.refl _ _) | (with_reducible refine Below.adds_ ?_ ?_ _ _) | (with_reducible refine Below.alloc ?_ ?_ _) | (with_reducible refine Below.drew ?_) | (with_reducible refine Below.setCell ?_ ?_ _) | (with_reducible assumption) | go_size | (simp only [size_addsW, World.size_alloc, World.size_drew, World.size_setCell]; omega)))).mono ?_; rintro e w' ⟨rfl, hb⟩; obtain ⟨o12, n12, rfl⟩ := below_adds hb; clear hb))
            try go_wp2_with fail
            refine hK.out _ _ ?_ (fun hHeld => ?_)
            · trivial
            clear hK K
            try simp only [Act.put, List.setIfInBounds_toArray, List.set_cons_zero, List.set_cons_succ]
            refine wpAnyH_ready (rs := [8]) (by kernel_rfl) (by simp) ?_
            refine AllReadyH.cons (o := _) rfl (fun K hK => ?_) ?_
            · (try dsimp only [List.getElem_toArray, List.getElem_cons_succ, List.getElem_cons_zero]); go_simp
              (first | (go_at_call 43; (with_reducible refine (DEC1.out _ (by repeat' (first | (with_reducible exact Below.refl _ _) | (with_reducible refine Below.adds_ ?_ ?_ _ _) | (with_reducible refine Below.alloc ?_ ?_ _) | (with_reducible refine Below.drew ?_) | (with_reducible refine Below.setCell ?_ ?_ _) | (with_reducible assumption) | go_size | (simp only [size_addsW, World.size_alloc, World.size_drew, World.size_setCell]; omega)))).mono ?_); rintro e w' ⟨A8, c8, rfl, hr8, -, -, hb⟩; rw [HL2.out]; have R8 := Lib.hid hr8; obtain ⟨o8, n8, rfl⟩ := below_adds hb; clear hb hr8) | (go_at_call 50; (with_reducible refine (SAME1.out _ _ _ (by have hx := R8.out; (try simp only [adds_addsW, adds_drew, Array.append_assoc] at hx); exact hx) (by repeat' (first | (with_reducible exact Below.refl _ _) | (with_reducible refine Below.adds_ ?_ ?_ _ _) | (with_reducible refine Below.alloc ?_ ?_ _) | (with_reducible refine Below.drew ?_) | (with_reducible refine Below.setCell ?_ ?_ _) | (with_reducible assumption) | go_size | (simp only [size_addsW, World.size_alloc, World.size_drew, World.size_setCell]; omega)))).mono ?_); rintro e w' ⟨rfl, hb⟩; obtain ⟨o9, n9, rfl⟩ := below_adds hb; clear hb) | (go_at_call 38; (with_reducible refine (ENC.out _ (by repeat' (first | (with_reducible exact Below.refl _ _) | (with_reducible refine Below.adds_ ?_ ?_ _ _) | (with_reducible refine Below.alloc ?_ ?_ _) | (with_reducible refine Below.drew ?_) | (with_reducible refine Below.setCell ?_ ?_ _) | (with_reducible assumption) | go_size | (simp only [size_addsW, World.size_alloc, World.size_drew, World.size_setCell]; omega)))).mono ?_); rintro e w' ⟨A10, c10, rfl, hr10, -, ⟨hs10, hc10⟩, hb⟩; have R10 := Lib.hid hr10; have S10 := Lib.hid hs10; obtain ⟨o10, n10, rfl⟩ := below_adds hb; clear hb hr10 hs10) | (go_at_call 43; refine (DEC2.out _ _ _ (by have hx := R10.out; simp only [adds_addsW, adds_drew, Array.append_assoc] at hx; exact hx) (fun d hd => by have hx := S10.out; simp only [adds_addsW, adds_drew, Array.append_assoc] at hx; obtain ⟨cur, t, h⟩ := hx d hd; exact (Array.getElem?_eq_some_iff.1 h).1) hc10 (by repeat' (first | (with_reducible exact Below.refl _ _) | (with_reducible refine Below.adds_ ?_ ?_ _ _) | (with_reducible refine Below.alloc ?_ ?_ _) | (with_reducible refine Below.drew ?_) | (with_reducible refine Below.setCell ?_ ?_ _) | (with_reducible assumption) | go_size | (simp only [size_addsW, World.size_alloc, World.size_drew, World.size_setCell]; omega)))).mono ?_; rintro e w' ⟨A11, c11, rfl, hr11, -, -, hb⟩; have R11 := Lib.hid hr11; obtain ⟨o11, n11, rfl⟩ := below_adds hb; clear hb hr11) | (go_at_call 50; refine (SAME2.out _ _ _ (by have hx := R11.out; simp only [adds_addsW, adds_drew, Array.append_assoc] at hx; exact hx) (by repeat' (first | (with_reducible exact Below.refl _ _) | (with_reducible refine Below.adds_ ?_ ?_ _ _) | (with_reducible refine Below.alloc ?_ ?_ _) | (with_reducible refine Below.drew ?_) | (with_reducible refine Below.setCell ?_ ?_ _) | (with_reducible assumption) | go_size | (simp only [size_addsW, World.size_alloc, World.size_drew, World.size_setCell]; omega)))).mono ?_; rintro e w' ⟨rfl, hb⟩; obtain ⟨o12, n12, rfl⟩ := below_adds hb; clear hb))
              try go_wp2_with fail
              refine hK.out _ _ ?_ (fun hHeld => ?_)
              · trivial
              clear hK K
              try simp only [Act.put, List.setIfInBounds_toArray, List.set_cons_zero, List.set_cons_succ]
              refine wpAnyH_take (i := 9) (oi := _) (v := ?_) rfl (by kernel_rfl) (by kernel_rfl) (by kernel_rfl) (fun _ _ _ h => h) (Or.inl ⟨by rfl, ?_⟩) (by assumption) ?_
              rotate_left
              · intro w hSw; (try dsimp only at hSw); go_simp; (try with_reducible rfl)
              try dsimp only [List.getElem_toArray, List.getElem_cons_succ, List.getElem_cons_zero]
              simp only [Act.put, List.setIfInBounds_toArray, List.set_cons_zero, List.set_cons_succ]
              refine wpAnyH_take (i := 10) (oi := _) (v := ?_) rfl (by kernel_rfl) (by kernel_rfl) (by kernel_rfl) (fun _ _ _ h => h) (Or.inl ⟨by rfl, ?_⟩) (by assumption) ?_
              rotate_left
              · intro w hSw; (try dsimp only at hSw); go_simp; (try with_reducible rfl)
              try dsimp only [List.getElem_toArray, List.getElem_cons_succ, List.getElem_cons_zero]
              simp only [Act.put, List.setIfInBounds_toArray, List.set_cons_zero, List.set_cons_succ]
              refine wpAnyH_take (i := 12) (oi := _) (v := ?_) rfl (by kernel_rfl) (by kernel_rfl) (by kernel_rfl) (fun _ _ _ h => h) (Or.inl ⟨by rfl, ?_⟩) (by assumption) ?_
              rotate_left
              · intro w hSw; (try dsimp only at hSw); go_simp; (try with_reducible rfl)
              try dsimp only [List.getElem_toArray, List.getElem_cons_succ, List.getElem_cons_zero]
              simp only [Act.put, List.setIfInBounds_toArray, List.set_cons_zero, List.set_cons_succ]
              refine wpAnyH_take (i := 14) (oi := _) (v := ?_) rfl (by kernel_rfl) (by kernel_rfl) (by kernel_rfl) (fun _ _ _ h => h) (Or.inl ⟨by rfl, ?_⟩) (by assumption) ?_
              rotate_left
              · intro w hSw; (try dsimp only at hSw); go_simp; (try with_reducible rfl)
              try dsimp only [List.getElem_toArray, List.getElem_cons_succ, List.getElem_cons_zero]
              simp only [Act.put, List.setIfInBounds_toArray, List.set_cons_zero, List.set_cons_succ]
              refine wpAnyH_ready (rs := [11]) (by kernel_rfl) (by simp) ?_
              refine AllReadyH.cons (o := _) rfl (fun K hK => ?_) ?_
              · (try dsimp only [List.getElem_toArray, List.getElem_cons_succ, List.getElem_cons_zero]); go_simp
                (first | (go_at_call 43; (with_reducible refine (DEC1.out _ (by repeat' (first | (with_reducible exact Below.refl _ _) | (with_reducible refine Below.adds_ ?_ ?_ _ _) | (with_reducible refine Below.alloc ?_ ?_ _) | (with_reducible refine Below.drew ?_) | (with_reducible refine Below.setCell ?_ ?_ _) | (with_reducible assumption) | go_size | (simp only [size_addsW, World.size_alloc, World.size_drew, World.size_setCell]; omega)))).mono ?_); rintro e w' ⟨A8, c8, rfl, hr8, -, -, hb⟩; rw [HL2.out]; have R8 := Lib.hid hr8; obtain ⟨o8, n8, rfl⟩ := below_adds hb; clear hb hr8) | (go_at_call 50; (with_reducible refine (SAME1.out _ _ _ (by have hx := R8.out; (try simp only [adds_addsW, adds_drew, Array.append_assoc] at hx); exact hx) (by repeat' (first | (with_reducible exact Below.refl _ _) | (with_reducible refine Below.adds_ ?_ ?_ _ _) | (with_reducible refine Below.alloc ?_ ?_ _) | (with_reducible refine Below.drew ?_) | (with_reducible refine Below.setCell ?_ ?_ _) | (with_reducible assumption) | go_size | (simp only [size_addsW, World.size_alloc, World.size_drew, World.size_setCell]; omega)))).mono ?_); rintro e w' ⟨rfl, hb⟩; obtain ⟨o9, n9, rfl⟩ := below_adds hb; clear hb) | (go_at_call 38; (with_reducible refine (ENC.out _ (by repeat' (first | (with_reducible exact Below.refl _ _) | (with_reducible refine Below.adds_ ?_ ?_ _ _) | (with_reducible refine Below.alloc ?_ ?_ _) | (with_reducible refine Below.drew ?_) | (with_reducible refine Below.setCell ?_ ?_ _) | (with_reducible assumption) | go_size | (simp only [size_addsW, World.size_alloc, World.size_drew, World.size_setCell]; omega)))).mono ?_); rintro e w' ⟨A10, c10, rfl, hr10, -, ⟨hs10, hc10⟩, hb⟩; have R10 := Lib.hid hr10; have S10 := Lib.hid hs10; obtain ⟨o10, n10, rfl⟩ := below_adds hb; clear hb hr10 hs10) | (go_at_call 43; refine (DEC2.out _ _ _ (by have hx := R10.out; simp only [adds_addsW, adds_drew, Array.append_assoc] at hx; exact hx) (fun d hd => by have hx := S10.out; simp only [adds_addsW, adds_drew, Array.append_assoc] at hx; obtain ⟨cur, t, h⟩ := hx d hd; exact (Array.getElem?_eq_some_iff.1 h).1) hc10 (by repeat' (first | (with_reducible exact Below.refl _ _) | (with_reducible refine Below.adds_ ?_ ?_ _ _) | (with_reducible refine Below.alloc ?_ ?_ _) | (with_reducible refine Below.drew ?_) | (with_reducible refine Below.setCell ?_ ?_ _) | (with_reducible assumption) | go_size | (simp only [size_addsW, World.size_alloc, World.size_drew, World.size_setCell]; omega)))).mono ?_; rintro e w' ⟨A11, c11, rfl, hr11, -, -, hb⟩; have R11 := Lib.hid hr11; obtain ⟨o11, n11, rfl⟩ := below_adds hb; clear hb hr11) | (go_at_call 50; refine (SAME2.out _ _ _ (by have hx := R11.out; simp only [adds_addsW, adds_drew, Array.append_assoc] at hx; exact hx) (by repeat' (first | (with_reducible exact Below.refl _ _) | (with_reducible refine Below.adds_ ?_ ?_ _ _) | (with_reducible refine Below.alloc ?_ ?_ _) | (with_reducible refine Below.drew ?_) | (with_reducible refine Below.setCell ?_ ?_ _) | (with_reducible assumption) | go_size | (simp only [size_addsW, World.size_alloc, World.size_drew, World.size_setCell]; omega)))).mono ?_; rintro e w' ⟨rfl, hb⟩; obtain ⟨o12, n12, rfl⟩ := below_adds hb; clear hb))
                try go_wp2_with fail
                refine hK.out _ _ ?_ (fun hHeld => ?_)
                · trivial
                clear hK K
                try simp only [Act.put, List.setIfInBounds_toArray, List.set_cons_zero, List.set_cons_succ]
                refine wpAnyH_ready (rs := [13]) (by kernel_rfl) (by simp) ?_
                refine AllReadyH.cons (o := _) rfl (fun K hK => ?_) ?_
                · (try dsimp only [List.getElem_toArray, List.getElem_cons_succ, List.getElem_cons_zero]); go_simp
                  (first | (go_at_call 43; (with_reducible refine (DEC1.out _ (by repeat' (first | (with_reducible exact Below.refl _ _) | (with_reducible refine Below.adds_ ?_ ?_ _ _) | (with_reducible refine Below.alloc ?_ ?_ _) | (with_reducible refine Below.drew ?_) | (with_reducible refine Below.setCell ?_ ?_ _) | (with_reducible assumption) | go_size | (simp only [size_addsW, World.size_alloc, World.size_drew, World.size_setCell]; omega)))).mono ?_); rintro e w' ⟨A8, c8, rfl, hr8, -, -, hb⟩; rw [HL2.out]; have R8 := Lib.hid hr8; obtain ⟨o8, n8, rfl⟩ := below_adds hb; clear hb hr8) | (go_at_call 50; (with_reducible refine (SAME1.out _ _ _ (by have hx := R8.out; (try simp only [adds_addsW, adds_drew, Array.append_assoc] at hx); exact hx) (by repeat' (first | (with_reducible exact Below.refl _ _) | (with_reducible refine Below.adds_ ?_ ?_ _ _) | (with_reducible refine Below.alloc ?_ ?_ _) | (with_reducible refine Below.drew ?_) | (with_reducible refine Below.setCell ?_ ?_ _) | (with_reducible assumption) | go_size | (simp only [size_addsW, World.size_alloc, World.size_drew, World.size_setCell]; omega)))).mono ?_); rintro e w' ⟨rfl, hb⟩; obtain ⟨o9, n9, rfl⟩ := below_adds hb; clear hb) | (go_at_call 38; (with_reducible refine (ENC.out _ (by repeat' (first | (with_reducible exact Below.refl _ _) | (with_reducible refine Below.adds_ ?_ ?_ _ _) | (with_reducible refine Below.alloc ?_ ?_ _) | (with_reducible refine Below.drew ?_) | (with_reducible refine Below.setCell ?_ ?_ _) | (with_reducible assumption) | go_size | (simp only [size_addsW, World.size_alloc, World.size_drew, World.size_setCell]; omega)))).mono ?_); rintro e w' ⟨A10, c10, rfl, hr10, -, ⟨hs10, hc10⟩, hb⟩; have R10 := Lib.hid hr10; have S10 := Lib.hid hs10; obtain ⟨o10, n10, rfl⟩ := below_adds hb; clear hb hr10 hs10) | (go_at_call 43; refine (DEC2.out _ _ _ (by have hx := R10.out; simp only [adds_addsW, adds_drew, Array.append_assoc] at hx; exact hx) (fun d hd => by have hx := S10.out; simp only [adds_addsW, adds_drew, Array.append_assoc] at hx; obtain ⟨cur, t, h⟩ := hx d hd; exact (Array.getElem?_eq_some_iff.1 h).1) hc10 (by repeat' (first | (with_reducible exact Below.refl _ _) | (with_reducible refine Below.adds_ ?_ ?_ _ _) | (with_reducible refine Below.alloc ?_ ?_ _) | (with_reducible refine Below.drew ?_) | (with_reducible refine Below.setCell ?_ ?_ _) | (with_reducible assumption) | go_size | (simp only [size_addsW, World.size_alloc, World.size_drew, World.size_setCell]; omega)))).mono ?_; rintro e w' ⟨A11, c11, rfl, hr11, -, -, hb⟩; have R11 := Lib.hid hr11; obtain ⟨o11, n11, rfl⟩ := below_adds hb; clear hb hr11) | (go_at_call 50; refine (SAME2.out _ _ _ (by have hx := R11.out; simp only [adds_addsW, adds_drew, Array.append_assoc] at hx; exact hx) (by repeat' (first | (with_reducible exact Below.refl _ _) | (with_reducible refine Below.adds_ ?_ ?_ _ _) | (with_reducible refine Below.alloc ?_ ?_ _) | (with_reducible refine Below.drew ?_) | (with_reducible refine Below.setCell ?_ ?_ _) | (with_reducible assumption) | go_size | (simp only [size_addsW, World.size_alloc, World.size_drew, World.size_setCell]; omega)))).mono ?_; rintro e w' ⟨rfl, hb⟩; obtain ⟨o12, n12, rfl⟩ := below_adds hb; clear hb))
                  try go_wp2_with fail
                  refine hK.out _ _ ?_ (fun hHeld => ?_)
                  · trivial
                  clear hK K
                  try simp only [Act.put, List.setIfInBounds_toArray, List.set_cons_zero, List.set_cons_succ]
                  refine wpAnyH_ready (rs := [15]) (by kernel_rfl) (by simp) ?_
                  refine AllReadyH.cons (o := _) rfl (fun K hK => ?_) ?_
                  · (try dsimp only [List.getElem_toArray, List.getElem_cons_succ, List.getElem_cons_zero]); go_simp
                    (first | (go_at_call 43; (with_reducible refine (DEC1.out _ (by repeat' (first | (with_reducible exact Below.refl _ _) | (with_reducible refine Below.adds_ ?_ ?_ _ _) | (with_reducible refine Below.alloc ?_ ?_ _) | (with_reducible refine Below.drew ?_) | (with_reducible refine Below.setCell ?_ ?_ _) | (with_reducible assumption) | go_size | (simp only [size_addsW, World.size_alloc, World.size_drew, World.size_setCell]; omega)))).mono ?_); rintro e w' ⟨A8, c8, rfl, hr8, -, -, hb⟩; rw [HL2.out]; have R8 := Lib.hid hr8; obtain ⟨o8, n8, rfl⟩ := below_adds hb; clear hb hr8) | (go_at_call 50; (with_reducible refine (SAME1.out _ _ _ (by have hx := R8.out; (try simp only [adds_addsW, adds_drew, Array.append_assoc] at hx); exact hx) (by repeat' (first | (with_reducible exact Below.refl _ _) | (with_reducible refine Below.adds_ ?_ ?_ _ _) | (with_reducible refine Below.alloc ?_ ?_ _) | (with_reducible refine Below.drew ?_) | (with_reducible refine Below.setCell ?_ ?_ _) | (with_reducible assumption) | go_size | (simp only [size_addsW, World.size_alloc, World.size_drew, World.size_setCell]; omega)))).mono ?_); rintro e w' ⟨rfl, hb⟩; obtain ⟨o9, n9, rfl⟩ := below_adds hb; clear hb) | (go_at_call 38; (with_reducible refine (ENC.out _ (by repeat' (first | (with_reducible exact Below.refl _ _) | (with_reducible refine Below.adds_ ?_ ?_ _ _) | (with_reducible refine Below.alloc ?_ ?_ _) | (with_reducible refine Below.drew ?_) | (with_reducible refine Below.setCell ?_ ?_ _) | (with_reducible assumption) | go_size | (simp only [size_addsW, World.size_alloc, World.size_drew, World.size_setCell]; omega)))).mono ?_); rintro e w' ⟨A10, c10, rfl, hr10, -, ⟨hs10, hc10⟩, hb⟩; have R10 := Lib.hid hr10; have S10 := Lib.hid hs10; obtain ⟨o10, n10, rfl⟩ := below_adds hb; clear hb hr10 hs10) | (go_at_call 43; refine (DEC2.out _ _ _ (by have hx := R10.out; simp only [adds_addsW, adds_drew, Array.append_assoc] at hx; exact hx) (fun d hd => by have hx := S10.out; simp only [adds_addsW, adds_drew, Array.append_assoc] at hx; obtain ⟨cur, t, h⟩ := hx d hd; exact (Array.getElem?_eq_some_iff.1 h).1) hc10 (by repeat' (first | (with_reducible exact Below.refl _ _) | (with_reducible refine Below.adds_ ?_ ?_ _ _) | (with_reducible refine Below.alloc ?_ ?_ _) | (with_reducible refine Below.drew ?_) | (with_reducible refine Below.setCell ?_ ?_ _) | (with_reducible assumption) | go_size | (simp only [size_addsW, World.size_alloc, World.size_drew, World.size_setCell]; omega)))).mono ?_; rintro e w' ⟨A11, c11, rfl, hr11, -, -, hb⟩; have R11 := Lib.hid hr11; obtain ⟨o11, n11, rfl⟩ := below_adds hb; clear hb hr11) | (go_at_call 50; refine (SAME2.out _ _ _ (by have hx := R11.out; simp only [adds_addsW, adds_drew, Array.append_assoc] at hx; exact hx) (by repeat' (first | (with_reducible exact Below.refl _ _) | (with_reducible refine Below.adds_ ?_ ?_ _ _) | (with_reducible refine Below.alloc ?_ ?_ _) | (with_reducible refine Below.drew ?_) | (with_reducible refine Below.setCell ?_ ?_ _) | (with_reducible assumption) | go_size | (simp only [size_addsW, World.size_alloc, World.size_drew, World.size_setCell]; omega)))).mono ?_; rintro e w' ⟨rfl, hb⟩; obtain ⟨o12, n12, rfl⟩ := below_adds hb; clear hb))
                    try go_wp2_with fail
                    refine hK.out _ _ ?_ (fun hHeld => ?_)
                    · trivial
                    clear hK K
                    try simp only [Act.put, List.setIfInBounds_toArray, List.set_cons_zero, List.set_cons_succ]
                    refine wpAnyH_take (i := 16) (oi := _) (v := ?_) rfl (by kernel_rfl) (by kernel_rfl) (by kernel_rfl) (fun _ _ _ h => h) (Or.inl ⟨by rfl, ?_⟩) (by assumption) ?_
                    rotate_left
                    · intro w hSw; (try dsimp only at hSw); go_simp; (try with_reducible rfl)
                    try dsimp only [List.getElem_toArray, List.getElem_cons_succ, List.getElem_cons_zero]
                    simp only [Act.put, List.setIfInBounds_toArray, List.set_cons_zero, List.set_cons_succ]
                    refine wpAnyH_take (i := 17) (oi := _) (v := ?_) rfl (by kernel_rfl) (by kernel_rfl) (by kernel_rfl) (fun _ _ _ h => h) (Or.inl ⟨by rfl, ?_⟩) (by assumption) ?_
                    rotate_left
                    · intro w hSw; (try dsimp only at hSw); go_simp; (try with_reducible rfl)
                    try dsimp only [List.getElem_toArray, List.getElem_cons_succ, List.getElem_cons_zero]
                    simp only [Act.put, List.setIfInBounds_toArray, List.set_cons_zero, List.set_cons_succ]
                    refine wpAnyH_done (by kernel_rfl) ?_ _
                    go_wp2_with fail
                    go_returns
                    exact ⟨rfl, BWr.out.trans ((addsW_below _ _ _).mono (by have := BWr.out.size; omega))⟩
                  exact AllReadyH.nil
                exact AllReadyH.nil
              exact AllReadyH.nil
            exact AllReadyH.nil
          exact AllReadyH.nil

set_option maxRecDepth 100000 in
theorem lifted (os : Os) (started : os.Started) (H : Type) (enc : TypeId × Value → H) :
    ReturnsInHanded {} Try.checked os 12 .any (Rows.fnDecodeBinsSpec.pre6 enc Try.prog Try.f12 Rows.fnDecodeBinsRow.domain false) (Rows.fnDecodeBinsSpec.post enc Try.prog Try.f12 false true false false) := by
  refine returnsInHanded_of_change (C := Try.checked) own started (by kernel_rfl) Try.func12
    (ChangeSpec.witness6 (enc := enc) (C := Try.checked) false ⟨#[], #[.slice none 0 0], []⟩ 8 (by kernel_rfl) (by kernel_rfl) (by kernel_rfl) (by kernel_rfl)) ?_
  intro W base args ds gs before hval0 hW hcnd _
  have hval : ∀ (j : Nat) t v, Try.f12.params[j]? = some t → args[j]? = some v → Value.okWide Try.prog W .any base t v := hval0
  have hW' := hW
  obtain ⟨p, q, hA0, hV, rfl, hfz, hnd⟩ := hW
  have hA : DataW.TrodAll enc Try.prog W 0 (fun _ => true) true Try.f12.params.toList args.toList ds p := hA0
  rw [Try.params12] at hA hval
  obtain ⟨v0, vs0, d0, ds0, p0, q0, hargs, rfl, rfl, h0, r0⟩ := trodAll_cons hA
  obtain ⟨rfl, rfl, rfl⟩ := trodAll_nil r0
  obtain rfl : args = #[v0] := by cases args; simp_all
  obtain ⟨rfl, rfl⟩ := trodVars_none hV
  have k0 := h0
  have lt0 : ∀ x ∈ p0, x.block < W.heap.size := by obtain ⟨m, hm⟩ := k0; exact DataW.trod_lt m _ _ _ hm
  obtain ⟨aa0, ll0, cc0, rfl⟩ := okWide_slice Try.underlying22 (hval 0 22 v0 rfl rfl)
  obtain ⟨f0, hf0⟩ := h0
  simp only [Value.cells] at hf0
  obtain ⟨a_zs, len_zs, cap_zs, zs, e_zs, w_zs⟩ : ∃ a l c zs, (.slice aa0 ll0 cc0 : Value) = .slice a l c ∧ IsRow .u8 W a l c zs := by
    rcases open_ints Try.underlying22 Try.underlying5 (by kernel_rfl) hf0 with ⟨hcs, _⟩ | ⟨x, l, c, zs, hcs, _, hl, hm, hz, _, hcell, hwz⟩
    · simp only [List.cons.injEq, and_true] at hcs; exact ⟨none, 0, 0, [], hcs, .inl ⟨rfl, rfl, rfl, rfl⟩⟩
    · simp only [List.cons.injEq, and_true] at hcs; exact ⟨some x, l, c, zs, hcs, .inr ⟨x, rfl, hl, hm, by simpa using hz, hcell, hwz⟩⟩
  simp only [Value.slice.injEq] at e_zs
  obtain ⟨rfl, rfl, rfl⟩ := e_zs
  clear hA0 hval0
  refine (walk _ _ _ zs W w_zs).mono fun e W' ⟨he, bel⟩ => ?_
  subst he
  exact ⟨_, rfl, _, _, _, [], _, [], hW', trodAll_mk1 (shut_bool Try.underlying4 _), (trodAll_cons_mk (Below.trod laidOut (by kernel_rfl) (of_decide_eq_true (by kernel_rfl)) k0 bel lt0) trodAll_mk0), rfl, bel.frame _, fun h => by cases h⟩

theorem over : Rows.fnDecodeBinsRow.holds Try.pinned (OpenSpec.ofChange Rows.fnDecodeBinsSpec) :=
  OpenClaim.holds_of_wide 12 Try.f12 rfl rfl rfl rfl rfl rfl rfl ⟨rfl, rfl, rfl, rfl, rfl⟩ rfl rfl rfl rfl rfl (by kernel_rfl) Try.func12 (by kernel_rfl)
    (of_decide_eq_true (by kernel_rfl)) (by unfold Func.isWrapper; first | (rw [if_pos (by decide +kernel)]; kernel_rfl) | (rw [if_neg (by decide +kernel)]; exact ⟨rfl, rfl⟩))
    (fun os started H enc _ => lifted os started H enc)

theorem proved : Rows.FnDecodeBinsSaid := over
#print axioms proved
end Go.Proofs.Ytndbdfbjiaaloaa.fnDecodeBins
