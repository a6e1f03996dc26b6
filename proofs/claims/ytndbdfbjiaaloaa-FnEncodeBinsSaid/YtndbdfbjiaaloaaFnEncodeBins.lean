/- PROVED: the law laws.FnEncodeBins returns true for every input (what EncodeBins codes, DecodeBins decodes with the same contexts, also with bytes appended; it answers as the reference does, and nothing for an invalid list); no conditions. -/
import Derived.Test.YtndbdfbjiaaloaaRows
import Derived.Test.YtndbdfbjiaaloaaDrawEB
import Derived.Test.YtndbdfbjiaaloaaStr
import Derived.Test.YtndbdfbjiaaloaaNew
import Derived.Test.YtndbdfbjiaaloaaTwo
import Derived.Test.YtndbdfbjiaaloaaSame
import Derived.LoopTactic
import Derived.Deep.DeepCutAuto
import Derived.Lib.SmallJoins
import Derived.WalkKit
import Derived.ProofKit
import Derived.OpenShut
import Derived.ShutString
import Derived.ChangeOld
import Derived.Below
import Derived.Lib.SmallJoins
namespace Go.Proofs.Ytndbdfbjiaaloaa.fnEncodeBins
open Go.ChangeShapes Go.WideShapes Go.ChangeAt Go.RowKit
open Go.ChangeMaps (open_string shut_string)
set_option linter.unusedVariables false
set_option linter.unusedSimpArgs false

theorem own : ownKnob Try.prog.godebug = none := by kernel_rfl
theorem laidOut : laidOutB Try.prog = true := by kernel_rfl

attribute [local go_sem] size_addsW cell?_addsW frozen?_addsW setCell_addsW drew_addsW adds_addsW setCell_twice alloc_adds0 size_adds0 adds_adds0 sel2 sel3 sel4 sel5 sel6 sel7 sel8 sel9 lt_more lt_more2 lt_more3 lt_more4 adds_drew adds_drewN drewN_addsW ltA_1_1 ltA_1_2 ltA_1_3 ltA_1_4 ltA_1_5 ltA_1_6 ltA_2_1 ltA_2_2 ltA_2_3 ltA_2_4 ltA_2_5 ltA_2_6 ltA_3_1 ltA_3_2 ltA_3_3 ltA_3_4 ltA_3_5 ltA_3_6 ltA_4_1 ltA_4_2 ltA_4_3 ltA_4_4 ltA_4_5 ltA_4_6 ltA_5_1 ltA_5_2 ltA_5_3 ltA_5_4 ltA_5_5 ltA_5_6 ltA_6_1 ltA_6_2 ltA_6_3 ltA_6_4 ltA_6_5 ltA_6_6 ltA_7_1 ltA_7_2 ltA_7_3 ltA_7_4 ltA_7_5 ltA_7_6 ltA_8_1 ltA_8_2 ltA_8_3 ltA_8_4 ltA_8_5 ltA_8_6 ltA_9_1 ltA_9_2 ltA_9_3 ltA_9_4 ltA_9_5 ltA_9_6 ltA_10_1 ltA_10_2 ltA_10_3 ltA_10_4 ltA_10_5 ltA_10_6 ltA_11_1 ltA_11_2 ltA_11_3 ltA_11_4 ltA_11_5 ltA_11_6 ltA_12_1 ltA_12_2 ltA_12_3 ltA_12_4 ltA_12_5 ltA_12_6

def EBCut5 (W : World) (s28 : Value) (wx : World) : Prop := s28 = .bool false ∧ Below W.heap.size W wx
def EBRel (W : World) (ys : List Int) (n : Nat) (v1 v2 i : Value) (wr : World) : Prop := ∃ k : Nat, k ≤ n ∧ i = .int .i64 (k : Int) ∧ Rows2 W.heap.size 3 3 1 1 v1 v2 k k ((ctxL ys k).map (Value.int .i64)) ((bitL ys k).map (Value.int .i64)) wr ∧ Below W.heap.size W wr
def EBCut16 (W : World) (l : List Int) (s10 : Value) (wx : World) : Prop := ∃ (A : Option Addr) (c : Nat), s10 = .slice A l.length c ∧ l.length ≤ c ∧ RowAt .u8 wx A l ∧ (∀ d, A = some d → d.block < wx.heap.size) ∧ Below W.heap.size W wx
theorem encL_bytes (zs : List Int) (n : Nat) : ∀ i, 0 ≤ (encL zs n).getD i 0 ∧ (encL zs n).getD i 0 ≤ 255 := by
  intro i
  have hb : M.bytesB (encL zs n) := by
    unfold encL
    split
    · exact M.dig_bytes _ _
    · intro x hx; simp at hx
  rw [List.getD_eq_getElem?_getD]
  by_cases hi : i < (encL zs n).length
  · rw [List.getElem?_eq_getElem hi]; exact hb _ (List.getElem_mem hi)
  · rw [List.getElem?_eq_none (by omega)]; decide
theorem bytes_take {l : List Int} (h : ∀ i, 0 ≤ l.getD i 0 ∧ l.getD i 0 ≤ 255) (m : Nat) : ∀ i, 0 ≤ (l.take m).getD i 0 ∧ (l.take m).getD i 0 ≤ 255 := by
  intro i
  rw [List.getD_eq_getElem?_getD, List.getElem?_take]
  split
  · rw [← List.getD_eq_getElem?_getD]; exact h i
  · decide
theorem bytes_app {l m : List Int} (h : ∀ i, 0 ≤ l.getD i 0 ∧ l.getD i 0 ≤ 255) (h2 : ∀ i, 0 ≤ m.getD i 0 ∧ m.getD i 0 ≤ 255) : ∀ i, 0 ≤ (l ++ m).getD i 0 ∧ (l ++ m).getD i 0 ≤ 255 := by
  intro i
  rw [List.getD_eq_getElem?_getD, List.getElem?_append]
  split
  · rw [← List.getD_eq_getElem?_getD]; exact h i
  · rw [← List.getD_eq_getElem?_getD]; exact h2 _

set_option maxHeartbeats 4000000 in
set_option maxRecDepth 100000 in
theorem walk (a_zs : Option Addr) (len_zs cap_zs : Nat) (zs : List Int) (a_ms : Option Addr) (len_ms cap_ms : Nat) (ms : List Int) (w : World) (w_zs : IsRow .u8 w a_zs len_zs cap_zs zs) (w_ms : IsRow .u8 w a_ms len_ms cap_ms ms) :
    Calls Try.prog 11 #[.slice a_zs len_zs cap_zs, .slice a_ms len_ms cap_ms] w fun e w' => e = .returned (.bool true) ∧ Below w.heap.size w w' := by
  obtain ⟨hm0, hmlen, hmlm, hmwf⟩ := RowAt.of_row w_ms
  unfold maxLen at hmlm
  have hmc : len_ms ≤ cap_ms ∧ cap_ms ≤ 9223372036854775807 ∧ (a_ms = none → cap_ms = 0) := by
    rcases w_ms with ⟨h1, h2, h3, h4⟩ | ⟨x, h1, h2, h3, _⟩
    · subst h2 h3; exact ⟨Nat.le_refl _, by decide, fun _ => rfl⟩
    · exact ⟨h2, by unfold maxLen at h3; omega, fun e => by rw [h1] at e; cases e⟩
  have HMC := Lib.hid hmc.2.2
  have hmc1 := hmc.1
  have hmc2 := hmc.2.1
  clear hmc
  generalize ms.take len_ms = more at hm0 hmlen hmwf
  obtain rfl := hmlen
  clear w_ms
  have HM := Lib.hid hm0
  have HMW := Lib.hid (show ∀ i, 0 ≤ more.getD i 0 ∧ more.getD i 0 ≤ 255 from fun i => bounds_u8 (hmwf i))
  clear hm0 hmwf
  have hlm := (RowAt.of_row w_zs).2.2.1
  unfold maxLen at hlm
  have HI := Lib.hid w_zs
  clear w_zs
  by_cases hbig : 1048576 < len_zs
  · go_enter Try.func11, Try.ntmps11
    go_wp2
    go_returns
    exact ⟨rfl, (by repeat' (first | (with_reducible exact Below.refl _ _) | (with_reducible refine Below.adds_ ?_ ?_ _ _) | (with_reducible refine Below.alloc ?_ ?_ _) | (with_reducible refine Below.drew ?_) | (with_reducible refine Below.setCell ?_ ?_ _) | (with_reducible assumption) | go_size | (simp only [size_addsW, World.size_alloc, World.size_drew, World.size_setCell]; omega)))⟩
  · by_cases hbig2 : 1048576 < more.length
    · go_enter Try.func11, Try.ntmps11
      go_wp2
      go_returns
      exact ⟨rfl, (by repeat' (first | (with_reducible exact Below.refl _ _) | (with_reducible refine Below.adds_ ?_ ?_ _ _) | (with_reducible refine Below.alloc ?_ ?_ _) | (with_reducible refine Below.drew ?_) | (with_reducible refine Below.setCell ?_ ?_ _) | (with_reducible assumption) | go_size | (simp only [size_addsW, World.size_alloc, World.size_drew, World.size_setCell]; omega)))⟩
    · go_enter Try.func11, Try.ntmps11
      go_wp2_with fail
      refine (S_DrawEncodeBins _ _ _ zs _ (IsRow.keep HI.out (by repeat' (first | (with_reducible exact Below.refl _ _) | (with_reducible refine Below.adds_ ?_ ?_ _ _) | (with_reducible refine Below.alloc ?_ ?_ _) | (with_reducible refine Below.drew ?_) | (with_reducible refine Below.setCell ?_ ?_ _) | (with_reducible assumption) | go_size | (simp only [size_addsW, World.size_alloc, World.size_drew, World.size_setCell]; omega))))).mono ?_
      rintro e w1 ⟨A, n, c0, ys, rfl, h1, h2, hl, h4, hr, -, hb⟩
      have B1 := Lib.hid hb
      have HR := Lib.hid hr
      have HL := Lib.hid hl
      have z1 := hb.size
      clear hb hr hl
      obtain ⟨D, hD⟩ : ∃ D, D = encL ys n := ⟨_, rfl⟩
      have HD := Lib.hid hD
      have HDb := Lib.hid (show ∀ i, 0 ≤ D.getD i 0 ∧ D.getD i 0 ≤ 255 by rw [hD]; exact encL_bytes ys n)
      have hdl : D.length ≤ 40004 := by
        rw [hD]; exact encL_len ys n (by omega)
      clear hD
      go_wp2_with fail
      refine (I_EncodeBins _ n _ ys _ HR.out HL.out (by omega)).mono ?_
      rw [← HD.out]
      rintro e w2 ⟨A2, c2, rfl, hr2, hA2, ⟨hsf2, hc2⟩, hb2⟩
      have R2 := Lib.hid hr2
      have F2 := Lib.hid hb2
      have z2 := hb2.size
      have S2 := Lib.hid (show ∀ d, A2 = some d → d.block < w2.heap.size from fun d hd => by obtain ⟨cur, t, h⟩ := hsf2 d hd; exact (Array.getElem?_eq_some_iff.1 h).1)
      clear hb2 hr2 hA2 hsf2
      have HRy := Lib.hid (HR.out.keep F2.out)
      go_upto_region 5 with fail
      go_cut [28] (fun s28 wx => EBCut5 w2 s28 wx)
      case first =>
        refine wp_region_held_drew (S := (fun wx => (convert 22 9 (.slice A2 D.length c2)).run Try.prog wx = .ok (.string (strA D)) wx)) (by kernel_rfl) ?_ (fun hHeld => ?_)
        · first | exact run_strB _ _ _ _ R2.out HDb.out | exact run_strB _ _ _ _ (R2.out.keep (by first | exact (by repeat' (first | (with_reducible exact Below.refl _ _) | (with_reducible refine Below.adds_ ?_ ?_ _ _) | (with_reducible refine Below.alloc ?_ ?_ _) | (with_reducible refine Below.drew ?_) | (with_reducible refine Below.setCell ?_ ?_ _) | (with_reducible assumption) | go_size | (simp only [size_addsW, World.size_alloc, World.size_drew, World.size_setCell]; omega))))) HDb.out
        refine wpAnyH_take (i := 0) (oi := _) (v := ?_) rfl (by kernel_rfl) (by kernel_rfl) (by kernel_rfl) (fun _ _ _ h => h) (Or.inl ⟨by rfl, ?_⟩) (by assumption) ?_
        rotate_left
        · intro w hSw; (try dsimp only at hSw); go_simp; (try with_reducible rfl)
        try dsimp only [List.getElem_toArray, List.getElem_cons_succ, List.getElem_cons_zero]
        simp only [Act.put, List.setIfInBounds_toArray, List.set_cons_zero, List.set_cons_succ]
        refine wpAnyH_take (i := 1) (oi := _) (v := ?_) rfl (by kernel_rfl) (by kernel_rfl) (by kernel_rfl) (fun _ _ _ h => h) (Or.inl ⟨by rfl, ?_⟩) (by assumption) ?_
        rotate_left
        · intro w hSw; (try dsimp only at hSw); go_simp; (try with_reducible rfl)
        try dsimp only [List.getElem_toArray, List.getElem_cons_succ, List.getElem_cons_zero]
        simp only [Act.put, List.setIfInBounds_toArray, List.set_cons_zero, List.set_cons_succ]
        refine wpAnyH_take (i := 2) (oi := _) (v := ?_) rfl (by kernel_rfl) (by kernel_rfl) (by kernel_rfl) (fun _ _ _ h => h) (Or.inl ⟨by rfl, ?_⟩) (by assumption) ?_
        rotate_left
        · intro w hSw; (try dsimp only at hSw); go_simp; (try with_reducible rfl)
        try dsimp only [List.getElem_toArray, List.getElem_cons_succ, List.getElem_cons_zero]
        simp only [Act.put, List.setIfInBounds_toArray, List.set_cons_zero, List.set_cons_succ]
        refine wpAnyH_ready (rs := [3]) (by kernel_rfl) (by simp) ?_
        refine AllReadyH.cons (o := _) rfl (fun K hK => ?_) ?_
        · (try dsimp only [List.getElem_toArray, List.getElem_cons_succ, List.getElem_cons_zero]); go_simp
          (go_at_call 48; refine (S_EncodeBins _ n _ ys _ (HRy.out.keep (by repeat' (first | (with_reducible exact Below.refl _ _) | (with_reducible refine Below.adds_ ?_ ?_ _ _) | (with_reducible refine Below.alloc ?_ ?_ _) | (with_reducible refine Below.drew ?_) | (with_reducible refine Below.setCell ?_ ?_ _) | (with_reducible assumption) | go_size | (simp only [size_addsW, World.size_alloc, World.size_drew, World.size_setCell]; omega)))) HL.out (by omega)).mono ?_; rw [← HD.out]; rintro e w' ⟨A3, c3, rfl, hr3, -, -, hb3⟩; obtain ⟨o3, n3, rfl⟩ := below_adds hb3; clear hb3; have R3 := Lib.hid hr3; clear hr3)
          try go_wp2_with fail
          refine hK.out _ _ ?_ (fun hHeld => ?_)
          · first | exact run_strB _ _ _ _ R2.out HDb.out | exact run_strB _ _ _ _ (R2.out.keep (by first | exact (by repeat' (first | (with_reducible exact Below.refl _ _) | (with_reducible refine Below.adds_ ?_ ?_ _ _) | (with_reducible refine Below.alloc ?_ ?_ _) | (with_reducible refine Below.drew ?_) | (with_reducible refine Below.setCell ?_ ?_ _) | (with_reducible assumption) | go_size | (simp only [size_addsW, World.size_alloc, World.size_drew, World.size_setCell]; omega))))) HDb.out
          clear hK K
          try simp only [Act.put, List.setIfInBounds_toArray, List.set_cons_zero, List.set_cons_succ]
          refine wpAnyH_ready (rs := [4]) (by kernel_rfl) (by simp) ?_
          refine AllReadyH.cons (o := _) rfl (fun K hK => ?_) ?_
          · (try dsimp only [List.getElem_toArray, List.getElem_cons_succ, List.getElem_cons_zero])
            (rw [if_pos (by rfl)]; refine wp_strB _ _ A3 c3 _ D rfl rfl rfl (by first | exact R3.out | exact R3.out.keep (by exact (by repeat' (first | (with_reducible exact Below.refl _ _) | (with_reducible refine Below.adds_ ?_ ?_ _ _) | (with_reducible refine Below.alloc ?_ ?_ _) | (with_reducible refine Below.drew ?_) | (with_reducible refine Below.setCell ?_ ?_ _) | (with_reducible assumption) | go_size | (simp only [size_addsW, World.size_alloc, World.size_drew, World.size_setCell]; omega))))) HDb.out ?_)
            refine hK.out _ _ ?_ (fun hHeld => ?_)
            · first | exact run_strB _ _ _ _ R2.out HDb.out | exact run_strB _ _ _ _ (R2.out.keep (by first | exact (by repeat' (first | (with_reducible exact Below.refl _ _) | (with_reducible refine Below.adds_ ?_ ?_ _ _) | (with_reducible refine Below.alloc ?_ ?_ _) | (with_reducible refine Below.drew ?_) | (with_reducible refine Below.setCell ?_ ?_ _) | (with_reducible assumption) | go_size | (simp only [size_addsW, World.size_alloc, World.size_drew, World.size_setCell]; omega))))) HDb.out
            clear hK K
            try simp only [Act.put, List.setIfInBounds_toArray, List.set_cons_zero, List.set_cons_succ]
            refine wpAnyH_take (i := 5) (oi := _) (v := ?_) rfl (by kernel_rfl) (by kernel_rfl) (by kernel_rfl) (fun _ _ _ h => h) (Or.inl ⟨by rfl, ?_⟩) (by assumption) ?_
            rotate_left
            · intro w hSw; (try dsimp only at hSw); go_simp; (try with_reducible rfl)
            try dsimp only [List.getElem_toArray, List.getElem_cons_succ, List.getElem_cons_zero]
            simp only [Act.put, List.setIfInBounds_toArray, List.set_cons_zero, List.set_cons_succ]
            refine wpAnyH_done (by kernel_rfl) ?_ _
            go_wp2_with fail
            go_meet
            exact ⟨rfl, (by repeat' (first | (with_reducible exact Below.refl _ _) | (with_reducible refine Below.adds_ ?_ ?_ _ _) | (with_reducible refine Below.alloc ?_ ?_ _) | (with_reducible refine Below.drew ?_) | (with_reducible refine Below.setCell ?_ ?_ _) | (with_reducible assumption) | go_size | (simp only [size_addsW, World.size_alloc, World.size_drew, World.size_setCell]; omega)))⟩
          exact AllReadyH.nil
        exact AllReadyH.nil
      case rest =>
        obtain ⟨rfl, hbc⟩ := hcut
        obtain ⟨W3, rfl⟩ : ∃ W3 : World, W3 = wc := ⟨_, rfl⟩
        have FC := Lib.hid hbc
        have zc := hbc.size
        have HRc := Lib.hid (HRy.out.keep hbc)
        have R2c := Lib.hid (R2.out.keep hbc)
        have BW := Lib.hid (show Below w.heap.size w W3 from (B1.out.trans (F2.out.mono (by omega))).trans (hbc.mono (by omega)))
        clear hbc
        cases hv : binsB ys n
        · have t1 : ((D.length : Int) == 0) = true := by rw [HD.out]; simp [encL, hv]
          go_wp2_with (first | (go_at_call 37; refine (S_BinsValid _ _ _ ys _ (HRc.out.keep (by repeat' (first | (with_reducible exact Below.refl _ _) | (with_reducible refine Below.adds_ ?_ ?_ _ _) | (with_reducible refine Below.alloc ?_ ?_ _) | (with_reducible refine Below.drew ?_) | (with_reducible refine Below.setCell ?_ ?_ _) | (with_reducible assumption) | go_size | (simp only [size_addsW, World.size_alloc, World.size_drew, World.size_setCell]; omega)))) HL.out (by omega)).mono ?_; rintro e w' ⟨rfl, rfl⟩) | (go_at_call 18; refine (L_alive _).mono ?_; rintro e w' ⟨rfl, hb⟩; obtain ⟨o1, n1, rfl⟩ := below_adds hb; clear hb))
          go_returns
          exact ⟨rfl, BW.out.trans ((addsW_below _ _ _).mono (by omega))⟩
        · have hD4 : 4 ≤ D.length := by rw [HD.out]; simp [encL, hv, M.encBytes, M.dig_len]
          have hok := binsB_ok hv
          have HOK := Lib.hid hok.2
          have HV := Lib.hid hv
          clear hok
          obtain ⟨i0, hi, hz0, hz1, hz2⟩ := info_parts infoIntE
          go_wp2_with (first | (go_at_call 37; refine (S_BinsValid _ _ _ ys _ (HRc.out.keep (by repeat' (first | (with_reducible exact Below.refl _ _) | (with_reducible refine Below.adds_ ?_ ?_ _ _) | (with_reducible refine Below.alloc ?_ ?_ _) | (with_reducible refine Below.drew ?_) | (with_reducible refine Below.setCell ?_ ?_ _) | (with_reducible assumption) | go_size | (simp only [size_addsW, World.size_alloc, World.size_drew, World.size_setCell]; omega)))) HL.out (by omega)).mono ?_; rintro e w' ⟨rfl, rfl⟩))
          go_loopw [7, 8, 9] (fun v1 v2 i wr => EBRel W3 ys n v1 v2 i wr) (fun _ _ i _ => n - (intOf i).toNat)
          case atStart =>
            exact ⟨0, Nat.zero_le _, rfl, ⟨(own_lit_b W3 3 _ _ rfl (Nat.le_refl _)).alloc _, own_lit_b _ 3 _ _ (by simp) (by simp), fun _ => by simp [Value.ownBlock]⟩, (by repeat' (first | (with_reducible exact Below.refl _ _) | (with_reducible refine Below.adds_ ?_ ?_ _ _) | (with_reducible refine Below.alloc ?_ ?_ _) | (with_reducible refine Below.drew ?_) | (with_reducible refine Below.setCell ?_ ?_ _) | (with_reducible assumption) | go_size | (simp only [size_addsW, World.size_alloc, World.size_drew, World.size_setCell]; omega)))⟩
          case round =>
            obtain ⟨k, hk, rfl, hrows, hbel⟩ := hrel
            have HW := Lib.hid hrows
            have HB := Lib.hid hbel
            have hzr := hbel.size
            clear hrows hbel
            by_cases hlt : k < n
            · obtain ⟨b, off, x, y, rfl, hb, hx, hy, hc, hc2⟩ := (HRc.out.keep HB.out).two HL.out hlt
              have HX := Lib.hid (show x = bnC ys k from hx)
              have HY := Lib.hid (show y = bnB ys k from hy)
              clear hx hy
              go_wp2_with (first | (at_builtin; refine wpList_append_own_at _ rfl (.tmp 46) (.tmp 52) 62 rfl W3.heap.size 3 i0 (.int .i64 0) 1 8 Try.underlying62 hi hz0 hz1 hz2 rfl (by decide) _ _ _ rfl (HW.out.alloc _).1 ⟨_, 0, none⟩ 1 1 [.int .i64 x] rfl rfl (news1 (by go_simp; done)) (one1 rfl) (by unfold maxLen; omega) (by omega) (by simp only [World.size_alloc]; omega) ?_; intro v' w1' hown1 hgrow1 _ hat1; have HW1 := Lib.hid ((HW.out.alloc _).app hown1 hgrow1 hat1); have hb1 := (HW.out.alloc _).grow hgrow1 (HB.out.trans (by rw [alloc_as]; exact (addsW_below _ _ _).mono hzr)) (Nat.le_refl _); have HB1 := Lib.hid hb1; have hz1' := hb1.size; obtain ⟨A1', c1', e1, -⟩ := own_shape hown1; subst e1; clear hown1 hgrow1 hat1 hb1; obtain ⟨b9, off9, x9, y9, e9, hb9, -, hy9, hc9, hc92⟩ := (HRc.out.keep HB1.out).two HL.out hlt; injection e9 with e9; injection e9 with e91 e92; subst e91 e92; obtain rfl : y = y9 := (HY.out.trans hy9.symm); clear hy9) | (at_builtin; refine wpList_append_own_at _ rfl (.tmp 54) (.tmp 60) 62 rfl W3.heap.size 3 i0 (.int .i64 0) 1 8 Try.underlying62 hi hz0 hz1 hz2 rfl (by decide) _ _ _ rfl (HW1.out.alloc _).2.1 ⟨_, 0, none⟩ 1 1 [.int .i64 y] rfl rfl (news1 (by go_simp; done)) (one1 rfl) (by unfold maxLen; omega) (by omega) (by simp only [World.size_alloc]; omega) ?_; intro v' w1' hown1 hgrow1 _ hat1; have HW2 := Lib.hid ((HW1.out.swap.alloc _).app hown1 hgrow1 hat1).swap; have HB2 := Lib.hid ((HW1.out.swap.alloc _).grow hgrow1 (HB1.out.trans (by rw [alloc_as]; exact (addsW_below _ _ _).mono hz1')) (Nat.le_refl _)); obtain ⟨A2', c2', e1, -⟩ := own_shape hown1; subst e1; clear hown1 hgrow1 hat1))
              go_roundw
              case rel =>
                refine ⟨k + 1, by omega, by go_num, ?_, HB2.out⟩
                rw [ctxL_succ, bitL_succ, List.map_append, List.map_append, ← HX.out, ← HY.out]
                exact HW2.out
              case measure => simp [intOf]; omega
            · obtain rfl : k = n := by omega
              obtain ⟨A3, c3, e3, -, hcc3, -, hr3, -⟩ := RowAt.of_ownS HW.out.1
              obtain ⟨A4, c4, e4, -, hcc4, -, hr4, -⟩ := RowAt.of_ownS HW.out.2.1
              subst e3 e4
              have R3 := Lib.hid hr3
              have R4 := Lib.hid hr4
              have RD := Lib.hid (R2c.out.keep HB.out)
              have RM := Lib.hid (HM.out.keep ((BW.out.trans (HB.out.mono (by omega))) : Below w.heap.size w wr))
              clear hr3 hr4 HW
              obtain ⟨M, hM⟩ : ∃ M, M = more.take 20 := ⟨_, rfl⟩
              have HMM := Lib.hid hM
              have hml : M.length = min 20 more.length := by rw [hM]; simp
              clear hM
              obtain ⟨u0, ui, uz0, uz1, uz2⟩ := info_parts infoU8c
              have hmin : (if (more.length : Int) < 20 then (more.length : Int) else 20) = (M.length : Int) := by split <;> omega
              have hm0 : (0 : Int) ≤ (M.length : Int) := by omega
              have hm20 : M.length ≤ 20 := by omega
              have hmc3 : (M.length : Int) ≤ (cap_ms : Int) := by omega
              have HA2 := Lib.hid (show A2 = none → c2 = 0 from fun e => by obtain ⟨b, off, e2, _⟩ := RD.out (by intro e; subst e; simp at hD4); rw [e] at e2; cases e2)
              have HML := Lib.hid hml
              have RMM := Lib.hid (show RowAt .u8 wr a_ms M from HMM.out ▸ RM.out.take 20)
              clear hml
              go_upto_region 16 with fail
              go_cut [10] (fun s10 wx => EBCut16 wr (D ++ M) s10 wx)
              case first =>
                refine wp_region_held_drew (S := (fun wx => True)) (by kernel_rfl) ?_ (fun hHeld => ?_)
                · trivial
                refine wpAnyH_take (i := 1) (oi := _) (v := ?_) rfl (by kernel_rfl) (by kernel_rfl) (by kernel_rfl) (fun _ _ _ h => h) (Or.inl ⟨by rfl, ?_⟩) (by assumption) ?_
                rotate_left
                · intro w hSw; (try dsimp only at hSw); go_simp; (try with_reducible rfl)
                try dsimp only [List.getElem_toArray, List.getElem_cons_succ, List.getElem_cons_zero]
                simp only [Act.put, List.setIfInBounds_toArray, List.set_cons_zero, List.set_cons_succ]
                refine wpAnyH_take (i := 3) (oi := _) (v := ?_) rfl (by kernel_rfl) (by kernel_rfl) (by kernel_rfl) (fun _ _ _ h => h) (Or.inl ⟨by rfl, ?_⟩) (by assumption) ?_
                rotate_left
                · intro w hSw; (try dsimp only at hSw); go_simp; (try with_reducible rfl)
                try dsimp only [List.getElem_toArray, List.getElem_cons_succ, List.getElem_cons_zero]
                simp only [Act.put, List.setIfInBounds_toArray, List.set_cons_zero, List.set_cons_succ]
                refine wpAnyH_take (i := 4) (oi := _) (v := ?_) rfl (by kernel_rfl) (by kernel_rfl) (by kernel_rfl) (fun _ _ _ h => h) (Or.inl ⟨by rfl, ?_⟩) (by assumption) ?_
                rotate_left
                · intro w hSw; (try dsimp only at hSw); go_simp; (try with_reducible rfl)
                try dsimp only [List.getElem_toArray, List.getElem_cons_succ, List.getElem_cons_zero]
                simp only [Act.put, List.setIfInBounds_toArray, List.set_cons_zero, List.set_cons_succ]
                refine wpAnyH_take (i := 5) (oi := _) (v := ?_) rfl (by kernel_rfl) (by kernel_rfl) (by kernel_rfl) (fun _ _ _ h => h) (Or.inl ⟨by rfl, ?_⟩) (by assumption) ?_
                rotate_left
                · intro w hSw; (try dsimp only at hSw); go_simp; (try with_reducible rfl)
                try dsimp only [List.getElem_toArray, List.getElem_cons_succ, List.getElem_cons_zero]
                simp only [Act.put, List.setIfInBounds_toArray, List.set_cons_zero, List.set_cons_succ]
                refine wpAnyH_take (i := 6) (oi := _) (v := ?_) rfl (by kernel_rfl) (by kernel_rfl) (by kernel_rfl) (fun _ _ _ h => h) (Or.inl ⟨by rfl, ?_⟩) (by assumption) ?_
                rotate_left
                · intro w hSw; (try dsimp only at hSw); go_simp; (try with_reducible rfl)
                try dsimp only [List.getElem_toArray, List.getElem_cons_succ, List.getElem_cons_zero]
                simp only [Act.put, List.setIfInBounds_toArray, List.set_cons_zero, List.set_cons_succ]
                refine wpAnyH_take (i := 7) (oi := _) (v := ?_) rfl (by kernel_rfl) (by kernel_rfl) (by kernel_rfl) (fun _ _ _ h => h) (Or.inl ⟨by rfl, ?_⟩) (by assumption) ?_
                rotate_left
                · intro w hSw; (try dsimp only at hSw); go_simp; (try with_reducible rfl)
                try dsimp only [List.getElem_toArray, List.getElem_cons_succ, List.getElem_cons_zero]
                simp only [Act.put, List.setIfInBounds_toArray, List.set_cons_zero, List.set_cons_succ]
                refine wpAnyH_ready (rs := [0]) (by kernel_rfl) (by simp) ?_
                refine AllReadyH.cons (o := _) rfl (fun K hK => ?_) ?_
                · (try dsimp only [List.getElem_toArray, List.getElem_cons_succ, List.getElem_cons_zero]); go_simp
                  refine hK.out _ _ ?_ (fun hHeld => ?_)
                  · trivial
                  clear hK K
                  try simp only [Act.put, List.setIfInBounds_toArray, List.set_cons_zero, List.set_cons_succ]
                  refine wpAnyH_ready (rs := [2]) (by kernel_rfl) (by simp) ?_
                  refine AllReadyH.cons (o := _) rfl (fun K hK => ?_) ?_
                  · (try dsimp only [List.getElem_toArray, List.getElem_cons_succ, List.getElem_cons_zero])
                    (rw [if_pos (by rfl)]; first | (refine wp_app_row _ (.tmp 62) (.tmp 63) 22 rfl wr.heap.size 5 u0 (.int .u8 0) 1 Try.underlying22 ui uz0 uz1 uz2 rfl _ 0 [] rfl (own_lit_b wr 5 _ _ rfl (Nat.le_refl _)) .u8 A2 D.length c2 D rfl rfl (RD.out.keep (by repeat' (first | (with_reducible exact Below.refl _ _) | (with_reducible refine Below.adds_ ?_ ?_ _ _) | (with_reducible refine Below.alloc ?_ ?_ _) | (with_reducible refine Below.drew ?_) | (with_reducible refine Below.setCell ?_ ?_ _) | (with_reducible assumption) | go_size | (simp only [size_addsW, World.size_alloc, World.size_drew, World.size_setCell]; omega)))) HA2.out (by unfold maxLen; omega) (by omega) (by simp) ?_; intro v' w1' hown1 hgrow1; obtain ⟨A5, c5, o5, n5, rfl, rfl, ho5⟩ := app_go (W0 := wr) hown1 hgrow1 (by repeat' (first | (with_reducible exact Below.refl _ _) | (with_reducible refine Below.adds_ ?_ ?_ _ _) | (with_reducible refine Below.alloc ?_ ?_ _) | (with_reducible refine Below.drew ?_) | (with_reducible refine Below.setCell ?_ ?_ _) | (with_reducible assumption) | go_size | (simp only [size_addsW, World.size_alloc, World.size_drew, World.size_setCell]; omega))) (fun q e => by cases e; exact Nat.le_refl _); rw [Nat.zero_add, List.nil_append] at ho5; rw [Nat.zero_add]; have H5 := Lib.hid ho5; clear hown1 hgrow1 ho5) | (refine wp_app_row _ (.tmp 64) (.tmp 69) 22 rfl wr.heap.size 5 u0 (.int .u8 0) 1 Try.underlying22 ui uz0 uz1 uz2 rfl _ D.length (D.map (Value.int .u8)) rfl H5.out .u8 a_ms M.length cap_ms M rfl rfl (RMM.out.keep (by repeat' (first | (with_reducible exact Below.refl _ _) | (with_reducible refine Below.adds_ ?_ ?_ _ _) | (with_reducible refine Below.alloc ?_ ?_ _) | (with_reducible refine Below.drew ?_) | (with_reducible refine Below.setCell ?_ ?_ _) | (with_reducible assumption) | go_size | (simp only [size_addsW, World.size_alloc, World.size_drew, World.size_setCell]; omega)))) HMC.out (by unfold maxLen; omega) (by omega) (by simp only [size_addsW, World.size_drew]; omega) ?_; intro v' w1' hown1 hgrow1; obtain ⟨A6, c6, o6, n6, rfl, rfl, ho6⟩ := app_go (W0 := wr) hown1 hgrow1 (by repeat' (first | (with_reducible exact Below.refl _ _) | (with_reducible refine Below.adds_ ?_ ?_ _ _) | (with_reducible refine Below.alloc ?_ ?_ _) | (with_reducible refine Below.drew ?_) | (with_reducible refine Below.setCell ?_ ?_ _) | (with_reducible assumption) | go_size | (simp only [size_addsW, World.size_alloc, World.size_drew, World.size_setCell]; omega))) (fun q e => (H5.out.lt q e).1); have H6 := Lib.hid ho6; clear hown1 hgrow1 ho6))
                    refine hK.out _ _ ?_ (fun hHeld => ?_)
                    · trivial
                    clear hK K
                    try simp only [Act.put, List.setIfInBounds_toArray, List.set_cons_zero, List.set_cons_succ]
                    refine wpAnyH_ready (rs := [8]) (by kernel_rfl) (by simp) ?_
                    refine AllReadyH.cons (o := _) rfl (fun K hK => ?_) ?_
                    · (try dsimp only [List.getElem_toArray, List.getElem_cons_succ, List.getElem_cons_zero])
                      (rw [if_pos (by rfl)]; first | (refine wp_app_row _ (.tmp 62) (.tmp 63) 22 rfl wr.heap.size 5 u0 (.int .u8 0) 1 Try.underlying22 ui uz0 uz1 uz2 rfl _ 0 [] rfl (own_lit_b wr 5 _ _ rfl (Nat.le_refl _)) .u8 A2 D.length c2 D rfl rfl (RD.out.keep (by repeat' (first | (with_reducible exact Below.refl _ _) | (with_reducible refine Below.adds_ ?_ ?_ _ _) | (with_reducible refine Below.alloc ?_ ?_ _) | (with_reducible refine Below.drew ?_) | (with_reducible refine Below.setCell ?_ ?_ _) | (with_reducible assumption) | go_size | (simp only [size_addsW, World.size_alloc, World.size_drew, World.size_setCell]; omega)))) HA2.out (by unfold maxLen; omega) (by omega) (by simp) ?_; intro v' w1' hown1 hgrow1; obtain ⟨A5, c5, o5, n5, rfl, rfl, ho5⟩ := app_go (W0 := wr) hown1 hgrow1 (by repeat' (first | (with_reducible exact Below.refl _ _) | (with_reducible refine Below.adds_ ?_ ?_ _ _) | (with_reducible refine Below.alloc ?_ ?_ _) | (with_reducible refine Below.drew ?_) | (with_reducible refine Below.setCell ?_ ?_ _) | (with_reducible assumption) | go_size | (simp only [size_addsW, World.size_alloc, World.size_drew, World.size_setCell]; omega))) (fun q e => by cases e; exact Nat.le_refl _); rw [Nat.zero_add, List.nil_append] at ho5; rw [Nat.zero_add]; have H5 := Lib.hid ho5; clear hown1 hgrow1 ho5) | (refine wp_app_row _ (.tmp 64) (.tmp 69) 22 rfl wr.heap.size 5 u0 (.int .u8 0) 1 Try.underlying22 ui uz0 uz1 uz2 rfl _ D.length (D.map (Value.int .u8)) rfl H5.out .u8 a_ms M.length cap_ms M rfl rfl (RMM.out.keep (by repeat' (first | (with_reducible exact Below.refl _ _) | (with_reducible refine Below.adds_ ?_ ?_ _ _) | (with_reducible refine Below.alloc ?_ ?_ _) | (with_reducible refine Below.drew ?_) | (with_reducible refine Below.setCell ?_ ?_ _) | (with_reducible assumption) | go_size | (simp only [size_addsW, World.size_alloc, World.size_drew, World.size_setCell]; omega)))) HMC.out (by unfold maxLen; omega) (by omega) (by simp only [size_addsW, World.size_drew]; omega) ?_; intro v' w1' hown1 hgrow1; obtain ⟨A6, c6, o6, n6, rfl, rfl, ho6⟩ := app_go (W0 := wr) hown1 hgrow1 (by repeat' (first | (with_reducible exact Below.refl _ _) | (with_reducible refine Below.adds_ ?_ ?_ _ _) | (with_reducible refine Below.alloc ?_ ?_ _) | (with_reducible refine Below.drew ?_) | (with_reducible refine Below.setCell ?_ ?_ _) | (with_reducible assumption) | go_size | (simp only [size_addsW, World.size_alloc, World.size_drew, World.size_setCell]; omega))) (fun q e => (H5.out.lt q e).1); have H6 := Lib.hid ho6; clear hown1 hgrow1 ho6))
                      refine hK.out _ _ ?_ (fun hHeld => ?_)
                      · trivial
                      clear hK K
                      try simp only [Act.put, List.setIfInBounds_toArray, List.set_cons_zero, List.set_cons_succ]
                      refine wpAnyH_take (i := 9) (oi := _) (v := ?_) rfl (by kernel_rfl) (by kernel_rfl) (by kernel_rfl) (fun _ _ _ h => h) (Or.inl ⟨by rfl, ?_⟩) (by assumption) ?_
                      rotate_left
                      · intro w hSw; (try dsimp only at hSw); go_simp; (try with_reducible rfl)
                      try dsimp only [List.getElem_toArray, List.getElem_cons_succ, List.getElem_cons_zero]
                      simp only [Act.put, List.setIfInBounds_toArray, List.set_cons_zero, List.set_cons_succ]
                      refine wpAnyH_done (by kernel_rfl) ?_ _
                      go_wp2_with fail
                      go_meet
                      have h6 := H6.out
                      rw [← List.map_append] at h6
                      obtain ⟨A7, c7, e7, -, hc7, -, hr7, -⟩ := RowAt.of_ownS h6
                      have hlt7 := h6.lt
                      injection e7 with e7 e8 e9
                      subst e7 e9
                      exact ⟨A6, c6, by rw [List.length_append], by rw [List.length_append]; exact hc7, hr7, fun d hd => (hlt7 d.block (by rw [hd]; rfl)).2, (by repeat' (first | (with_reducible exact Below.refl _ _) | (with_reducible refine Below.adds_ ?_ ?_ _ _) | (with_reducible refine Below.alloc ?_ ?_ _) | (with_reducible refine Below.drew ?_) | (with_reducible refine Below.setCell ?_ ?_ _) | (with_reducible assumption) | go_size | (simp only [size_addsW, World.size_alloc, World.size_drew, World.size_setCell]; omega)))⟩
                    exact AllReadyH.nil
                  exact AllReadyH.nil
                exact AllReadyH.nil
              case rest =>
                obtain ⟨A5, c5, rfl, hc5, hr5, hA5, hb5⟩ := hcut
                have R5 := Lib.hid hr5
                have S5 := Lib.hid hA5
                have F5 := Lib.hid hb5
                have z5 := hb5.size
                have hl5 : (D ++ M).length ≤ 50000 := by rw [List.length_append]; omega
                clear hr5 hA5 hb5
                have HDM := Lib.hid (show ∀ i, 0 ≤ (D ++ M).getD i 0 ∧ (D ++ M).getD i 0 ≤ 255 from bytes_app HDb.out (by rw [HMM.out]; exact bytes_take HMW.out 20))
                have e1 := round_list HV.out [] (by rw [List.append_nil, ← HD.out]; exact HDb.out)
                have e2 := round_list HV.out M (by rw [← HD.out]; exact HDM.out)
                rw [List.append_nil, ← HD.out] at e1
                rw [← HD.out] at e2
                have E1 := Lib.hid e1
                have E2 := Lib.hid e2
                have hcl := ctxL_len ys k
                have hbl := bitL_len ys k
                have HCL := Lib.hid hcl
                have HBL := Lib.hid hbl
                clear e1 e2 hcl hbl
                have DEC1 := Lib.hid (show ∀ W, Below wr.heap.size wr W → Calls Try.prog 43 #[.slice A2 D.length c2, .slice A3 k c3] W (IntsGotD (bitL ys k) W) from fun W hW => by
                  have h := I_DecodeBins A2 A3 c2 c3 D (ctxL ys k) W (RD.out.keep hW) (R3.out.keep hW) (fun d hd => by have := S2.out d hd; have := hW.size; omega) hc2 HDb.out (by omega) (by rw [ctxL_len]; omega)
                  rw [ctxL_len, E1.out] at h
                  exact h)
                have DEC2 := Lib.hid (show ∀ W, Below wc.heap.size wc W → Calls Try.prog 43 #[.slice A5 (D ++ M).length c5, .slice A3 k c3] W (IntsGotD (bitL ys k) W) from fun W hW => by
                  have h := I_DecodeBins A5 A3 c5 c3 (D ++ M) (ctxL ys k) W (R5.out.keep hW) ((R3.out.keep F5.out).keep hW) (fun d hd => by have := S5.out d hd; have := hW.size; omega) hc5 HDM.out (by omega) (by rw [ctxL_len]; omega)
                  rw [ctxL_len, E2.out] at h
                  exact h)
                have SAME := Lib.hid (show ∀ W A c, RowAt .i64 W A (bitL ys k) → Below wc.heap.size wc W → Calls Try.prog 50 #[.slice A k c, .slice A4 k c4] W (fun e w' => e = .returned (.bool true) ∧ Below W.heap.size W w') from fun W A c hA hW => by
                  have h := L_sameInts A A4 c c4 (bitL ys k) W hA ((R4.out.keep F5.out).keep hW) (by rw [bitL_len]; omega)
                  rw [bitL_len] at h
                  exact h)
                have hD4' : (4 : Int) ≤ (D.length : Int) := by omega
                have F6 := Lib.hid (show Below w.heap.size w wc from (BW.out.trans (HB.out.mono (by omega))).trans (F5.out.mono (by omega)))
                generalize hT : D ++ M = T at *
                go_wp2_with fail
                refine (DEC1.out _ (F5.out.trans (Below.mono (by repeat' (first | (with_reducible exact Below.refl _ _) | (with_reducible refine Below.adds_ ?_ ?_ _ _) | (with_reducible refine Below.alloc ?_ ?_ _) | (with_reducible refine Below.drew ?_) | (with_reducible refine Below.setCell ?_ ?_ _) | (with_reducible assumption) | go_size | (simp only [size_addsW, World.size_alloc, World.size_drew, World.size_setCell]; omega))) z5))).mono ?_
                rintro e w' ⟨A8, c8, rfl, hr8, -, -, hb⟩
                rw [bitL_len]
                have R8 := Lib.hid hr8
                obtain ⟨o8, n8, rfl⟩ := below_adds hb
                clear hb hr8
                go_wp2_with fail
                refine (SAME.out _ _ _ R8.out (by repeat' (first | (with_reducible exact Below.refl _ _) | (with_reducible refine Below.adds_ ?_ ?_ _ _) | (with_reducible refine Below.alloc ?_ ?_ _) | (with_reducible refine Below.drew ?_) | (with_reducible refine Below.setCell ?_ ?_ _) | (with_reducible assumption) | go_size | (simp only [size_addsW, World.size_alloc, World.size_drew, World.size_setCell]; omega)))).mono ?_
                rintro e w' ⟨rfl, hb⟩
                obtain ⟨o9, n9, rfl⟩ := below_adds hb
                clear hb
                go_wp2_with fail
                refine (DEC2.out _ (by repeat' (first | (with_reducible exact Below.refl _ _) | (with_reducible refine Below.adds_ ?_ ?_ _ _) | (with_reducible refine Below.alloc ?_ ?_ _) | (with_reducible refine Below.drew ?_) | (with_reducible refine Below.setCell ?_ ?_ _) | (with_reducible assumption) | go_size | (simp only [size_addsW, World.size_alloc, World.size_drew, World.size_setCell]; omega)))).mono ?_
                rintro e w' ⟨A10, c10, rfl, hr10, -, -, hb⟩
                rw [bitL_len]
                have R10 := Lib.hid hr10
                obtain ⟨o10, n10, rfl⟩ := below_adds hb
                clear hb hr10
                go_wp2_with fail
                refine (SAME.out _ _ _ (by have hx := R10.out; simp only [adds_addsW, Array.append_assoc] at hx; exact hx) (by repeat' (first | (with_reducible exact Below.refl _ _) | (with_reducible refine Below.adds_ ?_ ?_ _ _) | (with_reducible refine Below.alloc ?_ ?_ _) | (with_reducible refine Below.drew ?_) | (with_reducible refine Below.setCell ?_ ?_ _) | (with_reducible assumption) | go_size | (simp only [size_addsW, World.size_alloc, World.size_drew, World.size_setCell]; omega)))).mono ?_
                rintro e w' ⟨rfl, hb⟩
                obtain ⟨o11, n11, rfl⟩ := below_adds hb
                clear hb
                go_wp2_with fail
                go_returns
                exact ⟨rfl, F6.out.trans ((addsW_below _ _ _).mono (by have := F6.out.size; omega))⟩

set_option maxRecDepth 100000 in
theorem lifted (os : Os) (started : os.Started) (H : Type) (enc : TypeId × Value → H) :
    ReturnsInHanded {} Try.checked os 11 .any (Rows.fnEncodeBinsSpec.pre6 enc Try.prog Try.f11 Rows.fnEncodeBinsRow.domain false) (Rows.fnEncodeBinsSpec.post enc Try.prog Try.f11 false true false false) := by
  refine returnsInHanded_of_change (C := Try.checked) own started (by kernel_rfl) Try.func11
    (ChangeSpec.witness6 (enc := enc) (C := Try.checked) false ⟨#[], #[.slice none 0 0, .slice none 0 0], []⟩ 8 (by kernel_rfl) (by kernel_rfl) (by kernel_rfl) (by kernel_rfl)) ?_
  intro W base args ds gs before hval0 hW hcnd _
  have hval : ∀ (j : Nat) t v, Try.f11.params[j]? = some t → args[j]? = some v → Value.okWide Try.prog W .any base t v := hval0
  have hW' := hW
  obtain ⟨p, q, hA0, hV, rfl, hfz, hnd⟩ := hW
  have hA : DataW.TrodAll enc Try.prog W 0 (fun _ => true) true Try.f11.params.toList args.toList ds p := hA0
  rw [Try.params11] at hA hval
  obtain ⟨v0, vs0, d0, ds0, p0, q0, hargs, rfl, rfl, h0, r0⟩ := trodAll_cons hA
  obtain ⟨v1, vs1, d1, ds1, p1, q1, rfl, rfl, rfl, h1, r1⟩ := trodAll_cons r0
  obtain ⟨rfl, rfl, rfl⟩ := trodAll_nil r1
  obtain rfl : args = #[v0, v1] := by cases args; simp_all
  obtain ⟨rfl, rfl⟩ := trodVars_none hV
  have k0 := h0
  have lt0 : ∀ x ∈ p0, x.block < W.heap.size := by obtain ⟨m, hm⟩ := k0; exact DataW.trod_lt m _ _ _ hm
  have k1 := h1
  have lt1 : ∀ x ∈ p1, x.block < W.heap.size := by obtain ⟨m, hm⟩ := k1; exact DataW.trod_lt m _ _ _ hm
  obtain ⟨aa0, ll0, cc0, rfl⟩ := okWide_slice Try.underlying22 (hval 0 22 v0 rfl rfl)
  obtain ⟨f0, hf0⟩ := h0
  simp only [Value.cells] at hf0
  obtain ⟨a_zs, len_zs, cap_zs, zs, e_zs, w_zs⟩ : ∃ a l c zs, (.slice aa0 ll0 cc0 : Value) = .slice a l c ∧ IsRow .u8 W a l c zs := by
    rcases open_ints Try.underlying22 Try.underlying5 (by kernel_rfl) hf0 with ⟨hcs, _⟩ | ⟨x, l, c, zs, hcs, _, hl, hm, hz, _, hcell, hwz⟩
    · simp only [List.cons.injEq, and_true] at hcs; exact ⟨none, 0, 0, [], hcs, .inl ⟨rfl, rfl, rfl, rfl⟩⟩
    · simp only [List.cons.injEq, and_true] at hcs; exact ⟨some x, l, c, zs, hcs, .inr ⟨x, rfl, hl, hm, by simpa using hz, hcell, hwz⟩⟩
  simp only [Value.slice.injEq] at e_zs
  obtain ⟨rfl, rfl, rfl⟩ := e_zs
  obtain ⟨aa1, ll1, cc1, rfl⟩ := okWide_slice Try.underlying22 (hval 1 22 v1 rfl rfl)
  obtain ⟨f1, hf1⟩ := h1
  simp only [Value.cells] at hf1
  obtain ⟨a_ms, len_ms, cap_ms, ms, e_ms, w_ms⟩ : ∃ a l c zs, (.slice aa1 ll1 cc1 : Value) = .slice a l c ∧ IsRow .u8 W a l c zs := by
    rcases open_ints Try.underlying22 Try.underlying5 (by kernel_rfl) hf1 with ⟨hcs, _⟩ | ⟨x, l, c, zs, hcs, _, hl, hm, hz, _, hcell, hwz⟩
    · simp only [List.cons.injEq, and_true] at hcs; exact ⟨none, 0, 0, [], hcs, .inl ⟨rfl, rfl, rfl, rfl⟩⟩
    · simp only [List.cons.injEq, and_true] at hcs; exact ⟨some x, l, c, zs, hcs, .inr ⟨x, rfl, hl, hm, by simpa using hz, hcell, hwz⟩⟩
  simp only [Value.slice.injEq] at e_ms
  obtain ⟨rfl, rfl, rfl⟩ := e_ms
  clear hA0 hval0
  refine (walk _ _ _ zs _ _ _ ms W w_zs w_ms).mono fun e W' ⟨he, bel⟩ => ?_
  subst he
  exact ⟨_, rfl, _, _, _, [], _, [], hW', trodAll_mk1 (shut_bool Try.underlying4 _), (trodAll_cons_mk (Below.trod laidOut (by kernel_rfl) (of_decide_eq_true (by kernel_rfl)) k0 bel lt0) (trodAll_cons_mk (Below.trod laidOut (by kernel_rfl) (of_decide_eq_true (by kernel_rfl)) k1 bel lt1) trodAll_mk0)), rfl, bel.frame _, fun h => by cases h⟩

theorem over : Rows.fnEncodeBinsRow.holds Try.pinned (OpenSpec.ofChange Rows.fnEncodeBinsSpec) :=
  OpenClaim.holds_of_wide 11 Try.f11 rfl rfl rfl rfl rfl rfl rfl ⟨rfl, rfl, rfl, rfl, rfl⟩ rfl rfl rfl rfl rfl (by kernel_rfl) Try.func11 (by kernel_rfl)
    (of_decide_eq_true (by kernel_rfl)) (by unfold Func.isWrapper; first | (rw [if_pos (by decide +kernel)]; kernel_rfl) | (rw [if_neg (by decide +kernel)]; exact ⟨rfl, rfl⟩))
    (fun os started H enc _ => lifted os started H enc)

theorem proved : Rows.FnEncodeBinsSaid := over
#print axioms proved
end Go.Proofs.Ytndbdfbjiaaloaa.fnEncodeBins
