/- PROVED: the law laws.FnExactMotionBlock returns true for every input (the program's MotionBlock answers as the reference's does, in memory of its own); no conditions. -/
import Derived.Test.YtobphddjoebfjaaRows
import Derived.Test.YtobphddjoebfjaaBlock
import Derived.Test.YtobphddjoebfjaaMore
import Derived.Deep.RegionHeld3
import Derived.Deep.DeepCutAuto
import Derived.WalkKit
import Derived.ProofKit
import Derived.OpenShut
import Derived.ShutString
import Derived.ChangeOld
import Derived.Below
import Derived.Lib.SmallJoins
namespace Go.Proofs.Ytobphddjoebfjaa.fnExactMotionBlock
open Go.ChangeShapes Go.WideShapes Go.ChangeAt Go.RowKit
open Go.ChangeMaps (open_string shut_string)
set_option linter.unusedVariables false
set_option linter.unusedSimpArgs false

theorem own : ownKnob Try.prog.godebug = none := by kernel_rfl
theorem laidOut : laidOutB Try.prog = true := by kernel_rfl

attribute [local go_sem] size_addsW cell?_addsW frozen?_addsW setCell_addsW drew_addsW adds_addsW setCell_twice alloc_adds0 size_adds0 adds_adds0 sel2 sel3 sel4 sel5 sel6 sel7 sel8 sel9 lt_more lt_more2 lt_more3 lt_more4 adds_drew adds_drewN drewN_addsW ltA_1_1 ltA_1_2 ltA_1_3 ltA_1_4 ltA_1_5 ltA_1_6 ltA_2_1 ltA_2_2 ltA_2_3 ltA_2_4 ltA_2_5 ltA_2_6 ltA_3_1 ltA_3_2 ltA_3_3 ltA_3_4 ltA_3_5 ltA_3_6 ltA_4_1 ltA_4_2 ltA_4_3 ltA_4_4 ltA_4_5 ltA_4_6 ltA_5_1 ltA_5_2 ltA_5_3 ltA_5_4 ltA_5_5 ltA_5_6 ltA_6_1 ltA_6_2 ltA_6_3 ltA_6_4 ltA_6_5 ltA_6_6 ltA_7_1 ltA_7_2 ltA_7_3 ltA_7_4 ltA_7_5 ltA_7_6 ltA_8_1 ltA_8_2 ltA_8_3 ltA_8_4 ltA_8_5 ltA_8_6 ltA_9_1 ltA_9_2 ltA_9_3 ltA_9_4 ltA_9_5 ltA_9_6 ltA_10_1 ltA_10_2 ltA_10_3 ltA_10_4 ltA_10_5 ltA_10_6 ltA_11_1 ltA_11_2 ltA_11_3 ltA_11_4 ltA_11_5 ltA_11_6 ltA_12_1 ltA_12_2 ltA_12_3 ltA_12_4 ltA_12_5 ltA_12_6
theorem Soft.lt {w : World} {A : Option Addr} (h : Soft w A) {d : Addr} (hd : A = some d) : d.block < w.heap.size := by
  obtain ⟨cur, t, hc⟩ := h d hd
  rcases Nat.lt_or_ge d.block w.heap.size with h | h
  · exact h
  · rw [Array.getElem?_eq_none h] at hc; cases hc
theorem mbL_len (a b : Int) (zs : List Int) (x y u v : Int) : (mbL a b zs x y u v).length ≤ 64 := by
  unfold mbL; split
  · rw [mvL_len]; omega
  · simp

theorem L_toPictureS (a b : Int) (A : Option Addr) (c : Nat) (zs : List Int) (w : World) (hr : RowAt .i64 w A zs) (hl : zs.length ≤ 1048576) :
    Calls Try.prog 17 #[.agg #[.int .i64 a, .int .i64 b, .slice A zs.length c]] w fun e w' => ∃ g : Nat, e = .returned (.agg #[.int .i64 a, .int .i64 b, .slice (some ⟨g, 0, none⟩) zs.length zs.length]) ∧ RowAt .i64 w' (some ⟨g, 0, none⟩) zs ∧ w.heap.size ≤ g ∧ Soft w' (some ⟨g, 0, none⟩) ∧ Below w.heap.size w w' := by
  have HR := Lib.hid hr
  clear hr
  go_enter Try.func17, Try.ntmps17
  go_wp2_with (go_at_call 51; refine (L_toIntS _ _ zs _ (HR.out.keep (by repeat' (first | (with_reducible exact Below.refl _ _) | (with_reducible refine Below.adds_ ?_ ?_ _ _) | (with_reducible refine Below.alloc ?_ ?_ _) | (with_reducible refine Below.drew ?_) | (with_reducible refine Below.setCell ?_ ?_ _) | (with_reducible assumption) | go_size | (simp only [size_addsW, World.size_alloc, World.size_drew, World.size_setCell]; omega)))) hl).mono ?_; rintro e w' ⟨rfl, o, ho, rfl⟩; have HO := Lib.hid ho; clear ho)
  go_returns
  refine ⟨_, rfl, ?_, ?_, ?_, (by repeat' (first | (with_reducible exact Below.refl _ _) | (with_reducible refine Below.adds_ ?_ ?_ _ _) | (with_reducible refine Below.alloc ?_ ?_ _) | (with_reducible refine Below.drew ?_) | (with_reducible refine Below.setCell ?_ ?_ _) | (with_reducible assumption) | go_size | (simp only [size_addsW, World.size_alloc, World.size_drew, World.size_setCell]; omega)))⟩
  · rw [HO.out]
    exact RowAt.new_ .i64 _ _ _ (by simp)
  · omega
  · rw [HO.out]
    exact Soft.new_ _ _ _ (by simp)

/-- a list in new memory behind the boxes Wb -/
def LCut (Wb : World) (l : List Int) (s : Value) (wx : World) : Prop := ∃ (A : Option Addr) (c : Nat) (oo : Array Obj) (nn : Nat), s = .slice A l.length c ∧ wx = addsW Wb oo nn ∧ RowAt .i64 (addsW Wb oo nn) A l ∧ (∀ d, A = some d → Wb.heap.size ≤ d.block) ∧ Soft (addsW Wb oo nn) A

set_option maxHeartbeats 4000000 in
theorem walk (a : Int) (b : Int) (a_ts0 : Option Addr) (len_ts0 cap_ts0 : Nat) (ts0 : List Int) (x : Int) (y : Int) (u : Int) (v : Int) (w : World) (w_a : (Lit.int .i64 a).wf = true) (w_b : (Lit.int .i64 b).wf = true) (w_ts0 : IsRow .i64 w a_ts0 len_ts0 cap_ts0 ts0) (w_x : (Lit.int .i64 x).wf = true) (w_y : (Lit.int .i64 y).wf = true) (w_u : (Lit.int .i64 u).wf = true) (w_v : (Lit.int .i64 v).wf = true) :
    Calls Try.prog 8 #[.agg #[.int .i64 a, .int .i64 b, .slice a_ts0 len_ts0 cap_ts0], .int .i64 x, .int .i64 y, .agg #[.int .i64 u, .int .i64 v]] w fun e w' => e = .returned (.bool true) ∧ Below w.heap.size w w' := by
  obtain ⟨hr, hlen, hlm, -⟩ := RowAt.of_row w_ts0
  unfold maxLen at hlm
  generalize ts0.take len_ts0 = ts at hr hlen
  obtain rfl := hlen
  clear w_ts0
  have HR := Lib.hid hr
  clear hr
  obtain ⟨a_ts, rfl⟩ : ∃ q, q = a_ts0 := ⟨_, rfl⟩
  obtain ⟨cap_ts, rfl⟩ : ∃ q, q = cap_ts0 := ⟨_, rfl⟩
  by_cases hbig : (1048576 : Int) < (ts.length : Int)
  · go_enter Try.func8, Try.ntmps8
    go_wp2_with (go_at_call 15; refine (L_szPicture _ _ _ _ _ _ _ (by omega) (by omega)).mono ?_; rintro e w' ⟨rfl, hb⟩; obtain ⟨o1, n1, rfl⟩ := below_adds hb; clear hb; rw [if_pos (by omega)])
    go_returns
    exact ⟨rfl, (by repeat' (first | (with_reducible exact Below.refl _ _) | (with_reducible refine Below.adds_ ?_ ?_ _ _) | (with_reducible refine Below.alloc ?_ ?_ _) | (with_reducible refine Below.drew ?_) | (with_reducible refine Below.setCell ?_ ?_ _) | (with_reducible assumption) | go_size | (simp only [size_addsW, World.size_alloc, World.size_drew, World.size_setCell]; omega)))⟩
  · have hml := mbL_len a b ts x y u v
    go_enter Try.func8, Try.ntmps8
    go_wp2_with fail
    refine (L_szPicture _ _ _ _ _ _ _ (by omega) (by omega)).mono ?_
    rintro e w' ⟨rfl, hb⟩
    obtain ⟨o1, n1, rfl⟩ := below_adds hb
    clear hb
    rw [if_neg (by omega)]
    go_upto_region 5 with fail
    go_cut [10] (fun s10 wx => LCut ((w.alloc (.cells #[.int .i64 a, .int .i64 b, .slice a_ts ts.length cap_ts] 24)).alloc (.cells #[.int .i64 u, .int .i64 v] 51)) (mbL a b ts x y u v) s10 wx)
    case first =>
      go_region_held3 (fun w' => w'.cell? ⟨w.heap.size, 0, none⟩ = some (.int .i64 a) ∧ w'.cell? ⟨w.heap.size, 1, none⟩ = some (.int .i64 b) ∧ w'.cell? ⟨w.heap.size, 2, none⟩ = some (.slice a_ts ts.length cap_ts) ∧ w'.cell? ⟨w.heap.size + 1, 0, none⟩ = some (.int .i64 u) ∧ w'.cell? ⟨w.heap.size + 1, 1, none⟩ = some (.int .i64 v)) (first | (go_simp; done) | (go_keep; done))
        (first | (go_at_call 17; (with_reducible refine (L_toPicture a b _ _ ts _ (HR.out.keep (by repeat' (first | (with_reducible exact Below.refl _ _) | (with_reducible refine Below.adds_ ?_ ?_ _ _) | (with_reducible refine Below.alloc ?_ ?_ _) | (with_reducible refine Below.drew ?_) | (with_reducible refine Below.setCell ?_ ?_ _) | (with_reducible assumption) | go_size | (simp only [size_addsW, World.size_alloc, World.size_drew, World.size_setCell]; omega)))) (by omega)).mono ?_); rintro e w' ⟨g1, rfl, hrb, -, hb⟩; obtain ⟨q1, m1, rfl⟩ := below_adds hb; clear hb; (try simp only [adds_addsW, Array.append_assoc] at hrb); have HP1 := Lib.hid hrb; clear hrb) | (go_at_call 35; refine (L_toVector _ _ _).mono ?_; rintro e w' ⟨rfl, hb⟩; obtain ⟨qv, mv, rfl⟩ := below_adds hb; clear hb) | (go_at_call 34; refine (S_MotionBlock a b _ _ _ _ _ _ ts _ (HP1.out.keep (by first | (with_reducible exact Below.refl _ _) | (with_reducible exact belw1 _ _ _ _ _) | (with_reducible exact belw2 _ _ _ _ _ _) | (with_reducible exact belw3 _ _ _ _ _ _ _) | (with_reducible exact belw4 _ _ _ _ _ _ _ _) | (with_reducible exact belw5 _ _ _ _ _ _ _ _ _) | (with_reducible exact belw6 _ _ _ _ _ _ _ _ _ _) | (simp only [← Array.append_assoc]; first | (with_reducible exact Below.refl _ _) | (with_reducible exact belw1 _ _ _ _ _) | (with_reducible exact belw2 _ _ _ _ _ _) | (with_reducible exact belw3 _ _ _ _ _ _ _) | (with_reducible exact belw4 _ _ _ _ _ _ _ _) | (with_reducible exact belw5 _ _ _ _ _ _ _ _ _) | (with_reducible exact belw6 _ _ _ _ _ _ _ _ _ _)) | ((repeat' (first | (with_reducible exact Below.refl _ _) | (with_reducible refine Below.adds_ ?_ ?_ _ _) | (with_reducible refine Below.alloc ?_ ?_ _) | (with_reducible refine Below.drew ?_) | (with_reducible refine Below.setCell ?_ ?_ _) | (with_reducible assumption) | go_size | (simp only [size_addsW, World.size_alloc, World.size_drew, World.size_setCell]; omega))); done))) (by omega)).mono ?_; rintro e w' ⟨A5, c5, rfl, hr5, hA5, hs5, hb⟩; obtain ⟨q5, m5, rfl⟩ := below_adds hb; clear hb; (try simp only [adds_addsW, Array.append_assoc] at hr5 hs5); have HR5 := Lib.hid hr5; have HA5 := Lib.hid hA5; have HS5 := Lib.hid hs5; clear hr5 hA5 hs5))
      all_goals
        go_wp2_with fail
        go_meet
        exact ⟨A5, c5, _, _, rfl, by simp only [adds_addsW, Array.append_assoc], HR5.out, (fun d hd => by have := HA5.out d hd; simp [size_addsW] at this ⊢; omega), HS5.out⟩
    case rest =>
      obtain ⟨A0, c0, oo, nn, rfl, rfl, hr0, hA0, hs0⟩ := hcut
      have hA0' : ∀ d, A0 = some d → w.heap.size + 1 + 1 ≤ d.block ∧ d.block < w.heap.size + 1 + 1 + oo.size := fun d hd => by
        have h1 := hA0 d hd
        have h2 := Soft.lt hs0 hd
        simp [size_addsW] at h1 h2
        omega
      have HR0 := Lib.hid hr0
      have HA0 := Lib.hid hA0'
      clear hr0 hA0 hA0' hs0
      go_wp2_with fail
      refine (L_toPictureS a b _ _ ts _ (HR.out.keep (by repeat' (first | (with_reducible exact Below.refl _ _) | (with_reducible refine Below.adds_ ?_ ?_ _ _) | (with_reducible refine Below.alloc ?_ ?_ _) | (with_reducible refine Below.drew ?_) | (with_reducible refine Below.setCell ?_ ?_ _) | (with_reducible assumption) | go_size | (simp only [size_addsW, World.size_alloc, World.size_drew, World.size_setCell]; omega)))) (by omega)).mono ?_
      rintro e w' ⟨g1, rfl, hrb, hg1, hsb, hb⟩
      obtain ⟨q1, m1, rfl⟩ := below_adds hb
      have hg2 : w.heap.size + 1 + 1 + oo.size ≤ g1 := by simp [size_addsW] at hg1; omega
      have hg3 : g1 < w.heap.size + 1 + 1 + (oo.size + q1.size) := by have := Soft.lt hsb rfl; simp [size_addsW] at this; omega
      simp only [adds_addsW] at hrb hsb
      have hr0 := HR0.out.keep (below_more _ oo q1 nn m1)
      have hA1 : ∀ d, A0 = some d → w.heap.size + 1 + 1 ≤ d.block ∧ d.block < g1 := fun d hd => by have := HA0.out d hd; omega
      clear hb HR0 HA0 hg1
      have HR0 := Lib.hid hr0
      have HA0 := Lib.hid hA1
      have HX0 := Lib.hid hrb
      have HSX := Lib.hid hsb
      clear hr0 hA1 hrb hsb
      go_upto_region 7 with fail
      simp only [← Array.size_append]
      have hr0 := HR0.out
      have hx0 := HX0.out
      have hsx := HSX.out
      have hg4 : g1 < w.heap.size + 1 + 1 + (oo ++ q1).size := by rw [Array.size_append]; exact hg3
      have hg5 : w.heap.size + 1 + 1 ≤ g1 := by omega
      clear HR0 HX0 HSX hg3 hg2
      generalize oo ++ q1 = Q1 at hr0 hx0 hsx hg4 ⊢
      have HR0 := Lib.hid hr0
      have HX0 := Lib.hid hx0
      have HSX := Lib.hid hsx
      clear hr0 hx0 hsx
      go_cut [12] (fun s12 wx => LCut ((addsW ((w.alloc (.cells #[.int .i64 a, .int .i64 b, .slice a_ts ts.length cap_ts] 24)).alloc (.cells #[.int .i64 u, .int .i64 v] 51)) Q1 m1).alloc (.cells #[.int .i64 a, .int .i64 b, .slice (some ⟨g1, 0, none⟩) ts.length ts.length] 27)) (mbL a b ts x y u v) s12 wx)
      case first =>
        go_region_held3 (fun w' => w'.cell? ⟨w.heap.size + 1 + 1 + Q1.size, 0, none⟩ = some (.int .i64 a) ∧ w'.cell? ⟨w.heap.size + 1 + 1 + Q1.size, 1, none⟩ = some (.int .i64 b) ∧ w'.cell? ⟨w.heap.size + 1 + 1 + Q1.size, 2, none⟩ = some (.slice (some ⟨g1, 0, none⟩) ts.length ts.length) ∧ w'.cell? ⟨w.heap.size + 1, 0, none⟩ = some (.int .i64 u) ∧ w'.cell? ⟨w.heap.size + 1, 1, none⟩ = some (.int .i64 v)) (first | (go_simp; done) | (go_keep; done))
          (first | (go_at_call 35; refine (L_toVector _ _ _).mono ?_; rintro e w' ⟨rfl, hb⟩; obtain ⟨qv, mv, rfl⟩ := below_adds hb; clear hb) | (go_at_call 36; refine (I_MotionBlock a b _ _ _ _ _ _ ts _ (HX0.out.keep (by repeat' (first | (with_reducible exact Below.refl _ _) | (with_reducible refine Below.adds_ ?_ ?_ _ _) | (with_reducible refine Below.alloc ?_ ?_ _) | (with_reducible refine Below.drew ?_) | (with_reducible refine Below.setCell ?_ ?_ _) | (with_reducible assumption) | go_size | (simp only [size_addsW, World.size_alloc, World.size_drew, World.size_setCell]; omega)))) (by omega)).mono ?_; rintro e w' ⟨A5, c5, rfl, hr5, hA5, hs5, hb⟩; obtain ⟨q5, m5, rfl⟩ := below_adds hb; clear hb; (try simp only [adds_addsW, Array.append_assoc] at hr5 hs5); have HR5 := Lib.hid hr5; have HA5 := Lib.hid hA5; have HS5 := Lib.hid hs5; clear hr5 hA5 hs5))
        all_goals
          go_wp2_with fail
          go_meet
          exact ⟨A5, c5, _, _, rfl, by simp only [adds_addsW, Array.append_assoc], HR5.out, (fun d hd => by have := HA5.out d hd; simp [size_addsW] at this ⊢; omega), HS5.out⟩
      case rest =>
        obtain ⟨A1, c1, oo3, nn3, rfl, rfl, hr1, hA1, hs1⟩ := hcut
        have hA1' : ∀ d, A1 = some d → g1 < d.block := fun d hd => by
          have h1 := hA1 d hd
          simp [size_addsW] at h1
          omega
        have HR1 := Lib.hid hr1
        have HA1 := Lib.hid hA1'
        have HS1 := Lib.hid hs1
        clear hr1 hA1 hA1' hs1
        go_wp2_with (go_at_call 37; refine (L_eqIntS _ _ _ _ (mbL a b ts x y u v) _ (HR1.out.keep (by first | (with_reducible exact Below.refl _ _) | (with_reducible exact belw1 _ _ _ _ _) | (with_reducible exact belw2 _ _ _ _ _ _) | (with_reducible exact belw3 _ _ _ _ _ _ _) | (with_reducible exact belw4 _ _ _ _ _ _ _ _) | (with_reducible exact belw5 _ _ _ _ _ _ _ _ _) | (with_reducible exact belw6 _ _ _ _ _ _ _ _ _ _) | (simp only [← Array.append_assoc]; first | (with_reducible exact Below.refl _ _) | (with_reducible exact belw1 _ _ _ _ _) | (with_reducible exact belw2 _ _ _ _ _ _) | (with_reducible exact belw3 _ _ _ _ _ _ _) | (with_reducible exact belw4 _ _ _ _ _ _ _ _) | (with_reducible exact belw5 _ _ _ _ _ _ _ _ _) | (with_reducible exact belw6 _ _ _ _ _ _ _ _ _ _)) | ((repeat' (first | (with_reducible exact Below.refl _ _) | (with_reducible refine Below.adds_ ?_ ?_ _ _) | (with_reducible refine Below.alloc ?_ ?_ _) | (with_reducible refine Below.drew ?_) | (with_reducible refine Below.setCell ?_ ?_ _) | (with_reducible assumption) | go_size | (simp only [size_addsW, World.size_alloc, World.size_drew, World.size_setCell]; omega))); done))) (HR0.out.keep (by first | (with_reducible exact Below.refl _ _) | (with_reducible exact belw1 _ _ _ _ _) | (with_reducible exact belw2 _ _ _ _ _ _) | (with_reducible exact belw3 _ _ _ _ _ _ _) | (with_reducible exact belw4 _ _ _ _ _ _ _ _) | (with_reducible exact belw5 _ _ _ _ _ _ _ _ _) | (with_reducible exact belw6 _ _ _ _ _ _ _ _ _ _) | (simp only [← Array.append_assoc]; first | (with_reducible exact Below.refl _ _) | (with_reducible exact belw1 _ _ _ _ _) | (with_reducible exact belw2 _ _ _ _ _ _) | (with_reducible exact belw3 _ _ _ _ _ _ _) | (with_reducible exact belw4 _ _ _ _ _ _ _ _) | (with_reducible exact belw5 _ _ _ _ _ _ _ _ _) | (with_reducible exact belw6 _ _ _ _ _ _ _ _ _ _)) | ((repeat' (first | (with_reducible exact Below.refl _ _) | (with_reducible refine Below.adds_ ?_ ?_ _ _) | (with_reducible refine Below.alloc ?_ ?_ _) | (with_reducible refine Below.drew ?_) | (with_reducible refine Below.setCell ?_ ?_ _) | (with_reducible assumption) | go_size | (simp only [size_addsW, World.size_alloc, World.size_drew, World.size_setCell]; omega))); done))) (by omega)).mono ?_; rintro e w' ⟨rfl, hb⟩; obtain ⟨o1, n1, rfl⟩ := below_adds hb; clear hb)
        go_region_held3 (fun w' => w'.cell? ⟨w.heap.size + 1 + 1 + Q1.size, 0, none⟩ = some (.int .i64 a) ∧ w'.cell? ⟨w.heap.size + 1 + 1 + Q1.size, 1, none⟩ = some (.int .i64 b) ∧ w'.cell? ⟨w.heap.size + 1 + 1 + Q1.size, 2, none⟩ = some (.slice (some ⟨g1, 0, none⟩) ts.length ts.length) ∧ w'.cell? ⟨w.heap.size, 0, none⟩ = some (.int .i64 a) ∧ w'.cell? ⟨w.heap.size, 1, none⟩ = some (.int .i64 b) ∧ w'.cell? ⟨w.heap.size, 2, none⟩ = some (.slice a_ts ts.length cap_ts)) (first | (go_simp; done) | (go_keep; done))
          (first | (go_at_call 17; (with_reducible refine (L_toPicture a b _ _ ts _ (HR.out.keep (by repeat' (first | (with_reducible exact Below.refl _ _) | (with_reducible refine Below.adds_ ?_ ?_ _ _) | (with_reducible refine Below.alloc ?_ ?_ _) | (with_reducible refine Below.drew ?_) | (with_reducible refine Below.setCell ?_ ?_ _) | (with_reducible assumption) | go_size | (simp only [size_addsW, World.size_alloc, World.size_drew, World.size_setCell]; omega)))) (by omega)).mono ?_); rintro e w' ⟨g3, rfl, hrb, -, hb⟩; obtain ⟨q3, m3, rfl⟩ := below_adds hb; clear hb; (try simp only [adds_addsW, Array.append_assoc] at hrb); have HP3 := Lib.hid hrb; clear hrb) | (go_at_call 19; refine (L_eqPicture a b _ _ _ _ ts _ (HX0.out.keep (by repeat' (first | (with_reducible exact Below.refl _ _) | (with_reducible refine Below.adds_ ?_ ?_ _ _) | (with_reducible refine Below.alloc ?_ ?_ _) | (with_reducible refine Below.drew ?_) | (with_reducible refine Below.setCell ?_ ?_ _) | (with_reducible assumption) | go_size | (simp only [size_addsW, World.size_alloc, World.size_drew, World.size_setCell]; omega)))) (HP3.out.keep (by first | (with_reducible exact Below.refl _ _) | (with_reducible exact belw1 _ _ _ _ _) | (with_reducible exact belw2 _ _ _ _ _ _) | (with_reducible exact belw3 _ _ _ _ _ _ _) | (with_reducible exact belw4 _ _ _ _ _ _ _ _) | (with_reducible exact belw5 _ _ _ _ _ _ _ _ _) | (with_reducible exact belw6 _ _ _ _ _ _ _ _ _ _) | (simp only [← Array.append_assoc]; first | (with_reducible exact Below.refl _ _) | (with_reducible exact belw1 _ _ _ _ _) | (with_reducible exact belw2 _ _ _ _ _ _) | (with_reducible exact belw3 _ _ _ _ _ _ _) | (with_reducible exact belw4 _ _ _ _ _ _ _ _) | (with_reducible exact belw5 _ _ _ _ _ _ _ _ _) | (with_reducible exact belw6 _ _ _ _ _ _ _ _ _ _)) | ((repeat' (first | (with_reducible exact Below.refl _ _) | (with_reducible refine Below.adds_ ?_ ?_ _ _) | (with_reducible refine Below.alloc ?_ ?_ _) | (with_reducible refine Below.drew ?_) | (with_reducible refine Below.setCell ?_ ?_ _) | (with_reducible assumption) | go_size | (simp only [size_addsW, World.size_alloc, World.size_drew, World.size_setCell]; omega))); done))) (by omega)).mono ?_; rintro e w' ⟨rfl, hb⟩; obtain ⟨q7, m7, rfl⟩ := below_adds hb; clear hb))
        all_goals
          go_wp2_with fail
          refine (L_markPicture a b _ _ ts _ _ (HX0.out.keep (by repeat' (first | (with_reducible exact Below.refl _ _) | (with_reducible refine Below.adds_ ?_ ?_ _ _) | (with_reducible refine Below.alloc ?_ ?_ _) | (with_reducible refine Below.drew ?_) | (with_reducible refine Below.setCell ?_ ?_ _) | (with_reducible assumption) | go_size | (simp only [size_addsW, World.size_alloc, World.size_drew, World.size_setCell]; omega)))) (HSX.out.keep (by repeat' (first | (with_reducible exact Below.refl _ _) | (with_reducible refine Below.adds_ ?_ ?_ _ _) | (with_reducible refine Below.alloc ?_ ?_ _) | (with_reducible refine Below.drew ?_) | (with_reducible refine Below.setCell ?_ ?_ _) | (with_reducible assumption) | go_size | (simp only [size_addsW, World.size_alloc, World.size_drew, World.size_setCell]; omega)))) (fun d hd => by cases hd; simp [size_addsW]; omega) (by omega) (by omega)).mono ?_
          rintro e w' ⟨rfl, wa, hba, hma, -, -⟩
          have hb2 : Below ((w.alloc (.cells #[.int .i64 a, .int .i64 b, .slice a_ts ts.length cap_ts] 24)).alloc (.cells #[.int .i64 u, .int .i64 v] 51)).heap.size ((w.alloc (.cells #[.int .i64 a, .int .i64 b, .slice a_ts ts.length cap_ts] 24)).alloc (.cells #[.int .i64 u, .int .i64 v] 51)) w' := Below.trans (Below.trans (by repeat' (first | (with_reducible exact Below.refl _ _) | (with_reducible refine Below.adds_ ?_ ?_ _ _) | (with_reducible refine Below.alloc ?_ ?_ _) | (with_reducible refine Below.drew ?_) | (with_reducible refine Below.setCell ?_ ?_ _) | (with_reducible assumption) | go_size | (simp only [size_addsW, World.size_alloc, World.size_drew, World.size_setCell]; omega))) (hba.mono (by simp [size_addsW]; omega))) (hma.below (fun d hd => by cases hd; simp; omega))
          have hr0 := hma.row ((HR0.out.keep (by first | (with_reducible exact Below.refl _ _) | (with_reducible exact belw1 _ _ _ _ _) | (with_reducible exact belw2 _ _ _ _ _ _) | (with_reducible exact belw3 _ _ _ _ _ _ _) | (with_reducible exact belw4 _ _ _ _ _ _ _ _) | (with_reducible exact belw5 _ _ _ _ _ _ _ _ _) | (with_reducible exact belw6 _ _ _ _ _ _ _ _ _ _) | (simp only [← Array.append_assoc]; first | (with_reducible exact Below.refl _ _) | (with_reducible exact belw1 _ _ _ _ _) | (with_reducible exact belw2 _ _ _ _ _ _) | (with_reducible exact belw3 _ _ _ _ _ _ _) | (with_reducible exact belw4 _ _ _ _ _ _ _ _) | (with_reducible exact belw5 _ _ _ _ _ _ _ _ _) | (with_reducible exact belw6 _ _ _ _ _ _ _ _ _ _)) | ((repeat' (first | (with_reducible exact Below.refl _ _) | (with_reducible refine Below.adds_ ?_ ?_ _ _) | (with_reducible refine Below.alloc ?_ ?_ _) | (with_reducible refine Below.drew ?_) | (with_reducible refine Below.setCell ?_ ?_ _) | (with_reducible assumption) | go_size | (simp only [size_addsW, World.size_alloc, World.size_drew, World.size_setCell]; omega))); done))).keep hba) (fun d d' h1 h2 => by cases h1; have := HA0.out d' h2; show d'.block ≠ g1; omega)
          have hr1 := hma.row ((HR1.out.keep (by first | (with_reducible exact Below.refl _ _) | (with_reducible exact belw1 _ _ _ _ _) | (with_reducible exact belw2 _ _ _ _ _ _) | (with_reducible exact belw3 _ _ _ _ _ _ _) | (with_reducible exact belw4 _ _ _ _ _ _ _ _) | (with_reducible exact belw5 _ _ _ _ _ _ _ _ _) | (with_reducible exact belw6 _ _ _ _ _ _ _ _ _ _) | (simp only [← Array.append_assoc]; first | (with_reducible exact Below.refl _ _) | (with_reducible exact belw1 _ _ _ _ _) | (with_reducible exact belw2 _ _ _ _ _ _) | (with_reducible exact belw3 _ _ _ _ _ _ _) | (with_reducible exact belw4 _ _ _ _ _ _ _ _) | (with_reducible exact belw5 _ _ _ _ _ _ _ _ _) | (with_reducible exact belw6 _ _ _ _ _ _ _ _ _ _)) | ((repeat' (first | (with_reducible exact Below.refl _ _) | (with_reducible refine Below.adds_ ?_ ?_ _ _) | (with_reducible refine Below.alloc ?_ ?_ _) | (with_reducible refine Below.drew ?_) | (with_reducible refine Below.setCell ?_ ?_ _) | (with_reducible assumption) | go_size | (simp only [size_addsW, World.size_alloc, World.size_drew, World.size_setCell]; omega))); done))).keep hba) (fun d d' h1 h2 => by cases h1; have := HA1.out d' h2; show d'.block ≠ g1; omega)
          have hs1 := hma.soft ((HS1.out.keep (by first | (with_reducible exact Below.refl _ _) | (with_reducible exact belw1 _ _ _ _ _) | (with_reducible exact belw2 _ _ _ _ _ _) | (with_reducible exact belw3 _ _ _ _ _ _ _) | (with_reducible exact belw4 _ _ _ _ _ _ _ _) | (with_reducible exact belw5 _ _ _ _ _ _ _ _ _) | (with_reducible exact belw6 _ _ _ _ _ _ _ _ _ _) | (simp only [← Array.append_assoc]; first | (with_reducible exact Below.refl _ _) | (with_reducible exact belw1 _ _ _ _ _) | (with_reducible exact belw2 _ _ _ _ _ _) | (with_reducible exact belw3 _ _ _ _ _ _ _) | (with_reducible exact belw4 _ _ _ _ _ _ _ _) | (with_reducible exact belw5 _ _ _ _ _ _ _ _ _) | (with_reducible exact belw6 _ _ _ _ _ _ _ _ _ _)) | ((repeat' (first | (with_reducible exact Below.refl _ _) | (with_reducible refine Below.adds_ ?_ ?_ _ _) | (with_reducible refine Below.alloc ?_ ?_ _) | (with_reducible refine Below.drew ?_) | (with_reducible refine Below.setCell ?_ ?_ _) | (with_reducible assumption) | go_size | (simp only [size_addsW, World.size_alloc, World.size_drew, World.size_setCell]; omega))); done))).keep hba) (fun d d' h1 h2 => by cases h1; have := HA1.out d' h2; show d'.block ≠ g1; omega)
          clear HR0 HR1 HS1 HX0 HSX hba hma
          obtain ⟨om, nm, rfl⟩ := below_adds hb2
          clear hb2
          have HR0 := Lib.hid hr0
          have HR1 := Lib.hid hr1
          have HS1 := Lib.hid hs1
          clear hr0 hr1 hs1
          go_wp2_with (go_at_call 37; refine (L_eqIntS _ _ _ _ (mbL a b ts x y u v) _ (HR1.out.keep (by first | (with_reducible exact Below.refl _ _) | (with_reducible exact belw1 _ _ _ _ _) | (with_reducible exact belw2 _ _ _ _ _ _) | (with_reducible exact belw3 _ _ _ _ _ _ _) | (with_reducible exact belw4 _ _ _ _ _ _ _ _) | (with_reducible exact belw5 _ _ _ _ _ _ _ _ _) | (with_reducible exact belw6 _ _ _ _ _ _ _ _ _ _) | (simp only [← Array.append_assoc]; first | (with_reducible exact Below.refl _ _) | (with_reducible exact belw1 _ _ _ _ _) | (with_reducible exact belw2 _ _ _ _ _ _) | (with_reducible exact belw3 _ _ _ _ _ _ _) | (with_reducible exact belw4 _ _ _ _ _ _ _ _) | (with_reducible exact belw5 _ _ _ _ _ _ _ _ _) | (with_reducible exact belw6 _ _ _ _ _ _ _ _ _ _)) | ((repeat' (first | (with_reducible exact Below.refl _ _) | (with_reducible refine Below.adds_ ?_ ?_ _ _) | (with_reducible refine Below.alloc ?_ ?_ _) | (with_reducible refine Below.drew ?_) | (with_reducible refine Below.setCell ?_ ?_ _) | (with_reducible assumption) | go_size | (simp only [size_addsW, World.size_alloc, World.size_drew, World.size_setCell]; omega))); done))) (HR0.out.keep (by first | (with_reducible exact Below.refl _ _) | (with_reducible exact belw1 _ _ _ _ _) | (with_reducible exact belw2 _ _ _ _ _ _) | (with_reducible exact belw3 _ _ _ _ _ _ _) | (with_reducible exact belw4 _ _ _ _ _ _ _ _) | (with_reducible exact belw5 _ _ _ _ _ _ _ _ _) | (with_reducible exact belw6 _ _ _ _ _ _ _ _ _ _) | (simp only [← Array.append_assoc]; first | (with_reducible exact Below.refl _ _) | (with_reducible exact belw1 _ _ _ _ _) | (with_reducible exact belw2 _ _ _ _ _ _) | (with_reducible exact belw3 _ _ _ _ _ _ _) | (with_reducible exact belw4 _ _ _ _ _ _ _ _) | (with_reducible exact belw5 _ _ _ _ _ _ _ _ _) | (with_reducible exact belw6 _ _ _ _ _ _ _ _ _ _)) | ((repeat' (first | (with_reducible exact Below.refl _ _) | (with_reducible refine Below.adds_ ?_ ?_ _ _) | (with_reducible refine Below.alloc ?_ ?_ _) | (with_reducible refine Below.drew ?_) | (with_reducible refine Below.setCell ?_ ?_ _) | (with_reducible assumption) | go_size | (simp only [size_addsW, World.size_alloc, World.size_drew, World.size_setCell]; omega))); done))) (by omega)).mono ?_; rintro e w' ⟨rfl, hb⟩; obtain ⟨o1, n1, rfl⟩ := below_adds hb; clear hb)
          refine (L_markIntS _ _ (mbL a b ts x y u v) _ _ (HR1.out.keep (by first | (with_reducible exact Below.refl _ _) | (with_reducible exact belw1 _ _ _ _ _) | (with_reducible exact belw2 _ _ _ _ _ _) | (with_reducible exact belw3 _ _ _ _ _ _ _) | (with_reducible exact belw4 _ _ _ _ _ _ _ _) | (with_reducible exact belw5 _ _ _ _ _ _ _ _ _) | (with_reducible exact belw6 _ _ _ _ _ _ _ _ _ _) | (simp only [← Array.append_assoc]; first | (with_reducible exact Below.refl _ _) | (with_reducible exact belw1 _ _ _ _ _) | (with_reducible exact belw2 _ _ _ _ _ _) | (with_reducible exact belw3 _ _ _ _ _ _ _) | (with_reducible exact belw4 _ _ _ _ _ _ _ _) | (with_reducible exact belw5 _ _ _ _ _ _ _ _ _) | (with_reducible exact belw6 _ _ _ _ _ _ _ _ _ _)) | ((repeat' (first | (with_reducible exact Below.refl _ _) | (with_reducible refine Below.adds_ ?_ ?_ _ _) | (with_reducible refine Below.alloc ?_ ?_ _) | (with_reducible refine Below.drew ?_) | (with_reducible refine Below.setCell ?_ ?_ _) | (with_reducible assumption) | go_size | (simp only [size_addsW, World.size_alloc, World.size_drew, World.size_setCell]; omega))); done))) (HS1.out.keep (by first | (with_reducible exact Below.refl _ _) | (with_reducible exact belw1 _ _ _ _ _) | (with_reducible exact belw2 _ _ _ _ _ _) | (with_reducible exact belw3 _ _ _ _ _ _ _) | (with_reducible exact belw4 _ _ _ _ _ _ _ _) | (with_reducible exact belw5 _ _ _ _ _ _ _ _ _) | (with_reducible exact belw6 _ _ _ _ _ _ _ _ _ _) | (simp only [← Array.append_assoc]; first | (with_reducible exact Below.refl _ _) | (with_reducible exact belw1 _ _ _ _ _) | (with_reducible exact belw2 _ _ _ _ _ _) | (with_reducible exact belw3 _ _ _ _ _ _ _) | (with_reducible exact belw4 _ _ _ _ _ _ _ _) | (with_reducible exact belw5 _ _ _ _ _ _ _ _ _) | (with_reducible exact belw6 _ _ _ _ _ _ _ _ _ _)) | ((repeat' (first | (with_reducible exact Below.refl _ _) | (with_reducible refine Below.adds_ ?_ ?_ _ _) | (with_reducible refine Below.alloc ?_ ?_ _) | (with_reducible refine Below.drew ?_) | (with_reducible refine Below.setCell ?_ ?_ _) | (with_reducible assumption) | go_size | (simp only [size_addsW, World.size_alloc, World.size_drew, World.size_setCell]; omega))); done))) (by omega) (by omega)).mono ?_
          rintro e w' ⟨rfl, hma, hr1, -⟩
          have hb2 : Below ((w.alloc (.cells #[.int .i64 a, .int .i64 b, .slice a_ts ts.length cap_ts] 24)).alloc (.cells #[.int .i64 u, .int .i64 v] 51)).heap.size ((w.alloc (.cells #[.int .i64 a, .int .i64 b, .slice a_ts ts.length cap_ts] 24)).alloc (.cells #[.int .i64 u, .int .i64 v] 51)) w' := Below.trans (by repeat' (first | (with_reducible exact Below.refl _ _) | (with_reducible refine Below.adds_ ?_ ?_ _ _) | (with_reducible refine Below.alloc ?_ ?_ _) | (with_reducible refine Below.drew ?_) | (with_reducible refine Below.setCell ?_ ?_ _) | (with_reducible assumption) | go_size | (simp only [size_addsW, World.size_alloc, World.size_drew, World.size_setCell]; omega))) (hma.below (fun d hd => by have := HA1.out d hd; simp; omega))
          have hr0 := hma.row (HR0.out.keep (by first | (with_reducible exact Below.refl _ _) | (with_reducible exact belw1 _ _ _ _ _) | (with_reducible exact belw2 _ _ _ _ _ _) | (with_reducible exact belw3 _ _ _ _ _ _ _) | (with_reducible exact belw4 _ _ _ _ _ _ _ _) | (with_reducible exact belw5 _ _ _ _ _ _ _ _ _) | (with_reducible exact belw6 _ _ _ _ _ _ _ _ _ _) | (simp only [← Array.append_assoc]; first | (with_reducible exact Below.refl _ _) | (with_reducible exact belw1 _ _ _ _ _) | (with_reducible exact belw2 _ _ _ _ _ _) | (with_reducible exact belw3 _ _ _ _ _ _ _) | (with_reducible exact belw4 _ _ _ _ _ _ _ _) | (with_reducible exact belw5 _ _ _ _ _ _ _ _ _) | (with_reducible exact belw6 _ _ _ _ _ _ _ _ _ _)) | ((repeat' (first | (with_reducible exact Below.refl _ _) | (with_reducible refine Below.adds_ ?_ ?_ _ _) | (with_reducible refine Below.alloc ?_ ?_ _) | (with_reducible refine Below.drew ?_) | (with_reducible refine Below.setCell ?_ ?_ _) | (with_reducible assumption) | go_size | (simp only [size_addsW, World.size_alloc, World.size_drew, World.size_setCell]; omega))); done))) (fun d d' h1 h2 => by have e1 := HA1.out d h1; have e2 := HA0.out d' h2; omega)
          clear HR0 HR1 HS1 hma
          obtain ⟨om2, nm2, rfl⟩ := below_adds hb2
          clear hb2
          have HR0 := Lib.hid hr0
          have HR1 := Lib.hid hr1
          clear hr0 hr1
          go_wp2_with (go_at_call 40; refine (L_heldIntS _ _ _ _ _ (HR1.out.keep (by first | (with_reducible exact Below.refl _ _) | (with_reducible exact belw1 _ _ _ _ _) | (with_reducible exact belw2 _ _ _ _ _ _) | (with_reducible exact belw3 _ _ _ _ _ _ _) | (with_reducible exact belw4 _ _ _ _ _ _ _ _) | (with_reducible exact belw5 _ _ _ _ _ _ _ _ _) | (with_reducible exact belw6 _ _ _ _ _ _ _ _ _ _) | (simp only [← Array.append_assoc]; first | (with_reducible exact Below.refl _ _) | (with_reducible exact belw1 _ _ _ _ _) | (with_reducible exact belw2 _ _ _ _ _ _) | (with_reducible exact belw3 _ _ _ _ _ _ _) | (with_reducible exact belw4 _ _ _ _ _ _ _ _) | (with_reducible exact belw5 _ _ _ _ _ _ _ _ _) | (with_reducible exact belw6 _ _ _ _ _ _ _ _ _ _)) | ((repeat' (first | (with_reducible exact Below.refl _ _) | (with_reducible refine Below.adds_ ?_ ?_ _ _) | (with_reducible refine Below.alloc ?_ ?_ _) | (with_reducible refine Below.drew ?_) | (with_reducible refine Below.setCell ?_ ?_ _) | (with_reducible assumption) | go_size | (simp only [size_addsW, World.size_alloc, World.size_drew, World.size_setCell]; omega))); done))) (by omega) (by omega)).mono ?_; rintro e w' ⟨rfl, hb⟩; obtain ⟨o1, n1, rfl⟩ := below_adds hb; clear hb)
          go_region_held3 (fun w' => w'.cell? ⟨w.heap.size, 0, none⟩ = some (.int .i64 a) ∧ w'.cell? ⟨w.heap.size, 1, none⟩ = some (.int .i64 b) ∧ w'.cell? ⟨w.heap.size, 2, none⟩ = some (.slice a_ts ts.length cap_ts) ∧ w'.cell? ⟨w.heap.size + 1, 0, none⟩ = some (.int .i64 u) ∧ w'.cell? ⟨w.heap.size + 1, 1, none⟩ = some (.int .i64 v)) (first | (go_simp; done) | (go_keep; done))
            (first | (go_at_call 17; (with_reducible refine (L_toPicture a b _ _ ts _ (HR.out.keep (by repeat' (first | (with_reducible exact Below.refl _ _) | (with_reducible refine Below.adds_ ?_ ?_ _ _) | (with_reducible refine Below.alloc ?_ ?_ _) | (with_reducible refine Below.drew ?_) | (with_reducible refine Below.setCell ?_ ?_ _) | (with_reducible assumption) | go_size | (simp only [size_addsW, World.size_alloc, World.size_drew, World.size_setCell]; omega)))) (by omega)).mono ?_); rintro e w' ⟨g3, rfl, hrb, -, hb⟩; obtain ⟨q3, m3, rfl⟩ := below_adds hb; clear hb; (try simp only [adds_addsW, Array.append_assoc] at hrb); have HP3 := Lib.hid hrb; clear hrb) | (go_at_call 35; refine (L_toVector _ _ _).mono ?_; rintro e w' ⟨rfl, hb⟩; obtain ⟨qv, mv, rfl⟩ := below_adds hb; clear hb) | (go_at_call 36; refine (I_MotionBlock a b _ _ _ _ _ _ ts _ (HP3.out.keep (by first | (with_reducible exact Below.refl _ _) | (with_reducible exact belw1 _ _ _ _ _) | (with_reducible exact belw2 _ _ _ _ _ _) | (with_reducible exact belw3 _ _ _ _ _ _ _) | (with_reducible exact belw4 _ _ _ _ _ _ _ _) | (with_reducible exact belw5 _ _ _ _ _ _ _ _ _) | (with_reducible exact belw6 _ _ _ _ _ _ _ _ _ _) | (simp only [← Array.append_assoc]; first | (with_reducible exact Below.refl _ _) | (with_reducible exact belw1 _ _ _ _ _) | (with_reducible exact belw2 _ _ _ _ _ _) | (with_reducible exact belw3 _ _ _ _ _ _ _) | (with_reducible exact belw4 _ _ _ _ _ _ _ _) | (with_reducible exact belw5 _ _ _ _ _ _ _ _ _) | (with_reducible exact belw6 _ _ _ _ _ _ _ _ _ _)) | ((repeat' (first | (with_reducible exact Below.refl _ _) | (with_reducible refine Below.adds_ ?_ ?_ _ _) | (with_reducible refine Below.alloc ?_ ?_ _) | (with_reducible refine Below.drew ?_) | (with_reducible refine Below.setCell ?_ ?_ _) | (with_reducible assumption) | go_size | (simp only [size_addsW, World.size_alloc, World.size_drew, World.size_setCell]; omega))); done))) (by omega)).mono ?_; rintro e w' ⟨A5, c5, rfl, hr5, hA5, hs5, hb⟩; obtain ⟨q5, m5, rfl⟩ := below_adds hb; clear hb; (try simp only [adds_addsW, Array.append_assoc] at hr5 hs5); have HR5 := Lib.hid hr5; have HA5 := Lib.hid hA5; have HS5 := Lib.hid hs5; clear hr5 hA5 hs5))
          all_goals
            go_wp2_with (first | (go_at_call 37; refine (L_eqIntS _ _ _ _ (mbL a b ts x y u v) _ (HR5.out.keep (by first | (with_reducible exact Below.refl _ _) | (with_reducible exact belw1 _ _ _ _ _) | (with_reducible exact belw2 _ _ _ _ _ _) | (with_reducible exact belw3 _ _ _ _ _ _ _) | (with_reducible exact belw4 _ _ _ _ _ _ _ _) | (with_reducible exact belw5 _ _ _ _ _ _ _ _ _) | (with_reducible exact belw6 _ _ _ _ _ _ _ _ _ _) | (simp only [← Array.append_assoc]; first | (with_reducible exact Below.refl _ _) | (with_reducible exact belw1 _ _ _ _ _) | (with_reducible exact belw2 _ _ _ _ _ _) | (with_reducible exact belw3 _ _ _ _ _ _ _) | (with_reducible exact belw4 _ _ _ _ _ _ _ _) | (with_reducible exact belw5 _ _ _ _ _ _ _ _ _) | (with_reducible exact belw6 _ _ _ _ _ _ _ _ _ _)) | ((repeat' (first | (with_reducible exact Below.refl _ _) | (with_reducible refine Below.adds_ ?_ ?_ _ _) | (with_reducible refine Below.alloc ?_ ?_ _) | (with_reducible refine Below.drew ?_) | (with_reducible refine Below.setCell ?_ ?_ _) | (with_reducible assumption) | go_size | (simp only [size_addsW, World.size_alloc, World.size_drew, World.size_setCell]; omega))); done))) (HR0.out.keep (by first | (with_reducible exact Below.refl _ _) | (with_reducible exact belw1 _ _ _ _ _) | (with_reducible exact belw2 _ _ _ _ _ _) | (with_reducible exact belw3 _ _ _ _ _ _ _) | (with_reducible exact belw4 _ _ _ _ _ _ _ _) | (with_reducible exact belw5 _ _ _ _ _ _ _ _ _) | (with_reducible exact belw6 _ _ _ _ _ _ _ _ _ _) | (simp only [← Array.append_assoc]; first | (with_reducible exact Below.refl _ _) | (with_reducible exact belw1 _ _ _ _ _) | (with_reducible exact belw2 _ _ _ _ _ _) | (with_reducible exact belw3 _ _ _ _ _ _ _) | (with_reducible exact belw4 _ _ _ _ _ _ _ _) | (with_reducible exact belw5 _ _ _ _ _ _ _ _ _) | (with_reducible exact belw6 _ _ _ _ _ _ _ _ _ _)) | ((repeat' (first | (with_reducible exact Below.refl _ _) | (with_reducible refine Below.adds_ ?_ ?_ _ _) | (with_reducible refine Below.alloc ?_ ?_ _) | (with_reducible refine Below.drew ?_) | (with_reducible refine Below.setCell ?_ ?_ _) | (with_reducible assumption) | go_size | (simp only [size_addsW, World.size_alloc, World.size_drew, World.size_setCell]; omega))); done))) (by omega)).mono ?_; rintro e w' ⟨rfl, hb⟩; obtain ⟨o1, n1, rfl⟩ := below_adds hb; clear hb) | (go_at_call 40; refine (L_heldIntS _ _ _ _ _ (HR1.out.keep (by first | (with_reducible exact Below.refl _ _) | (with_reducible exact belw1 _ _ _ _ _) | (with_reducible exact belw2 _ _ _ _ _ _) | (with_reducible exact belw3 _ _ _ _ _ _ _) | (with_reducible exact belw4 _ _ _ _ _ _ _ _) | (with_reducible exact belw5 _ _ _ _ _ _ _ _ _) | (with_reducible exact belw6 _ _ _ _ _ _ _ _ _ _) | (simp only [← Array.append_assoc]; first | (with_reducible exact Below.refl _ _) | (with_reducible exact belw1 _ _ _ _ _) | (with_reducible exact belw2 _ _ _ _ _ _) | (with_reducible exact belw3 _ _ _ _ _ _ _) | (with_reducible exact belw4 _ _ _ _ _ _ _ _) | (with_reducible exact belw5 _ _ _ _ _ _ _ _ _) | (with_reducible exact belw6 _ _ _ _ _ _ _ _ _ _)) | ((repeat' (first | (with_reducible exact Below.refl _ _) | (with_reducible refine Below.adds_ ?_ ?_ _ _) | (with_reducible refine Below.alloc ?_ ?_ _) | (with_reducible refine Below.drew ?_) | (with_reducible refine Below.setCell ?_ ?_ _) | (with_reducible assumption) | go_size | (simp only [size_addsW, World.size_alloc, World.size_drew, World.size_setCell]; omega))); done))) (by omega) (by omega)).mono ?_; rintro e w' ⟨rfl, hb⟩; obtain ⟨o1, n1, rfl⟩ := below_adds hb; clear hb))
            go_returns
            exact ⟨rfl, (by repeat' (first | (with_reducible exact Below.refl _ _) | (with_reducible refine Below.adds_ ?_ ?_ _ _) | (with_reducible refine Below.alloc ?_ ?_ _) | (with_reducible refine Below.drew ?_) | (with_reducible refine Below.setCell ?_ ?_ _) | (with_reducible assumption) | go_size | (simp only [size_addsW, World.size_alloc, World.size_drew, World.size_setCell]; omega)))⟩

set_option maxRecDepth 100000 in
theorem lifted (os : Os) (started : os.Started) (H : Type) (enc : TypeId × Value → H) :
    ReturnsInHanded {} Try.checked os 8 .any (Rows.fnExactMotionBlockSpec.pre6 enc Try.prog Try.f8 Rows.fnExactMotionBlockRow.domain false) (Rows.fnExactMotionBlockSpec.post enc Try.prog Try.f8 false true false false) := by
  refine returnsInHanded_of_change (C := Try.checked) own started (by kernel_rfl) Try.func8
    (ChangeSpec.witness6 (enc := enc) (C := Try.checked) false ⟨#[], #[.agg #[.int .i64 0, .int .i64 0, .slice none 0 0], .int .i64 0, .int .i64 0, .agg #[.int .i64 0, .int .i64 0]], []⟩ 8 (by kernel_rfl) (by kernel_rfl) (by kernel_rfl) (by kernel_rfl)) ?_
  intro W base args ds gs before hval0 hW hcnd _
  have hval : ∀ (j : Nat) t v, Try.f8.params[j]? = some t → args[j]? = some v → Value.okWide Try.prog W .any base t v := hval0
  have hW' := hW
  obtain ⟨p, q, hA0, hV, rfl, hfz, hnd⟩ := hW
  have hA : DataW.TrodAll enc Try.prog W 0 (fun _ => true) true Try.f8.params.toList args.toList ds p := hA0
  rw [Try.params8] at hA hval
  obtain ⟨v0, vs0, d0, ds0, p0, q0, hargs, rfl, rfl, h0, r0⟩ := trodAll_cons hA
  obtain ⟨v1, vs1, d1, ds1, p1, q1, rfl, rfl, rfl, h1, r1⟩ := trodAll_cons r0
  obtain ⟨v2, vs2, d2, ds2, p2, q2, rfl, rfl, rfl, h2, r2⟩ := trodAll_cons r1
  obtain ⟨v3, vs3, d3, ds3, p3, q3, rfl, rfl, rfl, h3, r3⟩ := trodAll_cons r2
  obtain ⟨rfl, rfl, rfl⟩ := trodAll_nil r3
  obtain rfl : args = #[v0, v1, v2, v3] := by cases args; simp_all
  obtain ⟨rfl, rfl⟩ := trodVars_none hV
  have k0 := h0
  have lt0 : ∀ x ∈ p0, x.block < W.heap.size := by obtain ⟨m, hm⟩ := k0; exact DataW.trod_lt m _ _ _ hm
  have k1 := h1
  have lt1 : ∀ x ∈ p1, x.block < W.heap.size := by obtain ⟨m, hm⟩ := k1; exact DataW.trod_lt m _ _ _ hm
  have k2 := h2
  have lt2 : ∀ x ∈ p2, x.block < W.heap.size := by obtain ⟨m, hm⟩ := k2; exact DataW.trod_lt m _ _ _ hm
  have k3 := h3
  have lt3 : ∀ x ∈ p3, x.block < W.heap.size := by obtain ⟨m, hm⟩ := k3; exact DataW.trod_lt m _ _ _ hm
  obtain ⟨c00, c01, c02, y00, y01, y02, m0, rfl, -, -, hy00, hy01, hy02⟩ := Joins.open_agg3 Try.underlying24 (by kernel_rfl) (by kernel_rfl) (hval 0 24 v0 rfl rfl) h0
  obtain ⟨a, e_a, -, w_a⟩ := DataW.trod_int Try.underlying3 hy00
  simp only [List.cons.injEq, and_true] at e_a
  subst e_a
  obtain ⟨b, e_b, -, w_b⟩ := DataW.trod_int Try.underlying3 hy01
  simp only [List.cons.injEq, and_true] at e_b
  subst e_b
  obtain ⟨a_ts0, len_ts0, cap_ts0, ts0, e_ts0, w_ts0⟩ : ∃ a l c zs, c02 = .slice a l c ∧ IsRow .i64 W a l c zs := by
    rcases open_ints Try.underlying22 Try.underlying3 (by kernel_rfl) hy02 with ⟨hcs, _⟩ | ⟨x, l, c, zs, hcs, _, hl, hm, hz, _, hcell, hwz⟩
    · simp only [List.cons.injEq, and_true] at hcs; exact ⟨none, 0, 0, [], hcs, .inl ⟨rfl, rfl, rfl, rfl⟩⟩
    · simp only [List.cons.injEq, and_true] at hcs; exact ⟨some x, l, c, zs, hcs, .inr ⟨x, rfl, hl, hm, by simpa using hz, hcell, hwz⟩⟩
  subst e_ts0
  obtain ⟨x, rfl, -, -, w_x⟩ := open_int Try.underlying3 (hval 1 3 v1 rfl rfl) h1
  obtain ⟨y, rfl, -, -, w_y⟩ := open_int Try.underlying3 (hval 2 3 v2 rfl rfl) h2
  obtain ⟨c30, c31, y30, y31, m3, rfl, -, -, hy30, hy31⟩ := Joins.open_agg2 Try.underlying51 (by kernel_rfl) (by kernel_rfl) (hval 3 51 v3 rfl rfl) h3
  obtain ⟨u, e_u, -, w_u⟩ := DataW.trod_int Try.underlying3 hy30
  simp only [List.cons.injEq, and_true] at e_u
  subst e_u
  obtain ⟨v, e_v, -, w_v⟩ := DataW.trod_int Try.underlying3 hy31
  simp only [List.cons.injEq, and_true] at e_v
  subst e_v
  clear hA0 hval0
  refine (walk a b a_ts0 len_ts0 cap_ts0 ts0 x y u v W w_a w_b w_ts0 w_x w_y w_u w_v).mono fun e W' ⟨he, bel⟩ => ?_
  subst he
  exact ⟨_, rfl, _, _, _, [], _, [], hW', trodAll_mk1 (shut_bool Try.underlying4 _), (trodAll_cons_mk (Below.trod laidOut (by kernel_rfl) (of_decide_eq_true (by kernel_rfl)) k0 bel lt0) (trodAll_cons_mk (Below.trod laidOut (by kernel_rfl) (of_decide_eq_true (by kernel_rfl)) k1 bel lt1) (trodAll_cons_mk (Below.trod laidOut (by kernel_rfl) (of_decide_eq_true (by kernel_rfl)) k2 bel lt2) (trodAll_cons_mk (Below.trod laidOut (by kernel_rfl) (of_decide_eq_true (by kernel_rfl)) k3 bel lt3) trodAll_mk0)))), rfl, bel.frame _, fun h => by cases h⟩

theorem over : Rows.fnExactMotionBlockRow.holds Try.pinned (OpenSpec.ofChange Rows.fnExactMotionBlockSpec) :=
  OpenClaim.holds_of_wide 8 Try.f8 rfl rfl rfl rfl rfl rfl rfl ⟨rfl, rfl, rfl, rfl, rfl⟩ rfl rfl rfl rfl rfl (by kernel_rfl) Try.func8 (by kernel_rfl)
    (of_decide_eq_true (by kernel_rfl)) (by unfold Func.isWrapper; first | (rw [if_pos (by decide +kernel)]; kernel_rfl) | (rw [if_neg (by decide +kernel)]; exact ⟨rfl, rfl⟩))
    (fun os started H enc _ => lifted os started H enc)

theorem proved : Rows.FnExactMotionBlockSaid := over
#print axioms proved
end Go.Proofs.Ytobphddjoebfjaa.fnExactMotionBlock
