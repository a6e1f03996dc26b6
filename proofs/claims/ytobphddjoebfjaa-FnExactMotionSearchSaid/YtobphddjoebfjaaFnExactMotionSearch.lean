/- PROVED: the law laws.FnExactMotionSearch returns true for every input (the program's MotionSearch answers as the reference's does); no conditions. -/
import Derived.Test.YtobphddjoebfjaaRows
import Derived.Test.YtobphddjoebfjaaVecS
import Derived.Deep.RegionHeld3
import Derived.Deep.DeepCutAuto
import Derived.WalkKit
import Derived.ProofKit
import Derived.OpenShut
import Derived.ShutString
import Derived.ChangeOld
import Derived.Below
import Derived.Lib.SmallJoins
namespace Go.Proofs.Ytobphddjoebfjaa.fnExactMotionSearch
open Go.ChangeShapes Go.WideShapes Go.ChangeAt Go.RowKit
open Go.ChangeMaps (open_string shut_string)
set_option linter.unusedVariables false
set_option linter.unusedSimpArgs false

theorem own : ownKnob Try.prog.godebug = none := by kernel_rfl
theorem laidOut : laidOutB Try.prog = true := by kernel_rfl

attribute [local go_sem] size_addsW cell?_addsW frozen?_addsW setCell_addsW drew_addsW adds_addsW setCell_twice alloc_adds0 size_adds0 adds_adds0 sel2 sel3 sel4 sel5 sel6 sel7 sel8 sel9 lt_more lt_more2 lt_more3 lt_more4 adds_drew adds_drewN drewN_addsW ltA_1_1 ltA_1_2 ltA_1_3 ltA_1_4 ltA_1_5 ltA_1_6 ltA_2_1 ltA_2_2 ltA_2_3 ltA_2_4 ltA_2_5 ltA_2_6 ltA_3_1 ltA_3_2 ltA_3_3 ltA_3_4 ltA_3_5 ltA_3_6 ltA_4_1 ltA_4_2 ltA_4_3 ltA_4_4 ltA_4_5 ltA_4_6 ltA_5_1 ltA_5_2 ltA_5_3 ltA_5_4 ltA_5_5 ltA_5_6 ltA_6_1 ltA_6_2 ltA_6_3 ltA_6_4 ltA_6_5 ltA_6_6 ltA_7_1 ltA_7_2 ltA_7_3 ltA_7_4 ltA_7_5 ltA_7_6 ltA_8_1 ltA_8_2 ltA_8_3 ltA_8_4 ltA_8_5 ltA_8_6 ltA_9_1 ltA_9_2 ltA_9_3 ltA_9_4 ltA_9_5 ltA_9_6 ltA_10_1 ltA_10_2 ltA_10_3 ltA_10_4 ltA_10_5 ltA_10_6 ltA_11_1 ltA_11_2 ltA_11_3 ltA_11_4 ltA_11_5 ltA_11_6 ltA_12_1 ltA_12_2 ltA_12_3 ltA_12_4 ltA_12_5 ltA_12_6
theorem below_more2 (w : World) (os o1 o2 : Array Obj) (n n' : Nat) : Below (addsW w os n).heap.size (addsW w os n) (addsW w (os ++ o1 ++ o2) n') := by
  rw [Array.append_assoc]; exact below_more _ _ _ _ _
theorem below_more3 (w : World) (os o1 o2 o3 : Array Obj) (n n' : Nat) : Below (addsW w os n).heap.size (addsW w os n) (addsW w (os ++ o1 ++ o2 ++ o3) n') := by
  rw [Array.append_assoc, Array.append_assoc]; exact below_more _ _ _ _ _
/-- a vector found, in a new block -/
def VCut (Wb : World) (f : Int × Int → Int) (ok : Bool) (n : Int) (s : Value) (wx : World) : Prop := ∃ (g : Nat) (p : Int × Int), s = .pointer (some ⟨g, 0, none⟩) ∧ VBest f ok n p ∧ Below Wb.heap.size Wb wx ∧ Blk wx g #[.int .i64 p.1, .int .i64 p.2] 53

set_option maxHeartbeats 4000000 in
theorem walk (a : Int) (b : Int) (a_ts0 : Option Addr) (len_ts0 cap_ts0 : Nat) (ts0 : List Int) (a' : Int) (b' : Int) (a_rs0 : Option Addr) (len_rs0 cap_rs0 : Nat) (rs0 : List Int) (x : Int) (y : Int) (n0 : Int) (w : World) (w_a : (Lit.int .i64 a).wf = true) (w_b : (Lit.int .i64 b).wf = true) (w_ts0 : IsRow .i64 w a_ts0 len_ts0 cap_ts0 ts0) (w_a' : (Lit.int .i64 a').wf = true) (w_b' : (Lit.int .i64 b').wf = true) (w_rs0 : IsRow .i64 w a_rs0 len_rs0 cap_rs0 rs0) (w_x : (Lit.int .i64 x).wf = true) (w_y : (Lit.int .i64 y).wf = true) (w_n0 : (Lit.int .i64 n0).wf = true) :
    Calls Try.prog 10 #[.agg #[.int .i64 a, .int .i64 b, .slice a_ts0 len_ts0 cap_ts0], .agg #[.int .i64 a', .int .i64 b', .slice a_rs0 len_rs0 cap_rs0], .int .i64 x, .int .i64 y, .int .i64 n0] w fun e w' => e = .returned (.bool true) ∧ Below w.heap.size w w' := by
  obtain ⟨hr, hlen, hlm, -⟩ := RowAt.of_row w_ts0
  obtain ⟨hr', hlen', hlm', -⟩ := RowAt.of_row w_rs0
  unfold maxLen at hlm hlm'
  generalize ts0.take len_ts0 = ts at hr hlen
  generalize rs0.take len_rs0 = rs at hr' hlen'
  obtain rfl := hlen
  obtain rfl := hlen'
  clear w_ts0 w_rs0
  have HR := Lib.hid hr
  have HR' := Lib.hid hr'
  clear hr hr'
  obtain ⟨a_ts, rfl⟩ : ∃ q, q = a_ts0 := ⟨_, rfl⟩
  obtain ⟨a_rs, rfl⟩ : ∃ q, q = a_rs0 := ⟨_, rfl⟩
  obtain ⟨cap_ts, rfl⟩ : ∃ q, q = cap_ts0 := ⟨_, rfl⟩
  obtain ⟨cap_rs, rfl⟩ : ∃ q, q = cap_rs0 := ⟨_, rfl⟩
  by_cases hbig : (1048576 : Int) < (ts.length : Int)
  · go_enter Try.func10, Try.ntmps10
    go_wp2_with (go_at_call 15; refine (L_szPicture _ _ _ _ _ _ _ (by omega) (by omega)).mono ?_; rintro e w' ⟨rfl, hb⟩; obtain ⟨o1, n1, rfl⟩ := below_adds hb; clear hb; rw [if_pos (by omega)])
    go_returns
    exact ⟨rfl, (by repeat' (first | (with_reducible exact Below.refl _ _) | (with_reducible refine Below.adds_ ?_ ?_ _ _) | (with_reducible refine Below.alloc ?_ ?_ _) | (with_reducible refine Below.drew ?_) | (with_reducible refine Below.setCell ?_ ?_ _) | (with_reducible assumption) | go_size | (simp only [size_addsW, World.size_alloc, World.size_drew, World.size_setCell]; omega)))⟩
  · by_cases hbig2 : (1048576 : Int) - (ts.length : Int) < (rs.length : Int)
    · go_enter Try.func10, Try.ntmps10
      go_wp2_with (first | (go_at_call 15; (with_reducible refine (L_szPicture a b _ ts.length _ _ _ (by omega) (by omega)).mono ?_); rintro e w' ⟨rfl, hb⟩; obtain ⟨o1, n1, rfl⟩ := below_adds hb; clear hb; rw [if_neg (by omega)]) | (go_at_call 15; refine (L_szPicture _ _ _ _ _ _ _ (by omega) (by omega)).mono ?_; rintro e w' ⟨rfl, hb⟩; obtain ⟨o1, n1, rfl⟩ := below_adds hb; clear hb; rw [if_pos (by omega)]))
      go_returns
      exact ⟨rfl, (by repeat' (first | (with_reducible exact Below.refl _ _) | (with_reducible refine Below.adds_ ?_ ?_ _ _) | (with_reducible refine Below.alloc ?_ ?_ _) | (with_reducible refine Below.drew ?_) | (with_reducible refine Below.setCell ?_ ?_ _) | (with_reducible assumption) | go_size | (simp only [size_addsW, World.size_alloc, World.size_drew, World.size_setCell]; omega)))⟩
    · go_enter Try.func10, Try.ntmps10
      go_wp2_with fail
      refine (L_szPicture _ _ _ _ _ _ _ (by omega) (by omega)).mono ?_
      rintro e w' ⟨rfl, hb⟩
      obtain ⟨o1, n1, rfl⟩ := below_adds hb
      clear hb
      rw [if_neg (by omega)]
      go_wp2_with fail
      refine (L_szPicture _ _ _ _ _ _ _ (by omega) (by omega)).mono ?_
      rintro e w' ⟨rfl, hb⟩
      obtain ⟨o2, n2, rfl⟩ := below_adds hb
      clear hb
      rw [if_neg (by omega)]
      go_upto_region 8 with fail
      generalize o1 ++ o2 = OO
      go_cut [12] (fun s12 wx => VCut ((w.alloc (.cells #[.int .i64 a, .int .i64 b, .slice a_ts ts.length cap_ts] 24)).alloc (.cells #[.int .i64 a', .int .i64 b', .slice a_rs rs.length cap_rs] 24)) (cst a b ts rs x y) (okB a b ts a' b' rs x y n0) n0 s12 wx)
      case first =>
        go_region_held3 (fun w' => w'.cell? ⟨w.heap.size, 0, none⟩ = some (.int .i64 a) ∧ w'.cell? ⟨w.heap.size, 1, none⟩ = some (.int .i64 b) ∧ w'.cell? ⟨w.heap.size, 2, none⟩ = some (.slice a_ts ts.length cap_ts) ∧ w'.cell? ⟨w.heap.size + 1, 0, none⟩ = some (.int .i64 a') ∧ w'.cell? ⟨w.heap.size + 1, 1, none⟩ = some (.int .i64 b') ∧ w'.cell? ⟨w.heap.size + 1, 2, none⟩ = some (.slice a_rs rs.length cap_rs)) (first | (go_simp; done) | (go_keep; done))
          (first | (go_at_call 17; (with_reducible refine (L_toPicture a b _ _ ts _ (HR.out.keep (by repeat' (first | (with_reducible exact Below.refl _ _) | (with_reducible refine Below.adds_ ?_ ?_ _ _) | (with_reducible refine Below.alloc ?_ ?_ _) | (with_reducible refine Below.drew ?_) | (with_reducible refine Below.setCell ?_ ?_ _) | (with_reducible assumption) | go_size | (simp only [size_addsW, World.size_alloc, World.size_drew, World.size_setCell]; omega)))) (by omega)).mono ?_); rintro e w' ⟨g1, rfl, hrb, -, hb⟩; obtain ⟨q1, m1, rfl⟩ := below_adds hb; clear hb; (try simp only [adds_addsW, Array.append_assoc] at hrb); have HP1 := Lib.hid hrb; clear hrb) | (go_at_call 17; (with_reducible refine (L_toPicture a' b' _ _ rs _ (HR'.out.keep (by repeat' (first | (with_reducible exact Below.refl _ _) | (with_reducible refine Below.adds_ ?_ ?_ _ _) | (with_reducible refine Below.alloc ?_ ?_ _) | (with_reducible refine Below.drew ?_) | (with_reducible refine Below.setCell ?_ ?_ _) | (with_reducible assumption) | go_size | (simp only [size_addsW, World.size_alloc, World.size_drew, World.size_setCell]; omega)))) (by omega)).mono ?_); rintro e w' ⟨g2, rfl, hrb, -, hb⟩; obtain ⟨q2, m2, rfl⟩ := below_adds hb; clear hb; (try simp only [adds_addsW, Array.append_assoc] at hrb); have HP2 := Lib.hid hrb; clear hrb) | (go_at_call 43; refine (S_MotionSearch a b a' b' _ _ _ _ _ _ _ ts rs _ (HP1.out.keep (by first | (with_reducible exact Below.refl _ _) | (simp only [alloc_addsW, adds_addsW, Array.push_eq_append, ← Array.append_assoc]; first | (with_reducible exact Below.refl _ _) | exact below_more _ _ _ _ _ | exact below_more2 _ _ _ _ _ _ | exact below_more3 _ _ _ _ _ _ _))) (HP2.out.keep (by first | (with_reducible exact Below.refl _ _) | (simp only [alloc_addsW, adds_addsW, Array.push_eq_append, ← Array.append_assoc]; first | (with_reducible exact Below.refl _ _) | exact below_more _ _ _ _ _ | exact below_more2 _ _ _ _ _ _ | exact below_more3 _ _ _ _ _ _ _))) (by omega) (by omega)).mono ?_; rintro e w' ⟨p, rfl, hp, hb⟩; have HVP := Lib.hid hp; clear hp; obtain ⟨q5, m5, rfl⟩ := below_adds hb; clear hb))
        all_goals
          go_wp2_with fail
          go_meet
          exact ⟨_, p, rfl, HVP.out, (by repeat' (first | (with_reducible exact Below.refl _ _) | (with_reducible refine Below.adds_ ?_ ?_ _ _) | (with_reducible refine Below.alloc ?_ ?_ _) | (with_reducible refine Below.drew ?_) | (with_reducible refine Below.setCell ?_ ?_ _) | (with_reducible assumption) | go_size | (simp only [size_addsW, World.size_alloc, World.size_drew, World.size_setCell]; omega))), (by first | exact Blk.new _ _ _ _ (by first | (simp only [size_addsW, World.size_alloc, World.size_drew, Array.size_append]; done) | (simp only [size_addsW, World.size_alloc, World.size_drew, Array.size_append]; omega)) | exact (Blk.new _ _ _ _ (by first | (simp only [size_addsW, World.size_alloc, World.size_drew, Array.size_append]; done) | (simp only [size_addsW, World.size_alloc, World.size_drew, Array.size_append]; omega))).adds _ _)⟩
      case rest =>
        obtain ⟨g, p, rfl, hp, hbl, hB0⟩ := hcut
        have HP := Lib.hid hp
        have hXw : Below w.heap.size w wc := Below.trans (show Below w.heap.size w ((w.alloc (.cells #[.int .i64 a, .int .i64 b, .slice a_ts ts.length cap_ts] 24)).alloc (.cells #[.int .i64 a', .int .i64 b', .slice a_rs rs.length cap_rs] 24)) from (by repeat' (first | (with_reducible exact Below.refl _ _) | (with_reducible refine Below.adds_ ?_ ?_ _ _) | (with_reducible refine Below.alloc ?_ ?_ _) | (with_reducible refine Below.drew ?_) | (with_reducible refine Below.setCell ?_ ?_ _) | (with_reducible assumption) | go_size | (simp only [size_addsW, World.size_alloc, World.size_drew, World.size_setCell]; omega)))) (hbl.mono (by simp; omega))
        have c5 : Blk wc w.heap.size #[.int .i64 a, .int .i64 b, .slice a_ts ts.length cap_ts] 24 := Blk.below ((Blk.new w _ _ _ rfl).alloc _) hbl (by simp; omega)
        have c6 : Blk wc (w.heap.size + 1) #[.int .i64 a', .int .i64 b', .slice a_rs rs.length cap_rs] 24 := Blk.below (Blk.new _ _ _ _ (by simp)) hbl (by simp)
        clear hp hbl
        have hzX := hXw.size
        have k50 := c5.get (i := 0) rfl
        have k51 := c5.get (i := 1) rfl
        have k52 := c5.get (i := 2) rfl
        have k60 := c6.get (i := 0) rfl
        have k61 := c6.get (i := 1) rfl
        have k62 := c6.get (i := 2) rfl
        have l5 := c5.lt
        have l6 := c6.lt
        have lg := hB0.lt
        go_wp2_with fail
        refine (L_toPicture a b _ _ ts _ (HR.out.keep (by repeat' (first | (with_reducible exact Below.refl _ _) | (with_reducible refine Below.adds_ ?_ ?_ _ _) | (with_reducible refine Below.alloc ?_ ?_ _) | (with_reducible refine Below.drew ?_) | (with_reducible refine Below.setCell ?_ ?_ _) | (with_reducible assumption) | go_size | (simp only [size_addsW, World.size_alloc, World.size_drew, World.size_setCell]; omega)))) (by omega)).mono ?_
        rintro e w' ⟨g1, rfl, hrb, -, hb⟩
        obtain ⟨q1, m1, rfl⟩ := below_adds hb
        have HX0 := Lib.hid hrb
        clear hb hrb
        go_wp2_with fail
        refine (L_toPicture a' b' _ _ rs _ (HR'.out.keep (by repeat' (first | (with_reducible exact Below.refl _ _) | (with_reducible refine Below.adds_ ?_ ?_ _ _) | (with_reducible refine Below.alloc ?_ ?_ _) | (with_reducible refine Below.drew ?_) | (with_reducible refine Below.setCell ?_ ?_ _) | (with_reducible assumption) | go_size | (simp only [size_addsW, World.size_alloc, World.size_drew, World.size_setCell]; omega)))) (by omega)).mono ?_
        rintro e w' ⟨g2, rfl, hrb, -, hb⟩
        obtain ⟨q2, m2, rfl⟩ := below_adds hb
        have HX1 := Lib.hid hrb
        clear hb hrb
        go_upto_region 11 with fail
        refine all_add' ?_
        intro Y hY
        have hYX : Below wc.heap.size wc Y := hY ▸ (show Below wc.heap.size wc ((addsW ((addsW wc q1 m1).alloc (.cells #[.int .i64 a, .int .i64 b, .slice (some ⟨g1, 0, none⟩) ts.length ts.length] 27)) q2 m2).alloc (.cells #[.int .i64 a', .int .i64 b', .slice (some ⟨g2, 0, none⟩) rs.length rs.length] 27)) from (by repeat' (first | (with_reducible exact Below.refl _ _) | (with_reducible refine Below.adds_ ?_ ?_ _ _) | (with_reducible refine Below.alloc ?_ ?_ _) | (with_reducible refine Below.drew ?_) | (with_reducible refine Below.setCell ?_ ?_ _) | (with_reducible assumption) | go_size | (simp only [size_addsW, World.size_alloc, World.size_drew, World.size_setCell]; omega))))
        have B1 : Blk Y (wc.heap.size + q1.size) #[.int .i64 a, .int .i64 b, .slice (some ⟨g1, 0, none⟩) ts.length ts.length] 27 := hY ▸ ((Blk.new _ _ _ _ (by first | (simp only [size_addsW, World.size_alloc, World.size_drew, Array.size_append]; done) | (simp only [size_addsW, World.size_alloc, World.size_drew, Array.size_append]; omega))).adds _ _).alloc _
        have B2 : Blk Y (wc.heap.size + q1.size + 1 + q2.size) #[.int .i64 a', .int .i64 b', .slice (some ⟨g2, 0, none⟩) rs.length rs.length] 27 := hY ▸ Blk.new _ _ _ _ (by first | (simp only [size_addsW, World.size_alloc, World.size_drew, Array.size_append]; done) | (simp only [size_addsW, World.size_alloc, World.size_drew, Array.size_append]; omega))
        have HX0 := Lib.hid (show RowAt .i64 Y (some ⟨g1, 0, none⟩) ts from hY ▸ HX0.out.keep (by repeat' (first | (with_reducible exact Below.refl _ _) | (with_reducible refine Below.adds_ ?_ ?_ _ _) | (with_reducible refine Below.alloc ?_ ?_ _) | (with_reducible refine Below.drew ?_) | (with_reducible refine Below.setCell ?_ ?_ _) | (with_reducible assumption) | go_size | (simp only [size_addsW, World.size_alloc, World.size_drew, World.size_setCell]; omega))))
        have HX1 := Lib.hid (show RowAt .i64 Y (some ⟨g2, 0, none⟩) rs from hY ▸ HX1.out.keep (by repeat' (first | (with_reducible exact Below.refl _ _) | (with_reducible refine Below.adds_ ?_ ?_ _ _) | (with_reducible refine Below.alloc ?_ ?_ _) | (with_reducible refine Below.drew ?_) | (with_reducible refine Below.setCell ?_ ?_ _) | (with_reducible assumption) | go_size | (simp only [size_addsW, World.size_alloc, World.size_drew, World.size_setCell]; omega))))
        clear hY
        generalize wc.heap.size + q1.size + 1 + q2.size = kb at B2 ⊢
        generalize wc.heap.size + q1.size = ka at B1 ⊢
        have hYw := hXw.trans (hYX.mono hzX)
        have d5 := c5.below hYX l5
        have d6 := c6.below hYX l6
        have dg := hB0.below hYX lg
        clear k50 k51 k52 k60 k61 k62 l5 l6 lg c5 c6 hB0 hzX
        have hzY := hYw.size
        have k50 := d5.get (i := 0) rfl
        have k51 := d5.get (i := 1) rfl
        have k52 := d5.get (i := 2) rfl
        have k60 := d6.get (i := 0) rfl
        have k61 := d6.get (i := 1) rfl
        have k62 := d6.get (i := 2) rfl
        have kg0 := dg.get (i := 0) rfl
        have kg1 := dg.get (i := 1) rfl
        have ka0 := B1.get (i := 0) rfl
        have ka1 := B1.get (i := 1) rfl
        have ka2 := B1.get (i := 2) rfl
        have kb0 := B2.get (i := 0) rfl
        have kb1 := B2.get (i := 1) rfl
        have kb2 := B2.get (i := 2) rfl
        have l5 := d5.lt
        have l6 := d6.lt
        have lg := dg.lt
        have la := B1.lt
        have lb := B2.lt
        clear hYX hXw
        have HRY := Lib.hid (HR.out.keep hYw)
        have HRY' := Lib.hid (HR'.out.keep hYw)
        go_wp2_with (first | (go_at_call 44; refine (I_MotionSearch a b a' b' _ _ _ _ _ _ _ ts rs _ (HX0.out.keep (by repeat' (first | (with_reducible exact Below.refl _ _) | (with_reducible refine Below.adds_ ?_ ?_ _ _) | (with_reducible refine Below.alloc ?_ ?_ _) | (with_reducible refine Below.drew ?_) | (with_reducible refine Below.setCell ?_ ?_ _) | (with_reducible assumption) | go_size | (simp only [size_addsW, World.size_alloc, World.size_drew, World.size_setCell]; omega)))) (HX1.out.keep (by repeat' (first | (with_reducible exact Below.refl _ _) | (with_reducible refine Below.adds_ ?_ ?_ _ _) | (with_reducible refine Below.alloc ?_ ?_ _) | (with_reducible refine Below.drew ?_) | (with_reducible refine Below.setCell ?_ ?_ _) | (with_reducible assumption) | go_size | (simp only [size_addsW, World.size_alloc, World.size_drew, World.size_setCell]; omega)))) (by omega) (by omega)).mono ?_; rintro e w' ⟨p2, rfl, hp2, hb⟩; obtain rfl := VBest.unique hp2 HP.out; clear hp2; obtain ⟨q5, m5, rfl⟩ := below_adds hb; clear hb) | (go_at_call 45; refine (L_eqVector _ _ _ _ _).mono ?_; rintro e w' ⟨rfl, hb⟩; obtain ⟨o1, n1, rfl⟩ := below_adds hb; clear hb))
        all_goals
          go_region_held3 (fun w' => w'.cell? ⟨ka, 0, none⟩ = some (.int .i64 a) ∧ w'.cell? ⟨ka, 1, none⟩ = some (.int .i64 b) ∧ w'.cell? ⟨ka, 2, none⟩ = some (.slice (some ⟨g1, 0, none⟩) ts.length ts.length) ∧ w'.cell? ⟨w.heap.size, 0, none⟩ = some (.int .i64 a) ∧ w'.cell? ⟨w.heap.size, 1, none⟩ = some (.int .i64 b) ∧ w'.cell? ⟨w.heap.size, 2, none⟩ = some (.slice a_ts ts.length cap_ts)) (first | (go_simp; done) | (go_keep; done))
            (first | (go_at_call 17; (with_reducible refine (L_toPicture a b _ _ ts _ (HRY.out.keep (by repeat' (first | (with_reducible exact Below.refl _ _) | (with_reducible refine Below.adds_ ?_ ?_ _ _) | (with_reducible refine Below.alloc ?_ ?_ _) | (with_reducible refine Below.drew ?_) | (with_reducible refine Below.setCell ?_ ?_ _) | (with_reducible assumption) | go_size | (simp only [size_addsW, World.size_alloc, World.size_drew, World.size_setCell]; omega)))) (by omega)).mono ?_); rintro e w' ⟨g3, rfl, hrb, -, hb⟩; obtain ⟨q3, m3, rfl⟩ := below_adds hb; clear hb; (try simp only [adds_addsW, Array.append_assoc] at hrb); have HP3 := Lib.hid hrb; clear hrb) | (go_at_call 19; refine (L_eqPicture a b _ _ _ _ ts _ (HX0.out.keep (by repeat' (first | (with_reducible exact Below.refl _ _) | (with_reducible refine Below.adds_ ?_ ?_ _ _) | (with_reducible refine Below.alloc ?_ ?_ _) | (with_reducible refine Below.drew ?_) | (with_reducible refine Below.setCell ?_ ?_ _) | (with_reducible assumption) | go_size | (simp only [size_addsW, World.size_alloc, World.size_drew, World.size_setCell]; omega)))) (HP3.out.keep (by first | (with_reducible exact Below.refl _ _) | (simp only [alloc_addsW, adds_addsW, Array.push_eq_append, ← Array.append_assoc]; first | (with_reducible exact Below.refl _ _) | exact below_more _ _ _ _ _ | exact below_more2 _ _ _ _ _ _ | exact below_more3 _ _ _ _ _ _ _))) (by omega)).mono ?_; rintro e w' ⟨rfl, hb⟩; obtain ⟨q7, m7, rfl⟩ := below_adds hb; clear hb))
          all_goals
            go_wp2_with fail
            go_region_held3 (fun w' => w'.cell? ⟨kb, 0, none⟩ = some (.int .i64 a') ∧ w'.cell? ⟨kb, 1, none⟩ = some (.int .i64 b') ∧ w'.cell? ⟨kb, 2, none⟩ = some (.slice (some ⟨g2, 0, none⟩) rs.length rs.length) ∧ w'.cell? ⟨w.heap.size + 1, 0, none⟩ = some (.int .i64 a') ∧ w'.cell? ⟨w.heap.size + 1, 1, none⟩ = some (.int .i64 b') ∧ w'.cell? ⟨w.heap.size + 1, 2, none⟩ = some (.slice a_rs rs.length cap_rs)) (first | (go_simp; done) | (go_keep; done))
              (first | (go_at_call 17; (with_reducible refine (L_toPicture a' b' _ _ rs _ (HRY'.out.keep (by repeat' (first | (with_reducible exact Below.refl _ _) | (with_reducible refine Below.adds_ ?_ ?_ _ _) | (with_reducible refine Below.alloc ?_ ?_ _) | (with_reducible refine Below.drew ?_) | (with_reducible refine Below.setCell ?_ ?_ _) | (with_reducible assumption) | go_size | (simp only [size_addsW, World.size_alloc, World.size_drew, World.size_setCell]; omega)))) (by omega)).mono ?_); rintro e w' ⟨g4, rfl, hrb, -, hb⟩; obtain ⟨q4, m4, rfl⟩ := below_adds hb; clear hb; (try simp only [adds_addsW, Array.append_assoc] at hrb); have HP4 := Lib.hid hrb; clear hrb) | (go_at_call 19; refine (L_eqPicture a' b' _ _ _ _ rs _ (HX1.out.keep (by repeat' (first | (with_reducible exact Below.refl _ _) | (with_reducible refine Below.adds_ ?_ ?_ _ _) | (with_reducible refine Below.alloc ?_ ?_ _) | (with_reducible refine Below.drew ?_) | (with_reducible refine Below.setCell ?_ ?_ _) | (with_reducible assumption) | go_size | (simp only [size_addsW, World.size_alloc, World.size_drew, World.size_setCell]; omega)))) (HP4.out.keep (by first | (with_reducible exact Below.refl _ _) | (simp only [alloc_addsW, adds_addsW, Array.push_eq_append, ← Array.append_assoc]; first | (with_reducible exact Below.refl _ _) | exact below_more _ _ _ _ _ | exact below_more2 _ _ _ _ _ _ | exact below_more3 _ _ _ _ _ _ _))) (by omega)).mono ?_; rintro e w' ⟨rfl, hb⟩; obtain ⟨q7, m7, rfl⟩ := below_adds hb; clear hb))
            all_goals
              go_wp2_with fail
              go_returns
              exact ⟨rfl, hYw.trans ((show Below Y.heap.size Y _ from (by repeat' (first | (with_reducible exact Below.refl _ _) | (with_reducible refine Below.adds_ ?_ ?_ _ _) | (with_reducible refine Below.alloc ?_ ?_ _) | (with_reducible refine Below.drew ?_) | (with_reducible refine Below.setCell ?_ ?_ _) | (with_reducible assumption) | go_size | (simp only [size_addsW, World.size_alloc, World.size_drew, World.size_setCell]; omega)))).mono hzY)⟩

set_option maxRecDepth 100000 in
theorem lifted (os : Os) (started : os.Started) (H : Type) (enc : TypeId × Value → H) :
    ReturnsInHanded {} Try.checked os 10 .any (Rows.fnExactMotionSearchSpec.pre6 enc Try.prog Try.f10 Rows.fnExactMotionSearchRow.domain false) (Rows.fnExactMotionSearchSpec.post enc Try.prog Try.f10 false true false false) := by
  refine returnsInHanded_of_change (C := Try.checked) own started (by kernel_rfl) Try.func10
    (ChangeSpec.witness6 (enc := enc) (C := Try.checked) false ⟨#[], #[.agg #[.int .i64 0, .int .i64 0, .slice none 0 0], .agg #[.int .i64 0, .int .i64 0, .slice none 0 0], .int .i64 0, .int .i64 0, .int .i64 0], []⟩ 8 (by kernel_rfl) (by kernel_rfl) (by kernel_rfl) (by kernel_rfl)) ?_
  intro W base args ds gs before hval0 hW hcnd _
  have hval : ∀ (j : Nat) t v, Try.f10.params[j]? = some t → args[j]? = some v → Value.okWide Try.prog W .any base t v := hval0
  have hW' := hW
  obtain ⟨p, q, hA0, hV, rfl, hfz, hnd⟩ := hW
  have hA : DataW.TrodAll enc Try.prog W 0 (fun _ => true) true Try.f10.params.toList args.toList ds p := hA0
  rw [Try.params10] at hA hval
  obtain ⟨v0, vs0, d0, ds0, p0, q0, hargs, rfl, rfl, h0, r0⟩ := trodAll_cons hA
  obtain ⟨v1, vs1, d1, ds1, p1, q1, rfl, rfl, rfl, h1, r1⟩ := trodAll_cons r0
  obtain ⟨v2, vs2, d2, ds2, p2, q2, rfl, rfl, rfl, h2, r2⟩ := trodAll_cons r1
  obtain ⟨v3, vs3, d3, ds3, p3, q3, rfl, rfl, rfl, h3, r3⟩ := trodAll_cons r2
  obtain ⟨v4, vs4, d4, ds4, p4, q4, rfl, rfl, rfl, h4, r4⟩ := trodAll_cons r3
  obtain ⟨rfl, rfl, rfl⟩ := trodAll_nil r4
  obtain rfl : args = #[v0, v1, v2, v3, v4] := by cases args; simp_all
  obtain ⟨rfl, rfl⟩ := trodVars_none hV
  have k0 := h0
  have lt0 : ∀ x ∈ p0, x.block < W.heap.size := by obtain ⟨m, hm⟩ := k0; exact DataW.trod_lt m _ _ _ hm
  have k1 := h1
  have lt1 : ∀ x ∈ p1, x.block < W.heap.size := by obtain ⟨m, hm⟩ := k1; exact DataW.trod_lt m _ _ _ hm
  have k2 := h2
  have lt2 : ∀ x ∈ p2, x.block < W.heap.size := by obtain ⟨m, hm⟩ := k2; exact DataW.trod_lt m _ _ _ hm
  have k3 := h3
  have lt3 : ∀ x ∈ p3, x.block < W.heap.size := by obtain ⟨m, hm⟩ := k3; exact DataW.trod_lt m _ _ _ hm
  have k4 := h4
  have lt4 : ∀ x ∈ p4, x.block < W.heap.size := by obtain ⟨m, hm⟩ := k4; exact DataW.trod_lt m _ _ _ hm
  obtain ⟨c00, c01, c02, y00, y01, y02, m0, rfl, -, -, hy00, hy01, hy02⟩ := Joins.open_agg3 Try.underlying24 (by kernel_rfl) (by kernel_rfl) (hval 0 24 v0 rfl rfl) h0
  obtain ⟨a, e_a, -, w_a⟩ := DataW.trod_int Try.underlying3 hy00
  simp only [List.cons.injEq, and_true] at e_a
  subst e_a
  obtain ⟨b, e_b, -, w_b⟩ := DataW.trod_int Try.underlying3 hy01
  simp only [List.cons.injEq, and_true] at e_b
  subst e_b
  obtain ⟨a_ts0, len_ts0, cap_ts0, ts0, e_ts0, w_ts0⟩ : ∃ a l c zs, c02 = .slice a l c ∧ IsRow .i64 W a l c zs := by
    rcases open_ints Try.underlying22 Try.underlying3 (by kernel_rfl) hy02 with ⟨hcs, _⟩ | ⟨x, l, c, zs, hcs, _, hl, hm, hz, _, hcell, hwz⟩
    · simp only [List.cons.injEq, and_true] at hcs; exact ⟨none, 0, 0, [], hcs, .inl ⟨rfl, rfl, rfl, rfl⟩⟩
    · simp only [List.cons.injEq, and_true] at hcs; exact ⟨some x, l, c, zs, hcs, .inr ⟨x, rfl, hl, hm, by simpa using hz, hcell, hwz⟩⟩
  subst e_ts0
  obtain ⟨c10, c11, c12, y10, y11, y12, m1, rfl, -, -, hy10, hy11, hy12⟩ := Joins.open_agg3 Try.underlying24 (by kernel_rfl) (by kernel_rfl) (hval 1 24 v1 rfl rfl) h1
  obtain ⟨a', e_a', -, w_a'⟩ := DataW.trod_int Try.underlying3 hy10
  simp only [List.cons.injEq, and_true] at e_a'
  subst e_a'
  obtain ⟨b', e_b', -, w_b'⟩ := DataW.trod_int Try.underlying3 hy11
  simp only [List.cons.injEq, and_true] at e_b'
  subst e_b'
  obtain ⟨a_rs0, len_rs0, cap_rs0, rs0, e_rs0, w_rs0⟩ : ∃ a l c zs, c12 = .slice a l c ∧ IsRow .i64 W a l c zs := by
    rcases open_ints Try.underlying22 Try.underlying3 (by kernel_rfl) hy12 with ⟨hcs, _⟩ | ⟨x, l, c, zs, hcs, _, hl, hm, hz, _, hcell, hwz⟩
    · simp only [List.cons.injEq, and_true] at hcs; exact ⟨none, 0, 0, [], hcs, .inl ⟨rfl, rfl, rfl, rfl⟩⟩
    · simp only [List.cons.injEq, and_true] at hcs; exact ⟨some x, l, c, zs, hcs, .inr ⟨x, rfl, hl, hm, by simpa using hz, hcell, hwz⟩⟩
  subst e_rs0
  obtain ⟨x, rfl, -, -, w_x⟩ := open_int Try.underlying3 (hval 2 3 v2 rfl rfl) h2
  obtain ⟨y, rfl, -, -, w_y⟩ := open_int Try.underlying3 (hval 3 3 v3 rfl rfl) h3
  obtain ⟨n0, rfl, -, -, w_n0⟩ := open_int Try.underlying3 (hval 4 3 v4 rfl rfl) h4
  clear hA0 hval0
  refine (walk a b a_ts0 len_ts0 cap_ts0 ts0 a' b' a_rs0 len_rs0 cap_rs0 rs0 x y n0 W w_a w_b w_ts0 w_a' w_b' w_rs0 w_x w_y w_n0).mono fun e W' ⟨he, bel⟩ => ?_
  subst he
  exact ⟨_, rfl, _, _, _, [], _, [], hW', trodAll_mk1 (shut_bool Try.underlying4 _), (trodAll_cons_mk (Below.trod laidOut (by kernel_rfl) (of_decide_eq_true (by kernel_rfl)) k0 bel lt0) (trodAll_cons_mk (Below.trod laidOut (by kernel_rfl) (of_decide_eq_true (by kernel_rfl)) k1 bel lt1) (trodAll_cons_mk (Below.trod laidOut (by kernel_rfl) (of_decide_eq_true (by kernel_rfl)) k2 bel lt2) (trodAll_cons_mk (Below.trod laidOut (by kernel_rfl) (of_decide_eq_true (by kernel_rfl)) k3 bel lt3) (trodAll_cons_mk (Below.trod laidOut (by kernel_rfl) (of_decide_eq_true (by kernel_rfl)) k4 bel lt4) trodAll_mk0))))), rfl, bel.frame _, fun h => by cases h⟩

theorem over : Rows.fnExactMotionSearchRow.holds Try.pinned (OpenSpec.ofChange Rows.fnExactMotionSearchSpec) :=
  OpenClaim.holds_of_wide 10 Try.f10 rfl rfl rfl rfl rfl rfl rfl ⟨rfl, rfl, rfl, rfl, rfl⟩ rfl rfl rfl rfl rfl (by kernel_rfl) Try.func10 (by kernel_rfl)
    (of_decide_eq_true (by kernel_rfl)) (by unfold Func.isWrapper; first | (rw [if_pos (by decide +kernel)]; kernel_rfl) | (rw [if_neg (by decide +kernel)]; exact ⟨rfl, rfl⟩))
    (fun os started H enc _ => lifted os started H enc)

theorem proved : Rows.FnExactMotionSearchSaid := over
#print axioms proved
end Go.Proofs.Ytobphddjoebfjaa.fnExactMotionSearch
