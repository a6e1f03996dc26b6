/- PROVED: the law laws.FnMotionSearch returns true for every input (the search finds the best vector, and a picture in itself without displacement; it answers as the reference does); no conditions. -/
import Derived.Test.YtobphddjoebfjaaRows
import Derived.Test.YtobphddjoebfjaaVecS
import Derived.Test.YtobphddjoebfjaaDrawV
import Derived.Test.YtobphddjoebfjaaNew
import Derived.Deep.RegionHeld3
import Derived.Deep.DeepCutAuto
import Derived.BigQuiet
import Derived.WalkKit
import Derived.ProofKit
import Derived.OpenShut
import Derived.ShutString
import Derived.ChangeOld
import Derived.Below
import Derived.Lib.SmallJoins
namespace Go.Proofs.Ytobphddjoebfjaa.fnMotionSearch
open Go.ChangeShapes Go.WideShapes Go.ChangeAt Go.RowKit
open Go.ChangeMaps (open_string shut_string)
set_option linter.unusedVariables false
set_option linter.unusedSimpArgs false

theorem own : ownKnob Try.prog.godebug = none := by kernel_rfl
theorem laidOut : laidOutB Try.prog = true := by kernel_rfl

attribute [local go_sem] size_addsW cell?_addsW frozen?_addsW setCell_addsW drew_addsW adds_addsW setCell_twice alloc_adds0 size_adds0 adds_adds0 sel2 sel3 sel4 sel5 sel6 sel7 sel8 sel9 lt_more lt_more2 lt_more3 lt_more4 adds_drew adds_drewN drewN_addsW ltA_1_1 ltA_1_2 ltA_1_3 ltA_1_4 ltA_1_5 ltA_1_6 ltA_2_1 ltA_2_2 ltA_2_3 ltA_2_4 ltA_2_5 ltA_2_6 ltA_3_1 ltA_3_2 ltA_3_3 ltA_3_4 ltA_3_5 ltA_3_6 ltA_4_1 ltA_4_2 ltA_4_3 ltA_4_4 ltA_4_5 ltA_4_6 ltA_5_1 ltA_5_2 ltA_5_3 ltA_5_4 ltA_5_5 ltA_5_6 ltA_6_1 ltA_6_2 ltA_6_3 ltA_6_4 ltA_6_5 ltA_6_6 ltA_7_1 ltA_7_2 ltA_7_3 ltA_7_4 ltA_7_5 ltA_7_6 ltA_8_1 ltA_8_2 ltA_8_3 ltA_8_4 ltA_8_5 ltA_8_6 ltA_9_1 ltA_9_2 ltA_9_3 ltA_9_4 ltA_9_5 ltA_9_6 ltA_10_1 ltA_10_2 ltA_10_3 ltA_10_4 ltA_10_5 ltA_10_6 ltA_11_1 ltA_11_2 ltA_11_3 ltA_11_4 ltA_11_5 ltA_11_6 ltA_12_1 ltA_12_2 ltA_12_3 ltA_12_4 ltA_12_5 ltA_12_6

theorem sad_self (f : Nat → Int) (n : Nat) : sad f f n = 0 := by
  induction n with
  | zero => rfl
  | succ n ih => rw [sad, ih]; omega
theorem cost_self (a b : Int) (zs : List Int) (x y : Int) : cost a b zs zs x y 0 0 = 0 := by rw [← cost_lists]; exact sad_self _ _
theorem vab_pos {q : Int × Int} (h : q ≠ (0, 0)) : 0 < vab q := by
  unfold vab absI
  have : q.1 ≠ 0 ∨ q.2 ≠ 0 := by
    by_cases h1 : q.1 = 0
    · exact .inr (fun h2 => h (pair_eq h1 h2))
    · exact .inl h1
  omega
theorem best_self {a b x y n : Int} {zs : List Int} (h : M.samplesB zs = true) (hn : 0 ≤ n) : IsBest (cst a b zs zs x y) (inSq n) (0, 0) :=
  ⟨by unfold inSq; simp only; omega, fun q hq => by
    by_cases e : q = (0, 0)
    · exact .inl e
    · have h0 : cst a b zs zs x y (0, 0) = 0 := cost_self a b zs x y
      have h1 := cst_nn (a := a) (b := b) h h x y q
      have h2 := vab_pos e
      refine .inr ?_
      unfold vlt vord
      rw [h0, show vab (0, 0) = 0 from rfl]
      omega⟩
theorem best_none {f : Int × Int → Int} {S : Int × Int → Prop} {p q : Int × Int} (h : IsBest f S p) (hq : S q) : f p < f q ∨ (f q = f p ∧ ¬ vab q < vab p) := by
  rcases h.2 q hq with e | h1
  · rw [e]; exact .inr ⟨rfl, by omega⟩
  · unfold vlt vord at h1; omega
theorem ms_ok {a b a' b' x y n u v : Int} {zs zs' : List Int} (h : 0 ≤ mcV a b zs a' b' zs' x y u v) (hn : 0 ≤ n) (hn' : n ≤ 8) : okB a b zs a' b' zs' x y n = true := by
  cases hm : mcB a b zs a' b' zs' x y u v
  · simp [mcV, hm] at h
  · simp only [mcB, Bool.and_eq_true] at hm
    simp [okB, hm.1.1, hm.1.2, hn, hn']
theorem ms_bad {a b a' b' x y n : Int} {zs zs' : List Int} {p : Int × Int} (hp : VBest (cst a b zs zs' x y) (okB a b zs a' b' zs' x y n) n p) (h : mcV a b zs a' b' zs' x y p.1 p.2 < 0 ∨ n < 0 ∨ 8 < n) : p = (0, 0) := by
  refine hp.2 ?_
  cases hk : okB a b zs a' b' zs' x y n
  · rfl
  · exfalso
    simp only [okB, Bool.and_eq_true, decide_eq_true_eq] at hk
    obtain ⟨q1, q2, e1, e2⟩ := sameB_of hk.1.1
    have hs := (hp.1 (by simp [okB, hk])).1
    unfold inSq at hs
    have hv : M.vecB p.1 p.2 = true := by simp [M.vecB]; omega
    rw [mcV, show mcB a b zs a' b' zs' x y p.1 p.2 = true by simp [mcB, hk.1.1, hk.1.2, hv], if_pos rfl] at h
    have := cst_nn (a := a) (b := b) (picB_iff.1 q1).2.2.2 (picB_iff.1 q2).2.2.2 x y p
    unfold cst at this
    omega
theorem ms_good {a b a' b' x y n : Int} {zs zs' : List Int} {p : Int × Int} (hk : okB a b zs a' b' zs' x y n = true) (hp : VBest (cst a b zs zs' x y) (okB a b zs a' b' zs' x y n) n p) :
    inSq n p ∧ (∀ i j : Int, inSq n (i, j) → mcV a b zs a' b' zs' x y p.1 p.2 < mcV a b zs a' b' zs' x y i j ∨ (mcV a b zs a' b' zs' x y i j = mcV a b zs a' b' zs' x y p.1 p.2 ∧ ¬ max i (-i) + max j (-j) < max p.1 (-p.1) + max p.2 (-p.2))) ∧
    (∀ p2, VBest (cst a b zs zs x y) (okB a b zs a b zs x y n) n p2 → p2 = (0, 0)) := by
  have hb := hp.1 hk
  have hk' := hk
  simp only [okB, Bool.and_eq_true, decide_eq_true_eq] at hk'
  obtain ⟨q1, q2, e1, e2⟩ := sameB_of hk'.1.1
  have hv : ∀ i j : Int, inSq n (i, j) → mcV a b zs a' b' zs' x y i j = cst a b zs zs' x y (i, j) := by
    intro i j h
    unfold inSq at h
    simp only at h
    have hv : M.vecB i j = true := by simp [M.vecB]; omega
    rw [mcV, show mcB a b zs a' b' zs' x y i j = true by simp [mcB, hk'.1.1, hk'.1.2, hv], if_pos rfl, cst]
  refine ⟨hb.1, fun i j h => ?_, fun p2 h2 => ?_⟩
  · rw [hv i j h, hv p.1 p.2 hb.1]
    exact best_none hb h
  · have ho : okB a b zs a b zs x y n = true := by simp [okB, sameB, q1, hk'.1.2, hk'.2]
    exact best_unique (h2.1 ho) (best_self (picB_iff.1 q1).2.2.2 hk'.2.1)

set_option maxHeartbeats 4000000 in
set_option maxRecDepth 100000 in
theorem walk (a_cs : Option Addr) (len_cs cap_cs : Nat) (cs : List Int) (w : World) (w_cs : IsRow .u8 w a_cs len_cs cap_cs cs) :
    Calls Try.prog 14 #[.slice a_cs len_cs cap_cs] w fun e w' => e = .returned (.bool true) ∧ Below w.heap.size w w' := by
  have hlm := (RowAt.of_row w_cs).2.2.1
  unfold maxLen at hlm
  have HI := Lib.hid w_cs
  clear w_cs
  by_cases hbig : 1048576 < len_cs
  · go_enter Try.func14, Try.ntmps14
    go_wp2
    go_returns
    exact ⟨rfl, (by repeat' (first | (with_reducible exact Below.refl _ _) | (with_reducible refine Below.adds_ ?_ ?_ _ _) | (with_reducible refine Below.alloc ?_ ?_ _) | (with_reducible refine Below.drew ?_) | (with_reducible refine Below.setCell ?_ ?_ _) | (with_reducible assumption) | go_size | (simp only [size_addsW, World.size_alloc, World.size_drew, World.size_setCell]; omega)))⟩
  · go_enter Try.func14, Try.ntmps14
    go_wp2_with fail
    refine (S_DrawMotionSearch _ _ _ cs _ (IsRow.keep HI.out (by repeat' (first | (with_reducible exact Below.refl _ _) | (with_reducible refine Below.adds_ ?_ ?_ _ _) | (with_reducible refine Below.alloc ?_ ?_ _) | (with_reducible refine Below.drew ?_) | (with_reducible refine Below.setCell ?_ ?_ _) | (with_reducible assumption) | go_size | (simp only [size_addsW, World.size_alloc, World.size_drew, World.size_setCell]; omega))))).mono ?_
    rintro e w1 ⟨a, b, A, c, zs, a', b', A', c', zs', x, y, n, rfl, hxy, hn, hz, hz', -, -, -, -, hr, hr', hb⟩
    have B1 := Lib.hid hb
    have R := Lib.hid hr
    have R' := Lib.hid hr'
    have z1 := hb.size
    clear hb hr hr'
    go_wp2_with fail
    refine (I_MotionSearch a b a' b' x y n _ _ _ _ zs zs' _ (R.out.keep (by repeat' (first | (with_reducible exact Below.refl _ _) | (with_reducible refine Below.adds_ ?_ ?_ _ _) | (with_reducible refine Below.alloc ?_ ?_ _) | (with_reducible refine Below.drew ?_) | (with_reducible refine Below.setCell ?_ ?_ _) | (with_reducible assumption) | go_size | (simp only [size_addsW, World.size_alloc, World.size_drew, World.size_setCell]; omega)))) (R'.out.keep (by repeat' (first | (with_reducible exact Below.refl _ _) | (with_reducible refine Below.adds_ ?_ ?_ _ _) | (with_reducible refine Below.alloc ?_ ?_ _) | (with_reducible refine Below.drew ?_) | (with_reducible refine Below.setCell ?_ ?_ _) | (with_reducible assumption) | go_size | (simp only [size_addsW, World.size_alloc, World.size_drew, World.size_setCell]; omega)))) (by omega) (by omega)).mono ?_
    rintro e w2 ⟨p, rfl, hp, hb⟩
    obtain ⟨o2, n2, rfl⟩ := below_adds hb
    have HP := Lib.hid hp
    clear hb hp
    go_upto_region 5 with fail
    refine all_add' ?_
    intro Y hY
    have hYw : Below w1.heap.size w1 Y := hY ▸ (show Below w1.heap.size w1 ((addsW ((w1.alloc (.cells #[.int .i64 a, .int .i64 b, .slice A zs.length c] 27)).alloc (.cells #[.int .i64 a', .int .i64 b', .slice A' zs'.length c'] 27)) o2 n2).alloc (.cells #[.int .i64 p.1, .int .i64 p.2] 53)) from (by repeat' (first | (with_reducible exact Below.refl _ _) | (with_reducible refine Below.adds_ ?_ ?_ _ _) | (with_reducible refine Below.alloc ?_ ?_ _) | (with_reducible refine Below.drew ?_) | (with_reducible refine Below.setCell ?_ ?_ _) | (with_reducible assumption) | go_size | (simp only [size_addsW, World.size_alloc, World.size_drew, World.size_setCell]; omega))))
    have b3 : Blk Y w1.heap.size #[.int .i64 a, .int .i64 b, .slice A zs.length c] 27 := hY ▸ (((Blk.new w1 _ _ _ rfl).alloc _).adds _ _).alloc _
    have b4 : Blk Y (w1.heap.size + 1) #[.int .i64 a', .int .i64 b', .slice A' zs'.length c'] 27 := hY ▸ ((Blk.new _ _ _ _ (by simp)).adds _ _).alloc _
    have b8 : Blk Y (w1.heap.size + 1 + 1 + o2.size) #[.int .i64 p.1, .int .i64 p.2] 53 := hY ▸ Blk.new _ _ _ _ (by simp [size_addsW])
    clear hY
    generalize w1.heap.size + 1 + 1 + o2.size = k8 at b8 ⊢
    have RY := Lib.hid (R.out.keep hYw)
    have RY' := Lib.hid (R'.out.keep hYw)
    have hzY := hYw.size
    have HYw := Lib.hid (B1.out.trans (hYw.mono z1))
    clear hYw
    have k30 := b3.get (i := 0) rfl
    have k31 := b3.get (i := 1) rfl
    have k32 := b3.get (i := 2) rfl
    have k40 := b4.get (i := 0) rfl
    have k41 := b4.get (i := 1) rfl
    have k42 := b4.get (i := 2) rfl
    have k80 := b8.get (i := 0) rfl
    have k81 := b8.get (i := 1) rfl
    have l3 := b3.lt
    have l4 := b4.lt
    have l8 := b8.lt
    go_cut [37] (fun s wx => s = .bool false ∧ Below Y.heap.size Y wx)
    case first =>
      go_region_held3 (fun w' => w'.cell? ⟨w1.heap.size, 0, none⟩ = some (.int .i64 a) ∧ w'.cell? ⟨w1.heap.size, 1, none⟩ = some (.int .i64 b) ∧ w'.cell? ⟨w1.heap.size, 2, none⟩ = some (.slice A zs.length c) ∧ w'.cell? ⟨w1.heap.size + 1, 0, none⟩ = some (.int .i64 a') ∧ w'.cell? ⟨w1.heap.size + 1, 1, none⟩ = some (.int .i64 b') ∧ w'.cell? ⟨w1.heap.size + 1, 2, none⟩ = some (.slice A' zs'.length c') ∧ w'.cell? ⟨k8, 0, none⟩ = some (.int .i64 p.1) ∧ w'.cell? ⟨k8, 1, none⟩ = some (.int .i64 p.2)) (first | (go_simp; done) | (go_keep; done))
        (first | (go_at_call 43; refine (S_MotionSearch a b a' b' x y n _ _ _ _ zs zs' _ (RY.out.keep (by repeat' (first | (with_reducible exact Below.refl _ _) | (with_reducible refine Below.adds_ ?_ ?_ _ _) | (with_reducible refine Below.alloc ?_ ?_ _) | (with_reducible refine Below.drew ?_) | (with_reducible refine Below.setCell ?_ ?_ _) | (with_reducible assumption) | go_size | (simp only [size_addsW, World.size_alloc, World.size_drew, World.size_setCell]; omega)))) (RY'.out.keep (by repeat' (first | (with_reducible exact Below.refl _ _) | (with_reducible refine Below.adds_ ?_ ?_ _ _) | (with_reducible refine Below.alloc ?_ ?_ _) | (with_reducible refine Below.drew ?_) | (with_reducible refine Below.setCell ?_ ?_ _) | (with_reducible assumption) | go_size | (simp only [size_addsW, World.size_alloc, World.size_drew, World.size_setCell]; omega)))) (by omega) (by omega)).mono ?_; rintro e w' ⟨p2, rfl, hp2, hb⟩; obtain rfl := VBest.unique hp2 HP.out; clear hp2; obtain ⟨q5, m5, rfl⟩ := below_adds hb; clear hb))
      all_goals
        go_wp2_with fail
        go_meet
        exact ⟨by first | rfl | simp, (by repeat' (first | (with_reducible exact Below.refl _ _) | (with_reducible refine Below.adds_ ?_ ?_ _ _) | (with_reducible refine Below.alloc ?_ ?_ _) | (with_reducible refine Below.drew ?_) | (with_reducible refine Below.setCell ?_ ?_ _) | (with_reducible assumption) | go_size | (simp only [size_addsW, World.size_alloc, World.size_drew, World.size_setCell]; omega)))⟩
    case rest =>
      obtain ⟨rfl, hbc⟩ := hcut
      have d3 := b3.below hbc l3
      have d4 := b4.below hbc l4
      have d8 := b8.below hbc l8
      have HBC := Lib.hid hbc
      have hzc := hbc.size
      clear k30 k31 k32 k40 k41 k42 k80 k81 hbc
      have k30 := d3.get (i := 0) rfl
      have k31 := d3.get (i := 1) rfl
      have k32 := d3.get (i := 2) rfl
      have k40 := d4.get (i := 0) rfl
      have k41 := d4.get (i := 1) rfl
      have k42 := d4.get (i := 2) rfl
      have k80 := d8.get (i := 0) rfl
      have k81 := d8.get (i := 1) rfl
      have lc3 := d3.lt
      have lc4 := d4.lt
      have lc8 := d8.lt
      obtain ⟨m, hm⟩ : ∃ m, m = mcV a b zs a' b' zs' x y p.1 p.2 := ⟨_, rfl⟩
      have HN := Lib.hid hm
      clear hm
      go_wp2_with fail
      refine (I_MotionCost a b a' b' x y p.1 p.2 _ _ _ _ zs zs' _ (RY.out.keep HBC.out) (RY'.out.keep HBC.out) (by omega) (by omega)).mono ?_
      rw [← HN.out]
      rintro e w2 ⟨rfl, hb⟩
      obtain ⟨o3, n3, rfl⟩ := below_adds hb
      clear hb
      by_cases hbad : m < 0 ∨ n < 0 ∨ 8 < n
      · have hp0 := ms_bad HP.out (by rw [← HN.out]; exact hbad)
        subst hp0
        rcases (show m < 0 ∨ (¬ m < 0 ∧ n < 0) ∨ (¬ m < 0 ∧ ¬ n < 0 ∧ 8 < n) by omega) with h1 | ⟨h1, h2⟩ | ⟨h1, h2, h3⟩
        all_goals
          go_wp2_with (go_at_call 26; refine (L_alive _).mono ?_; rintro e w' ⟨rfl, hb⟩; obtain ⟨o4, n4, rfl⟩ := below_adds hb; clear hb)
          go_returns
          exact ⟨by first | rfl | simp, HYw.out.trans ((HBC.out.trans ((show Below wc.heap.size wc _ from (by repeat' (first | (with_reducible exact Below.refl _ _) | (with_reducible refine Below.adds_ ?_ ?_ _ _) | (with_reducible refine Below.alloc ?_ ?_ _) | (with_reducible refine Below.drew ?_) | (with_reducible refine Below.setCell ?_ ?_ _) | (with_reducible assumption) | go_size | (simp only [size_addsW, World.size_alloc, World.size_drew, World.size_setCell]; omega)))).mono hzc)).mono (by omega))⟩
      · have h1 : ¬ m < 0 := by omega
        have h2 : ¬ n < 0 := by omega
        have h3 : ¬ 8 < n := by omega
        clear hbad
        obtain ⟨g1, g2, g3⟩ := ms_good (ms_ok (by rw [← HN.out]; omega) (by omega) (by omega)) HP.out
        rw [← HN.out] at g2
        have G1 := Lib.hid g1
        have G2 := Lib.hid g2
        have G3 := Lib.hid g3
        clear g1 g2 g3
        have hnc : n ≤ 8 ∧ 0 ≤ n := by omega
        go_wp2_with fail
        go_loopw [10] (fun j wr => ∃ jj : Int, j = .int .i64 jj ∧ -n ≤ jj ∧ jj ≤ n + 1 ∧ Below wc.heap.size wc wr) (fun j _ => (n + 1 - intOf j).toNat)
        case atStart => exact ⟨-n, by first | rfl | simp, by omega, by omega, (by repeat' (first | (with_reducible exact Below.refl _ _) | (with_reducible refine Below.adds_ ?_ ?_ _ _) | (with_reducible refine Below.alloc ?_ ?_ _) | (with_reducible refine Below.drew ?_) | (with_reducible refine Below.setCell ?_ ?_ _) | (with_reducible assumption) | go_size | (simp only [size_addsW, World.size_alloc, World.size_drew, World.size_setCell]; omega)))⟩
        case round =>
          obtain ⟨j, rfl, hj1, hj2, hbr⟩ := hrel
          have HBR := Lib.hid hbr
          clear hbr
          by_cases hj : j ≤ n
          · go_wp2_with fail
            go_loopw [11] (fun i wr2 => ∃ ii : Int, i = .int .i64 ii ∧ -n ≤ ii ∧ ii ≤ n + 1 ∧ Below wc.heap.size wc wr2) (fun i _ => (n + 1 - intOf i).toNat)
            case atStart => exact ⟨-n, by first | rfl | simp, by omega, by omega, HBR.out⟩
            case round =>
              clear HBR
              obtain ⟨i, rfl, hi1, hi2, hbr⟩ := hrel
              by_cases hi : i ≤ n
              · have e3 := d3.below hbr lc3
                have e4 := d4.below hbr lc4
                have e8 := d8.below hbr lc8
                have HBR := Lib.hid hbr
                have hzr := hbr.size
                clear hbr
                have k30 := e3.get (i := 0) rfl
                have k31 := e3.get (i := 1) rfl
                have k32 := e3.get (i := 2) rfl
                have k40 := e4.get (i := 0) rfl
                have k41 := e4.get (i := 1) rfl
                have k42 := e4.get (i := 2) rfl
                have k80 := e8.get (i := 0) rfl
                have k81 := e8.get (i := 1) rfl
                have le3 := e3.lt
                have le4 := e4.lt
                have le8 := e8.lt
                obtain ⟨q, hq⟩ : ∃ q, q = mcV a b zs a' b' zs' x y i j := ⟨_, rfl⟩
                have hgq := G2.out i j (by unfold inSq; simp only; omega)
                rw [← hq] at hgq
                obtain ⟨AI, hAI⟩ : ∃ AI, AI = max i (-i) := ⟨_, rfl⟩
                obtain ⟨AJ, hAJ⟩ : ∃ AJ, AJ = max j (-j) := ⟨_, rfl⟩
                obtain ⟨AP, hAP⟩ : ∃ AP, AP = max p.1 (-p.1) := ⟨_, rfl⟩
                obtain ⟨AQ, hAQ⟩ : ∃ AQ, AQ = max p.2 (-p.2) := ⟨_, rfl⟩
                rw [← hAI, ← hAJ, ← hAP, ← hAQ] at hgq
                have hs := G1.out
                unfold inSq at hs
                have C1 := Lib.hid (show ∀ W, Calls Try.prog 30 #[.int .i64 i] W fun e w' => e = .returned (.int .i64 AI) ∧ w' = W from fun W => by rw [hAI]; exact (L_abs _ _ (by omega)).mono fun _ _ h => ⟨h.1, h.2.symm⟩)
                have C2 := Lib.hid (show ∀ W, Calls Try.prog 30 #[.int .i64 j] W fun e w' => e = .returned (.int .i64 AJ) ∧ w' = W from fun W => by rw [hAJ]; exact (L_abs _ _ (by omega)).mono fun _ _ h => ⟨h.1, h.2.symm⟩)
                have C3 := Lib.hid (show ∀ W, Calls Try.prog 30 #[.int .i64 p.1] W fun e w' => e = .returned (.int .i64 AP) ∧ w' = W from fun W => by rw [hAP]; exact (L_abs _ _ (by omega)).mono fun _ _ h => ⟨h.1, h.2.symm⟩)
                have C4 := Lib.hid (show ∀ W, Calls Try.prog 30 #[.int .i64 p.2] W fun e w' => e = .returned (.int .i64 AQ) ∧ w' = W from fun W => by rw [hAQ]; exact (L_abs _ _ (by omega)).mono fun _ _ h => ⟨h.1, h.2.symm⟩)
                have hab : 0 ≤ AI ∧ AI ≤ 8 ∧ 0 ≤ AJ ∧ AJ ≤ 8 ∧ 0 ≤ AP ∧ AP ≤ 8 ∧ 0 ≤ AQ ∧ AQ ≤ 8 := by omega
                clear hAI hAJ hAP hAQ hs
                have HQ := Lib.hid hq
                clear hq
                go_wp2_with fail
                refine (I_MotionCost a b a' b' x y i j _ _ _ _ zs zs' _ (RY.out.keep (HBC.out.trans (HBR.out.mono hzc))) (RY'.out.keep (HBC.out.trans (HBR.out.mono hzc))) (by omega) (by omega)).mono ?_
                rw [← HQ.out]
                rintro e w2 ⟨rfl, hb⟩
                have HBX := Lib.hid (HBR.out.trans (hb.mono hzr))
                have f8 := e8.below hb le8
                clear k30 k31 k32 k40 k41 k42 k80 k81 hb
                have k80 := f8.get (i := 0) rfl
                have k81 := f8.get (i := 1) rfl
                have lf8 := f8.lt
                rcases hgq with hc | ⟨rfl, hc⟩
                · have hd1 : decide (q < m) = false := by simp only [decide_eq_false_iff_not]; omega
                  have hd2 : (q == m) = false := by simp; omega
                  go_upto_region 17 with fail
                  go_quiet (fail)
                  go_wp2_with fail
                  go_roundw
                  case rel => exact ⟨i + 1, by go_num, by omega, by omega, by first | exact HBX.out | exact HBX.out.trans ((drewN_below w2 _).mono (HBX.out.size))⟩
                  case measure => simp [intOf]; omega
                · have hd1 : decide (AI + AJ < AP + AQ) = false := by simp only [decide_eq_false_iff_not]; omega
                  have hd2 : decide (q < q) = false := by simp
                  go_upto_region 17 with fail
                  go_quiet (first | (go_at_call 30; first | exact Calls.quiet_of_same (C1.out _) | exact Calls.quiet_of_same (C2.out _) | exact Calls.quiet_of_same (C3.out _) | exact Calls.quiet_of_same (C4.out _)))
                  go_wp2_with fail
                  go_roundw
                  case rel => exact ⟨i + 1, by go_num, by omega, by omega, by first | exact HBX.out | exact HBX.out.trans ((drewN_below w2 _).mono (HBX.out.size))⟩
                  case measure => simp [intOf]; omega
              · obtain rfl : i = n + 1 := by omega
                go_wp2_with fail
                go_roundw
                case rel => exact ⟨j + 1, by go_num, by omega, by omega, hbr⟩
                case measure => simp [intOf]; omega
          · obtain rfl : j = n + 1 := by omega
            have hbr := HBR.out
            have e3 := d3.below hbr lc3
            have e8 := d8.below hbr lc8
            have hzr := hbr.size
            clear hbr
            have k30 := e3.get (i := 0) rfl
            have k31 := e3.get (i := 1) rfl
            have k32 := e3.get (i := 2) rfl
            have k80 := e8.get (i := 0) rfl
            have k81 := e8.get (i := 1) rfl
            have le3 := e3.lt
            have le8 := e8.lt
            have hs := G1.out
            unfold inSq at hs
            have hm1 : max p.1 (-p.1) ≤ n := by omega
            have hm2 : max p.2 (-p.2) ≤ n := by omega
            go_wp2_with (first | (go_at_call 44; refine (I_MotionSearch a b a b x y n _ _ _ _ zs zs _ (RY.out.keep (HBC.out.trans (HBR.out.mono hzc))) (RY.out.keep (HBC.out.trans (HBR.out.mono hzc))) (by omega) (by omega)).mono ?_; rintro e w2 ⟨p2, rfl, hp2, hb⟩; obtain rfl := G3.out p2 hp2; clear hp2; have f8 := e8.below hb le8; have HBX := Lib.hid (HBR.out.trans (hb.mono hzr)); clear hb k30 k31 k32 k80 k81; have k80 := f8.get (i := 0) rfl; have k81 := f8.get (i := 1) rfl; have lf8 := f8.lt) | (go_at_call 30; refine (L_abs _ _ (by omega)).mono ?_; rintro e w' ⟨rfl, rfl⟩))
            go_returns
            exact ⟨by first | rfl | simp [hm1, hm2], HYw.out.trans ((HBC.out.trans (HBX.out.mono hzc)).mono (by omega))⟩

set_option maxRecDepth 100000 in
theorem lifted (os : Os) (started : os.Started) (H : Type) (enc : TypeId × Value → H) :
    ReturnsInHanded {} Try.checked os 14 .any (Rows.fnMotionSearchSpec.pre6 enc Try.prog Try.f14 Rows.fnMotionSearchRow.domain false) (Rows.fnMotionSearchSpec.post enc Try.prog Try.f14 false true false false) := by
  refine returnsInHanded_of_change (C := Try.checked) own started (by kernel_rfl) Try.func14
    (ChangeSpec.witness6 (enc := enc) (C := Try.checked) false ⟨#[], #[.slice none 0 0], []⟩ 8 (by kernel_rfl) (by kernel_rfl) (by kernel_rfl) (by kernel_rfl)) ?_
  intro W base args ds gs before hval0 hW hcnd _
  have hval : ∀ (j : Nat) t v, Try.f14.params[j]? = some t → args[j]? = some v → Value.okWide Try.prog W .any base t v := hval0
  have hW' := hW
  obtain ⟨p, q, hA0, hV, rfl, hfz, hnd⟩ := hW
  have hA : DataW.TrodAll enc Try.prog W 0 (fun _ => true) true Try.f14.params.toList args.toList ds p := hA0
  rw [Try.params14] at hA hval
  obtain ⟨v0, vs0, d0, ds0, p0, q0, hargs, rfl, rfl, h0, r0⟩ := trodAll_cons hA
  obtain ⟨rfl, rfl, rfl⟩ := trodAll_nil r0
  obtain rfl : args = #[v0] := by cases args; simp_all
  obtain ⟨rfl, rfl⟩ := trodVars_none hV
  have k0 := h0
  have lt0 : ∀ x ∈ p0, x.block < W.heap.size := by obtain ⟨m, hm⟩ := k0; exact DataW.trod_lt m _ _ _ hm
  obtain ⟨aa0, ll0, cc0, rfl⟩ := okWide_slice Try.underlying33 (hval 0 33 v0 rfl rfl)
  obtain ⟨f0, hf0⟩ := h0
  simp only [Value.cells] at hf0
  obtain ⟨a_cs, len_cs, cap_cs, cs, e_cs, w_cs⟩ : ∃ a l c zs, (.slice aa0 ll0 cc0 : Value) = .slice a l c ∧ IsRow .u8 W a l c zs := by
    rcases open_ints Try.underlying33 Try.underlying5 (by kernel_rfl) hf0 with ⟨hcs, _⟩ | ⟨x, l, c, zs, hcs, _, hl, hm, hz, _, hcell, hwz⟩
    · simp only [List.cons.injEq, and_true] at hcs; exact ⟨none, 0, 0, [], hcs, .inl ⟨rfl, rfl, rfl, rfl⟩⟩
    · simp only [List.cons.injEq, and_true] at hcs; exact ⟨some x, l, c, zs, hcs, .inr ⟨x, rfl, hl, hm, by simpa using hz, hcell, hwz⟩⟩
  simp only [Value.slice.injEq] at e_cs
  obtain ⟨rfl, rfl, rfl⟩ := e_cs
  clear hA0 hval0
  refine (walk _ _ _ cs W w_cs).mono fun e W' ⟨he, bel⟩ => ?_
  subst he
  exact ⟨_, rfl, _, _, _, [], _, [], hW', trodAll_mk1 (shut_bool Try.underlying4 _), (trodAll_cons_mk (Below.trod laidOut (by kernel_rfl) (of_decide_eq_true (by kernel_rfl)) k0 bel lt0) trodAll_mk0), rfl, bel.frame _, fun h => by cases h⟩

theorem over : Rows.fnMotionSearchRow.holds Try.pinned (OpenSpec.ofChange Rows.fnMotionSearchSpec) :=
  OpenClaim.holds_of_wide 14 Try.f14 rfl rfl rfl rfl rfl rfl rfl ⟨rfl, rfl, rfl, rfl, rfl⟩ rfl rfl rfl rfl rfl (by kernel_rfl) Try.func14 (by kernel_rfl)
    (of_decide_eq_true (by kernel_rfl)) (by unfold Func.isWrapper; first | (rw [if_pos (by decide +kernel)]; kernel_rfl) | (rw [if_neg (by decide +kernel)]; exact ⟨rfl, rfl⟩))
    (fun os started H enc _ => lifted os started H enc)

theorem proved : Rows.FnMotionSearchSaid := over
#print axioms proved
end Go.Proofs.Ytobphddjoebfjaa.fnMotionSearch
