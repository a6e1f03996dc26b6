/- The reference's search. -/
import Derived.Test.YtobphddjoebfjaaVecM
namespace Go.Proofs.Ytobphddjoebfjaa
open Go.RowKit
set_option linter.unusedVariables false
set_option linter.unusedSimpArgs false

attribute [local go_sem] size_addsW cell?_addsW frozen?_addsW setCell_addsW drew_addsW adds_addsW setCell_twice alloc_adds0 size_adds0 adds_adds0 sel2 sel3 sel4 sel5 sel6 sel7 sel8 sel9 lt_more lt_more2 lt_more3 lt_more4 adds_drew adds_drewN drewN_addsW ltA_1_1 ltA_1_2 ltA_1_3 ltA_1_4 ltA_1_5 ltA_1_6 ltA_2_1 ltA_2_2 ltA_2_3 ltA_2_4 ltA_2_5 ltA_2_6 ltA_3_1 ltA_3_2 ltA_3_3 ltA_3_4 ltA_3_5 ltA_3_6 ltA_4_1 ltA_4_2 ltA_4_3 ltA_4_4 ltA_4_5 ltA_4_6 ltA_5_1 ltA_5_2 ltA_5_3 ltA_5_4 ltA_5_5 ltA_5_6 ltA_6_1 ltA_6_2 ltA_6_3 ltA_6_4 ltA_6_5 ltA_6_6 ltA_7_1 ltA_7_2 ltA_7_3 ltA_7_4 ltA_7_5 ltA_7_6 ltA_8_1 ltA_8_2 ltA_8_3 ltA_8_4 ltA_8_5 ltA_8_6 ltA_9_1 ltA_9_2 ltA_9_3 ltA_9_4 ltA_9_5 ltA_9_6 ltA_10_1 ltA_10_2 ltA_10_3 ltA_10_4 ltA_10_5 ltA_10_6 ltA_11_1 ltA_11_2 ltA_11_3 ltA_11_4 ltA_11_5 ltA_11_6 ltA_12_1 ltA_12_2 ltA_12_3 ltA_12_4 ltA_12_5 ltA_12_6

def seenV (n j i : Int) (q : Int × Int) : Prop := q = (0, 0) ∨ (inSq n q ∧ (q.2 < j ∨ (q.2 = j ∧ q.1 < i)))
theorem pair_eq {p q : Int × Int} (h : p.1 = q.1) (h' : p.2 = q.2) : p = q := Prod.ext h h'
theorem seen_bd {f : Int × Int → Int} {n j i : Int} {p : Int × Int} (hn : 0 ≤ n) (h : IsBest f (seenV n j i) p) : inSq n p := by
  rcases h.1 with e | h1
  · rw [e]; unfold inSq; simp only; omega
  · exact h1.1
theorem seen_start (f : Int × Int → Int) (n : Int) : IsBest f (seenV n (-n) (-n)) (0, 0) :=
  ⟨.inl rfl, fun q hq => by
    rcases hq with e | ⟨h1, h2⟩
    · exact .inl e
    · unfold inSq at h1; omega⟩
theorem seen_iff {n j i : Int} (hv : inSq n (i, j)) (q : Int × Int) : seenV n j (i + 1) q ↔ (seenV n j i q ∨ q = (i, j)) := by
  constructor
  · rintro (e | ⟨h1, h2⟩)
    · exact .inl (.inl e)
    · by_cases hq : q.2 = j ∧ q.1 = i
      · exact .inr (pair_eq hq.2 hq.1)
      · exact .inl (.inr ⟨h1, by omega⟩)
  · rintro ((e | ⟨h1, h2⟩) | e)
    · exact .inl e
    · exact .inr ⟨h1, by omega⟩
    · rw [e]; exact .inr ⟨hv, .inr ⟨rfl, by show i < i + 1; omega⟩⟩
theorem seen_new {f : Int × Int → Int} {n j i : Int} {p : Int × Int} (hv : inSq n (i, j)) (h : IsBest f (seenV n j i) p) (hc : f (i, j) < f p ∨ (f (i, j) = f p ∧ vab (i, j) < vab p)) : IsBest f (seenV n j (i + 1)) (i, j) :=
  h.more (seen_iff hv) (by
    rcases hc with h1 | ⟨h1, h2⟩
    · exact .inl h1
    · exact .inr ⟨h1, .inl h2⟩)
theorem seen_keep {f : Int × Int → Int} {n j i : Int} {p : Int × Int} (hv : inSq n (i, j)) (h : IsBest f (seenV n j i) p) (hc : ¬ (f (i, j) < f p ∨ (f (i, j) = f p ∧ vab (i, j) < vab p))) : IsBest f (seenV n j (i + 1)) p :=
  h.keep (seen_iff hv) (by
    by_cases he : f (i, j) = f p
    · by_cases h3 : vab p < vab (i, j)
      · exact .inr (.inr ⟨he.symm, .inl h3⟩)
      · have h4 : vab p = vab (i, j) := by omega
        rcases h.1 with e | ⟨h1, h2⟩
        · left
          rw [e] at h4 ⊢
          simp only [vab, absI] at h4
          exact pair_eq (by simp only; omega) (by simp only; omega)
        · exact .inr (.inr ⟨he.symm, .inr ⟨h4, h2⟩⟩)
    · exact .inr (.inl (by omega)))
theorem seen_row {f : Int × Int → Int} {n j : Int} {p : Int × Int} (h : IsBest f (seenV n j (n + 1)) p) : IsBest f (seenV n (j + 1) (-n)) p :=
  h.congr (fun q => by
    unfold seenV
    constructor
    · rintro (e | ⟨h1, h2⟩)
      · exact .inl e
      · exact .inr ⟨h1, by unfold inSq at h1; omega⟩
    · rintro (e | ⟨h1, h2⟩)
      · exact .inl e
      · exact .inr ⟨h1, by unfold inSq at h1; omega⟩)
theorem seen_all {f : Int × Int → Int} {n : Int} {p : Int × Int} (hn : 0 ≤ n) (h : IsBest f (seenV n (n + 1) (-n)) p) : IsBest f (inSq n) p :=
  h.congr (fun q => by
    unfold seenV
    constructor
    · intro h1; exact .inr ⟨h1, by unfold inSq at h1; omega⟩
    · rintro (e | ⟨h1, h2⟩)
      · rw [e]; unfold inSq; simp only; omega
      · exact h1)

theorem S_l7Abs (p : Int × Int) (w : World) (h : inSq 100 p) : Calls Try.prog 90 #[.agg #[.int .i64 p.1, .int .i64 p.2]] w fun e w' => e = .returned (.int .i64 (vab p)) ∧ Below w.heap.size w w' := by
  obtain ⟨x, y⟩ := p
  unfold inSq at h
  simp only at h
  go_enter Try.func90, Try.ntmps90
  go_wp2
  all_goals
    go_returns
    exact ⟨M.ret_int (by simp only [vab, absI]; omega), (by repeat' (first | (with_reducible exact Below.refl _ _) | (with_reducible refine Below.adds_ ?_ ?_ _ _) | (with_reducible refine Below.alloc ?_ ?_ _) | (with_reducible refine Below.drew ?_) | (with_reducible refine Below.setCell ?_ ?_ _) | (with_reducible assumption) | go_size | (simp only [size_addsW, World.size_alloc, World.size_drew, World.size_setCell]; omega)))⟩

/-- the best vector's box is block s; whatever lay in W1 lies as it lay -/
structure SSt (s : Nat) (W1 : World) (p : Int × Int) (W : World) : Prop where
  p : Blk W s #[.int .i64 p.1, .int .i64 p.2] 53
  below : Below W1.heap.size W1 W
theorem SSt.alloc {s : Nat} {W1 W : World} {p : Int × Int} (h : SSt s W1 p W) (o : Obj) : SSt s W1 p (W.alloc o) := ⟨h.p.alloc o, h.below.alloc h.below.size o⟩
theorem SSt.adds {s : Nat} {W1 W : World} {p : Int × Int} (h : SSt s W1 p W) (os : Array Obj) (n : Nat) : SSt s W1 p (addsW W os n) := ⟨h.p.adds os n, Below.adds_ h.below h.below.size os n⟩
theorem SSt.drew {s : Nat} {W1 W : World} {p : Int × Int} (h : SSt s W1 p W) : SSt s W1 p W.drew := ⟨h.p, h.below.drew⟩
theorem SSt.drewN {s : Nat} {W1 W : World} {p : Int × Int} (h : SSt s W1 p W) (n : Nat) : SSt s W1 p (W.drewN n) := ⟨h.p, h.below.trans (drewN_below W n |>.mono h.below.size)⟩
theorem SSt.next {s : Nat} {W1 W : World} {p : Int × Int} (h : SSt s W1 p W) (hs : W1.heap.size ≤ s) (x y : Int) : SSt s W1 (x, y) ((W.setCell ⟨s, 0, none⟩ (.int .i64 x)).setCell ⟨s, 1, none⟩ (.int .i64 y)) :=
  ⟨(h.p.set 0 _).set 1 _, (h.below.setCell hs _).setCell hs _⟩
def SRel (f : Int × Int → Int) (N : Nat) (s : Nat) (W1 : World) (m j : Value) (wr : World) : Prop :=
  ∃ (t : Nat) (p : Int × Int), t ≤ 2 * N + 1 ∧ j = .int .i64 (-(N : Int) + (t : Int)) ∧ m = .int .i64 (f p) ∧ IsBest f (seenV N (-(N : Int) + (t : Int)) (-(N : Int))) p ∧ SSt s W1 p wr
def SRel2 (f : Int × Int → Int) (N : Nat) (s : Nat) (W1 : World) (j : Int) (m i : Value) (wr : World) : Prop :=
  ∃ (t : Nat) (p : Int × Int), t ≤ 2 * N + 1 ∧ i = .int .i64 (-(N : Int) + (t : Int)) ∧ m = .int .i64 (f p) ∧ IsBest f (seenV N j (-(N : Int) + (t : Int))) p ∧ SSt s W1 p wr

theorem all_add' {P : Program} {C : Code} {Q : Exit → Act → World → Prop} {a : Act} {W : World}
    (H : ∀ (X : World), X = W → Code.wp P C Q a X) : Code.wp P C Q a W := H _ rfl

set_option maxRecDepth 100000 in
set_option maxHeartbeats 4000000 in
theorem S_l7Search (a b x y : Int) (N : Nat) (A A' : Option Addr) (c c' : Nat) (ts rs : List Int) (w : World) (hr : RowAt .i64 w A ts) (hr' : RowAt .i64 w A' rs) (hv : picB a b ts = true) (hv' : picB a b rs = true) (hxy : 0 ≤ x ∧ x ≤ 32 ∧ 0 ≤ y ∧ y ≤ 32) (hN : N ≤ 8) :
    Calls Try.prog 79 #[.agg #[.int .i64 a, .int .i64 b, .slice A ts.length c], .agg #[.int .i64 a, .int .i64 b, .slice A' rs.length c'], .int .i64 x, .int .i64 y, .int .i64 (N : Int)] w (VGot (cst a b ts rs x y) true (N : Int) w) := by
  have HR := Lib.hid hr
  have HR' := Lib.hid hr'
  have HV := Lib.hid hv
  have HV' := Lib.hid hv'
  have HS := Lib.hid (picB_iff.1 hv).2.2.2
  have HS' := Lib.hid (picB_iff.1 hv').2.2.2
  clear hr hr' hv hv'
  go_enter Try.func79, Try.ntmps79
  go_upto_region 2 with (go_at_call 71; (with_reducible refine (S_l7Block a b x y (0) (0) _ _ ts _ (HR.out.keep (by repeat' (first | (with_reducible exact Below.refl _ _) | (with_reducible refine Below.adds_ ?_ ?_ _ _) | (with_reducible refine Below.alloc ?_ ?_ _) | (with_reducible refine Below.drew ?_) | (with_reducible refine Below.setCell ?_ ?_ _) | (with_reducible assumption) | go_size | (simp only [size_addsW, World.size_alloc, World.size_drew, World.size_setCell]; omega)))) HV.out (by omega) (by omega) (by omega) (by omega)).mono ?_); rintro e w' ⟨B1, d1, rfl, hrb, -, -, hb⟩; obtain ⟨q1, m1, rfl⟩ := below_adds hb; clear hb; (try simp only [adds_addsW, Array.append_assoc] at hrb); have HB1 := Lib.hid hrb; clear hrb)
  have hRf : Blk (((w.alloc (.cells #[.int .i64 a, .int .i64 b, .slice A ts.length c] 27)).alloc (.cells #[.int .i64 a, .int .i64 b, .slice A' rs.length c'] 27)).alloc (.cells #[.int .i64 0, .int .i64 0] 53)) (w.heap.size + 1) #[.int .i64 a, .int .i64 b, .slice A' rs.length c'] 27 := (Blk.new _ _ _ _ (by simp)).alloc _
  have hZb : Blk (((w.alloc (.cells #[.int .i64 a, .int .i64 b, .slice A ts.length c] 27)).alloc (.cells #[.int .i64 a, .int .i64 b, .slice A' rs.length c'] 27)).alloc (.cells #[.int .i64 0, .int .i64 0] 53)) (w.heap.size + 1 + 1) #[.int .i64 0, .int .i64 0] 53 := Blk.new _ _ _ _ (by simp)
  have hbw : Below w.heap.size w (((w.alloc (.cells #[.int .i64 a, .int .i64 b, .slice A ts.length c] 27)).alloc (.cells #[.int .i64 a, .int .i64 b, .slice A' rs.length c'] 27)).alloc (.cells #[.int .i64 0, .int .i64 0] 53)) := (by repeat' (first | (with_reducible exact Below.refl _ _) | (with_reducible refine Below.adds_ ?_ ?_ _ _) | (with_reducible refine Below.alloc ?_ ?_ _) | (with_reducible refine Below.drew ?_) | (with_reducible refine Below.setCell ?_ ?_ _) | (with_reducible assumption) | go_size | (simp only [size_addsW, World.size_alloc, World.size_drew, World.size_setCell]; omega)))
  refine all_add' ?_
  intro W1 hW
  have hRf := hW ▸ hRf.adds q1 m1
  have hZb := hW ▸ hZb.adds q1 m1
  have hbw := hW ▸ Below.adds_ hbw hbw.size q1 m1
  have HB1 := hW ▸ HB1
  clear hW
  have hz1 := hbw.size
  have hr0 := hRf.get (i := 0) rfl
  have hr1 := hRf.get (i := 1) rfl
  have hr2 := hRf.get (i := 2) rfl
  have hlr := hRf.lt
  have hlz := hZb.lt
  have HC := Lib.hid (cost_lists a b ts rs x y 0 0)
  go_upto_region 4 with (first | (go_at_call 71; (with_reducible refine (S_l7Block a b x y _ _ _ _ rs _ (HR'.out.keep (hbw.trans ((show Below W1.heap.size W1 _ from (by repeat' (first | (with_reducible exact Below.refl _ _) | (with_reducible refine Below.adds_ ?_ ?_ _ _) | (with_reducible refine Below.alloc ?_ ?_ _) | (with_reducible refine Below.drew ?_) | (with_reducible refine Below.setCell ?_ ?_ _) | (with_reducible assumption) | go_size | (simp only [size_addsW, World.size_alloc, World.size_drew, World.size_setCell]; omega)))).mono hz1))) HV'.out (by omega) (by omega) (by omega) (by omega)).mono ?_); rintro e w' ⟨B2, d2, rfl, hrb, -, -, hb⟩; have hb2 := hb; obtain ⟨q2, m2, rfl⟩ := below_adds hb; clear hb; have HB2 := Lib.hid hrb; clear hrb) | (go_at_call 76; refine (S_l7Cost _ _ _ _ (mvL a b ts x y 0 0 64) (mvL a b rs x y 0 0 64) _ (HB1.out.keep (show Below W1.heap.size W1 _ from (by repeat' (first | (with_reducible exact Below.refl _ _) | (with_reducible refine Below.adds_ ?_ ?_ _ _) | (with_reducible refine Below.alloc ?_ ?_ _) | (with_reducible refine Below.drew ?_) | (with_reducible refine Below.setCell ?_ ?_ _) | (with_reducible assumption) | go_size | (simp only [size_addsW, World.size_alloc, World.size_drew, World.size_setCell]; omega))))) HB2.out (by rw [mvL_len, mvL_len]) (by rw [mvL_len]; omega) (fun k => ⟨mvL_bytes HS.out _ _ _ _ k, mvL_bytes HS'.out _ _ _ _ k⟩)).mono ?_; rintro e w' ⟨rfl, hb⟩; obtain ⟨q3, m3, rfl⟩ := below_adds hb; clear hb; rw [HC.out]))
  go_wp2_with fail
  go_loopw [13, 14] (fun m j wr => SRel (cst a b ts rs x y) N W1.heap.size W1 m j wr) (fun _ j _ => (N + 1 - intOf j).toNat)
  case atStart => exact ⟨0, (0, 0), by omega, by simp, rfl, by simpa using seen_start (cst a b ts rs x y) N, (Blk.new W1 _ _ _ rfl).adds _ _, (by repeat' (first | (with_reducible exact Below.refl _ _) | (with_reducible refine Below.adds_ ?_ ?_ _ _) | (with_reducible refine Below.alloc ?_ ?_ _) | (with_reducible refine Below.drew ?_) | (with_reducible refine Below.setCell ?_ ?_ _) | (with_reducible assumption) | go_size | (simp only [size_addsW, World.size_alloc, World.size_drew, World.size_setCell]; omega)))⟩
  case round =>
    obtain ⟨t, p, ht, rfl, rfl, hbest, hst⟩ := hrel
    have HBt := Lib.hid hbest
    have HSt := Lib.hid hst
    clear hbest hst
    by_cases hlt : t < 2 * N + 1
    · obtain ⟨j, hj⟩ : ∃ j : Int, j = -(N : Int) + (t : Int) := ⟨_, rfl⟩
      rw [← hj]
      have hjb : -8 ≤ j ∧ j ≤ 8 ∧ -(N : Int) ≤ j ∧ j ≤ (N : Int) := by omega
      rw [← hj] at HBt
      have HJ := Lib.hid hj
      clear hj
      go_wp2_with fail
      go_loopw [13, 15] (fun m i wr => SRel2 (cst a b ts rs x y) N W1.heap.size W1 j m i wr) (fun _ i _ => (N + 1 - intOf i).toNat)
      case atStart => exact ⟨0, p, by omega, by simp, rfl, by simpa using HBt.out, HSt.out⟩
      case round =>
        clear HBt HSt
        obtain ⟨t2, p, ht2, rfl, rfl, hbest, hst⟩ := hrel
        have HBt := Lib.hid hbest
        have hpb := seen_bd (by omega) hbest
        clear hbest
        have hp0 := hst.p.get (i := 0) rfl
        have hp1 := hst.p.get (i := 1) rfl
        by_cases hlt2 : t2 < 2 * N + 1
        · obtain ⟨i, hi⟩ : ∃ i : Int, i = -(N : Int) + (t2 : Int) := ⟨_, rfl⟩
          rw [← hi]
          have hib : -8 ≤ i ∧ i ≤ 8 ∧ -(N : Int) ≤ i ∧ i ≤ (N : Int) := by omega
          rw [← hi] at HBt
          have HI := Lib.hid hi
          clear hi
          have hcr0 := (hRf.below hst.below hlr).get (i := 0) rfl
          have hcr1 := (hRf.below hst.below hlr).get (i := 1) rfl
          have hcr2 := (hRf.below hst.below hlr).get (i := 2) rfl
          have hlp := hst.p.lt
          have hlr2 : w.heap.size + 1 < wr.heap.size := by have := hst.below.size; omega
          obtain ⟨q, hq⟩ : ∃ q, q = cst a b ts rs x y (i, j) := ⟨_, rfl⟩
          have HC2 := Lib.hid ((cost_lists a b ts rs x y i j).trans (show cost a b ts rs x y i j = q from hq.symm))
          have HQ := Lib.hid hq
          clear hq
          obtain ⟨m, hm⟩ : ∃ m, m = cst a b ts rs x y p := ⟨_, rfl⟩
          rw [← hm]
          have HM := Lib.hid hm
          clear hm
          go_upto_region 12 with (first | (go_at_call 71; (with_reducible refine (S_l7Block a b x y i j _ _ rs _ (HR'.out.keep (hbw.trans ((show Below W1.heap.size W1 _ from Below.trans hst.below (Below.mono (show Below wr.heap.size wr _ from (by repeat' (first | (with_reducible exact Below.refl _ _) | (with_reducible refine Below.adds_ ?_ ?_ _ _) | (with_reducible refine Below.alloc ?_ ?_ _) | (with_reducible refine Below.drew ?_) | (with_reducible refine Below.setCell ?_ ?_ _) | (with_reducible assumption) | go_size | (simp only [size_addsW, World.size_alloc, World.size_drew, World.size_setCell]; omega)))) hst.below.size)).mono hz1))) HV'.out (by omega) (by omega) (by omega) (by omega)).mono ?_); rintro e w' ⟨B2, d2, rfl, hrb, -, -, hb⟩; have hb2 := hb; obtain ⟨q2, m2, rfl⟩ := below_adds hb; clear hb; have HB2 := Lib.hid hrb; clear hrb) | (go_at_call 76; refine (S_l7Cost _ _ _ _ (mvL a b ts x y 0 0 64) (mvL a b rs x y i j 64) _ (HB1.out.keep (show Below W1.heap.size W1 _ from Below.trans hst.below (Below.mono (show Below wr.heap.size wr _ from (by repeat' (first | (with_reducible exact Below.refl _ _) | (with_reducible refine Below.adds_ ?_ ?_ _ _) | (with_reducible refine Below.alloc ?_ ?_ _) | (with_reducible refine Below.drew ?_) | (with_reducible refine Below.setCell ?_ ?_ _) | (with_reducible assumption) | go_size | (simp only [size_addsW, World.size_alloc, World.size_drew, World.size_setCell]; omega)))) hst.below.size))) HB2.out (by rw [mvL_len, mvL_len]) (by rw [mvL_len]; omega) (fun k => ⟨mvL_bytes HS.out _ _ _ _ k, mvL_bytes HS'.out _ _ _ _ k⟩)).mono ?_; rintro e w' ⟨rfl, hb⟩; obtain ⟨q3, m3, rfl⟩ := below_adds hb; clear hb; rw [HC2.out]))
          refine all_add' ?_
          intro X hX
          have hstv := hX ▸ (hst.alloc (.cells #[.int .i64 i, .int .i64 j] 53)).adds (q2 ++ q3) m3
          have hVb := hX ▸ (Blk.new wr #[.int .i64 i, .int .i64 j] 53 _ rfl).adds (q2 ++ q3) m3
          clear hX
          clear hcr0 hcr1 hcr2 hlp hlr2 hp0 hp1 HC2
          generalize wr.heap.size = vb at hVb ⊢
          have vx0 := hVb.get (i := 0) rfl
          have vx1 := hVb.get (i := 1) rfl
          have px0 := hstv.p.get (i := 0) rfl
          have px1 := hstv.p.get (i := 1) rfl
          have pf0 := hstv.p.hot 0
          have pf1 := hstv.p.hot 1
          have lv := hVb.lt
          have lp := hstv.p.lt
          have hsq : inSq (N : Int) (i, j) := ⟨hib.2.2.1, hib.2.2.2, hjb.2.2.1, hjb.2.2.2⟩
          obtain ⟨VA, hVA⟩ : ∃ VA, VA = vab (i, j) := ⟨_, rfl⟩
          obtain ⟨VB, hVB⟩ : ∃ VB, VB = vab p := ⟨_, rfl⟩
          have C1 := Lib.hid (show ∀ W, Calls Try.prog 90 #[.agg #[.int .i64 i, .int .i64 j]] W fun e w' => e = .returned (.int .i64 VA) ∧ Below W.heap.size W w' from fun W => by rw [hVA]; exact S_l7Abs (i, j) W (by unfold inSq; simp only; omega))
          have C2 := Lib.hid (show ∀ W, Calls Try.prog 90 #[.agg #[.int .i64 p.1, .int .i64 p.2]] W fun e w' => e = .returned (.int .i64 VB) ∧ Below W.heap.size W w' from fun W => by rw [hVB]; exact S_l7Abs p W (by unfold inSq at hpb ⊢; omega))
          have HVA := Lib.hid hVA
          have HVB := Lib.hid hVB
          clear hVA hVB
          rcases (show q < m ∨ (q = m ∧ VA < VB) ∨ (q = m ∧ ¬ VA < VB) ∨ m < q by omega) with hc | ⟨rfl, hc⟩ | ⟨rfl, hc⟩ | hc
          · have hd1 : decide (q < m) = true := by simp [hc]
            go_quiet (fail)
            go_wp2_with fail
            go_roundw
            case rel => exact ⟨t2 + 1, (i, j), by omega, by rw [HI.out]; go_num, by rw [← HQ.out], by rw [show -(N : Int) + ((t2 + 1 : Nat) : Int) = i + 1 by rw [HI.out]; omega]; exact seen_new hsq HBt.out (by rw [← HQ.out, ← HM.out]; exact .inl hc), (by repeat (first | (with_reducible exact hstv) | (with_reducible apply SSt.adds) | (with_reducible apply SSt.drewN) | (with_reducible apply SSt.drew) | (refine SSt.next (p := p) ?_ (Nat.le_refl _) _ _)))⟩
            case measure => simp [intOf]; omega
          · have hd1 : decide (VA < VB) = true := by simp [hc]
            have hd2 : decide (q < q) = false := by simp
            refine wp_region_held_drew (S := (fun w' => w'.cell? ⟨vb, 0, none⟩ = some (.int .i64 i) ∧ w'.cell? ⟨vb, 1, none⟩ = some (.int .i64 j) ∧ w'.cell? ⟨W1.heap.size, 0, none⟩ = some (.int .i64 p.1) ∧ w'.cell? ⟨W1.heap.size, 1, none⟩ = some (.int .i64 p.2))) (by kernel_rfl) ?_ (fun hHeld => ?_)
            · (first | exact ⟨vx0, vx1, px0, px1⟩ | assumption | (go_simp; done) | (go_keep; done))
            refine wpAnyH_take (i := 0) (oi := _) (v := ?_) rfl (by kernel_rfl) (by kernel_rfl) (by kernel_rfl) (fun _ _ _ h => h) (Or.inl ⟨by rfl, ?_⟩) (by assumption) ?_
            rotate_left
            · intro w hSw; (try dsimp only at hSw); go_simp; (try with_reducible rfl)
            try dsimp only [List.getElem_toArray, List.getElem_cons_succ, List.getElem_cons_zero]
            simp only [Act.put, List.setIfInBounds_toArray, List.set_cons_zero, List.set_cons_succ]
            refine wpAnyH_take (i := 1) (oi := _) (v := ?_) rfl (by kernel_rfl) (by kernel_rfl) (by kernel_rfl) (fun _ _ _ h => h) (Or.inl ⟨by rfl, ?_⟩) (by assumption) ?_
            rotate_left
            · intro w hSw; (try dsimp only at hSw); go_simp; (try with_reducible rfl)
            try dsimp only [List.getElem_toArray, List.getElem_cons_succ, List.getElem_cons_zero]
            simp only [Act.put, List.setIfInBounds_toArray, List.set_cons_zero, List.set_cons_succ]
            refine wpAnyH_take (i := 2) (oi := _) (v := ?_) rfl (by kernel_rfl) (by kernel_rfl) (by kernel_rfl) (fun _ _ _ h => h) (Or.inl ⟨by rfl, ?_⟩) (by assumption) ?_
            rotate_left
            · intro w hSw; (try dsimp only at hSw); go_simp; (try with_reducible rfl)
            try dsimp only [List.getElem_toArray, List.getElem_cons_succ, List.getElem_cons_zero]
            simp only [Act.put, List.setIfInBounds_toArray, List.set_cons_zero, List.set_cons_succ]
            refine wpAnyH_take (i := 3) (oi := _) (v := ?_) rfl (by kernel_rfl) (by kernel_rfl) (by kernel_rfl) (fun _ _ _ h => h) (Or.inl ⟨by rfl, ?_⟩) (by assumption) ?_
            rotate_left
            · intro w hSw; (try dsimp only at hSw); go_simp; (try with_reducible rfl)
            try dsimp only [List.getElem_toArray, List.getElem_cons_succ, List.getElem_cons_zero]
            simp only [Act.put, List.setIfInBounds_toArray, List.set_cons_zero, List.set_cons_succ]
            refine wpAnyH_take (i := 4) (oi := _) (v := ?_) rfl (by kernel_rfl) (by kernel_rfl) (by kernel_rfl) (fun _ _ _ h => h) (Or.inl ⟨by rfl, ?_⟩) (by assumption) ?_
            rotate_left
            · intro w hSw; (try dsimp only at hSw); go_simp; (try with_reducible rfl)
            try dsimp only [List.getElem_toArray, List.getElem_cons_succ, List.getElem_cons_zero]
            simp only [Act.put, List.setIfInBounds_toArray, List.set_cons_zero, List.set_cons_succ]
            refine wpAnyH_take (i := 5) (oi := _) (v := ?_) rfl (by kernel_rfl) (by kernel_rfl) (by kernel_rfl) (fun _ _ _ h => h) (Or.inl ⟨by rfl, ?_⟩) (by assumption) ?_
            rotate_left
            · intro w hSw; (try dsimp only at hSw); go_simp; (try with_reducible rfl)
            try dsimp only [List.getElem_toArray, List.getElem_cons_succ, List.getElem_cons_zero]
            simp only [Act.put, List.setIfInBounds_toArray, List.set_cons_zero, List.set_cons_succ]
            refine wpAnyH_take (i := 6) (oi := _) (v := ?_) rfl (by kernel_rfl) (by kernel_rfl) (by kernel_rfl) (fun _ _ _ h => h) (Or.inl ⟨by rfl, ?_⟩) (by assumption) ?_
            rotate_left
            · intro w hSw; (try dsimp only at hSw); go_simp; (try with_reducible rfl)
            try dsimp only [List.getElem_toArray, List.getElem_cons_succ, List.getElem_cons_zero]
            simp only [Act.put, List.setIfInBounds_toArray, List.set_cons_zero, List.set_cons_succ]
            refine wpAnyH_take (i := 7) (oi := _) (v := ?_) rfl (by kernel_rfl) (by kernel_rfl) (by kernel_rfl) (fun _ _ _ h => h) (Or.inl ⟨by rfl, ?_⟩) (by assumption) ?_
            rotate_left
            · intro w hSw; (try dsimp only at hSw); go_simp; (try with_reducible rfl)
            try dsimp only [List.getElem_toArray, List.getElem_cons_succ, List.getElem_cons_zero]
            simp only [Act.put, List.setIfInBounds_toArray, List.set_cons_zero, List.set_cons_succ]
            refine wpAnyH_take (i := 8) (oi := _) (v := ?_) rfl (by kernel_rfl) (by kernel_rfl) (by kernel_rfl) (fun _ _ _ h => h) (Or.inl ⟨by rfl, ?_⟩) (by assumption) ?_
            rotate_left
            · intro w hSw; (try dsimp only at hSw); go_simp; (try with_reducible rfl)
            try dsimp only [List.getElem_toArray, List.getElem_cons_succ, List.getElem_cons_zero]
            simp only [Act.put, List.setIfInBounds_toArray, List.set_cons_zero, List.set_cons_succ]
            refine wpAnyH_take (i := 10) (oi := _) (v := ?_) rfl (by kernel_rfl) (by kernel_rfl) (by kernel_rfl) (fun _ _ _ h => h) (Or.inl ⟨by rfl, ?_⟩) (by assumption) ?_
            rotate_left
            · intro w hSw; (try dsimp only at hSw); go_simp; (try with_reducible rfl)
            try dsimp only [List.getElem_toArray, List.getElem_cons_succ, List.getElem_cons_zero]
            simp only [Act.put, List.setIfInBounds_toArray, List.set_cons_zero, List.set_cons_succ]
            refine wpAnyH_ready (rs := [9]) (by kernel_rfl) (by simp) ?_
            refine AllReadyH.cons (o := _) rfl (fun K hK => ?_) ?_
            · (try dsimp only [List.getElem_toArray, List.getElem_cons_succ, List.getElem_cons_zero]); go_simp
              (go_at_call 90; (first | with_reducible refine (C1.out _).mono ?_ | with_reducible refine (C2.out _).mono ?_); rintro e w' ⟨rfl, hb⟩; obtain ⟨o1, n1, rfl⟩ := below_adds hb; clear hb)
              try go_wp2_with fail
              refine hK.out _ _ ?_ (fun hHeld => ?_)
              · (first | exact ⟨vx0, vx1, px0, px1⟩ | assumption | (go_simp; done) | (go_keep; done))
              clear hK K
              try simp only [Act.put, List.setIfInBounds_toArray, List.set_cons_zero, List.set_cons_succ]
              refine wpAnyH_ready (rs := [11]) (by kernel_rfl) (by simp) ?_
              refine AllReadyH.cons (o := _) rfl (fun K hK => ?_) ?_
              · (try dsimp only [List.getElem_toArray, List.getElem_cons_succ, List.getElem_cons_zero]); go_simp
                (go_at_call 90; (first | with_reducible refine (C1.out _).mono ?_ | with_reducible refine (C2.out _).mono ?_); rintro e w' ⟨rfl, hb⟩; obtain ⟨o1, n1, rfl⟩ := below_adds hb; clear hb)
                try go_wp2_with fail
                refine hK.out _ _ ?_ (fun hHeld => ?_)
                · (first | exact ⟨vx0, vx1, px0, px1⟩ | assumption | (go_simp; done) | (go_keep; done))
                clear hK K
                try simp only [Act.put, List.setIfInBounds_toArray, List.set_cons_zero, List.set_cons_succ]
                refine wpAnyH_take (i := 12) (oi := _) (v := ?_) rfl (by kernel_rfl) (by kernel_rfl) (by kernel_rfl) (fun _ _ _ h => h) (Or.inl ⟨by rfl, ?_⟩) (by assumption) ?_
                rotate_left
                · intro w hSw; (try dsimp only at hSw); go_simp; (try with_reducible rfl)
                try dsimp only [List.getElem_toArray, List.getElem_cons_succ, List.getElem_cons_zero]
                simp only [Act.put, List.setIfInBounds_toArray, List.set_cons_zero, List.set_cons_succ]
                refine wpAnyH_take (i := 13) (oi := _) (v := ?_) rfl (by kernel_rfl) (by kernel_rfl) (by kernel_rfl) (fun _ _ _ h => h) (Or.inl ⟨by rfl, ?_⟩) (by assumption) ?_
                rotate_left
                · intro w hSw; (try dsimp only at hSw); go_simp; (try with_reducible rfl)
                try dsimp only [List.getElem_toArray, List.getElem_cons_succ, List.getElem_cons_zero]
                simp only [Act.put, List.setIfInBounds_toArray, List.set_cons_zero, List.set_cons_succ]
                refine wpAnyH_take (i := 14) (oi := _) (v := ?_) rfl (by kernel_rfl) (by kernel_rfl) (by kernel_rfl) (fun _ _ _ h => h) (Or.inl ⟨by rfl, ?_⟩) (by assumption) ?_
                rotate_left
                · intro w hSw; (try dsimp only at hSw); go_simp; (try with_reducible rfl)
                try dsimp only [List.getElem_toArray, List.getElem_cons_succ, List.getElem_cons_zero]
                simp only [Act.put, List.setIfInBounds_toArray, List.set_cons_zero, List.set_cons_succ]
                refine wpAnyH_done (by kernel_rfl) ?_ _
                go_wp2_with fail
                go_roundw
                case rel => exact ⟨t2 + 1, (i, j), by omega, by rw [HI.out]; go_num, by rw [← HQ.out], by rw [show -(N : Int) + ((t2 + 1 : Nat) : Int) = i + 1 by rw [HI.out]; omega]; exact seen_new hsq HBt.out (by rw [← HQ.out, ← HM.out, ← HVA.out, ← HVB.out]; exact .inr ⟨rfl, hc⟩), (by repeat (first | (with_reducible exact hstv) | (with_reducible apply SSt.adds) | (with_reducible apply SSt.drewN) | (with_reducible apply SSt.drew) | (refine SSt.next (p := p) ?_ (Nat.le_refl _) _ _)))⟩
                case measure => simp [intOf]; omega
              exact AllReadyH.nil
            exact AllReadyH.nil
          · have hd1 : decide (VA < VB) = false := by simp only [decide_eq_false_iff_not]; exact hc
            have hd2 : decide (q < q) = false := by simp
            refine wp_region_held_drew (S := (fun w' => w'.cell? ⟨vb, 0, none⟩ = some (.int .i64 i) ∧ w'.cell? ⟨vb, 1, none⟩ = some (.int .i64 j) ∧ w'.cell? ⟨W1.heap.size, 0, none⟩ = some (.int .i64 p.1) ∧ w'.cell? ⟨W1.heap.size, 1, none⟩ = some (.int .i64 p.2))) (by kernel_rfl) ?_ (fun hHeld => ?_)
            · (first | exact ⟨vx0, vx1, px0, px1⟩ | assumption | (go_simp; done) | (go_keep; done))
            refine wpAnyH_take (i := 0) (oi := _) (v := ?_) rfl (by kernel_rfl) (by kernel_rfl) (by kernel_rfl) (fun _ _ _ h => h) (Or.inl ⟨by rfl, ?_⟩) (by assumption) ?_
            rotate_left
            · intro w hSw; (try dsimp only at hSw); go_simp; (try with_reducible rfl)
            try dsimp only [List.getElem_toArray, List.getElem_cons_succ, List.getElem_cons_zero]
            simp only [Act.put, List.setIfInBounds_toArray, List.set_cons_zero, List.set_cons_succ]
            refine wpAnyH_take (i := 1) (oi := _) (v := ?_) rfl (by kernel_rfl) (by kernel_rfl) (by kernel_rfl) (fun _ _ _ h => h) (Or.inl ⟨by rfl, ?_⟩) (by assumption) ?_
            rotate_left
            · intro w hSw; (try dsimp only at hSw); go_simp; (try with_reducible rfl)
            try dsimp only [List.getElem_toArray, List.getElem_cons_succ, List.getElem_cons_zero]
            simp only [Act.put, List.setIfInBounds_toArray, List.set_cons_zero, List.set_cons_succ]
            refine wpAnyH_take (i := 2) (oi := _) (v := ?_) rfl (by kernel_rfl) (by kernel_rfl) (by kernel_rfl) (fun _ _ _ h => h) (Or.inl ⟨by rfl, ?_⟩) (by assumption) ?_
            rotate_left
            · intro w hSw; (try dsimp only at hSw); go_simp; (try with_reducible rfl)
            try dsimp only [List.getElem_toArray, List.getElem_cons_succ, List.getElem_cons_zero]
            simp only [Act.put, List.setIfInBounds_toArray, List.set_cons_zero, List.set_cons_succ]
            refine wpAnyH_take (i := 3) (oi := _) (v := ?_) rfl (by kernel_rfl) (by kernel_rfl) (by kernel_rfl) (fun _ _ _ h => h) (Or.inl ⟨by rfl, ?_⟩) (by assumption) ?_
            rotate_left
            · intro w hSw; (try dsimp only at hSw); go_simp; (try with_reducible rfl)
            try dsimp only [List.getElem_toArray, List.getElem_cons_succ, List.getElem_cons_zero]
            simp only [Act.put, List.setIfInBounds_toArray, List.set_cons_zero, List.set_cons_succ]
            refine wpAnyH_take (i := 4) (oi := _) (v := ?_) rfl (by kernel_rfl) (by kernel_rfl) (by kernel_rfl) (fun _ _ _ h => h) (Or.inl ⟨by rfl, ?_⟩) (by assumption) ?_
            rotate_left
            · intro w hSw; (try dsimp only at hSw); go_simp; (try with_reducible rfl)
            try dsimp only [List.getElem_toArray, List.getElem_cons_succ, List.getElem_cons_zero]
            simp only [Act.put, List.setIfInBounds_toArray, List.set_cons_zero, List.set_cons_succ]
            refine wpAnyH_take (i := 5) (oi := _) (v := ?_) rfl (by kernel_rfl) (by kernel_rfl) (by kernel_rfl) (fun _ _ _ h => h) (Or.inl ⟨by rfl, ?_⟩) (by assumption) ?_
            rotate_left
            · intro w hSw; (try dsimp only at hSw); go_simp; (try with_reducible rfl)
            try dsimp only [List.getElem_toArray, List.getElem_cons_succ, List.getElem_cons_zero]
            simp only [Act.put, List.setIfInBounds_toArray, List.set_cons_zero, List.set_cons_succ]
            refine wpAnyH_take (i := 6) (oi := _) (v := ?_) rfl (by kernel_rfl) (by kernel_rfl) (by kernel_rfl) (fun _ _ _ h => h) (Or.inl ⟨by rfl, ?_⟩) (by assumption) ?_
            rotate_left
            · intro w hSw; (try dsimp only at hSw); go_simp; (try with_reducible rfl)
            try dsimp only [List.getElem_toArray, List.getElem_cons_succ, List.getElem_cons_zero]
            simp only [Act.put, List.setIfInBounds_toArray, List.set_cons_zero, List.set_cons_succ]
            refine wpAnyH_take (i := 7) (oi := _) (v := ?_) rfl (by kernel_rfl) (by kernel_rfl) (by kernel_rfl) (fun _ _ _ h => h) (Or.inl ⟨by rfl, ?_⟩) (by assumption) ?_
            rotate_left
            · intro w hSw; (try dsimp only at hSw); go_simp; (try with_reducible rfl)
            try dsimp only [List.getElem_toArray, List.getElem_cons_succ, List.getElem_cons_zero]
            simp only [Act.put, List.setIfInBounds_toArray, List.set_cons_zero, List.set_cons_succ]
            refine wpAnyH_take (i := 8) (oi := _) (v := ?_) rfl (by kernel_rfl) (by kernel_rfl) (by kernel_rfl) (fun _ _ _ h => h) (Or.inl ⟨by rfl, ?_⟩) (by assumption) ?_
            rotate_left
            · intro w hSw; (try dsimp only at hSw); go_simp; (try with_reducible rfl)
            try dsimp only [List.getElem_toArray, List.getElem_cons_succ, List.getElem_cons_zero]
            simp only [Act.put, List.setIfInBounds_toArray, List.set_cons_zero, List.set_cons_succ]
            refine wpAnyH_take (i := 10) (oi := _) (v := ?_) rfl (by kernel_rfl) (by kernel_rfl) (by kernel_rfl) (fun _ _ _ h => h) (Or.inl ⟨by rfl, ?_⟩) (by assumption) ?_
            rotate_left
            · intro w hSw; (try dsimp only at hSw); go_simp; (try with_reducible rfl)
            try dsimp only [List.getElem_toArray, List.getElem_cons_succ, List.getElem_cons_zero]
            simp only [Act.put, List.setIfInBounds_toArray, List.set_cons_zero, List.set_cons_succ]
            refine wpAnyH_ready (rs := [9]) (by kernel_rfl) (by simp) ?_
            refine AllReadyH.cons (o := _) rfl (fun K hK => ?_) ?_
            · (try dsimp only [List.getElem_toArray, List.getElem_cons_succ, List.getElem_cons_zero]); go_simp
              (go_at_call 90; (first | with_reducible refine (C1.out _).mono ?_ | with_reducible refine (C2.out _).mono ?_); rintro e w' ⟨rfl, hb⟩; obtain ⟨o1, n1, rfl⟩ := below_adds hb; clear hb)
              try go_wp2_with fail
              refine hK.out _ _ ?_ (fun hHeld => ?_)
              · (first | exact ⟨vx0, vx1, px0, px1⟩ | assumption | (go_simp; done) | (go_keep; done))
              clear hK K
              try simp only [Act.put, List.setIfInBounds_toArray, List.set_cons_zero, List.set_cons_succ]
              refine wpAnyH_ready (rs := [11]) (by kernel_rfl) (by simp) ?_
              refine AllReadyH.cons (o := _) rfl (fun K hK => ?_) ?_
              · (try dsimp only [List.getElem_toArray, List.getElem_cons_succ, List.getElem_cons_zero]); go_simp
                (go_at_call 90; (first | with_reducible refine (C1.out _).mono ?_ | with_reducible refine (C2.out _).mono ?_); rintro e w' ⟨rfl, hb⟩; obtain ⟨o1, n1, rfl⟩ := below_adds hb; clear hb)
                try go_wp2_with fail
                refine hK.out _ _ ?_ (fun hHeld => ?_)
                · (first | exact ⟨vx0, vx1, px0, px1⟩ | assumption | (go_simp; done) | (go_keep; done))
                clear hK K
                try simp only [Act.put, List.setIfInBounds_toArray, List.set_cons_zero, List.set_cons_succ]
                refine wpAnyH_take (i := 12) (oi := _) (v := ?_) rfl (by kernel_rfl) (by kernel_rfl) (by kernel_rfl) (fun _ _ _ h => h) (Or.inl ⟨by rfl, ?_⟩) (by assumption) ?_
                rotate_left
                · intro w hSw; (try dsimp only at hSw); go_simp; (try with_reducible rfl)
                try dsimp only [List.getElem_toArray, List.getElem_cons_succ, List.getElem_cons_zero]
                simp only [Act.put, List.setIfInBounds_toArray, List.set_cons_zero, List.set_cons_succ]
                refine wpAnyH_take (i := 13) (oi := _) (v := ?_) rfl (by kernel_rfl) (by kernel_rfl) (by kernel_rfl) (fun _ _ _ h => h) (Or.inl ⟨by rfl, ?_⟩) (by assumption) ?_
                rotate_left
                · intro w hSw; (try dsimp only at hSw); go_simp; (try with_reducible rfl)
                try dsimp only [List.getElem_toArray, List.getElem_cons_succ, List.getElem_cons_zero]
                simp only [Act.put, List.setIfInBounds_toArray, List.set_cons_zero, List.set_cons_succ]
                refine wpAnyH_take (i := 14) (oi := _) (v := ?_) rfl (by kernel_rfl) (by kernel_rfl) (by kernel_rfl) (fun _ _ _ h => h) (Or.inl ⟨by rfl, ?_⟩) (by assumption) ?_
                rotate_left
                · intro w hSw; (try dsimp only at hSw); go_simp; (try with_reducible rfl)
                try dsimp only [List.getElem_toArray, List.getElem_cons_succ, List.getElem_cons_zero]
                simp only [Act.put, List.setIfInBounds_toArray, List.set_cons_zero, List.set_cons_succ]
                refine wpAnyH_done (by kernel_rfl) ?_ _
                go_wp2_with fail
                go_roundw
                case rel => exact ⟨t2 + 1, p, by omega, by rw [HI.out]; go_num, by rw [← HM.out], by rw [show -(N : Int) + ((t2 + 1 : Nat) : Int) = i + 1 by rw [HI.out]; omega]; exact seen_keep hsq HBt.out (by rw [← HQ.out, ← HM.out, ← HVA.out, ← HVB.out]; omega), (by repeat (first | (with_reducible exact hstv) | (with_reducible apply SSt.adds) | (with_reducible apply SSt.drewN) | (with_reducible apply SSt.drew)))⟩
                case measure => simp [intOf]; omega
              exact AllReadyH.nil
            exact AllReadyH.nil
          · have hd1 : decide (q < m) = false := by simp only [decide_eq_false_iff_not]; omega
            have hd2 : (q == m) = false := by simp; omega
            go_quiet (fail)
            go_wp2_with fail
            go_roundw
            case rel => exact ⟨t2 + 1, p, by omega, by rw [HI.out]; go_num, by rw [← HM.out], by rw [show -(N : Int) + ((t2 + 1 : Nat) : Int) = i + 1 by rw [HI.out]; omega]; exact seen_keep hsq HBt.out (by rw [← HQ.out, ← HM.out]; omega), (by repeat (first | (with_reducible exact hstv) | (with_reducible apply SSt.adds) | (with_reducible apply SSt.drewN) | (with_reducible apply SSt.drew)))⟩
            case measure => simp [intOf]; omega
        · obtain rfl : t2 = 2 * N + 1 := by omega
          have hd : ¬ (-(N : Int) + ((2 * N + 1 : Nat) : Int)) ≤ (N : Int) := by omega
          go_wp2_with fail
          go_roundw
          case rel => exact ⟨t + 1, p, by omega, by rw [HJ.out]; go_num, rfl, by rw [show -(N : Int) + ((t + 1 : Nat) : Int) = j + 1 by rw [HJ.out]; omega]; exact seen_row (by have := HBt.out; rw [show -(N : Int) + ((2 * N + 1 : Nat) : Int) = (N : Int) + 1 by omega] at this; exact this), hst⟩
          case measure => simp [intOf]; omega
    · obtain rfl : t = 2 * N + 1 := by omega
      have hd : ¬ (-(N : Int) + ((2 * N + 1 : Nat) : Int)) ≤ (N : Int) := by omega
      have hst := HSt.out
      have zz := hZb.below hst.below hlz
      have z0 := zz.get (i := 0) rfl
      have z1 := zz.get (i := 1) rfl
      have f0 := zz.hot 0
      have f1 := zz.hot 1
      have p0 := hst.p.get (i := 0) rfl
      have p1 := hst.p.get (i := 1) rfl
      go_wp2_with fail
      refine bodyPost_ret (v := .agg #[.int .i64 p.1, .int .i64 p.2]) (results_cell_row Try.results79 _ _ (w.heap.size + 1 + 1) 53 _ (0, 0) _ rfl ((zz.set 0 _).set 1 _) Try.underlying53 rfl (by kernel_rfl)) rfl ?_
      exact ⟨p, rfl, ⟨fun _ => seen_all (by omega) (by have := HBt.out; rw [show -(N : Int) + ((2 * N + 1 : Nat) : Int) = (N : Int) + 1 by omega] at this; exact this), fun h => (by cases h)⟩, ((hbw.trans (hst.below.mono hz1)).setCell (by simp only; omega) _).setCell (by simp only; omega) _⟩

set_option maxRecDepth 100000 in
set_option maxHeartbeats 2000000 in
theorem S_MotionSearch (a b a' b' x y n : Int) (A A' : Option Addr) (c c' : Nat) (ts rs : List Int) (w : World) (hr : RowAt .i64 w A ts) (hr' : RowAt .i64 w A' rs) (hl : ts.length ≤ 1000000000000) (hl' : rs.length ≤ 1000000000000) :
    Calls Try.prog 43 #[.agg #[.int .i64 a, .int .i64 b, .slice A ts.length c], .agg #[.int .i64 a', .int .i64 b', .slice A' rs.length c'], .int .i64 x, .int .i64 y, .int .i64 n] w (VGot (cst a b ts rs x y) (okB a b ts a' b' rs x y n) n w) := by
  have HR := Lib.hid hr
  have HR' := Lib.hid hr'
  clear hr hr'
  cases h1 : sameB a b ts a' b' rs
  · rw [show okB a b ts a' b' rs x y n = false by simp [okB, h1]]
    go_enter Try.func43, Try.ntmps43
    go_wp2_with (go_at_call 75; refine (S_l1Same _ _ _ _ _ _ _ _ ts rs _ (HR.out.keep (by repeat' (first | (with_reducible exact Below.refl _ _) | (with_reducible refine Below.adds_ ?_ ?_ _ _) | (with_reducible refine Below.alloc ?_ ?_ _) | (with_reducible refine Below.drew ?_) | (with_reducible refine Below.setCell ?_ ?_ _) | (with_reducible assumption) | go_size | (simp only [size_addsW, World.size_alloc, World.size_drew, World.size_setCell]; omega)))) (HR'.out.keep (by repeat' (first | (with_reducible exact Below.refl _ _) | (with_reducible refine Below.adds_ ?_ ?_ _ _) | (with_reducible refine Below.alloc ?_ ?_ _) | (with_reducible refine Below.drew ?_) | (with_reducible refine Below.setCell ?_ ?_ _) | (with_reducible assumption) | go_size | (simp only [size_addsW, World.size_alloc, World.size_drew, World.size_setCell]; omega)))) (by omega) (by omega)).mono ?_; rintro e w' ⟨rfl, hb⟩; obtain ⟨o1, n1, rfl⟩ := below_adds hb; clear hb)
    go_returns
    exact VGot.zero (by repeat' (first | (with_reducible exact Below.refl _ _) | (with_reducible refine Below.adds_ ?_ ?_ _ _) | (with_reducible refine Below.alloc ?_ ?_ _) | (with_reducible refine Below.drew ?_) | (with_reducible refine Below.setCell ?_ ?_ _) | (with_reducible assumption) | go_size | (simp only [size_addsW, World.size_alloc, World.size_drew, World.size_setCell]; omega)))
  · obtain ⟨hv, hv', rfl, rfl⟩ := sameB_of h1
    have HV := Lib.hid hv
    have HV' := Lib.hid hv'
    have hab : a ≤ 32 ∧ b ≤ 32 := ⟨(sideB_bd (picB_iff.1 hv).1).2.1, (sideB_bd (picB_iff.1 hv).2.1).2.1⟩
    clear hv'
    have hvb := hv
    clear hv
    have HVb := Lib.hid hvb
    cases h2 : begB a b x y
    · rw [show okB a b ts a b rs x y n = false by simp [okB, h2]]
      clear hvb
      go_enter Try.func43, Try.ntmps43
      go_wp2_with (first | (go_at_call 75; refine (S_l1Same _ _ _ _ _ _ _ _ ts rs _ (HR.out.keep (by repeat' (first | (with_reducible exact Below.refl _ _) | (with_reducible refine Below.adds_ ?_ ?_ _ _) | (with_reducible refine Below.alloc ?_ ?_ _) | (with_reducible refine Below.drew ?_) | (with_reducible refine Below.setCell ?_ ?_ _) | (with_reducible assumption) | go_size | (simp only [size_addsW, World.size_alloc, World.size_drew, World.size_setCell]; omega)))) (HR'.out.keep (by repeat' (first | (with_reducible exact Below.refl _ _) | (with_reducible refine Below.adds_ ?_ ?_ _ _) | (with_reducible refine Below.alloc ?_ ?_ _) | (with_reducible refine Below.drew ?_) | (with_reducible refine Below.setCell ?_ ?_ _) | (with_reducible assumption) | go_size | (simp only [size_addsW, World.size_alloc, World.size_drew, World.size_setCell]; omega)))) (by omega) (by omega)).mono ?_; rintro e w' ⟨rfl, hb⟩; obtain ⟨o1, n1, rfl⟩ := below_adds hb; clear hb) | (go_at_call 69; refine (S_l7Place _ _ _ _ _ _ ts _ (HR.out.keep (by repeat' (first | (with_reducible exact Below.refl _ _) | (with_reducible refine Below.adds_ ?_ ?_ _ _) | (with_reducible refine Below.alloc ?_ ?_ _) | (with_reducible refine Below.drew ?_) | (with_reducible refine Below.setCell ?_ ?_ _) | (with_reducible assumption) | go_size | (simp only [size_addsW, World.size_alloc, World.size_drew, World.size_setCell]; omega)))) (by omega)).mono ?_; rintro e w' ⟨rfl, hb⟩; obtain ⟨o1, n1, rfl⟩ := below_adds hb; clear hb))
      go_returns
      exact VGot.zero (by repeat' (first | (with_reducible exact Below.refl _ _) | (with_reducible refine Below.adds_ ?_ ?_ _ _) | (with_reducible refine Below.alloc ?_ ?_ _) | (with_reducible refine Below.drew ?_) | (with_reducible refine Below.setCell ?_ ?_ _) | (with_reducible assumption) | go_size | (simp only [size_addsW, World.size_alloc, World.size_drew, World.size_setCell]; omega)))
    · cases h3 : M.inB n 0 8
      · rw [show okB a b ts a b rs x y n = false by
          simp only [okB, decide_eq_false (show ¬ (0 ≤ n ∧ n ≤ 8) by simp only [M.inB, Bool.and_eq_false_iff, decide_eq_false_iff_not] at h3; omega), Bool.and_false]]
        clear hvb
        go_enter Try.func43, Try.ntmps43
        go_wp2_with (first | (go_at_call 75; refine (S_l1Same _ _ _ _ _ _ _ _ ts rs _ (HR.out.keep (by repeat' (first | (with_reducible exact Below.refl _ _) | (with_reducible refine Below.adds_ ?_ ?_ _ _) | (with_reducible refine Below.alloc ?_ ?_ _) | (with_reducible refine Below.drew ?_) | (with_reducible refine Below.setCell ?_ ?_ _) | (with_reducible assumption) | go_size | (simp only [size_addsW, World.size_alloc, World.size_drew, World.size_setCell]; omega)))) (HR'.out.keep (by repeat' (first | (with_reducible exact Below.refl _ _) | (with_reducible refine Below.adds_ ?_ ?_ _ _) | (with_reducible refine Below.alloc ?_ ?_ _) | (with_reducible refine Below.drew ?_) | (with_reducible refine Below.setCell ?_ ?_ _) | (with_reducible assumption) | go_size | (simp only [size_addsW, World.size_alloc, World.size_drew, World.size_setCell]; omega)))) (by omega) (by omega)).mono ?_; rintro e w' ⟨rfl, hb⟩; obtain ⟨o1, n1, rfl⟩ := below_adds hb; clear hb) | (go_at_call 69; refine (S_l7Place _ _ _ _ _ _ ts _ (HR.out.keep (by repeat' (first | (with_reducible exact Below.refl _ _) | (with_reducible refine Below.adds_ ?_ ?_ _ _) | (with_reducible refine Below.alloc ?_ ?_ _) | (with_reducible refine Below.drew ?_) | (with_reducible refine Below.setCell ?_ ?_ _) | (with_reducible assumption) | go_size | (simp only [size_addsW, World.size_alloc, World.size_drew, World.size_setCell]; omega)))) (by omega)).mono ?_; rintro e w' ⟨rfl, hb⟩; obtain ⟨o1, n1, rfl⟩ := below_adds hb; clear hb) | (go_at_call 55; refine (S_l1In _ _ _ _).mono ?_; rintro e w' ⟨rfl, rfl⟩))
        go_returns
        exact VGot.zero (by repeat' (first | (with_reducible exact Below.refl _ _) | (with_reducible refine Below.adds_ ?_ ?_ _ _) | (with_reducible refine Below.alloc ?_ ?_ _) | (with_reducible refine Below.drew ?_) | (with_reducible refine Below.setCell ?_ ?_ _) | (with_reducible assumption) | go_size | (simp only [size_addsW, World.size_alloc, World.size_drew, World.size_setCell]; omega)))
      · have hn : 0 ≤ n ∧ n ≤ 8 := by simpa [M.inB] using h3
        rw [show okB a b ts a b rs x y n = true by simp [okB, h1, h2, hn]]
        have hbg := begB_bd h2
        have hxy : 0 ≤ x ∧ x ≤ 32 ∧ 0 ≤ y ∧ y ≤ 32 := by omega
        obtain ⟨N, rfl⟩ : ∃ N : Nat, n = (N : Int) := ⟨n.toNat, by omega⟩
        have hN : N ≤ 8 := by omega
        clear hvb hbg
        go_enter Try.func43, Try.ntmps43
        go_wp2_with (first | (go_at_call 75; refine (S_l1Same _ _ _ _ _ _ _ _ ts rs _ (HR.out.keep (by repeat' (first | (with_reducible exact Below.refl _ _) | (with_reducible refine Below.adds_ ?_ ?_ _ _) | (with_reducible refine Below.alloc ?_ ?_ _) | (with_reducible refine Below.drew ?_) | (with_reducible refine Below.setCell ?_ ?_ _) | (with_reducible assumption) | go_size | (simp only [size_addsW, World.size_alloc, World.size_drew, World.size_setCell]; omega)))) (HR'.out.keep (by repeat' (first | (with_reducible exact Below.refl _ _) | (with_reducible refine Below.adds_ ?_ ?_ _ _) | (with_reducible refine Below.alloc ?_ ?_ _) | (with_reducible refine Below.drew ?_) | (with_reducible refine Below.setCell ?_ ?_ _) | (with_reducible assumption) | go_size | (simp only [size_addsW, World.size_alloc, World.size_drew, World.size_setCell]; omega)))) (by omega) (by omega)).mono ?_; rintro e w' ⟨rfl, hb⟩; obtain ⟨o1, n1, rfl⟩ := below_adds hb; clear hb) | (go_at_call 69; refine (S_l7Place _ _ _ _ _ _ ts _ (HR.out.keep (by repeat' (first | (with_reducible exact Below.refl _ _) | (with_reducible refine Below.adds_ ?_ ?_ _ _) | (with_reducible refine Below.alloc ?_ ?_ _) | (with_reducible refine Below.drew ?_) | (with_reducible refine Below.setCell ?_ ?_ _) | (with_reducible assumption) | go_size | (simp only [size_addsW, World.size_alloc, World.size_drew, World.size_setCell]; omega)))) (by omega)).mono ?_; rintro e w' ⟨rfl, hb⟩; obtain ⟨o1, n1, rfl⟩ := below_adds hb; clear hb) | (go_at_call 55; refine (S_l1In _ _ _ _).mono ?_; rintro e w' ⟨rfl, rfl⟩) | (go_at_call 79; refine (S_l7Search a b x y N _ _ _ _ ts rs _ (HR.out.keep (by repeat' (first | (with_reducible exact Below.refl _ _) | (with_reducible refine Below.adds_ ?_ ?_ _ _) | (with_reducible refine Below.alloc ?_ ?_ _) | (with_reducible refine Below.drew ?_) | (with_reducible refine Below.setCell ?_ ?_ _) | (with_reducible assumption) | go_size | (simp only [size_addsW, World.size_alloc, World.size_drew, World.size_setCell]; omega)))) (HR'.out.keep (by repeat' (first | (with_reducible exact Below.refl _ _) | (with_reducible refine Below.adds_ ?_ ?_ _ _) | (with_reducible refine Below.alloc ?_ ?_ _) | (with_reducible refine Below.drew ?_) | (with_reducible refine Below.setCell ?_ ?_ _) | (with_reducible assumption) | go_size | (simp only [size_addsW, World.size_alloc, World.size_drew, World.size_setCell]; omega)))) HV.out HV'.out hxy hN).mono ?_; rintro e w' ⟨p, rfl, hp, hb⟩; have HP := Lib.hid hp; clear hp; obtain ⟨o1, n1, rfl⟩ := below_adds hb; clear hb))
        go_returns
        exact ⟨p, rfl, HP.out, (by repeat' (first | (with_reducible exact Below.refl _ _) | (with_reducible refine Below.adds_ ?_ ?_ _ _) | (with_reducible refine Below.alloc ?_ ?_ _) | (with_reducible refine Below.drew ?_) | (with_reducible refine Below.setCell ?_ ?_ _) | (with_reducible assumption) | go_size | (simp only [size_addsW, World.size_alloc, World.size_drew, World.size_setCell]; omega)))⟩

end Go.Proofs.Ytobphddjoebfjaa
