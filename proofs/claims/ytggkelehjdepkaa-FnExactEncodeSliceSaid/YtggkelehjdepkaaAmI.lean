/- The program's appendMacro. -/
import Derived.Test.YtggkelehjdepkaaAmL
import Derived.Test.YtggkelehjdepkaaMbS
import Derived.Deep.DeepCutAuto
namespace Go.Proofs.Ytggkelehjdepkaa
open Go.RowKit Go.Shelf
set_option linter.unusedVariables false
set_option linter.unusedSimpArgs false

attribute [local go_sem] Oper.semAt_some
attribute [local go_sem] size_addsW cell?_addsW frozen?_addsW setCell_addsW drew_addsW adds_addsW setCell_twice alloc_adds0 size_adds0 adds_adds0 sel2 sel3 sel4 sel5 sel6 sel7 sel8 sel9 lt_more lt_more2 lt_more3 lt_more4 adds_drew adds_drewN drewN_addsW ltA_1_1 ltA_1_2 ltA_1_3 ltA_1_4 ltA_1_5 ltA_1_6 ltA_2_1 ltA_2_2 ltA_2_3 ltA_2_4 ltA_2_5 ltA_2_6 ltA_3_1 ltA_3_2 ltA_3_3 ltA_3_4 ltA_3_5 ltA_3_6 ltA_4_1 ltA_4_2 ltA_4_3 ltA_4_4 ltA_4_5 ltA_4_6 ltA_5_1 ltA_5_2 ltA_5_3 ltA_5_4 ltA_5_5 ltA_5_6 ltA_6_1 ltA_6_2 ltA_6_3 ltA_6_4 ltA_6_5 ltA_6_6 ltA_7_1 ltA_7_2 ltA_7_3 ltA_7_4 ltA_7_5 ltA_7_6 ltA_8_1 ltA_8_2 ltA_8_3 ltA_8_4 ltA_8_5 ltA_8_6 ltA_9_1 ltA_9_2 ltA_9_3 ltA_9_4 ltA_9_5 ltA_9_6 ltA_10_1 ltA_10_2 ltA_10_3 ltA_10_4 ltA_10_5 ltA_10_6 ltA_11_1 ltA_11_2 ltA_11_3 ltA_11_4 ltA_11_5 ltA_11_6 ltA_12_1 ltA_12_2 ltA_12_3 ltA_12_4 ltA_12_5 ltA_12_6

theorem Gr.lit {base m m2 : Nat} {v v' : Value} {W w1 : World} {us us2 : List Int} {o : Obj} (hown : w1.ownsRow base 35 2 v' (m + m2) ((us ++ us2).map (Value.int .i64)))
    (hg : (W.alloc o).grownBy w1 v.ownBlock) (hat : v'.ownBlock = v.ownBlock ∨ v'.ownBlock = some (W.alloc o).heap.size) : Gr base v W (m + m2) (us ++ us2) v' w1 := by
  refine ⟨hown, World.grownBy.trans (grown_alloc W o _) hg, ?_⟩
  rcases hat with e | e
  · exact .inl e
  · refine .inr (fun q hq => ?_)
    rw [e] at hq
    injection hq with hq
    rw [← hq, World.size_alloc]
    omega
theorem AmSt.start {base m : Nat} {v : Value} {w : World} {zs us : List Int} (h : w.ownsRow base 35 2 v m (us.map (Value.int .i64))) :
    AmSt base v w zs v m us ((w.alloc (.cells #[v] 32)).alloc (.cells (rowI zs) 29)) :=
  ⟨(Blk.new w _ _ _ rfl).alloc _, Blk.new _ _ _ _ (by simp), ((Gr.start h).below (Below.alloc (Below.refl _ _) (Nat.le_refl _) _)).below (Below.alloc (Below.refl _ _) (Nat.le_refl _) _)⟩
theorem AmSt.cell {base m m' : Nat} {v0 v v' : Value} {w W W' : World} {zs us us' : List Int} (h : AmSt base v0 w zs v m us W) (hg : Gr base v W m' us' v' W') : W'.cell? ⟨w.heap.size, 0, none⟩ = some v ∧ W'.frozen? ⟨w.heap.size, 0, none⟩ = false :=
  have h1 := h.l.grown hg.2.1 h.ne1
  ⟨h1.get (i := 0) rfl, h1.hot 0⟩
theorem lit77 (T : Array Value) (h : T.size = 77) : ∃ f : Nat → Value, T = (f 0 :: f 1 :: f 2 :: f 3 :: f 4 :: f 5 :: f 6 :: f 7 :: f 8 :: f 9 :: f 10 :: f 11 :: f 12 :: f 13 :: f 14 :: f 15 :: f 16 :: f 17 :: f 18 :: f 19 :: f 20 :: f 21 :: f 22 :: f 23 :: f 24 :: f 25 :: f 26 :: f 27 :: f 28 :: f 29 :: f 30 :: f 31 :: f 32 :: f 33 :: f 34 :: f 35 :: f 36 :: f 37 :: f 38 :: f 39 :: f 40 :: f 41 :: f 42 :: f 43 :: f 44 :: f 45 :: f 46 :: f 47 :: f 48 :: f 49 :: f 50 :: f 51 :: f 52 :: f 53 :: f 54 :: f 55 :: f 56 :: f 57 :: f 58 :: f 59 :: f 60 :: f 61 :: f 62 :: f 63 :: f 64 :: f 65 :: f 66 :: f 67 :: f 68 :: f 69 :: f 70 :: f 71 :: f 72 :: f 73 :: f 74 :: f 75 :: f 76 :: []).toArray ∧ ∀ i, i < 77 → T[i]? = some (f i) := by
  refine ⟨fun i => T.getD i undef, ?_, fun i hi => by simp [Array.getD, h, hi]⟩
  have e : T = ((List.range 77).map (fun i => T.getD i undef)).toArray := by
    apply Array.ext
    · simp [h]
    · intro i h1 h2
      simp [Array.getD, h1]
  exact e
/-- the state of the loop over the blocks -/
def AmLp (base : Nat) (v0 : Value) (w : World) (zs : List Int) (m0 : Nat) (l0 : List Int) (a : Act) (W : World) : Prop :=
  ∃ (T : Array Value) (ds : List Deferred) (k : Nat) (v : Value), a = { tmps := T, defers := ds } ∧ T.size = 77 ∧ T[3]? = some (.pointer (some ⟨w.heap.size, 0, none⟩)) ∧ T[54]? = some (.agg (rowI (sub zs 7 64))) ∧ T[55]? = some (.int .i64 (k : Int)) ∧
    k ≤ 4 ∧ AmSt base v0 w zs v (m0 + bsM zs k) (l0 ++ bsU zs k) W ∧ MarksAt w.heap.size W.heap.size ds W
theorem lit_ne (w : World) (o : Obj) : Below w.heap.size w (w.alloc o) := Below.alloc (Below.refl _ _) (Nat.le_refl _) o

set_option maxRecDepth 100000 in
set_option maxHeartbeats 1000000 in
theorem I_appendMacro0 (v : Value) (m : Nat) (us zs : List Int) (base : Nat) (w : World) (hown : w.ownsRow base 35 2 v m (us.map (Value.int .i64))) (hbase : base ≤ w.heap.size) (hv : MacOk zs) (hk : zs.getD 0 0 = 0) (hm : m ≤ 500000) :
    Calls Try.prog 34 #[v, .agg (rowI zs), .bool false] w (Grew base v (m + macM zs false) (us ++ macL zs false) w) := by
  have HS := Lib.hid (AmSt.start (zs := zs) hown)
  obtain ⟨A1, c1, rfl, -, -⟩ := own_shape hown
  have hl := hv.len
  have hc0 := rowI_get (zs := zs) (j := 0) (by omega)
  rw [hk] at hc0
  rw [macM, macL, if_pos ⟨rfl, hk⟩, if_pos ⟨rfl, hk⟩]
  clear hk hl hown
  go_enter Try.func34, Try.ntmps34
  go_wp2_with (at_builtin; refine wpList_app_bins rfl _ _ rfl base _ _ _ rfl (ownsRow_below HS.out.gr.1 (lit_ne _ _)) base _ 1 [0, 0] rfl (own_lits _ [0, 0] 1 _ _ (by simp) (by omega) (by decide) rfl) (by omega) (by omega) (by simp only [World.size_alloc]; omega) ?_; intro v' w1 hown1 hgrow1 hat1; have HG1 := Lib.hid (HS.out.gr.trans (Gr.lit hown1 hgrow1 hat1)); clear hown1 hgrow1 hat1)
  go_returns
  exact ⟨_, rfl, HG1.out⟩

set_option maxRecDepth 100000 in
set_option maxHeartbeats 1000000 in
theorem I_appendMacro (v : Value) (m : Nat) (us zs : List Int) (b : Bool) (base : Nat) (w : World) (hown : w.ownsRow base 35 2 v m (us.map (Value.int .i64))) (hbase : base ≤ w.heap.size) (hv : MacOk zs) (hm : m ≤ 500000) :
    Calls Try.prog 34 #[v, .agg (rowI zs), .bool b] w (Grew base v (m + macM zs b) (us ++ macL zs b) w) := by
  have HV := Lib.hid hv
  have hl := hv.len
  have hc0 := rowI_get (zs := zs) (j := 0) (by omega)
  have HZ := Lib.hid hl
  have hkd := hv.kind
  obtain ⟨kd, hk⟩ : ∃ kd, kd = zs.getD 0 0 := ⟨_, rfl⟩
  have HK := Lib.hid hk
  rw [← hk] at hc0 hkd
  by_cases hsk : b = false ∧ kd = 0
  · obtain ⟨rfl, rfl⟩ := hsk
    exact I_appendMacro0 v m us zs base w hown hbase hv hk.symm hm
  · rw [macM, macL, if_neg (by rw [← HK.out]; exact hsk), if_neg (by rw [← HK.out]; exact hsk)]
    clear hv hl hk
    have HS := Lib.hid (AmSt.start (zs := zs) hown)
    obtain ⟨A1, c1, rfl, -, -⟩ := own_shape hown
    clear hown
    refine (callsIn_wide (n := 5)).1 ?_
    refine callsIn_of_wp_marks Try.func34 rfl trivial ?_ rfl
    simp only [Try.ntmps34, List.size_toArray, List.length_cons, List.length_nil, Nat.reduceAdd, Nat.reduceSub, Array.replicate_succ, Array.replicate_zero, List.push_toArray, List.append_toArray, List.nil_append, List.cons_append]
    refine (wpIn_wide (n := 5)).2 ?_
    go_upto_if 13 with fail
    go_cut [] from 12 to 76 (fun wx => ∃ v, AmSt base (.slice A1 m c1) w zs v (m + hdM b) (us ++ hdL zs b) wx)
    case first =>
      cases b
      · have hk0 : (kd == 0) = false := by simp; intro h; exact hsk ⟨rfl, h⟩
        go_wp2_with (at_builtin; refine wpList_app_bins rfl _ _ rfl base _ _ _ rfl (ownsRow_below HS.out.gr.1 (lit_ne _ _)) base _ 2 [0, 1, 1, kd - 1] rfl (own_lits _ [0, 1, 1, kd - 1] 2 _ _ (by simp) (by omega) (by decide) rfl) (by omega) (by omega) (by simp only [World.size_alloc]; omega) ?_; intro v' w1 hown1 hgrow1 hat1; have HG1 := Lib.hid (HS.out.next (Gr.lit hown1 hgrow1 hat1)); obtain ⟨cl1, fl1⟩ := HS.out.cell (Gr.lit hown1 hgrow1 hat1); obtain ⟨A2, c2, rfl, -, -⟩ := own_shape hown1; clear hown1 hgrow1 hat1)
        go_meet
        exact ⟨_, by rw [hdM, hdL, if_neg (by decide), if_neg (by decide), ← HK.out]; exact HG1.out⟩
      · go_wp2_with fail
        go_meet
        exact ⟨_, by rw [hdM, hdL, if_pos rfl, if_pos rfl, Nat.add_zero, List.append_nil]; exact HS.out⟩
    case rest =>
      obtain ⟨v1, hS1⟩ := hcut
      obtain ⟨A3, c3, rfl, -, -⟩ := own_shape hS1.gr.1
      clear HS hsk
      have HS := Lib.hid hS1
      have hdb : hdM b ≤ 2 := by unfold hdM; split <;> omega
      have c0 : wc.cell? ⟨w.heap.size + 1, 0, none⟩ = some (.int .i64 kd) := hS1.c.get hc0
      have hg1 := hS1.l.lt
      have hg2 := hS1.c.lt
      have hszw := hS1.size
      clear hS1
      go_upto_if 31 with fail
      go_cut [] from 12 to 76 (fun wx => ∃ v, AmSt base (.slice A1 m c1) w zs v (m + (hdM b + bdM zs)) (us ++ (hdL zs b ++ bdL zs)) wx)
      case first =>
        clear hc0
        have cl0 : wc.cell? ⟨w.heap.size, 0, none⟩ = some (.slice A3 (m + hdM b) c3) := HS.out.l.get (i := 0) rfl
        by_cases h1 : kd = 1
        · subst h1
          obtain ⟨x, hx⟩ : ∃ x, x = zs.getD 1 0 := ⟨_, rfl⟩
          obtain ⟨y, hy⟩ : ∃ y, y = zs.getD 2 0 := ⟨_, rfl⟩
          have cx := blk_rowI_cell HS.out.c (j := 1) (by rw [HZ.out]; omega)
          rw [← hx] at cx
          have hxb := HV.out.x
          have hyb := HV.out.y
          rw [← hx] at hxb
          rw [← hy] at hyb
          have hX := sidx_bd hxb
          have hY := sidx_bd hyb
          obtain ⟨I, hI⟩ := Int.eq_ofNat_of_zero_le hX.1
          obtain ⟨J, hJ⟩ := Int.eq_ofNat_of_zero_le hY.1
          have HSX := Lib.hid (show ∀ W, Calls Try.prog 55 #[.int .i64 x] W fun e w' => e = .returned (.int .i64 (I : Int)) ∧ W = w' from fun W => by rw [← hI]; exact I_SignedIndex x W hxb)
          have HSY := Lib.hid (show ∀ W, Calls Try.prog 55 #[.int .i64 y] W fun e w' => e = .returned (.int .i64 (J : Int)) ∧ W = w' from fun W => by rw [← hJ]; exact I_SignedIndex y W hyb)
          have HB1 := Lib.hid (show bdL zs = numL I 2 ++ numL J 2 by rw [bdL, if_pos HK.out.symm, vcL, ← hx, ← hy, hI, hJ, Int.toNat_natCast, Int.toNat_natCast])
          have HM1 := Lib.hid (show bdM zs = numN I + numN J by rw [bdM, if_pos HK.out.symm, vcM, ← hx, ← hy, hI, hJ, Int.toNat_natCast, Int.toNat_natCast])
          have hIb : I ≤ 8160 := by omega
          have hJb : J ≤ 8160 := by omega
          have HYY := Lib.hid hy
          have n1 := numN_le (n := I) (by omega)
          have n2 := numN_le (n := J) (by omega)
          clear hxb hyb hX hY hI hJ hx hy
          go_upto_region 6 with fail
          refine wp_tail 5 (by kernel_rfl) (by kernel_rfl) ?_
          simp only [List.take_succ_cons, List.take_zero, List.drop_succ_cons, List.drop_zero]
          repeat still_step
          still_call (still_of (HSX.out _))
          repeat still_step
          refine wpStill_nil ?_
          go_upto_region 7 with (go_at_call 54; refine (I_appendNumber _ _ I _ 2 base _ HS.out.drew.gr.1 (by simp only [World.size_drew]; omega) (by omega) (by omega) (by omega)).mono ?_; rintro e w1 ⟨v', rfl, hG⟩; have HG := Lib.hid (HS.out.drew.next hG); obtain ⟨cl1, fl1⟩ := HS.out.drew.cell hG; obtain ⟨A4, c4, rfl, -, -⟩ := own_shape hG.1; clear hG)
          generalize w1.setCell ⟨w.heap.size, 0, none⟩ (.slice A4 (m + hdM b + numN I) c4) = W2 at HG ⊢
          clear cl1 fl1 cl0 cx c0 hg1 hg2 HS HSX hszw
          have cl0 : W2.cell? ⟨w.heap.size, 0, none⟩ = some (.slice A4 (m + hdM b + numN I) c4) := HG.out.l.get (i := 0) rfl
          have cy := blk_rowI_cell HG.out.c (j := 2) (by rw [HZ.out]; omega)
          rw [← HYY.out] at cy
          have hg1 := HG.out.l.lt
          have hg2 := HG.out.c.lt
          have hszw := HG.out.size
          refine wp_tail 5 (by kernel_rfl) (by kernel_rfl) ?_
          simp only [List.take_succ_cons, List.take_zero, List.drop_succ_cons, List.drop_zero]
          repeat still_step
          still_call (still_of (HSY.out _))
          repeat still_step
          refine wpStill_nil ?_
          go_wp2_with (go_at_call 54; refine (I_appendNumber _ _ J _ 2 base _ HG.out.drew.gr.1 (by simp only [World.size_drew]; omega) (by omega) (by omega) (by omega)).mono ?_; rintro e w3 ⟨v', rfl, hG⟩; have HG3 := Lib.hid (HG.out.drew.next hG); obtain ⟨cl1, fl1⟩ := HG.out.drew.cell hG; obtain ⟨A5, c5, rfl, -, -⟩ := own_shape hG.1; clear hG)
          go_meet
          exact ⟨_, by rw [HB1.out, HM1.out, ← List.append_assoc, ← List.append_assoc, ← Nat.add_assoc, ← Nat.add_assoc]; exact HG3.out⟩
        · have h1b : (kd == 1) = false := by simp [h1]
          rw [h1b]
          clear h1b
          have HB1 := Lib.hid (show bdL zs = mdU zs 4 by rw [bdL, if_neg (by rw [← HK.out]; exact h1)])
          have HM1 := Lib.hid (show bdM zs = mdM zs 4 by rw [bdM, if_neg (by rw [← HK.out]; exact h1)])
          have hml : (mdL zs).length = 4 := sub_len (by rw [HZ.out]; omega)
          have HML := Lib.hid hml
          clear hml
          go_wp2_with (focus ((with_reducible refine wpList_wanted ?_ (fun K hK => ?_)); rotate_left; (refine wp_load_sub 25 (.tmp 44) ?ho (w.heap.size + 1) 3 4 ?hx 29 zs (0, 0) _ ?hg Try.underlying25 rfl infoA4 ?hs (hK _ _ ?_)); (case ho => with_reducible rfl); (case hx => rfl); (case hg => exact HS.out.c); (case hs => rw [HZ.out]; omega); rotate_left; rfl))
          clear cl0 c0 hg1 hg2 hszw
          go_loopw [46] (fun i wr => ∃ (k : Nat) (v : Value), i = .int .i64 (k : Int) ∧ k ≤ 4 ∧ AmSt base (.slice A1 m c1) w zs v (m + (hdM b + mdM zs k)) (us ++ (hdL zs b ++ mdU zs k)) wr) (fun i _ => 4 - (intOf i).toNat)
          case atStart => exact ⟨0, _, rfl, by omega, by rw [mdM, mdU, Nat.add_zero, List.append_nil]; exact HS.out⟩
          case round =>
            clear HS
            obtain ⟨k, v2, rfl, hk, hS⟩ := hrel
            obtain ⟨A4, c4, rfl, -, -⟩ := own_shape hS.gr.1
            have HS := Lib.hid hS
            clear hS
            have hg1 := HS.out.l.lt
            have hg2 := HS.out.c.lt
            have hszw := HS.out.size
            by_cases hlt : k < 4
            · have hd1 : decide ((k : Int) < 4) = true := by simp; omega
              have hmb := HV.out.mode k hlt
              have hml := mdM_le HV.out k (by omega)
              have HU := Lib.hid (show mdU zs (k + 1) = mdU zs k ++ numL (zs.getD (3 + k) 0).toNat 9 from rfl)
              have HM := Lib.hid (show mdM zs (k + 1) = mdM zs k + numN (zs.getD (3 + k) 0).toNat from rfl)
              have hmz : (mdL zs).getD k 0 = zs.getD (3 + k) 0 := sub_at hlt
              generalize zs.getD (3 + k) 0 = z at *
              obtain ⟨I, rfl⟩ := Int.eq_ofNat_of_zero_le hmb.1
              rw [Int.toNat_natCast] at HU HM
              have hIb : I ≤ 4 := by omega
              have n1 := numN_le (n := I) (by omega)
              have hidx : ∀ W, (Instr.index 25 (.agg (rowI (sub zs 3 4))) (.int .i64 (k : Int))).run Try.prog W = .ok (.int .i64 (I : Int)) W := fun W => by
                rw [← hmz]; exact run_index_int W 25 3 4 Try.underlying25 Try.underlying3 (by kernel_rfl) (mdL zs) k hlt HML.out
              clear hmb hmz
              generalize mdM zs k = mk at *
              generalize mdU zs k = uk at *
              have cl0 : wr.cell? ⟨w.heap.size, 0, none⟩ = some (.slice A4 (m + (hdM b + mk)) c4) := HS.out.l.get (i := 0) rfl
              go_wp2_with (go_at_call 54; refine (I_appendNumber _ _ I _ 9 base _ HS.out.gr.1 (by omega) (by omega) (by omega) (by omega)).mono ?_; rintro e w1 ⟨v', rfl, hG⟩; have HG := Lib.hid (HS.out.next hG); obtain ⟨cl1, fl1⟩ := HS.out.cell hG; obtain ⟨A5, c5, rfl, -, -⟩ := own_shape hG.1; clear hG)
              go_roundw
              case rel => exact ⟨k + 1, _, by go_num, by omega, by rw [HU.out, HM.out, ← List.append_assoc (hdL zs b), ← List.append_assoc us, ← Nat.add_assoc (hdM b), ← Nat.add_assoc m]; exact HG.out⟩
              case measure => simp [intOf]; omega
            · obtain rfl : k = 4 := by omega
              go_wp2_with fail
              go_meet
              exact ⟨_, by rw [HB1.out, HM1.out]; exact HS.out⟩
      case rest =>
        clear HS hc0 c0 hg1 hg2 hszw HK hkd
        clear kd
        obtain ⟨v2, hS2⟩ := hcut
        obtain ⟨A4, c4, rfl, -, -⟩ := own_shape hS2.gr.1
        have HS := Lib.hid hS2
        clear hS2
        have hg2 := HS.out.c.lt
        go_wp2_with (focus ((with_reducible refine wpList_wanted ?_ (fun K hK => ?_)); rotate_left; (refine wp_load_sub 27 (.tmp 53) ?ho (w.heap.size + 1) 7 64 ?hx 29 zs (0, 0) _ ?hg Try.underlying27 rfl infoA64 ?hs (hK _ _ ?_)); (case ho => with_reducible rfl); (case hx => rfl); (case hg => exact HS.out.c); (case hs => rw [HZ.out]; omega); rotate_left; rfl))
        have hb1 := bdM_le HV.out
        obtain ⟨m0, hm0⟩ : ∃ m0, m0 = m + (hdM b + bdM zs) := ⟨_, rfl⟩
        obtain ⟨l0, hl0⟩ : ∃ l0, l0 = us ++ (hdL zs b ++ bdL zs) := ⟨_, rfl⟩
        have hm0b : m0 ≤ 500134 := by omega
        rw [← hm0, ← hl0] at HS
        have HM0 := Lib.hid hm0
        have HL0 := Lib.hid hl0
        clear hm0 hl0 hb1 hdb
        refine wp_loop (AmLp base (.slice A1 m c1) w zs m0 l0) (fun a W => 4 - (intOf (a.tmps.getD 55 undef)).toNat) ?_ ?_
        · exact ⟨_, [], 0, _, rfl, rfl, rfl, rfl, rfl, by omega, by rw [bsM, bsU, Nat.add_zero, List.append_nil]; exact HS.out, trivial⟩
        · clear HS hg2
          rintro a wr ⟨T, ds, k, v3, rfl, hT, t3, t54, t55, hk, hS, hMk⟩
          obtain ⟨f, rfl, hf⟩ := lit77 T hT
          rw [hf 3 (by decide)] at t3
          rw [hf 54 (by decide)] at t54
          rw [hf 55 (by decide)] at t55
          injection t3 with t3
          injection t54 with t54
          injection t55 with t55
          rw [t3, t54, t55]
          clear hf hT t3 t54 t55
          obtain ⟨A5, c5, rfl, -, -⟩ := own_shape hS.gr.1
          have HS := Lib.hid hS
          have HMk := Lib.hid hMk
          have hszw := hS.size
          clear hS hMk
          by_cases hlt : k < 4
          · have hd1 : decide ((k : Int) < 4) = true := by simp; omega
            have hml := bsM_le HV.out k (by omega)
            have hlv := HV.out.lev k hlt
            have HU := Lib.hid (show bsU zs (k + 1) = bsU zs k ++ blL (sub zs (7 + k * 16) 16) from rfl)
            have HM := Lib.hid (show bsM zs (k + 1) = bsM zs k + blM (sub zs (7 + k * 16) 16) from rfl)
            have hle := blM_le hlv
            have hse : sub (sub zs 7 64) (k * 16) 16 = sub zs (7 + k * 16) 16 := sub_sub zs 7 64 (k * 16) 16 (by omega)
            obtain ⟨rs, hrs⟩ : ∃ rs, rs = sub zs (7 + k * 16) 16 := ⟨_, rfl⟩
            rw [← hrs] at HU HM hlv hle hse
            have HRL := Lib.hid (show rs.length = 16 by rw [hrs]; exact sub_len (by rw [HZ.out]; omega))
            have hidx : ∀ W, (Instr.index 27 (.agg (rowI (sub zs 7 64))) (.int .i64 (k : Int))).run Try.prog W = .ok (.agg (rowI rs)) W := fun W => by
              rw [← hse]; exact run_index_sub W 27 26 4 16 _ Try.underlying27 Try.underlying26 rfl infoA16 (sub zs 7 64) k hlt
            have HLV := Lib.hid hlv
            clear hrs hse hlv
            have hp := blL_pr rs
            rw [hp.1] at HU
            rw [hp.2] at HM hle
            clear hp
            generalize bsM zs k = mk at *
            generalize bsU zs k = uk at *
            go_upto_region 16 with (focus ((with_reducible refine wpList_wanted ?_ (fun K hK => ?_)); rotate_left; (refine wp_store_new 26 (.tmp 10) (.tmp 57) ?ho ?g8 (rowI rs) ?hx ?hy 26 (rowI (zL 16)) ?hg (by rw [rowI_size, HRL.out]; exact infoA16) (by rw [rowI_size, rowI_size, HRL.out]; rfl) (rowI_one rs) (hK _ _ ?_)); (case ho => with_reducible rfl); (case hx => rfl); (case hy => rfl); (case hg => first | rfl | (simp only [size_addsW, World.size_alloc])); (try simp only [Act.put, List.setIfInBounds_toArray, List.set_cons_zero, List.set_cons_succ]); rotate_left; rfl))
            have HX := Lib.hid (HS.out.alloc (.cells (rowI rs) 26))
            have hT := Blk.new wr (rowI rs) 26 _ rfl
            have HT := Lib.hid hT
            have HMX := Lib.hid ((HMk.out.mono (show wr.heap.size ≤ wr.heap.size from Nat.le_refl _)).own (grown_alloc wr (.cells (rowI rs) 26) none) (fun r e => by cases e))
            have hszX : (wr.alloc (.cells (rowI rs) 26)).heap.size = wr.heap.size + 1 := by simp
            clear HS HMk hT
            generalize wr.alloc (.cells (rowI rs) 26) = X at *
            generalize wr.heap.size = t at *
            clear wr
            obtain ⟨N, hN⟩ : ∃ N, N = (runsL rs).length := ⟨_, rfl⟩
            have hN16 : N ≤ 16 := by rw [hN]; exact rnU_len _ 16
            rw [← hN] at HU HM hle
            have HN := Lib.hid hN
            clear hN
            have HNC := Lib.hid (show ∀ W, Calls Try.prog 56 #[.agg (rowI rs)] W fun e w' => e = .returned (.int .i64 (N : Int)) ∧ Below W.heap.size W w' from fun W => by rw [HN.out]; exact I_NonzeroCount rs W HRL.out HLV.out)
            have n1 := numN_le (n := N) (by omega)
            have cl0 : X.cell? ⟨w.heap.size, 0, none⟩ = some (.slice A5 (m0 + mk) c5) := HX.out.l.get (i := 0) rfl
            go_cut [] from 56 to 75 (fun wx => ∃ v, AmSt base (.slice A1 m c1) w zs v (m0 + mk + numN N) (l0 ++ uk ++ numL N 16) wx ∧ Blk wx t (rowI rs) 26 ∧ MarksAt w.heap.size t ds wx)
            case first =>
              refine wp_region_held_drew (S := (fun w' => True)) (by kernel_rfl) ?_ (fun hHeld => ?_)
              · trivial
              refine wpAnyH_ready (rs := [0, 1]) (by kernel_rfl) (by simp) ?_
              refine AllReadyH.cons (o := _) rfl (fun K hK => ?_) ?_
              · (try dsimp only [List.getElem_toArray, List.getElem_cons_succ, List.getElem_cons_zero]); go_simp
                refine hK.out _ _ ?_ (fun hHeld => ?_)
                · trivial
                clear hK K
                try simp only [Act.put, List.setIfInBounds_toArray, List.set_cons_zero, List.set_cons_succ]
                refine wpAnyH_ready (rs := [1]) (by kernel_rfl) (by simp) ?_
                refine AllReadyH.cons (o := _) rfl (fun K hK => ?_) ?_
                · (try dsimp only [List.getElem_toArray, List.getElem_cons_succ, List.getElem_cons_zero])
                  (rw [if_pos (by rfl)]; refine wp_load_sub 26 (.tmp 10) (by with_reducible rfl) t 0 16 (by rfl) 26 rs (0, 0) _ HT.out Try.underlying26 rfl infoA16 (by rw [HRL.out]; exact Nat.le_refl _) ?_; rw [show sub rs 0 16 = rs by rw [← HRL.out]; exact sub_all rs])
                  refine hK.out _ _ ?_ (fun hHeld => ?_)
                  · trivial
                  clear hK K
                  try simp only [Act.put, List.setIfInBounds_toArray, List.set_cons_zero, List.set_cons_succ]
                  refine wpAnyH_ready (rs := [2]) (by kernel_rfl) (by simp) ?_
                  refine AllReadyH.cons (o := _) rfl (fun K hK => ?_) ?_
                  · (try dsimp only [List.getElem_toArray, List.getElem_cons_succ, List.getElem_cons_zero]); go_simp
                    (first | (go_at_call 56; refine (HNC.out _).mono ?_; rintro e w1 ⟨rfl, hb⟩; have HX1 := Lib.hid (HX.out.drew.below hb); have HT1 := Lib.hid (HT.out.drew.below hb HT.out.lt); have HM1 := Lib.hid ((HMX.out.own (grown_below (Below.drew (Below.refl _ _)) none) (fun r e => by cases e)).own (grown_below hb none) (fun r e => by cases e)); have cl1 := HX1.out.l.get (i := 0) rfl; clear hb) | (go_at_call 54; refine (I_appendNumber _ _ N _ 16 base _ HX1.out.gr.1 (by have := HX1.out.size; omega) (by omega) (by omega) (by omega)).mono ?_; rintro e w2 ⟨v', rfl, hG⟩; have HG := Lib.hid (HX1.out.next hG); have HGT := Lib.hid (HX1.out.blk hG HT1.out (by decide) (by omega)); have HGM := Lib.hid (HM1.out.from (HX1.out.keeps hG _)); obtain ⟨cl2, fl2⟩ := HX1.out.cell hG; obtain ⟨A6, c6, rfl, -, -⟩ := own_shape hG.1; clear hG))
                    try go_wp2_with fail
                    refine hK.out _ _ ?_ (fun hHeld => ?_)
                    · trivial
                    clear hK K
                    try simp only [Act.put, List.setIfInBounds_toArray, List.set_cons_zero, List.set_cons_succ]
                    refine wpAnyH_ready (rs := [3]) (by kernel_rfl) (by simp) ?_
                    refine AllReadyH.cons (o := _) rfl (fun K hK => ?_) ?_
                    · (try dsimp only [List.getElem_toArray, List.getElem_cons_succ, List.getElem_cons_zero]); go_simp
                      (first | (go_at_call 56; refine (HNC.out _).mono ?_; rintro e w1 ⟨rfl, hb⟩; have HX1 := Lib.hid (HX.out.drew.below hb); have HT1 := Lib.hid (HT.out.drew.below hb HT.out.lt); have HM1 := Lib.hid ((HMX.out.own (grown_below (Below.drew (Below.refl _ _)) none) (fun r e => by cases e)).own (grown_below hb none) (fun r e => by cases e)); have cl1 := HX1.out.l.get (i := 0) rfl; clear hb) | (go_at_call 54; refine (I_appendNumber _ _ N _ 16 base _ HX1.out.gr.1 (by have := HX1.out.size; omega) (by omega) (by omega) (by omega)).mono ?_; rintro e w2 ⟨v', rfl, hG⟩; have HG := Lib.hid (HX1.out.next hG); have HGT := Lib.hid (HX1.out.blk hG HT1.out (by decide) (by omega)); have HGM := Lib.hid (HM1.out.from (HX1.out.keeps hG _)); obtain ⟨cl2, fl2⟩ := HX1.out.cell hG; obtain ⟨A6, c6, rfl, -, -⟩ := own_shape hG.1; clear hG))
                      try go_wp2_with fail
                      refine hK.out _ _ ?_ (fun hHeld => ?_)
                      · trivial
                      clear hK K
                      try simp only [Act.put, List.setIfInBounds_toArray, List.set_cons_zero, List.set_cons_succ]
                      refine wpAnyH_ready (rs := [4]) (by kernel_rfl) (by simp) ?_
                      refine AllReadyH.cons (o := _) rfl (fun K hK => ?_) ?_
                      · (try dsimp only [List.getElem_toArray, List.getElem_cons_succ, List.getElem_cons_zero]); go_simp
                        refine hK.out _ _ ?_ (fun hHeld => ?_)
                        · trivial
                        clear hK K
                        try simp only [Act.put, List.setIfInBounds_toArray, List.set_cons_zero, List.set_cons_succ]
                        refine wpAnyH_done (by kernel_rfl) ?_ _
                        go_wp2_with fail
                        go_meet
                        exact ⟨_, HG.out, HGT.out, HGM.out⟩
                      exact AllReadyH.nil
                    exact AllReadyH.nil
                  exact AllReadyH.nil
                exact AllReadyH.nil
              refine AllReadyH.cons (o := _) rfl (fun K hK => ?_) ?_
              · (try dsimp only [List.getElem_toArray, List.getElem_cons_succ, List.getElem_cons_zero])
                (rw [if_pos (by rfl)]; refine wp_load_sub 26 (.tmp 10) (by with_reducible rfl) t 0 16 (by rfl) 26 rs (0, 0) _ HT.out Try.underlying26 rfl infoA16 (by rw [HRL.out]; exact Nat.le_refl _) ?_; rw [show sub rs 0 16 = rs by rw [← HRL.out]; exact sub_all rs])
                refine hK.out _ _ ?_ (fun hHeld => ?_)
                · trivial
                clear hK K
                try simp only [Act.put, List.setIfInBounds_toArray, List.set_cons_zero, List.set_cons_succ]
                refine wpAnyH_ready (rs := [0, 2]) (by kernel_rfl) (by simp) ?_
                refine AllReadyH.cons (o := _) rfl (fun K hK => ?_) ?_
                · (try dsimp only [List.getElem_toArray, List.getElem_cons_succ, List.getElem_cons_zero]); go_simp
                  refine hK.out _ _ ?_ (fun hHeld => ?_)
                  · trivial
                  clear hK K
                  try simp only [Act.put, List.setIfInBounds_toArray, List.set_cons_zero, List.set_cons_succ]
                  refine wpAnyH_ready (rs := [2]) (by kernel_rfl) (by simp) ?_
                  refine AllReadyH.cons (o := _) rfl (fun K hK => ?_) ?_
                  · (try dsimp only [List.getElem_toArray, List.getElem_cons_succ, List.getElem_cons_zero]); go_simp
                    (first | (go_at_call 56; refine (HNC.out _).mono ?_; rintro e w1 ⟨rfl, hb⟩; have HX1 := Lib.hid (HX.out.drew.below hb); have HT1 := Lib.hid (HT.out.drew.below hb HT.out.lt); have HM1 := Lib.hid ((HMX.out.own (grown_below (Below.drew (Below.refl _ _)) none) (fun r e => by cases e)).own (grown_below hb none) (fun r e => by cases e)); have cl1 := HX1.out.l.get (i := 0) rfl; clear hb) | (go_at_call 54; refine (I_appendNumber _ _ N _ 16 base _ HX1.out.gr.1 (by have := HX1.out.size; omega) (by omega) (by omega) (by omega)).mono ?_; rintro e w2 ⟨v', rfl, hG⟩; have HG := Lib.hid (HX1.out.next hG); have HGT := Lib.hid (HX1.out.blk hG HT1.out (by decide) (by omega)); have HGM := Lib.hid (HM1.out.from (HX1.out.keeps hG _)); obtain ⟨cl2, fl2⟩ := HX1.out.cell hG; obtain ⟨A6, c6, rfl, -, -⟩ := own_shape hG.1; clear hG))
                    try go_wp2_with fail
                    refine hK.out _ _ ?_ (fun hHeld => ?_)
                    · trivial
                    clear hK K
                    try simp only [Act.put, List.setIfInBounds_toArray, List.set_cons_zero, List.set_cons_succ]
                    refine wpAnyH_ready (rs := [3]) (by kernel_rfl) (by simp) ?_
                    refine AllReadyH.cons (o := _) rfl (fun K hK => ?_) ?_
                    · (try dsimp only [List.getElem_toArray, List.getElem_cons_succ, List.getElem_cons_zero]); go_simp
                      (first | (go_at_call 56; refine (HNC.out _).mono ?_; rintro e w1 ⟨rfl, hb⟩; have HX1 := Lib.hid (HX.out.drew.below hb); have HT1 := Lib.hid (HT.out.drew.below hb HT.out.lt); have HM1 := Lib.hid ((HMX.out.own (grown_below (Below.drew (Below.refl _ _)) none) (fun r e => by cases e)).own (grown_below hb none) (fun r e => by cases e)); have cl1 := HX1.out.l.get (i := 0) rfl; clear hb) | (go_at_call 54; refine (I_appendNumber _ _ N _ 16 base _ HX1.out.gr.1 (by have := HX1.out.size; omega) (by omega) (by omega) (by omega)).mono ?_; rintro e w2 ⟨v', rfl, hG⟩; have HG := Lib.hid (HX1.out.next hG); have HGT := Lib.hid (HX1.out.blk hG HT1.out (by decide) (by omega)); have HGM := Lib.hid (HM1.out.from (HX1.out.keeps hG _)); obtain ⟨cl2, fl2⟩ := HX1.out.cell hG; obtain ⟨A6, c6, rfl, -, -⟩ := own_shape hG.1; clear hG))
                      try go_wp2_with fail
                      refine hK.out _ _ ?_ (fun hHeld => ?_)
                      · trivial
                      clear hK K
                      try simp only [Act.put, List.setIfInBounds_toArray, List.set_cons_zero, List.set_cons_succ]
                      refine wpAnyH_ready (rs := [4]) (by kernel_rfl) (by simp) ?_
                      refine AllReadyH.cons (o := _) rfl (fun K hK => ?_) ?_
                      · (try dsimp only [List.getElem_toArray, List.getElem_cons_succ, List.getElem_cons_zero]); go_simp
                        refine hK.out _ _ ?_ (fun hHeld => ?_)
                        · trivial
                        clear hK K
                        try simp only [Act.put, List.setIfInBounds_toArray, List.set_cons_zero, List.set_cons_succ]
                        refine wpAnyH_done (by kernel_rfl) ?_ _
                        go_wp2_with fail
                        go_meet
                        exact ⟨_, HG.out, HGT.out, HGM.out⟩
                      exact AllReadyH.nil
                    exact AllReadyH.nil
                  exact AllReadyH.nil
                refine AllReadyH.cons (o := _) rfl (fun K hK => ?_) ?_
                · (try dsimp only [List.getElem_toArray, List.getElem_cons_succ, List.getElem_cons_zero]); go_simp
                  (first | (go_at_call 56; refine (HNC.out _).mono ?_; rintro e w1 ⟨rfl, hb⟩; have HX1 := Lib.hid (HX.out.drew.below hb); have HT1 := Lib.hid (HT.out.drew.below hb HT.out.lt); have HM1 := Lib.hid ((HMX.out.own (grown_below (Below.drew (Below.refl _ _)) none) (fun r e => by cases e)).own (grown_below hb none) (fun r e => by cases e)); have cl1 := HX1.out.l.get (i := 0) rfl; clear hb) | (go_at_call 54; refine (I_appendNumber _ _ N _ 16 base _ HX1.out.gr.1 (by have := HX1.out.size; omega) (by omega) (by omega) (by omega)).mono ?_; rintro e w2 ⟨v', rfl, hG⟩; have HG := Lib.hid (HX1.out.next hG); have HGT := Lib.hid (HX1.out.blk hG HT1.out (by decide) (by omega)); have HGM := Lib.hid (HM1.out.from (HX1.out.keeps hG _)); obtain ⟨cl2, fl2⟩ := HX1.out.cell hG; obtain ⟨A6, c6, rfl, -, -⟩ := own_shape hG.1; clear hG))
                  try go_wp2_with fail
                  refine hK.out _ _ ?_ (fun hHeld => ?_)
                  · trivial
                  clear hK K
                  try simp only [Act.put, List.setIfInBounds_toArray, List.set_cons_zero, List.set_cons_succ]
                  refine wpAnyH_ready (rs := [0]) (by kernel_rfl) (by simp) ?_
                  refine AllReadyH.cons (o := _) rfl (fun K hK => ?_) ?_
                  · (try dsimp only [List.getElem_toArray, List.getElem_cons_succ, List.getElem_cons_zero]); go_simp
                    refine hK.out _ _ ?_ (fun hHeld => ?_)
                    · trivial
                    clear hK K
                    try simp only [Act.put, List.setIfInBounds_toArray, List.set_cons_zero, List.set_cons_succ]
                    refine wpAnyH_ready (rs := [3]) (by kernel_rfl) (by simp) ?_
                    refine AllReadyH.cons (o := _) rfl (fun K hK => ?_) ?_
                    · (try dsimp only [List.getElem_toArray, List.getElem_cons_succ, List.getElem_cons_zero]); go_simp
                      (first | (go_at_call 56; refine (HNC.out _).mono ?_; rintro e w1 ⟨rfl, hb⟩; have HX1 := Lib.hid (HX.out.drew.below hb); have HT1 := Lib.hid (HT.out.drew.below hb HT.out.lt); have HM1 := Lib.hid ((HMX.out.own (grown_below (Below.drew (Below.refl _ _)) none) (fun r e => by cases e)).own (grown_below hb none) (fun r e => by cases e)); have cl1 := HX1.out.l.get (i := 0) rfl; clear hb) | (go_at_call 54; refine (I_appendNumber _ _ N _ 16 base _ HX1.out.gr.1 (by have := HX1.out.size; omega) (by omega) (by omega) (by omega)).mono ?_; rintro e w2 ⟨v', rfl, hG⟩; have HG := Lib.hid (HX1.out.next hG); have HGT := Lib.hid (HX1.out.blk hG HT1.out (by decide) (by omega)); have HGM := Lib.hid (HM1.out.from (HX1.out.keeps hG _)); obtain ⟨cl2, fl2⟩ := HX1.out.cell hG; obtain ⟨A6, c6, rfl, -, -⟩ := own_shape hG.1; clear hG))
                      try go_wp2_with fail
                      refine hK.out _ _ ?_ (fun hHeld => ?_)
                      · trivial
                      clear hK K
                      try simp only [Act.put, List.setIfInBounds_toArray, List.set_cons_zero, List.set_cons_succ]
                      refine wpAnyH_ready (rs := [4]) (by kernel_rfl) (by simp) ?_
                      refine AllReadyH.cons (o := _) rfl (fun K hK => ?_) ?_
                      · (try dsimp only [List.getElem_toArray, List.getElem_cons_succ, List.getElem_cons_zero]); go_simp
                        refine hK.out _ _ ?_ (fun hHeld => ?_)
                        · trivial
                        clear hK K
                        try simp only [Act.put, List.setIfInBounds_toArray, List.set_cons_zero, List.set_cons_succ]
                        refine wpAnyH_done (by kernel_rfl) ?_ _
                        go_wp2_with fail
                        go_meet
                        exact ⟨_, HG.out, HGT.out, HGM.out⟩
                      exact AllReadyH.nil
                    exact AllReadyH.nil
                  exact AllReadyH.nil
                exact AllReadyH.nil
              exact AllReadyH.nil
            case rest =>
              obtain ⟨v4, hS, hT, hMk⟩ := hcut
              obtain ⟨A6, c6, rfl, -, -⟩ := own_shape hS.gr.1
              clear HX HT HMX cl0 hszX hszw
              have HS := Lib.hid (hS.alloc (.cells (rowI rs) 26))
              have HT := Lib.hid hT
              have hL : Blk (wc.alloc (.cells (rowI rs) 26)) wc.heap.size (rowI rs) 26 := Blk.new _ _ _ _ rfl
              have HL := Lib.hid hL
              have hsz : (wc.alloc (.cells (rowI rs) 26)).heap.size = wc.heap.size + 1 := by simp
              have hszc := hS.size
              have HMc := Lib.hid (show MarksAt w.heap.size wc.heap.size ds wc from hMk.mono (Nat.le_of_lt hT.lt))
              clear hS hT hMk hL
              go_wp2_with (first | (focus ((with_reducible refine wpList_wanted ?_ (fun K hK => ?_)); rotate_left; (refine wp_load_sub 26 (.tmp 10) ?ho t 0 16 ?hx 26 rs (0, 0) _ ?hg Try.underlying26 rfl infoA16 ?hs (hK _ _ ?_)); (case ho => with_reducible rfl); (case hx => rfl); (case hg => exact HT.out); (case hs => rw [HRL.out]; exact Nat.le_refl _); rw [show sub rs 0 16 = rs by rw [← HRL.out]; exact sub_all rs]; rotate_left; rfl)) | (go_at_call 57; refine (I_runsIn rs _).mono ?_; rintro e w' ⟨rfl, rfl⟩))
              have HMs := Lib.hid (HMc.out.own (grown_alloc wc (.cells (rowI rs) 26) none) (fun r e => by cases e))
              generalize wc.alloc (.cells (rowI rs) 26) = W0 at *
              generalize wc.heap.size = s at *
              clear HMc HT
              obtain ⟨mA, hmA⟩ : ∃ mA, mA = m0 + mk + numN N := ⟨_, rfl⟩
              obtain ⟨uA, huA⟩ : ∃ uA, uA = l0 ++ uk ++ numL N 16 := ⟨_, rfl⟩
              have hmAb : mA ≤ 503520 := by omega
              rw [← hmA, ← huA] at HS
              have HMA := Lib.hid hmA
              have HUA := Lib.hid huA
              clear hmA huA
              refine (wpIn_wide (n := 5)).1 ?_
              refine wpIn_rangeFunc_box (k := 11) (enc := fun x : RR => .agg #[.int .i64 (x.1.1 : Int), .int .i64 x.1.2]) rfl (by omega) (gf := 77) (lb := #[.pointer (some ⟨s, 0, none⟩)]) rfl trivial enters_runs
                (runs_stops (5 - 1) s rs (by omega) HRL.out HLV.out W0 HL.out) KpC.trans kpC_b (Below.refl _ _)
                (fun pre W => (∃ v, AmSt base (.slice A1 m c1) w zs v (mA + prM (rls pre)) (uA ++ prL (rls pre)) W) ∧ Blk W s (rowI rs) 26 ∧ MarksAt w.heap.size s ds W)
                (fun cd pre W => False) ?ownI (fun cd => ownFrom_pure _ _) ?start
                (fun x Bx W => s < Bx ∧ Blk W Bx #[.int .i64 (x.1.1 : Int), .int .i64 x.1.2] 97)
                (fun x Bx => OwnFrom.and (ownFrom_pure _ _) (blk_own _ _ (fun _ => #[.int .i64 (x.1.1 : Int), .int .i64 x.1.2]) _)) ?assign ?body ?done ?stop
              case ownI =>
                rintro pre X Y row ⟨⟨v, h1⟩, h2, h3⟩ hg hr
                exact ⟨⟨v, h1.noncell hg (fun r e => by have := (hr r e).1; omega) (fun r e => (hr r e).2)⟩, h2.kept hg (fun r e => (hr r e).2), h3.own hg (fun r e => by have := (hr r e).1; omega)⟩
              case start => exact ⟨⟨_, by rw [show rls [] = [] from rfl, prM, prL, Nat.add_zero, List.append_nil]; exact HS.out⟩, HL.out, HMs.out⟩
              case assign =>
                rintro l pre x W K ⟨⟨v, h1⟩, h2, h3⟩ hK
                simp only [List.setIfInBounds_toArray, List.set_cons_zero, List.set_cons_succ] at hK ⊢
                have hs1 := h2.lt
                have hs2 := h1.size
                clear HS HL HMs
                gi_wp2
                have hb : Below W.heap.size W (W.alloc (.cells #[.int .i64 (x.1.1 : Int), .int .i64 x.1.2] 97)) := Below.alloc (Below.refl _ _) (Nat.le_refl _) _
                exact hK _ _ (keepsFrom_below hb) (KpC.grown (grown_below hb none) (by simp)) ⟨⟨_, h1.alloc _⟩, h2.alloc _, h3.own (grown_alloc W _ none) (fun r e => by cases e)⟩ ⟨hs1, Blk.new _ _ _ _ rfl⟩
              case body =>
                rintro l pre x Bx W hl ⟨⟨v, hS⟩, hT, hMk⟩ ⟨hBx, hX⟩ hlt
                simp only [List.setIfInBounds_toArray, List.set_cons_zero, List.set_cons_succ]
                clear HS HL HMs
                obtain ⟨A7, c7, rfl, -, -⟩ := own_shape hS.gr.1
                obtain ⟨J, hJ, hJb⟩ := x.idx
                have hzb := x.2.1
                have hlb := x.2.2.2
                have HE1 := Lib.hid (show prM (rls (pre ++ [x])) = prM (rls pre) + (numN x.1.1 + numN J) by rw [rls_app, prM_snoc, bkN, hJ]; congr 3; omega)
                have HE2 := Lib.hid (show prL (rls (pre ++ [x])) = prL (rls pre) ++ (numL x.1.1 23 ++ numL J 30) by rw [rls_app, prL_snoc, bkOne, hJ]; congr 3; omega)
                have hpm := prM_le pre
                generalize prM (rls pre) = pm at *
                generalize prL (rls pre) = pl at *
                have HSI := Lib.hid (show ∀ W, Calls Try.prog 55 #[.int .i64 x.1.2] W fun e w' => e = .returned (.int .i64 ((J : Int) + 1)) ∧ W = w' from fun W => by rw [← hJ]; exact I_SignedIndex x.1.2 W hlb)
                have hn1 := numN_le (n := x.1.1) (by omega)
                have hn2 := numN_le (n := J) (by omega)
                have HS := Lib.hid hS
                have HT := Lib.hid hT
                have HMk := Lib.hid hMk
                have HX := Lib.hid hX
                have cl0 : W.cell? ⟨w.heap.size, 0, none⟩ = some (.slice A7 (mA + pm) c7) := hS.l.get (i := 0) rfl
                have cx0 : W.cell? ⟨Bx, 0, none⟩ = some (.int .i64 (x.1.1 : Int)) := hX.get (i := 0) rfl
                have hs1 := hX.lt
                have hs2 := hS.size
                clear hS hT hMk hX hJ hlb
                gi_wp2_with (refine ⟨trivial, ?_⟩; gi_at_call 54; refine (CallsIn.inRound l (callsIn_wide.2 (I_appendNumber _ _ x.1.1 _ 23 base _ HS.out.gr.1 (by omega) (by omega) (by omega) (by omega)))).mono ?_; rintro e w1 ⟨v', rfl, hG⟩; have HG := Lib.hid hG; obtain ⟨cl1, fl1⟩ := HS.out.cell hG; obtain ⟨A8, c8, rfl, -, -⟩ := own_shape hG.1; clear hG)
                have hsw : s ≠ w.heap.size := by omega
                have HS1 := Lib.hid (HS.out.next HG.out)
                have HT1 := Lib.hid (HS.out.blk HG.out HT.out (by decide) hsw)
                have HX1 := Lib.hid (HS.out.blk HG.out HX.out (by decide) (by omega))
                have HK1 := Lib.hid (HS.out.keeps HG.out W0.heap.size)
                have HP1 := Lib.hid ((KpC.grown HG.out.2.1 (own_ne HS.out.gr.1 HT.out (by decide))).set (q := ⟨w.heap.size, 0, none⟩) (by simp only; exact hsw) (.slice A8 (mA + pm + numN x.1.1) c8))
                have HM1 := Lib.hid (HMk.out.from (HS.out.keeps HG.out w.heap.size))
                clear HS HT HX HMk HG cl0 cx0 cl1 fl1 hs1 hs2
                generalize w1.setCell ⟨w.heap.size, 0, none⟩ (.slice A8 (mA + pm + numN x.1.1) c8) = W1 at *
                have cl0 : W1.cell? ⟨w.heap.size, 0, none⟩ = some (.slice A8 (mA + pm + numN x.1.1) c8) := HS1.out.l.get (i := 0) rfl
                have cx1 : W1.cell? ⟨Bx, 1, none⟩ = some (.int .i64 x.1.2) := HX1.out.get (i := 1) rfl
                have hs1 := HX1.out.lt
                have hs2 := HS1.out.size
                refine wpIn_tail_round 5 (by kernel_rfl) (by kernel_rfl) (fun h => by obtain ⟨_, _, h⟩ := h; exact h) (by kernel_rfl) ?_
                simp only [List.take_succ_cons, List.take_zero, List.drop_succ_cons, List.drop_zero]
                repeat still_step
                still_call (still_of (HSI.out _))
                repeat still_step
                refine wpStill_nil ?_
                go_wp2_with (go_at_call 54; refine (I_appendNumber _ _ J _ 30 base _ HS1.out.drew.gr.1 (by simp only [World.size_drew]; omega) (by omega) (by omega) (by omega)).mono ?_; rintro e w2 ⟨v', rfl, hG⟩; have HG := Lib.hid hG; obtain ⟨cl1, fl1⟩ := HS1.out.drew.cell hG; obtain ⟨A9, c9, rfl, -, -⟩ := own_shape hG.1; clear hG)
                refine ⟨HK1.out.trans (((KeepsOthers.drew W1).from _).trans (HS1.out.drew.keeps HG.out _)), HP1.out.trans (((KpC.refl s W1).drew).trans ((KpC.grown HG.out.2.1 (own_ne HS1.out.drew.gr.1 HT1.out.drew (by decide))).set (q := ⟨w.heap.size, 0, none⟩) (by simp only; exact hsw) (.slice A9 (mA + pm + numN x.1.1 + numN J) c9))), ⟨.slice A9 (mA + pm + numN x.1.1 + numN J) c9, ?_⟩, HS1.out.drew.blk HG.out HT1.out.drew (by decide) hsw, (HM1.out.from ((KeepsOthers.drew W1).from _)).from (HS1.out.drew.keeps HG.out _)⟩
                rw [HE1.out, HE2.out, ← List.append_assoc pl, ← List.append_assoc uA, ← List.append_assoc uA, ← Nat.add_assoc pm, ← Nat.add_assoc mA, ← Nat.add_assoc mA]
                exact HS1.out.drew.next HG.out
              case done =>
                rintro D ys W hD hys ⟨⟨v, hS⟩, hT, hMk⟩ hK
                rw [hys] at hS
                have HS2 := Lib.hid hS
                have HT2 := Lib.hid hT
                have HMk2 := Lib.hid hMk
                have HK2 := Lib.hid hK
                have hDW := (Array.getElem?_eq_some_iff.1 hK).1
                have hs3 := HL.out.lt
                clear hS hT hMk hK hys HS HL HMs
                go_wp2_with fail
                refine ⟨⟨_, _, k + 1, v, rfl, rfl, rfl, rfl, by rw [show ((k + 1 : Nat) : Int) = (k : Int) + 1 by omega]; rfl, by omega, ?_, D, rfl, by omega, hDW, HK2.out, HMk2.out.mono (by omega)⟩, ?_⟩
                · have h := HS2.out
                  rw [HMA.out, HUA.out, HN.out] at h
                  rw [HU.out, HM.out, HN.out, ← List.append_assoc uk, ← List.append_assoc l0, ← List.append_assoc l0, ← Nat.add_assoc mk, ← Nat.add_assoc m0, ← Nat.add_assoc m0]
                  exact h
                · simp [intOf]; omega
              case stop =>
                rintro D cd pre W hD hS h
                exact h.elim
          · obtain rfl : k = 4 := by omega
            have cl0 : wr.cell? ⟨w.heap.size, 0, none⟩ = some (.slice A5 (m0 + bsM zs 4) c5) := HS.out.l.get (i := 0) rfl
            have hd1 : decide (((4 : Nat) : Int) < 4) = false := by decide
            go_wp2_with fail
            refine leaves_marks (B := w.heap.size) (fun W => Gr base (.slice A1 m c1) w (m0 + bsM zs 4) (l0 ++ bsU zs 4) (.slice A5 (m0 + bsM zs 4) c5) W) ?_ ?_ ds _ _ HMk.out HS.out.gr
            · intro W D hD hJ hK
              exact hJ.other (grownBy_putObj' W D (.deferred none)) (own_not hJ.1 (fun r e => by cases e; exact ⟨_, hK, rfl⟩)) (fun r e => by cases e; exact hD)
            · intro W hJ
              rw [HM0.out, HL0.out] at hJ
              refine ⟨_, results_tmp rfl _ _ _, _, rfl, ?_⟩
              have e1 : m + (hdM b + bdM zs) + bsM zs 4 = m + (hdM b + bdM zs + bsM zs 4) := Nat.add_assoc _ _ _
              have e2 : us ++ (hdL zs b ++ bdL zs) ++ bsU zs 4 = us ++ (hdL zs b ++ bdL zs ++ bsU zs 4) := List.append_assoc _ _ _
              rw [e1, e2] at hJ
              rw [HM0.out, e1]
              exact hJ

end Go.Proofs.Ytggkelehjdepkaa
