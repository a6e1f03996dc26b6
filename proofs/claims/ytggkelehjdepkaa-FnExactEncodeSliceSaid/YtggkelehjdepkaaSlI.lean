/- EncodeSlice, the program's. -/
import Derived.Test.YtggkelehjdepkaaSlE
import Derived.Test.YtggkelehjdepkaaAmB
import Derived.Test.YtggkelehjdepkaaEncI
namespace Go.Proofs.Ytggkelehjdepkaa
open Go.RowKit
set_option linter.unusedVariables false
set_option linter.unusedSimpArgs false

attribute [local go_sem] size_addsW cell?_addsW frozen?_addsW setCell_addsW drew_addsW adds_addsW setCell_twice alloc_adds0 size_adds0 adds_adds0 sel2 sel3 sel4 sel5 sel6 sel7 sel8 sel9 lt_more lt_more2 lt_more3 lt_more4 adds_drew adds_drewN drewN_addsW ltA_1_1 ltA_1_2 ltA_1_3 ltA_1_4 ltA_1_5 ltA_1_6 ltA_2_1 ltA_2_2 ltA_2_3 ltA_2_4 ltA_2_5 ltA_2_6 ltA_3_1 ltA_3_2 ltA_3_3 ltA_3_4 ltA_3_5 ltA_3_6 ltA_4_1 ltA_4_2 ltA_4_3 ltA_4_4 ltA_4_5 ltA_4_6 ltA_5_1 ltA_5_2 ltA_5_3 ltA_5_4 ltA_5_5 ltA_5_6 ltA_6_1 ltA_6_2 ltA_6_3 ltA_6_4 ltA_6_5 ltA_6_6 ltA_7_1 ltA_7_2 ltA_7_3 ltA_7_4 ltA_7_5 ltA_7_6 ltA_8_1 ltA_8_2 ltA_8_3 ltA_8_4 ltA_8_5 ltA_8_6 ltA_9_1 ltA_9_2 ltA_9_3 ltA_9_4 ltA_9_5 ltA_9_6 ltA_10_1 ltA_10_2 ltA_10_3 ltA_10_4 ltA_10_5 ltA_10_6 ltA_11_1 ltA_11_2 ltA_11_3 ltA_11_4 ltA_11_5 ltA_11_6 ltA_12_1 ltA_12_2 ltA_12_3 ltA_12_4 ltA_12_5 ltA_12_6

theorem zcMacI : Try.zeroCells29 = rowI (zL 71) := by kernel_rfl

set_option maxRecDepth 100000 in
set_option maxHeartbeats 2000000 in
theorem I_EncodeSlice (A : Option Addr) (n c : Nat) (zs : List Int) (b : Bool) (w : World) (hr : RowAt .i64 w A zs) (hz : zs.length = n * 71) (hl : n ≤ 1000000000) :
    Calls Try.prog 16 #[.slice A n c, .bool b] w (BytesGot (slB zs b n) w) := by
  have HR := Lib.hid hr
  have HZ := Lib.hid hz
  clear hr hz
  by_cases h14 : 1 ≤ n ∧ n ≤ 4
  · have hn1 : ¬ (n : Int) < 1 := by omega
    have hn4 : ¬ (4 : Int) < (n : Int) := by omega
    go_enter Try.func16, Try.ntmps16
    go_wp2_with fail
    go_loopw [5, 18] (fun v i wr => ∃ k : Nat, k ≤ n ∧ i = .int .i64 (k : Int) ∧ slOK zs b k = true ∧ SlRel w v (slM zs b k) (slU zs b k) wr) (fun _ i _ => n - (intOf i).toNat)
    case atStart => exact ⟨0, Nat.zero_le _, rfl, rfl, World.ownsRow_nil _ _ _ _, Below.refl _ _⟩
    case round =>
      obtain ⟨k, hk, rfl, hok, hS⟩ := hrel
      have HS := Lib.hid hS
      have HOK := Lib.hid hok
      have hmk := slM_le HZ.out k hk hok
      clear hS hok
      have hsw := HS.out.2.size
      by_cases hlt : k < n
      · have hd1 : decide ((k : Int) < (n : Int)) = true := by simp; omega
        have hk1 : (k : Int) < (n : Int) := by omega
        have hRw := HR.out.keep HS.out.2
        obtain ⟨g, off, rfl, hb, hsl, hcl⟩ := hRw.part HZ.out hlt
        have HU := Lib.hid (show slU zs b (k + 1) = slU zs b k ++ macL (sub zs (k * 71) 71) b from rfl)
        have HMM := Lib.hid (show slM zs b (k + 1) = slM zs b k + macM (sub zs (k * 71) 71) b from rfl)
        have HNO := Lib.hid (fun h => slOK_no (zs := zs) (b := b) hlt h)
        have HSU := Lib.hid (slOK_succ zs b k)
        obtain ⟨ys, hys⟩ : ∃ ys, ys = sub zs (k * 71) 71 := ⟨_, rfl⟩
        rw [← hys] at hsl hcl HU HMM HNO HSU
        obtain ⟨kd, hkd⟩ : ∃ kd, kd = ys.getD 0 0 := ⟨_, rfl⟩
        have hcs := mb_cases ys b kd hkd
        have hc0 := rowI_get (zs := ys) (j := 0) (by omega)
        rw [← hkd] at hc0
        have HCL := Lib.hid hcl
        have HSL := Lib.hid hsl
        have HSB := Lib.hid (show sub ys 0 71 = ys by rw [← hsl]; exact sub_all ys)
        clear hcl hsl hRw hys hkd
        go_upto_region 7 with (first | (simp only [zcMacI]) | (focus ((with_reducible refine wpList_wanted ?_ (fun K hK => ?_)); rotate_left; (refine wp_load_at 29 (.tmp 20) ?ho g (off + k * 71) 71 ?hx ys _ HCL.out HSL.out Try.underlying29 rfl infoMacS (hK _ _ ?_)); (case ho => with_reducible rfl); (case hx => rfl); rotate_left; rfl)) | (focus ((with_reducible refine wpList_wanted ?_ (fun K hK => ?_)); rotate_left; (refine wp_store_new 29 (.tmp 7) (.tmp 21) ?ho ?g8 (rowI ys) ?hx ?hy 29 (rowI (zL 71)) ?hg (by rw [rowI_size, HSL.out]; exact infoMacS) (by rw [rowI_size, rowI_size, HSL.out]; exact zL_len 71) (rowI_one ys) (hK _ _ ?_)); (case ho => with_reducible rfl); (case hx => rfl); (case hy => rfl); (case hg => first | rfl | (simp only [size_addsW, World.size_alloc])); (try simp only [Act.put, List.setIfInBounds_toArray, List.set_cons_zero, List.set_cons_succ]); rotate_left; rfl)))
        have HX := Lib.hid (HS.out.next (Below.alloc (Below.refl _ _) (Nat.le_refl _) (.cells (rowI ys) 29)))
        have HB := Lib.hid (Blk.new wr (rowI ys) 29 _ rfl)
        have hszX : (wr.alloc (.cells (rowI ys) 29)).heap.size = wr.heap.size + 1 := by simp
        clear HS HCL hb
        generalize wr.alloc (.cells (rowI ys) 29) = X at *
        generalize wr.heap.size = t at *
        clear wr
        have c0 : X.cell? ⟨t, 0, none⟩ = some (.int .i64 kd) := HB.out.get hc0
        have htl := HB.out.lt
        rcases hcs with ⟨h1, h2⟩ | ⟨h1, rfl, hk2, h2⟩ | ⟨h1, h2, h3⟩
        · have hfin : slB zs b n = [] := if_neg (by rw [HNO.out h2]; simp)
          have HF := Lib.hid hfin
          clear h2 hfin
          go_wp2_with (first | (focus ((with_reducible refine wpList_wanted ?_ (fun K hK => ?_)); rotate_left; (refine wp_load_sub 29 (.tmp 7) ?ho t 0 71 ?hx 29 ys (0, 0) _ ?hg Try.underlying29 rfl infoMacS ?hs (hK _ _ ?_)); (case ho => with_reducible rfl); (case hx => rfl); (case hg => exact HB.out); (case hs => rw [HSL.out]; exact Nat.le_refl _); rw [HSB.out]; rotate_left; rfl)) | (go_at_call 33; refine (I_MacroValid ys _ HSL.out).mono ?_; rw [h1]; rintro e w' ⟨rfl, hb2⟩; obtain ⟨o1, n1, rfl⟩ := below_adds hb2; clear hb2))
          go_returns
          rw [HF.out]
          exact BytesGot.nil0 _ _ (Below.adds_ HX.out.2 HX.out.2.size _ _)
        · have hfin : slB zs true n = [] := if_neg (by rw [HNO.out h2]; simp)
          have HF := Lib.hid hfin
          clear h2 hfin
          have hk2b : (kd != 2) = true := by simp [hk2]
          have hk2c : (kd == 2) = false := by simp [hk2]
          go_wp2_with (first | (focus ((with_reducible refine wpList_wanted ?_ (fun K hK => ?_)); rotate_left; (refine wp_load_sub 29 (.tmp 7) ?ho t 0 71 ?hx 29 ys (0, 0) _ ?hg Try.underlying29 rfl infoMacS ?hs (hK _ _ ?_)); (case ho => with_reducible rfl); (case hx => rfl); (case hg => exact HB.out); (case hs => rw [HSL.out]; exact Nat.le_refl _); rw [HSB.out]; rotate_left; rfl)) | (go_at_call 33; refine (I_MacroValid ys _ HSL.out).mono ?_; rw [h1]; rintro e w' ⟨rfl, hb2⟩; obtain ⟨o1, n1, rfl⟩ := below_adds hb2; clear hb2))
          go_returns
          rw [HF.out]
          exact BytesGot.nil0 _ _ (Below.adds_ HX.out.2 HX.out.2.size _ _)
        · have HM := Lib.hid (MacOk.of HSL.out h1)
          have HSO := Lib.hid (show slOK zs b (k + 1) = true by rw [HSU.out, HOK.out, h2]; rfl)
          have hmm := macM_le HM.out b
          obtain ⟨mm, hmm'⟩ : ∃ mm, mm = macM ys b := ⟨_, rfl⟩
          obtain ⟨lm, hlm'⟩ : ∃ lm, lm = macL ys b := ⟨_, rfl⟩
          have HC := Lib.hid (show ∀ (v : Value) (m : Nat) (us : List Int) (W : World), W.ownsRow w.heap.size 35 2 v m (us.map (Value.int .i64)) → w.heap.size ≤ W.heap.size → m ≤ 500000 → Calls Try.prog 34 #[v, .agg (rowI ys), .bool b] W (Grew w.heap.size v (m + mm) (us ++ lm) W) from fun v m us W h1 h2 h3 => by rw [hmm', hlm']; exact I_appendMacro v m us ys b w.heap.size W h1 h2 HM.out h3)
          rw [← hmm'] at hmm HMM
          rw [← hlm'] at HU
          clear hmm' hlm'
          generalize slM zs b k = mk at *
          generalize slU zs b k = uk at *
          obtain ⟨A1, c1, rfl, -, -⟩ := own_shape HX.out.1
          clear h2
          rcases h3 with rfl | ⟨rfl, rfl⟩
          all_goals
            go_wp2_with (first | (focus ((with_reducible refine wpList_wanted ?_ (fun K hK => ?_)); rotate_left; (refine wp_load_sub 29 (.tmp 7) ?ho t 0 71 ?hx 29 ys (0, 0) _ ?hg Try.underlying29 rfl infoMacS ?hs (hK _ _ ?_)); (case ho => with_reducible rfl); (case hx => rfl); (case hg => first | exact HB.out | exact HB.out.addsE _ _); (case hs => rw [HSL.out]; exact Nat.le_refl _); rw [HSB.out]; rotate_left; rfl)) | (go_at_call 33; refine (I_MacroValid ys _ HSL.out).mono ?_; rw [h1]; rintro e w' ⟨rfl, hb2⟩; obtain ⟨o1, n1, rfl⟩ := below_adds hb2; have HX1 := Lib.hid (HX.out.next hb2); clear hb2) | (go_at_call 34; refine (HC.out _ _ _ _ HX1.out.1 HX1.out.2.size (by omega)).mono ?_; rintro e wn ⟨vn, rfl, hG1, hG2, -⟩; have HS1 : Hid (SlRel w vn (mk + mm) (uk ++ lm) wn) := Lib.hid ⟨hG1, HX1.out.2.grown hG2 HX1.out.2.size (fun q e => (HX1.out.1.lt q e).1)⟩; obtain ⟨A2, c2, rfl, -, -⟩ := own_shape hG1; clear hG1 hG2))
            go_roundw
            case rel => exact ⟨k + 1, by omega, by go_num, HSO.out, by rw [HU.out, HMM.out]; exact HS1.out⟩
            case measure => simp [intOf]; omega
      · obtain rfl : k = n := by omega
        have hfin : slB zs b k = encL (slU zs b k) (slM zs b k) := if_pos ⟨h14.1, h14.2, HOK.out⟩
        have HF := Lib.hid hfin
        obtain ⟨A1, c1, rfl, -, -⟩ := own_shape HS.out.1
        obtain ⟨A2, c2, e2, -, -, -, hrow, -⟩ := RowAt.of_ownS HS.out.1
        injection e2 with e3 e4 e5
        subst e3 e5
        have HE := Lib.hid (I_EncodeBins A1 (slM zs b k) c1 (slU zs b k) wr hrow (slU_len zs b k) (by omega))
        clear hrow hfin
        go_wp2_with (go_at_call 41; refine HE.out.mono ?_; intro e w2 hG; have HG := Lib.hid hG; obtain ⟨A3, c3, rfl, -⟩ := hG)
        go_returns
        rw [HF.out]
        exact HG.out.later HS.out.2
  · have hfin : slB zs b n = [] := if_neg (fun h => h14 ⟨h.1, h.2.1⟩)
    rw [hfin]
    rcases (show (n : Int) < 1 ∨ (¬ (n : Int) < 1 ∧ (4 : Int) < (n : Int)) by omega) with h1 | ⟨h1, h2⟩
    all_goals
      go_enter Try.func16, Try.ntmps16
      go_wp2_with fail
      go_returns
      exact BytesGot.nil0 _ _ (Below.refl _ _)

end Go.Proofs.Ytggkelehjdepkaa
