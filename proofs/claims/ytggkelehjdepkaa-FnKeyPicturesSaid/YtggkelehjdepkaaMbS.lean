/- The reference's l10Macro and MacroBins. -/
import Derived.Test.YtggkelehjdepkaaMb
import Derived.Test.YtggkelehjdepkaaMacS
import Derived.Deep.DeepCutAuto
namespace Go.Proofs.Ytggkelehjdepkaa
open Go.RowKit
set_option linter.unusedVariables false
set_option linter.unusedSimpArgs false

attribute [local go_sem] size_addsW cell?_addsW frozen?_addsW setCell_addsW drew_addsW adds_addsW setCell_twice alloc_adds0 size_adds0 adds_adds0 sel2 sel3 sel4 sel5 sel6 sel7 sel8 sel9 lt_more lt_more2 lt_more3 lt_more4 adds_drew adds_drewN drewN_addsW ltA_1_1 ltA_1_2 ltA_1_3 ltA_1_4 ltA_1_5 ltA_1_6 ltA_2_1 ltA_2_2 ltA_2_3 ltA_2_4 ltA_2_5 ltA_2_6 ltA_3_1 ltA_3_2 ltA_3_3 ltA_3_4 ltA_3_5 ltA_3_6 ltA_4_1 ltA_4_2 ltA_4_3 ltA_4_4 ltA_4_5 ltA_4_6 ltA_5_1 ltA_5_2 ltA_5_3 ltA_5_4 ltA_5_5 ltA_5_6 ltA_6_1 ltA_6_2 ltA_6_3 ltA_6_4 ltA_6_5 ltA_6_6 ltA_7_1 ltA_7_2 ltA_7_3 ltA_7_4 ltA_7_5 ltA_7_6 ltA_8_1 ltA_8_2 ltA_8_3 ltA_8_4 ltA_8_5 ltA_8_6 ltA_9_1 ltA_9_2 ltA_9_3 ltA_9_4 ltA_9_5 ltA_9_6 ltA_10_1 ltA_10_2 ltA_10_3 ltA_10_4 ltA_10_5 ltA_10_6 ltA_11_1 ltA_11_2 ltA_11_3 ltA_11_4 ltA_11_5 ltA_11_6 ltA_12_1 ltA_12_2 ltA_12_3 ltA_12_4 ltA_12_5 ltA_12_6

/-- the list so far, beside the macroblock's box -/
def MgRel (w : World) (zs : List Int) (v : Value) (m : Nat) (us : List Int) (wr : World) : Prop :=
  wr.ownsRow (w.heap.size + 1) 35 2 v m (us.map (Value.int .i64)) ∧ Blk wr w.heap.size (rowI zs) 29 ∧ Below w.heap.size w wr
theorem MgRel.app {w wr wn w1 : World} {m m2 : Nat} {zs us us2 : List Int} {v v' : Value} (h : MgRel w zs v m us wr) (hb : Below wr.heap.size wr wn)
    (hown : w1.ownsRow (w.heap.size + 1) 35 2 v' (m + m2) ((us ++ us2).map (Value.int .i64))) (hg : wn.grownBy w1 v.ownBlock) : MgRel w zs v' (m + m2) (us ++ us2) w1 := by
  obtain ⟨h1, h2, h3⟩ := h
  have hsz := hb.size
  have hs3 := h3.size
  have hl := h2.lt
  exact ⟨hown, (h2.below hb hl).grown hg (fun e => by have := (h1.lt _ e).1; omega), (h3.trans (hb.mono hs3)).grown hg (by omega) (fun q e => by have := (h1.lt q e).1; omega)⟩
theorem own_lits (W : World) (zs : List Int) (n g base : Nat) (hg : g = W.heap.size) (hb : base ≤ g) (hn : n ≤ maxLen) (hl : zs.length = n * 2) : (W.alloc (.cells (rowI zs) 35)).ownsRow base 35 2 (.slice (some ⟨g, 0, none⟩) n n) n (zs.map (Value.int .i64)) := by
  subst hg
  have h := World.ownsRow_lit (base := base) (e := 35) (size := 2) W (rowI zs) n hb hn (by rw [rowI_size, hl])
  simpa [rowI] using h

set_option maxRecDepth 100000 in
set_option maxHeartbeats 1000000 in
theorem S_l10Macro (zs : List Int) (b : Bool) (w : World) (hv : MacOk zs) : Calls Try.prog 35 #[.agg (rowI zs), .bool b] w (BinsMade (macM zs b) (macL zs b) w) := by
  have HV := Lib.hid hv
  have hl := hv.len
  have hc0 := rowI_get (zs := zs) (j := 0) (by omega)
  have HZ := Lib.hid hl
  have hkd := hv.kind
  obtain ⟨kd, hk⟩ : ∃ kd, kd = zs.getD 0 0 := ⟨_, rfl⟩
  have HK := Lib.hid hk
  rw [← hk] at hc0 hkd
  clear hv hl hk
  by_cases hsk : b = false ∧ kd = 0
  · obtain ⟨rfl, rfl⟩ := hsk
    rw [macM, macL, if_pos ⟨rfl, HK.out.symm⟩, if_pos ⟨rfl, HK.out.symm⟩]
    go_enter Try.func35, Try.ntmps35
    go_wp2_with fail
    go_returns
    exact ⟨_, rfl, own_lits ((w.alloc (.cells (rowI zs) 29)).alloc (.cells #[] 35)) [0, 0] 1 _ w.heap.size (by simp) (by omega) (by decide) rfl, (by repeat' (first | (with_reducible exact Below.refl _ _) | (with_reducible refine Below.adds_ ?_ ?_ _ _) | (with_reducible refine Below.alloc ?_ ?_ _) | (with_reducible refine Below.drew ?_) | (with_reducible refine Below.setCell ?_ ?_ _) | (with_reducible assumption) | go_size | (simp only [size_addsW, World.size_alloc, World.size_drew, World.size_setCell]; omega)))⟩
  · rw [macM, macL, if_neg (by rw [← HK.out]; exact hsk), if_neg (by rw [← HK.out]; exact hsk)]
    go_enter Try.func35, Try.ntmps35
    go_upto_if 10 with fail
    go_cut [5] (fun v wx => MgRel w zs v (hdM b) (hdL zs b) wx)
    case first =>
      cases b
      · have hk0 : (kd == 0) = false := by simp; intro h; exact hsk ⟨rfl, h⟩
        go_wp2_with (at_builtin; refine wpList_app_bins rfl _ _ rfl (w.heap.size + 1) _ 0 [] rfl ((own_lit_s (w.alloc (.cells (rowI zs) 29)) 35 (w.heap.size + 1) (w.heap.size + 1) 2 (by decide) (by simp) (Nat.le_refl _)).alloc _) (w.heap.size + 1) _ 2 [0, 1, 1, kd - 1] rfl (own_lits _ [0, 1, 1, kd - 1] 2 _ _ (by simp) (by omega) (by decide) rfl) (by omega) (by omega) (by simp only [World.size_alloc]; omega) ?_; intro v' w1 hown1 hgrow1 _; have HO1 := Lib.hid hown1; have HG1 := Lib.hid hgrow1; clear hown1 hgrow1)
        go_meet
        have hb1 : Below (w.heap.size + 1) (((w.alloc (.cells (rowI zs) 29)).alloc (.cells #[] 35)).alloc (.cells #[.int .i64 0, .int .i64 1, .int .i64 1, .int .i64 (kd - 1)] 35)) w1 := (Below.refl _ _).grown HG1.out (by simp only [World.size_alloc]; omega) (fun q e => by cases e; exact Nat.le_refl _)
        exact ⟨by rw [hdM, hdL, if_neg (by decide), if_neg (by decide), ← HK.out]; exact HO1.out, (((Blk.new w _ _ _ rfl).alloc _).alloc _).below hb1 (by omega), Below.trans (by repeat' (first | (with_reducible exact Below.refl _ _) | (with_reducible refine Below.adds_ ?_ ?_ _ _) | (with_reducible refine Below.alloc ?_ ?_ _) | (with_reducible refine Below.drew ?_) | (with_reducible refine Below.setCell ?_ ?_ _) | (with_reducible assumption) | go_size | (simp only [size_addsW, World.size_alloc, World.size_drew, World.size_setCell]; omega))) (hb1.mono (by omega))⟩
      · go_wp2_with fail
        go_meet
        exact ⟨own_lit_s (w.alloc (.cells (rowI zs) 29)) 35 (w.heap.size + 1) (w.heap.size + 1) 2 (by decide) (by simp) (Nat.le_refl _), (Blk.new w _ _ _ rfl).alloc _, (by repeat' (first | (with_reducible exact Below.refl _ _) | (with_reducible refine Below.adds_ ?_ ?_ _ _) | (with_reducible refine Below.alloc ?_ ?_ _) | (with_reducible refine Below.drew ?_) | (with_reducible refine Below.setCell ?_ ?_ _) | (with_reducible assumption) | go_size | (simp only [size_addsW, World.size_alloc, World.size_drew, World.size_setCell]; omega)))⟩
    case rest =>
      have HR := Lib.hid hcut
      clear hcut
      clear hsk
      have hdb : hdM b ≤ 2 := by unfold hdM; split <;> omega
      have c0 : wc.cell? ⟨w.heap.size, 0, none⟩ = some (.int .i64 kd) := HR.out.2.1.get hc0
      have hgl := HR.out.2.1.lt
      go_upto_if 26 with fail
      go_cut [5] (fun v wx => MgRel w zs v (hdM b + bdM zs) (hdL zs b ++ bdL zs) wx)
      case first =>
        clear hc0 c0
        by_cases h1 : kd = 1
        · subst h1
          obtain ⟨x, hx⟩ : ∃ x, x = zs.getD 1 0 := ⟨_, rfl⟩
          obtain ⟨y, hy⟩ : ∃ y, y = zs.getD 2 0 := ⟨_, rfl⟩
          have cx := blk_rowI_cell HR.out.2.1 (j := 1) (by rw [HZ.out]; omega)
          rw [← hx] at cx
          have hxb := HV.out.x
          have hyb := HV.out.y
          rw [← hx] at hxb
          rw [← hy] at hyb
          have hX := sidx_bd hxb
          have hY := sidx_bd hyb
          obtain ⟨I, hI⟩ := Int.eq_ofNat_of_zero_le hX.1
          obtain ⟨J, hJ⟩ := Int.eq_ofNat_of_zero_le hY.1
          have HSX := Lib.hid (show ∀ W, Calls Try.prog 59 #[.int .i64 x] W fun e w' => e = .returned (.int .i64 (I : Int)) ∧ W = w' from fun W => by rw [← hI]; exact S_SignedIndex x W hxb)
          have HSY := Lib.hid (show ∀ W, Calls Try.prog 59 #[.int .i64 y] W fun e w' => e = .returned (.int .i64 (J : Int)) ∧ W = w' from fun W => by rw [← hJ]; exact S_SignedIndex y W hyb)
          have HB1 := Lib.hid (show bdL zs = numL I 2 ++ numL J 2 by rw [bdL, if_pos HK.out.symm, vcL, ← hx, ← hy, hI, hJ, Int.toNat_natCast, Int.toNat_natCast])
          have HM1 := Lib.hid (show bdM zs = numN I + numN J by rw [bdM, if_pos HK.out.symm, vcM, ← hx, ← hy, hI, hJ, Int.toNat_natCast, Int.toNat_natCast])
          have hIb : I ≤ 8160 := by omega
          have hJb : J ≤ 8160 := by omega
          have HYY := Lib.hid hy
          have n1 := numN_le (n := I) (by omega)
          have n2 := numN_le (n := J) (by omega)
          have p1 := numN_pos I
          have p2 := numN_pos J
          clear hxb hyb hX hY hI hJ hx hy
          have hs3 := HR.out.2.2.size
          have HC1 := Lib.hid (show ∀ W, Calls Try.prog 58 #[.int .i64 (I : Int), .int .i64 2] W (BinsMade (numN I) (numL I 2) W) from fun W => S_l10Number I 2 W (by omega) (by omega))
          have HC2 := Lib.hid (show ∀ W, Calls Try.prog 58 #[.int .i64 (J : Int), .int .i64 2] W (BinsMade (numN J) (numL J 2) W) from fun W => S_l10Number J 2 W (by omega) (by omega))
          go_upto_region 8 with (first | (go_at_call 59; refine (HSX.out _).mono ?_; rintro e w' ⟨rfl, rfl⟩) | (go_at_call 58; refine (HC1.out _).mono ?_; rintro e wn ⟨vn, rfl, hn, hbn⟩; have HYtggkelehjdepkaa := Lib.hid hn; have HBN := Lib.hid hbn; clear hn hbn) | (at_builtin; refine wpList_app_bins rfl _ _ rfl (w.heap.size + 1) _ _ _ rfl (ownsRow_below HR.out.1 HBN.out) _ _ _ _ rfl HYtggkelehjdepkaa.out p1 (by omega) (by have := HBN.out.size; omega) ?_; intro v' w1 hown1 hgrow1 _; have HR1 := Lib.hid (HR.out.app HBN.out hown1 hgrow1); clear hown1 hgrow1))
          clear HYtggkelehjdepkaa HBN HC1 cx hgl HSX HR hs3
          have cy := blk_rowI_cell HR1.out.2.1 (j := 2) (by rw [HZ.out]; omega)
          rw [← HYY.out] at cy
          have hgl := HR1.out.2.1.lt
          have hs3 := HR1.out.2.2.size
          go_wp2_with (first | (go_at_call 59; refine (HSY.out _).mono ?_; rintro e w' ⟨rfl, rfl⟩) | (go_at_call 58; refine (HC2.out _).mono ?_; rintro e wn ⟨vn, rfl, hn, hbn⟩; have HYtggkelehjdepkaa := Lib.hid hn; have HBN := Lib.hid hbn; clear hn hbn) | (at_builtin; refine wpList_app_bins rfl _ _ rfl (w.heap.size + 1) _ _ _ rfl (ownsRow_below HR1.out.1 HBN.out) _ _ _ _ rfl HYtggkelehjdepkaa.out p2 (by omega) (by have := HBN.out.size; omega) ?_; intro v' w1 hown1 hgrow1 _; have HR2 := Lib.hid (HR1.out.app HBN.out hown1 hgrow1); clear hown1 hgrow1))
          go_meet
          rw [HB1.out, HM1.out, ← List.append_assoc, ← Nat.add_assoc]
          exact HR2.out
        · have h1b : (kd == 1) = false := by simp [h1]
          rw [h1b]
          clear h1b
          have HB1 := Lib.hid (show bdL zs = mdU zs 4 by rw [bdL, if_neg (by rw [← HK.out]; exact h1)])
          have HM1 := Lib.hid (show bdM zs = mdM zs 4 by rw [bdM, if_neg (by rw [← HK.out]; exact h1)])
          go_wp2_with fail
          go_loopw [5, 6] (fun v i wr => ∃ k : Nat, i = .int .i64 (k : Int) ∧ k ≤ 4 ∧ MgRel w zs v (hdM b + mdM zs k) (hdL zs b ++ mdU zs k) wr) (fun _ i _ => 4 - (intOf i).toNat)
          case atStart => exact ⟨0, rfl, by omega, by rw [mdM, mdU, Nat.add_zero, List.append_nil]; exact HR.out⟩
          case round =>
            clear HR hgl
            obtain ⟨k, rfl, hk, hr⟩ := hrel
            have HR := Lib.hid hr
            clear hr
            have hgl := HR.out.2.1.lt
            have hs3 := HR.out.2.2.size
            by_cases hlt : k < 4
            · have hd1 : decide ((k : Int) < 4) = true := by simp; omega
              have cz := blk_rowI_cell HR.out.2.1 (j := 3 + k) (by rw [HZ.out]; omega)
              have hmb := HV.out.mode k hlt
              have hml := mdM_le HV.out k (by omega)
              have HU := Lib.hid (show mdU zs (k + 1) = mdU zs k ++ numL (zs.getD (3 + k) 0).toNat 9 from rfl)
              have HM := Lib.hid (show mdM zs (k + 1) = mdM zs k + numN (zs.getD (3 + k) 0).toNat from rfl)
              generalize zs.getD (3 + k) 0 = z at *
              obtain ⟨I, rfl⟩ := Int.eq_ofNat_of_zero_le hmb.1
              have cz2 : wr.cell? ⟨w.heap.size, 2 + 1 + k, none⟩ = some (.int .i64 (I : Int)) := cz
              rw [Int.toNat_natCast] at HU HM
              have hIb : I ≤ 4 := by omega
              have n1 := numN_le (n := I) (by omega)
              have p1 := numN_pos I
              clear hmb
              generalize mdM zs k = m at *
              generalize mdU zs k = us at *
              have HC1 := Lib.hid (show ∀ W, Calls Try.prog 58 #[.int .i64 (I : Int), .int .i64 9] W (BinsMade (numN I) (numL I 9) W) from fun W => S_l10Number I 9 W (by omega) (by omega))
              go_wp2_with (first | (go_at_call 58; refine (HC1.out _).mono ?_; rintro e wn ⟨vn, rfl, hn, hbn⟩; have HYtggkelehjdepkaa := Lib.hid hn; have HBN := Lib.hid hbn; clear hn hbn) | (at_builtin; refine wpList_app_bins rfl _ _ rfl (w.heap.size + 1) _ _ _ rfl (ownsRow_below HR.out.1 HBN.out) _ _ _ _ rfl HYtggkelehjdepkaa.out p1 (by omega) (by have := HBN.out.size; omega) ?_; intro v' w1 hown1 hgrow1 _; have HR1 := Lib.hid (HR.out.app HBN.out hown1 hgrow1); clear hown1 hgrow1))
              go_roundw
              case rel => exact ⟨k + 1, by go_num, by omega, by rw [HU.out, HM.out, ← List.append_assoc, ← Nat.add_assoc]; exact HR1.out⟩
              case measure => simp [intOf]; omega
            · obtain rfl : k = 4 := by omega
              go_wp2_with fail
              go_meet
              rw [HB1.out, HM1.out]
              exact HR.out
      case rest =>
        clear HR hc0 c0 hgl HK hkd
        clear kd
        have HR := Lib.hid hcut
        clear hcut
        have hbd := bdM_le HV.out
        obtain ⟨m0, hm0⟩ : ∃ m0, m0 = hdM b + bdM zs := ⟨_, rfl⟩
        obtain ⟨l0, hl0⟩ : ∃ l0, l0 = hdL zs b ++ bdL zs := ⟨_, rfl⟩
        have hm0b : m0 ≤ 134 := by omega
        rw [← hm0, ← hl0] at HR
        have HM0 := Lib.hid hm0
        have HL0 := Lib.hid hl0
        clear hm0 hl0 hbd hdb
        go_wp2_with fail
        go_loopw [5, 7] (fun v i wr => ∃ k : Nat, i = .int .i64 (k : Int) ∧ k ≤ 4 ∧ MgRel w zs v (m0 + bsM zs k) (l0 ++ bsU zs k) wr) (fun _ i _ => 4 - (intOf i).toNat)
        case atStart => exact ⟨0, rfl, by omega, by rw [bsM, bsU, Nat.add_zero, List.append_nil]; exact HR.out⟩
        case round =>
          clear HR
          obtain ⟨k, rfl, hk, hr⟩ := hrel
          have HR := Lib.hid hr
          clear hr
          have hgl := HR.out.2.1.lt
          have hs3 := HR.out.2.2.size
          by_cases hlt : k < 4
          · have hd1 : decide ((k : Int) < 4) = true := by simp; omega
            have hml := bsM_le HV.out k (by omega)
            have hlv := HV.out.lev k hlt
            have HU := Lib.hid (show bsU zs (k + 1) = bsU zs k ++ blL (sub zs (7 + k * 16) 16) from rfl)
            have HM := Lib.hid (show bsM zs (k + 1) = bsM zs k + blM (sub zs (7 + k * 16) 16) from rfl)
            have n1 := blM_le hlv
            have p1 := blM_pos (sub zs (7 + k * 16) 16)
            have HC1 := Lib.hid (show ∀ W, Calls Try.prog 60 #[.agg (rowI (sub zs (7 + k * 16) 16))] W (BinsMade (blM (sub zs (7 + k * 16) 16)) (blL (sub zs (7 + k * 16) 16)) W) from fun W => S_l10Block _ W (sub_len (by rw [HZ.out]; omega)) hlv)
            clear hlv
            generalize bsM zs k = m at *
            generalize bsU zs k = us at *
            generalize blM (sub zs (7 + k * 16) 16) = bm at *
            generalize blL (sub zs (7 + k * 16) 16) = bl at *
            go_wp2_with (first | (focus ((with_reducible refine wpList_wanted ?_ (fun K hK => ?_)); rotate_left; (refine wp_load_sub 26 (.tmp 59) ?ho w.heap.size (7 + k * 16) 16 ?hx 29 zs (0, 0) _ ?hg Try.underlying26 rfl infoA16 ?hs (hK _ _ ?_)); (case ho => with_reducible rfl); (case hx => rfl); (case hg => exact HR.out.2.1); (case hs => rw [HZ.out]; omega); rotate_left; rfl)) | (go_at_call 60; refine (HC1.out _).mono ?_; rintro e wn ⟨vn, rfl, hn, hbn⟩; have HYtggkelehjdepkaa := Lib.hid hn; have HBN := Lib.hid hbn; clear hn hbn) | (at_builtin; refine wpList_app_bins rfl _ _ rfl (w.heap.size + 1) _ _ _ rfl (ownsRow_below HR.out.1 HBN.out) _ _ _ _ rfl HYtggkelehjdepkaa.out p1 (by omega) (by have := HBN.out.size; omega) ?_; intro v' w1 hown1 hgrow1 _; have HR1 := Lib.hid (HR.out.app HBN.out hown1 hgrow1); clear hown1 hgrow1))
            go_roundw
            case rel => exact ⟨k + 1, by go_num, by omega, by rw [HU.out, HM.out, ← List.append_assoc, ← Nat.add_assoc]; exact HR1.out⟩
            case measure => simp [intOf]; omega
          · obtain rfl : k = 4 := by omega
            go_wp2_with fail
            go_returns
            have hfin := own_base (base' := w.heap.size) HR.out.1 (by omega)
            rw [HM0.out, HL0.out] at hfin
            exact ⟨_, rfl, hfin, HR.out.2.2⟩

end Go.Proofs.Ytggkelehjdepkaa
