/- PROVED: the law laws.FnMacroBins returns true for every input: whatever macroblock is drawn from the code, MacroBins answers as the reference does, all its decisions are valid, and a skipped macroblock has exactly one; no conditions. -/
import Derived.Test.YtggkelehjdepkaaRows
import Derived.Test.YtggkelehjdepkaaAmB
import Derived.Test.YtggkelehjdepkaaMbO
import Derived.Test.YtggkelehjdepkaaDrawMB
import Derived.Test.YtggkelehjdepkaaNew
import Derived.WalkKit
import Derived.ProofKit
import Derived.OpenShut
import Derived.ShutString
import Derived.ChangeOld
import Derived.Below
import Derived.Lib.SmallJoins
namespace Go.Proofs.Ytggkelehjdepkaa.fnMacroBins
open Go.ChangeShapes Go.WideShapes Go.ChangeAt Go.RowKit
open Go.ChangeMaps (open_string shut_string)
set_option linter.unusedVariables false
set_option linter.unusedSimpArgs false

theorem own : ownKnob Try.prog.godebug = none := by kernel_rfl
theorem laidOut : laidOutB Try.prog = true := by kernel_rfl

attribute [local go_sem] size_addsW cell?_addsW frozen?_addsW setCell_addsW drew_addsW adds_addsW setCell_twice alloc_adds0 size_adds0 adds_adds0 sel2 sel3 sel4 sel5 sel6 sel7 sel8 sel9 lt_more lt_more2 lt_more3 lt_more4 adds_drew adds_drewN drewN_addsW ltA_1_1 ltA_1_2 ltA_1_3 ltA_1_4 ltA_1_5 ltA_1_6 ltA_2_1 ltA_2_2 ltA_2_3 ltA_2_4 ltA_2_5 ltA_2_6 ltA_3_1 ltA_3_2 ltA_3_3 ltA_3_4 ltA_3_5 ltA_3_6 ltA_4_1 ltA_4_2 ltA_4_3 ltA_4_4 ltA_4_5 ltA_4_6 ltA_5_1 ltA_5_2 ltA_5_3 ltA_5_4 ltA_5_5 ltA_5_6 ltA_6_1 ltA_6_2 ltA_6_3 ltA_6_4 ltA_6_5 ltA_6_6 ltA_7_1 ltA_7_2 ltA_7_3 ltA_7_4 ltA_7_5 ltA_7_6 ltA_8_1 ltA_8_2 ltA_8_3 ltA_8_4 ltA_8_5 ltA_8_6 ltA_9_1 ltA_9_2 ltA_9_3 ltA_9_4 ltA_9_5 ltA_9_6 ltA_10_1 ltA_10_2 ltA_10_3 ltA_10_4 ltA_10_5 ltA_10_6 ltA_11_1 ltA_11_2 ltA_11_3 ltA_11_4 ltA_11_5 ltA_11_6 ltA_12_1 ltA_12_2 ltA_12_3 ltA_12_4 ltA_12_5 ltA_12_6
theorem mbOK_cases (zs : List Int) (b : Bool) : (macB zs = false) ∨ (macB zs = true ∧ b = true ∧ mkK zs ≠ 2) ∨ (macB zs = true ∧ mbOK zs b = true ∧ (b = false ∨ (b = true ∧ mkK zs = 2))) := by
  cases h : macB zs
  · exact .inl rfl
  · cases b
    · exact .inr (.inr ⟨rfl, by simp [mbOK, h], .inl rfl⟩)
    · by_cases hk : mkK zs = 2
      · exact .inr (.inr ⟨rfl, by simp [mbOK, h, hk], .inr ⟨rfl, hk⟩⟩)
      · exact .inr (.inl ⟨rfl, rfl, hk⟩)

set_option maxHeartbeats 4000000 in
set_option maxRecDepth 100000 in
theorem walk (a_zs : Option Addr) (len_zs cap_zs : Nat) (zs : List Int) (w : World) (w_zs : IsRow .u8 w a_zs len_zs cap_zs zs) :
    Calls Try.prog 3 #[.slice a_zs len_zs cap_zs] w fun e w' => e = .returned (.bool true) ∧ Below w.heap.size w w' := by
  have hlm := (RowAt.of_row w_zs).2.2.1
  unfold maxLen at hlm
  have HI := Lib.hid w_zs
  clear w_zs
  by_cases hbig : 1048576 < len_zs
  · go_enter Try.func3, Try.ntmps3
    go_wp2
    go_returns
    exact ⟨rfl, (by repeat' (first | (with_reducible exact Below.refl _ _) | (with_reducible refine Below.adds_ ?_ ?_ _ _) | (with_reducible refine Below.alloc ?_ ?_ _) | (with_reducible refine Below.drew ?_) | (with_reducible refine Below.setCell ?_ ?_ _) | (with_reducible assumption) | go_size | (simp only [size_addsW, World.size_alloc, World.size_drew, World.size_setCell]; omega)))⟩
  · go_enter Try.func3, Try.ntmps3
    go_upto_region 4 with (first
      | (simp only [zcMac])
      | (go_at_call 7; refine (S_DrawMacroBins _ _ _ zs _ (IsRow.keep HI.out (by repeat' (first | (with_reducible exact Below.refl _ _) | (with_reducible refine Below.adds_ ?_ ?_ _ _) | (with_reducible refine Below.alloc ?_ ?_ _) | (with_reducible refine Below.drew ?_) | (with_reducible refine Below.setCell ?_ ?_ _) | (with_reducible assumption) | go_size | (simp only [size_addsW, World.size_alloc, World.size_drew, World.size_setCell]; omega))))).mono ?_; rintro e w' ⟨ys, b, rfl, hy, hb⟩; have HY := Lib.hid hy; have HB := Lib.hid hb; clear hy hb)
      | (focus ((with_reducible refine wpList_wanted ?_ (fun K hK => ?_)); rotate_left; (refine wp_store_sub 29 (.tmp 3) (.tmp 14) ?ho (w'.heap.size) 0 ys ?hx ?hy 29 (zL 71) ?hg ?hi ?hfit (hK _ _ ?_)); (case ho => with_reducible rfl); (case hx => rfl); (case hy => rfl); (case hg => exact heap_alloc_at _ _ _ (by simp)); (case hi => rw [HY.out]; exact infoMacD); (case hfit => rw [HY.out, zL_len]; exact Nat.le_refl _); rw [spl_full (by rw [HY.out, zL_len]), setRow_alloc _ _ _ _ _ (by simp)]; rotate_left; rfl)))
    have hg3 : Blk (w'.alloc (.cells (rowI ys) 29)) w'.heap.size (rowI ys) 29 := Blk.new _ _ _ _ rfl
    have hbX : Below w.heap.size w (w'.alloc (.cells (rowI ys) 29)) := HB.out.alloc HB.out.size _
    generalize w'.alloc (.cells (rowI ys) 29) = Y at hg3 hbX ⊢
    generalize w'.heap.size = s3 at hg3 ⊢
    have hYs := hbX.size
    have HG := Lib.hid hg3
    have HBX := Lib.hid hbX
    have zY := hg3.lt
    clear HB HI hlm hbig hg3 hbX
    have hsub := Lib.hid (show sub ys 0 71 = ys by rw [← HY.out]; exact sub_all ys)
    have hm := mbM_le HY.out b
    have hl := mbL_len ys b
    have hc0 := rowI_get (zs := ys) (j := 0) (by rw [HY.out]; omega)
    obtain ⟨kd, hk⟩ : ∃ kd, kd = ys.getD 0 0 := ⟨_, rfl⟩
    rw [← hk] at hc0
    have HK := Lib.hid hk
    have hkc := mbOK_cases ys b
    rw [show mkK ys = kd from hk.symm] at hkc
    obtain ⟨m, hm'⟩ : ∃ m, m = mbM ys b := ⟨_, rfl⟩
    obtain ⟨ls, hzs⟩ : ∃ ls, ls = mbL ys b := ⟨_, rfl⟩
    have IN := Lib.hid (show ∀ W, Calls Try.prog 8 #[.agg (rowI ys), .bool b] W (BinsOut m ls W) from fun W => by rw [hm', hzs]; exact I_MacroBins ys b W HY.out)
    have SN := Lib.hid (show ∀ W, Calls Try.prog 9 #[.agg (rowI ys), .bool b] W (BinsOut m ls W) from fun W => by rw [hm', hzs]; exact S_MacroBins ys b W HY.out)
    rw [← hm', ← hzs] at hl
    rw [← hm'] at hm
    have HL := Lib.hid hl
    have HM := Lib.hid hm'
    have HZ := Lib.hid hzs
    have HKC := Lib.hid hkc
    clear hl hzs hk hm' hkc
    go_upto_region 5 with (first | (focus ((with_reducible refine wpList_wanted ?_ (fun K hK => ?_)); rotate_left; (refine wp_load_sub 29 (.tmp 3) ?ho s3 0 71 ?hx 29 ys (0, 0) _ ?hg Try.underlying29 rfl infoMacD ?hs (hK _ _ ?_)); (case ho => with_reducible rfl); (case hx => rfl); (case hg => exact HG.out); (case hs => rw [HY.out]; exact Nat.le_refl _); rw [hsub.out]; rotate_left; rfl)) | (go_at_call 8; refine (IN.out _).mono ?_; rintro e w1 ⟨A, c, rfl, hcA, hr, -, -, hb⟩; have R1 := Lib.hid hr; have H1 := Lib.hid hb; clear hr hb))
    have HG1 := Lib.hid (HG.out.below H1.out zY)
    have B1 := Lib.hid (HBX.out.trans (H1.out.mono hYs))
    have z1 := HG1.out.lt
    clear HG H1 HBX zY hYs IN
    clear Y
    go_upto_region 6 with (first | (focus ((with_reducible refine wpList_wanted ?_ (fun K hK => ?_)); rotate_left; (refine wp_load_sub 29 (.tmp 3) ?ho s3 0 71 ?hx 29 ys (0, 0) _ ?hg Try.underlying29 rfl infoMacD ?hs (hK _ _ ?_)); (case ho => with_reducible rfl); (case hx => rfl); (case hg => exact HG1.out); (case hs => rw [HY.out]; exact Nat.le_refl _); rw [hsub.out]; rotate_left; rfl)) | (go_at_call 9; refine (SN.out _).mono ?_; rintro e w2 ⟨D, d, rfl, hcD, hr, -, -, hb⟩; have R2 := Lib.hid hr; have H2 := Lib.hid hb; clear hr hb))
    have HG2 := Lib.hid (HG1.out.below H2.out z1)
    have B2 := Lib.hid (B1.out.trans (H2.out.mono B1.out.size))
    have RA := Lib.hid (R1.out.keep H2.out)
    clear HG1 H2 B1 z1 R1 SN
    go_wp2_with fail
    go_loopw [7] (fun i wr => ∃ k n : Nat, i = .int .i64 (k : Int) ∧ k ≤ m ∧ wr = w2.drewN n) (fun i _ => m - (intOf i).toNat)
    case atStart => exact ⟨0, 0, rfl, Nat.zero_le _, rfl⟩
    case round =>
      obtain ⟨k, n, rfl, hk, rfl⟩ := hrel
      by_cases hlt : k < m
      · obtain ⟨bA, oA, x, y, rfl, hbA, hx, hy, cA, cA2⟩ := RA.out.two (n := m) (i := k) HL.out hlt
        obtain ⟨bD, oD, x', y', rfl, hbD, hx', hy', cD, cD2⟩ := R2.out.two (n := m) (i := k) HL.out hlt
        rw [← hx] at hx'
        rw [← hy] at hy'
        subst hx' hy'
        clear hx hy
        go_upto_region 11 with fail
        go_region
        go_wp2_with fail
        exact ⟨⟨k + 1, n + 1, by go_num, by omega, rfl⟩, by simp [intOf]; omega⟩
      · obtain rfl : k = m := by omega
        have hB3 := Lib.hid (B2.out.trans ((drewN_below w2 n).mono B2.out.size))
        have zz : s3 < (w2.drewN n).heap.size := HG2.out.lt
        have c0 : (w2.drewN n).cell? ⟨s3, 0, none⟩ = some (.int .i64 kd) := HG2.out.get hc0
        have hs3 := B2.out.size
        have zz2 : s3 < w2.heap.size := HG2.out.lt
        have c02 : w2.cell? ⟨s3, 0, none⟩ = some (.int .i64 kd) := HG2.out.get hc0
        have hws : w.heap.size ≤ (w2.drewN n).heap.size := hB3.out.size
        rcases HKC.out with h1 | ⟨h1, rfl, hk2⟩ | ⟨h1, h2, h3⟩
        · have hm0 : k = 0 := HM.out.trans (by simp [mbM, mbOK, h1])
          subst hm0
          go_wp2_with (first | (focus ((with_reducible refine wpList_wanted ?_ (fun K hK => ?_)); rotate_left; (refine wp_load_sub 29 (.tmp 3) ?ho s3 0 71 ?hx 29 ys (0, 0) _ ?hg Try.underlying29 rfl infoMacD ?hs (hK _ _ ?_)); (case ho => with_reducible rfl); (case hx => rfl); (case hg => exact HG2.out); (case hs => rw [HY.out]; exact Nat.le_refl _); rw [hsub.out]; rotate_left; rfl)) | (go_at_call 10; refine (S_MacroValid ys _ HY.out).mono ?_; rw [h1]; rintro e w' ⟨rfl, hb⟩; obtain ⟨o1, n1, rfl⟩ := below_adds hb; clear hb) | (go_at_call 11; refine (L_alive _).mono ?_; rintro e w' ⟨rfl, hb⟩; obtain ⟨o1, n1, rfl⟩ := below_adds hb; clear hb))
          go_returns
          exact ⟨rfl, Below.adds_ hB3.out hws _ _⟩
        · have hm0 : k = 0 := HM.out.trans (by rw [mbM, show mbOK ys true = false by simp only [mbOK, mkK, ← HK.out, h1]; simp [hk2]]; rfl)
          subst hm0
          have hk2b : (kd != 2) = true := by simp [hk2]
          have hk2c : (kd == 2) = false := by simp [hk2]
          go_wp2_with (first | (focus ((with_reducible refine wpList_wanted ?_ (fun K hK => ?_)); rotate_left; (refine wp_load_sub 29 (.tmp 3) ?ho s3 0 71 ?hx 29 ys (0, 0) _ ?hg Try.underlying29 rfl infoMacD ?hs (hK _ _ ?_)); (case ho => with_reducible rfl); (case hx => rfl); (case hg => exact HG2.out); (case hs => rw [HY.out]; exact Nat.le_refl _); rw [hsub.out]; rotate_left; rfl)) | (go_at_call 10; refine (S_MacroValid ys _ HY.out).mono ?_; rw [h1]; rintro e w' ⟨rfl, hb⟩; obtain ⟨o1, n1, rfl⟩ := below_adds hb; clear hb) | (go_at_call 11; refine (L_alive _).mono ?_; rintro e w' ⟨rfl, hb⟩; obtain ⟨o1, n1, rfl⟩ := below_adds hb; clear hb))
          go_returns
          exact ⟨rfl, Below.adds_ hB3.out hws _ _⟩
        · have hM := MacOk.of HY.out h1
          have HV := Lib.hid h1
          have hmm : k = macM ys b := HM.out.trans (by rw [mbM, if_pos h2])
          have hzz : ls = macL ys b := HZ.out.trans (by rw [mbL, if_pos h2])
          have hbin : binsB ls k = true := by rw [hmm, hzz]; exact macL_bins hM b
          have hone : k = 1 ↔ kd = 0 := by rw [hmm, HK.out]; exact macM_one h2
          have HBN := Lib.hid (show ∀ W, RowAt .i64 W A ls → Calls Try.prog 12 #[.slice A k c] W fun e w' => e = .returned (.bool true) ∧ Below W.heap.size W w' from fun W hW => by rw [← hbin]; exact I_BinsValid A k c ls W hW HL.out (by omega))
          clear hM h1 h2 hmm hzz hbin
          have hRA : RowAt .i64 (w2.drewN n) A ls := RA.out
          have HRA := Lib.hid hRA
          by_cases hk0 : kd = 0
          · obtain rfl : k = 1 := hone.2 hk0
            subst hk0
            have hb0 : b = false := by
              rcases h3 with h3 | ⟨_, h3⟩
              · exact h3
              · exact absurd h3 (by decide)
            subst hb0
            go_wp2_with (first | (focus ((with_reducible refine wpList_wanted ?_ (fun K hK => ?_)); rotate_left; (refine wp_load_sub 29 (.tmp 3) ?ho s3 0 71 ?hx 29 ys (0, 0) _ ?hg Try.underlying29 rfl infoMacD ?hs (hK _ _ ?_)); (case ho => with_reducible rfl); (case hx => rfl); (case hg => exact HG2.out); (case hs => rw [HY.out]; exact Nat.le_refl _); rw [hsub.out]; rotate_left; rfl)) | (go_at_call 10; refine (S_MacroValid ys _ HY.out).mono ?_; rw [HV.out]; rintro e w' ⟨rfl, hb⟩; obtain ⟨o1, n1, rfl⟩ := below_adds hb; have HRB := Lib.hid (HRA.out.keep hb); clear hb) | (go_at_call 12; refine (HBN.out _ HRB.out).mono ?_; rintro e w' ⟨rfl, hb⟩; obtain ⟨o2, n2, rfl⟩ := below_adds hb; clear hb))
            go_returns
            exact ⟨rfl, by first | exact Below.adds_ hB3.out hws _ _ | (simp only [adds_addsW]; exact Below.adds_ hB3.out hws _ _)⟩
          · have hk1 : ¬ k = 1 := fun e => hk0 (hone.1 e)
            have hk1b : ((k : Int) == 1) = false := by simp; omega
            have hk0b : (kd == 0) = false := by simp [hk0]
            rcases h3 with rfl | ⟨rfl, rfl⟩
            all_goals
              go_wp2_with (first | (focus ((with_reducible refine wpList_wanted ?_ (fun K hK => ?_)); rotate_left; (refine wp_load_sub 29 (.tmp 3) ?ho s3 0 71 ?hx 29 ys (0, 0) _ ?hg Try.underlying29 rfl infoMacD ?hs (hK _ _ ?_)); (case ho => with_reducible rfl); (case hx => rfl); (case hg => exact HG2.out); (case hs => rw [HY.out]; exact Nat.le_refl _); rw [hsub.out]; rotate_left; rfl)) | (go_at_call 10; refine (S_MacroValid ys _ HY.out).mono ?_; rw [HV.out]; rintro e w' ⟨rfl, hb⟩; obtain ⟨o1, n1, rfl⟩ := below_adds hb; have HRB := Lib.hid (HRA.out.keep hb); clear hb) | (go_at_call 12; refine (HBN.out _ HRB.out).mono ?_; rintro e w' ⟨rfl, hb⟩; obtain ⟨o2, n2, rfl⟩ := below_adds hb; clear hb))
              go_returns
              exact ⟨rfl, by first | exact Below.adds_ hB3.out hws _ _ | (simp only [adds_addsW]; exact Below.adds_ hB3.out hws _ _)⟩

set_option maxRecDepth 100000 in
theorem lifted (os : Os) (started : os.Started) (H : Type) (enc : TypeId × Value → H) :
    ReturnsInHanded {} Try.checked os 3 .any (Rows.fnMacroBinsSpec.pre6 enc Try.prog Try.f3 Rows.fnMacroBinsRow.domain false) (Rows.fnMacroBinsSpec.post enc Try.prog Try.f3 false true false false) := by
  refine returnsInHanded_of_change (C := Try.checked) own started (by kernel_rfl) Try.func3
    (ChangeSpec.witness6 (enc := enc) (C := Try.checked) false ⟨#[], #[.slice none 0 0], []⟩ 8 (by kernel_rfl) (by kernel_rfl) (by kernel_rfl) (by kernel_rfl)) ?_
  intro W base args ds gs before hval0 hW hcnd _
  have hval : ∀ (j : Nat) t v, Try.f3.params[j]? = some t → args[j]? = some v → Value.okWide Try.prog W .any base t v := hval0
  have hW' := hW
  obtain ⟨p, q, hA0, hV, rfl, hfz, hnd⟩ := hW
  have hA : DataW.TrodAll enc Try.prog W 0 (fun _ => true) true Try.f3.params.toList args.toList ds p := hA0
  rw [Try.params3] at hA hval
  obtain ⟨v0, vs0, d0, ds0, p0, q0, hargs, rfl, rfl, h0, r0⟩ := trodAll_cons hA
  obtain ⟨rfl, rfl, rfl⟩ := trodAll_nil r0
  obtain rfl : args = #[v0] := by cases args; simp_all
  obtain ⟨rfl, rfl⟩ := trodVars_none hV
  have k0 := h0
  have lt0 : ∀ x ∈ p0, x.block < W.heap.size := by obtain ⟨m, hm⟩ := k0; exact DataW.trod_lt m _ _ _ hm
  obtain ⟨aa0, ll0, cc0, rfl⟩ := okWide_slice Try.underlying22 (hval 0 22 v0 rfl rfl)
  obtain ⟨f0, hf0⟩ := h0
  simp only [Value.cells] at hf0
  obtain ⟨a_zs, len_zs, cap_zs, zs, e_zs, w_zs⟩ : ∃ a l c zs, (.slice aa0 ll0 cc0 : Value) = .slice a l c ∧ IsRow .u8 W a l c zs := by
    rcases open_ints Try.underlying22 Try.underlying5 (by kernel_rfl) hf0 with ⟨hcs, _⟩ | ⟨x, l, c, zs, hcs, _, hl, hm, hz, _, hcell, hwz⟩
    · simp only [List.cons.injEq, and_true] at hcs; exact ⟨none, 0, 0, [], hcs, .inl ⟨rfl, rfl, rfl, rfl⟩⟩
    · simp only [List.cons.injEq, and_true] at hcs; exact ⟨some x, l, c, zs, hcs, .inr ⟨x, rfl, hl, hm, by simpa using hz, hcell, hwz⟩⟩
  simp only [Value.slice.injEq] at e_zs
  obtain ⟨rfl, rfl, rfl⟩ := e_zs
  clear hA0 hval0
  refine (walk _ _ _ zs W w_zs).mono fun e W' ⟨he, bel⟩ => ?_
  subst he
  exact ⟨_, rfl, _, _, _, [], _, [], hW', trodAll_mk1 (shut_bool Try.underlying4 _), (trodAll_cons_mk (Below.trod laidOut (by kernel_rfl) (of_decide_eq_true (by kernel_rfl)) k0 bel lt0) trodAll_mk0), rfl, bel.frame _, fun h => by cases h⟩

theorem over : Rows.fnMacroBinsRow.holds Try.pinned (OpenSpec.ofChange Rows.fnMacroBinsSpec) :=
  OpenClaim.holds_of_wide 3 Try.f3 rfl rfl rfl rfl rfl rfl rfl ⟨rfl, rfl, rfl, rfl, rfl⟩ rfl rfl rfl rfl rfl (by kernel_rfl) Try.func3 (by kernel_rfl)
    (of_decide_eq_true (by kernel_rfl)) (by unfold Func.isWrapper; first | (rw [if_pos (by decide +kernel)]; kernel_rfl) | (rw [if_neg (by decide +kernel)]; exact ⟨rfl, rfl⟩))
    (fun os started H enc _ => lifted os started H enc)

theorem proved : Rows.FnMacroBinsSaid := over
#print axioms proved
end Go.Proofs.Ytggkelehjdepkaa.fnMacroBins
