/- The reference's MacroBins. -/
import Derived.Test.YtggkelehjdepkaaMbS
import Derived.Test.YtggkelehjdepkaaMarkC
namespace Go.Proofs.Ytggkelehjdepkaa
open Go.RowKit
set_option linter.unusedVariables false
set_option linter.unusedSimpArgs false

attribute [local go_sem] size_addsW cell?_addsW frozen?_addsW setCell_addsW drew_addsW adds_addsW setCell_twice alloc_adds0 size_adds0 adds_adds0 sel2 sel3 sel4 sel5 sel6 sel7 sel8 sel9 lt_more lt_more2 lt_more3 lt_more4 adds_drew adds_drewN drewN_addsW ltA_1_1 ltA_1_2 ltA_1_3 ltA_1_4 ltA_1_5 ltA_1_6 ltA_2_1 ltA_2_2 ltA_2_3 ltA_2_4 ltA_2_5 ltA_2_6 ltA_3_1 ltA_3_2 ltA_3_3 ltA_3_4 ltA_3_5 ltA_3_6 ltA_4_1 ltA_4_2 ltA_4_3 ltA_4_4 ltA_4_5 ltA_4_6 ltA_5_1 ltA_5_2 ltA_5_3 ltA_5_4 ltA_5_5 ltA_5_6 ltA_6_1 ltA_6_2 ltA_6_3 ltA_6_4 ltA_6_5 ltA_6_6 ltA_7_1 ltA_7_2 ltA_7_3 ltA_7_4 ltA_7_5 ltA_7_6 ltA_8_1 ltA_8_2 ltA_8_3 ltA_8_4 ltA_8_5 ltA_8_6 ltA_9_1 ltA_9_2 ltA_9_3 ltA_9_4 ltA_9_5 ltA_9_6 ltA_10_1 ltA_10_2 ltA_10_3 ltA_10_4 ltA_10_5 ltA_10_6 ltA_11_1 ltA_11_2 ltA_11_3 ltA_11_4 ltA_11_5 ltA_11_6 ltA_12_1 ltA_12_2 ltA_12_3 ltA_12_4 ltA_12_5 ltA_12_6

def mbOK (zs : List Int) (b : Bool) : Bool := macB zs && (!b || mkK zs == 2)
def mbL (zs : List Int) (b : Bool) : List Int := if mbOK zs b then macL zs b else []
def mbM (zs : List Int) (b : Bool) : Nat := if mbOK zs b then macM zs b else 0
theorem mbL_len (zs : List Int) (b : Bool) : (mbL zs b).length = mbM zs b * 2 := by
  unfold mbL mbM
  split
  · exact macL_len zs b
  · rfl
theorem mbM_le {zs : List Int} (hz : zs.length = 71) (b : Bool) : mbM zs b ≤ 5000 := by
  unfold mbM
  split
  · rename_i h
    exact macM_le (MacOk.of hz (by simp only [mbOK, Bool.and_eq_true] at h; exact h.1)) b
  · omega

set_option maxRecDepth 100000 in
set_option maxHeartbeats 1000000 in
theorem S_MacroBins (zs : List Int) (b : Bool) (w : World) (hz : zs.length = 71) : Calls Try.prog 9 #[.agg (rowI zs), .bool b] w (BinsOut (mbM zs b) (mbL zs b) w) := by
  have HZ := Lib.hid hz
  have hc0 := rowI_get (zs := zs) (j := 0) (by omega)
  obtain ⟨kd, hk⟩ : ∃ kd, kd = zs.getD 0 0 := ⟨_, rfl⟩
  have HK := Lib.hid hk
  rw [← hk] at hc0
  clear hz hk
  cases hv : macB zs
  · rw [mbM, mbL, show mbOK zs b = false by simp [mbOK, hv]]
    go_enter Try.func9, Try.ntmps9
    go_wp2_with (first | (focus ((with_reducible refine wpList_wanted ?_ (fun K hK => ?_)); rotate_left; (refine wp_load_sub 29 (.tmp 2) ?ho w.heap.size 0 71 ?hx 29 zs (0, 0) _ ?hg Try.underlying29 rfl infoMac ?hs (hK _ _ ?_)); (case ho => with_reducible rfl); (case hx => rfl); (case hg => exact heap_alloc_new _ _); (case hs => rw [HZ.out]; exact Nat.le_refl _); rw [show sub zs 0 71 = zs by rw [← HZ.out]; exact sub_all zs]; rotate_left; rfl)) | (go_at_call 10; refine (S_MacroValid zs _ HZ.out).mono ?_; rw [hv]; rintro e w' ⟨rfl, hb⟩; obtain ⟨o1, n1, rfl⟩ := below_adds hb; clear hb))
    go_returns
    exact BinsOut.own (own_lit_s _ 35 _ w.heap.size 2 (by decide) (by simp [size_addsW]) (by omega)) (by repeat' (first | (with_reducible exact Below.refl _ _) | (with_reducible refine Below.adds_ ?_ ?_ _ _) | (with_reducible refine Below.alloc ?_ ?_ _) | (with_reducible refine Below.drew ?_) | (with_reducible refine Below.setCell ?_ ?_ _) | (with_reducible assumption) | go_size | (simp only [size_addsW, World.size_alloc, World.size_drew, World.size_setCell]; omega)))
  · have HV := Lib.hid (MacOk.of HZ.out hv)
    by_cases hin : b = true ∧ kd ≠ 2
    · obtain ⟨rfl, hk2⟩ := hin
      have hk2b : (kd == 2) = false := by simp [hk2]
      rw [mbM, mbL, show mbOK zs true = false by simp only [mbOK, mkK, ← HK.out, hv, hk2b]; rfl]
      have hk2n : (kd != 2) = true := by simp [hk2]
      go_enter Try.func9, Try.ntmps9
      go_wp2_with (first | (focus ((with_reducible refine wpList_wanted ?_ (fun K hK => ?_)); rotate_left; (refine wp_load_sub 29 (.tmp 2) ?ho w.heap.size 0 71 ?hx 29 zs (0, 0) _ ?hg Try.underlying29 rfl infoMac ?hs (hK _ _ ?_)); (case ho => with_reducible rfl); (case hx => rfl); (case hg => exact heap_alloc_new _ _); (case hs => rw [HZ.out]; exact Nat.le_refl _); rw [show sub zs 0 71 = zs by rw [← HZ.out]; exact sub_all zs]; rotate_left; rfl)) | (go_at_call 10; refine (S_MacroValid zs _ HZ.out).mono ?_; rw [hv]; rintro e w' ⟨rfl, hb⟩; obtain ⟨o1, n1, rfl⟩ := below_adds hb; clear hb))
      go_returns
      exact BinsOut.own (own_lit_s _ 35 _ w.heap.size 2 (by decide) (by simp [size_addsW]) (by omega)) (by repeat' (first | (with_reducible exact Below.refl _ _) | (with_reducible refine Below.adds_ ?_ ?_ _ _) | (with_reducible refine Below.alloc ?_ ?_ _) | (with_reducible refine Below.drew ?_) | (with_reducible refine Below.setCell ?_ ?_ _) | (with_reducible assumption) | go_size | (simp only [size_addsW, World.size_alloc, World.size_drew, World.size_setCell]; omega)))
    · have hok : mbOK zs b = true := by
        simp only [mbOK, mkK, ← HK.out, hv, Bool.true_and]
        cases b
        · rfl
        · have : kd = 2 := Classical.byContradiction (fun h => hin ⟨rfl, h⟩)
          simp [this]
      rw [mbM, mbL, if_pos hok, if_pos hok]
      have hkb : b = false ∨ (b = true ∧ kd = 2) := by
        cases b
        · exact .inl rfl
        · exact .inr ⟨rfl, Classical.byContradiction (fun h => hin ⟨rfl, h⟩)⟩
      clear hok hin
      have HC := Lib.hid (show ∀ W, Calls Try.prog 35 #[.agg (rowI zs), .bool b] W (BinsMade (macM zs b) (macL zs b) W) from fun W => S_l10Macro zs b W HV.out)
      generalize macM zs b = m at *
      generalize macL zs b = l at *
      rcases hkb with rfl | ⟨rfl, rfl⟩
      all_goals
        go_enter Try.func9, Try.ntmps9
        go_wp2_with (first | (focus ((with_reducible refine wpList_wanted ?_ (fun K hK => ?_)); rotate_left; (refine wp_load_sub 29 (.tmp 2) ?ho w.heap.size 0 71 ?hx 29 zs (0, 0) _ ?hg Try.underlying29 rfl infoMac ?hs (hK _ _ ?_)); (case ho => with_reducible rfl); (case hx => rfl); (case hg => first | exact heap_alloc_new _ _ | exact heap1 _ _ _ _ _); (case hs => rw [HZ.out]; exact Nat.le_refl _); rw [show sub zs 0 71 = zs by rw [← HZ.out]; exact sub_all zs]; rotate_left; rfl)) | (go_at_call 10; refine (S_MacroValid zs _ HZ.out).mono ?_; rw [hv]; rintro e w' ⟨rfl, hb⟩; obtain ⟨o1, n1, rfl⟩ := below_adds hb; clear hb) | (go_at_call 35; refine (HC.out _).mono ?_; rintro e w2 ⟨v2, rfl, hO, hB⟩; have HO := Lib.hid hO; have HB := Lib.hid hB; clear hO hB))
        go_returns
        exact BinsOut.own (own_base HO.out (by simp only [size_addsW, World.size_alloc]; omega)) (Below.trans (b := addsW (w.alloc (.cells (rowI zs) 29)) o1 n1) (by repeat' (first | (with_reducible exact Below.refl _ _) | (with_reducible refine Below.adds_ ?_ ?_ _ _) | (with_reducible refine Below.alloc ?_ ?_ _) | (with_reducible refine Below.drew ?_) | (with_reducible refine Below.setCell ?_ ?_ _) | (with_reducible assumption) | go_size | (simp only [size_addsW, World.size_alloc, World.size_drew, World.size_setCell]; omega))) (HB.out.mono (by simp only [size_addsW, World.size_alloc]; omega)))

end Go.Proofs.Ytggkelehjdepkaa
