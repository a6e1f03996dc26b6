/- A block is coded; both sides. -/
import Derived.Test.YtijccageaingjaaDoorQnt
import Derived.Test.YtijccageaingjaaDoorPrt
namespace Go.Proofs.YtijccageaingjaaDoor
open Go.RowKit
set_option linter.unusedVariables false
set_option linter.unusedSimpArgs false

attribute [local go_sem] size_addsW cell?_addsW frozen?_addsW setCell_addsW drew_addsW adds_addsW setCell_twice alloc_adds0 size_adds0 adds_adds0 sel2 sel3 sel4 sel5 sel6 sel7 sel8 sel9 lt_more lt_more2 lt_more3 lt_more4 adds_drew adds_drewN drewN_addsW ltA_1_1 ltA_1_2 ltA_1_3 ltA_1_4 ltA_1_5 ltA_1_6 ltA_2_1 ltA_2_2 ltA_2_3 ltA_2_4 ltA_2_5 ltA_2_6 ltA_3_1 ltA_3_2 ltA_3_3 ltA_3_4 ltA_3_5 ltA_3_6 ltA_4_1 ltA_4_2 ltA_4_3 ltA_4_4 ltA_4_5 ltA_4_6 ltA_5_1 ltA_5_2 ltA_5_3 ltA_5_4 ltA_5_5 ltA_5_6 ltA_6_1 ltA_6_2 ltA_6_3 ltA_6_4 ltA_6_5 ltA_6_6 ltA_7_1 ltA_7_2 ltA_7_3 ltA_7_4 ltA_7_5 ltA_7_6 ltA_8_1 ltA_8_2 ltA_8_3 ltA_8_4 ltA_8_5 ltA_8_6 ltA_9_1 ltA_9_2 ltA_9_3 ltA_9_4 ltA_9_5 ltA_9_6 ltA_10_1 ltA_10_2 ltA_10_3 ltA_10_4 ltA_10_5 ltA_10_6 ltA_11_1 ltA_11_2 ltA_11_3 ltA_11_4 ltA_11_5 ltA_11_6 ltA_12_1 ltA_12_2 ltA_12_3 ltA_12_4 ltA_12_5 ltA_12_6

/-- the levels of a block of residuals within 255 -/
def cbF (zs : List Int) (k : Nat) (i : Nat) : Int := qz ((apL zs).getD i 0) (qs k)
theorem ap_bd {zs : List Int} (h : bdL 255 zs) : bdL 4080 (apL zs) := fun i => by
  by_cases hi : i < 16
  · have h1 := pn_bd h (u := i / 4) (v := i % 4) (by omega) (by omega) 16
    have h2 : (apL zs).getD i 0 = pn zs (i / 4) (i % 4) 16 := by simp [apL, List.getD_eq_getElem?_getD, List.getElem?_map, List.getElem?_range, hi]
    rw [h2]
    omega
  · have h2 : (apL zs).getD i 0 = 0 := by rw [List.getD_eq_getElem?_getD, List.getElem?_eq_none (by rw [apL_len]; omega), Option.getD_none]
    rw [h2]
    omega
theorem absB_of {zs : List Int} (h : bdL 255 zs) : absB 255 zs = true := by
  unfold absB
  rw [List.all_eq_true]
  intro x hx
  obtain ⟨k, hk, rfl⟩ := List.getElem_of_mem hx
  have := h k
  rw [List.getD_eq_getElem?_getD, List.getElem?_eq_getElem hk, Option.getD_some] at this
  exact M.inB_iff.2 (by omega)

set_option maxRecDepth 100000 in
set_option maxHeartbeats 4000000 in
theorem I_CodeBlock (zs : List Int) (k0 : Nat) (w : World) (hz : zs.length = 16) (hb : bdL 255 zs) (hk0 : k0 < 16) (ht : TabOk w) :
    Calls Tryd.prog 24 #[.agg (rowI zs), .int .i64 (k0 : Int)] w fun e w' => e = .returned (.agg (rowI (mp (cbF zs k0)))) ∧ Below w.heap.size w w' := by
  have HZ := Lib.hid hz
  have HT := Lib.hid ht
  have h0 := ht.lt
  have hwg : w.heap.size ≤ w.heap.size := Nat.le_refl _
  have hT0 : B2 w.heap.size zs z16 w ((w.alloc (.cells (rowI zs) 30)).alloc (.cells (rowI z16) 30)) := B2.start w zs z16
  have HT0 := Lib.hid hT0
  clear hT0
  obtain ⟨us, hus⟩ : ∃ us, us = apL zs := ⟨_, rfl⟩
  have CH := Lib.hid (show ∀ W, Calls Tryd.prog 40 #[.agg (rowI zs)] W fun e w' => e = .returned (.agg (rowI us)) ∧ Below W.heap.size W w' from fun W => by rw [hus, ← had_eq hz]; exact I_hadamard zs W hz hb)
  have CB := Lib.hid (show ∀ W, Calls Tryd.prog 39 #[.agg (rowI zs), .int .i64 255] W fun e w' => e = .returned (.bool true) ∧ Below W.heap.size W w' from fun W => by have := I_blockWithin zs 255 W hz (by omega); rwa [absB_of hb] at this)
  have CQ := Lib.hid (show ∀ c W, -4080 ≤ c ∧ c ≤ 4080 → Below w.heap.size w W → Calls Tryd.prog 41 #[.int .i64 c, .int .i64 (k0 : Int)] W fun e w' => e = .returned (.int .i64 (qz c (qs k0))) ∧ Below W.heap.size W w' from fun c W hc hW => I_Quantize c k0 W hc hk0 (ht.keep hW))
  have HU := Lib.hid (show us.length = 16 by rw [hus, apL_len])
  have HUB := Lib.hid (show bdL 4080 us from hus ▸ ap_bd hb)
  obtain ⟨F, hF⟩ : ∃ F, F = cbF zs k0 := ⟨_, rfl⟩
  rw [← hF]
  have HFF := Lib.hid (show ∀ i, F i = qz (us.getD i 0) (qs k0) from fun i => by rw [hF, hus]; rfl)
  have hin : M.inB (k0 : Int) 0 15 = true := M.inB_iff.2 ⟨by omega, by omega⟩
  clear hz hb hk0 ht hus hF HT
  generalize qs k0 = s at CQ HFF
  go_enter Tryd.func24, Tryd.ntmps24
  go_upto_region 1 with fail
  refine all_add' ?_
  intro Z hZ
  have T1 := Lib.hid (show B2 w.heap.size zs z16 w Z from hZ ▸ HT0.out)
  clear hZ HT0
  have la := T1.out.b.lt
  go_upto_region 3 with (first
    | (go_at_call 21; refine (I_qualityValid _ _).mono ?_; rw [hin]; rintro e w' ⟨rfl, rfl⟩)
    | (focus ((with_reducible refine wpList_wanted ?_ (fun K hK => ?_)); rotate_left; (refine wp_load_sub 30 (.tmp 2) ?ho w.heap.size 0 16 ?hx 30 zs (0, 0) _ ?hg Tryd.underlying30 rfl infoA16 ?hs (hK _ _ ?_)); (case ho => with_reducible rfl); (case hx => rfl); (case hg => exact T1.out.a); (case hs => rw [HZ.out]; exact Nat.le_refl _); rw [show sub zs 0 16 = zs by rw [← HZ.out]; exact sub_all zs]; rotate_left; rfl))
    | (go_at_call 39; refine (CB.out _).mono ?_; rintro e w' ⟨rfl, hb⟩; obtain ⟨o1, n1, rfl⟩ := below_adds hb; clear hb))
  refine all_add' ?_
  intro Y hY
  have T2 := Lib.hid (show B2 w.heap.size zs z16 w Y from hY ▸ ⟨T1.out.a.adds _ _, T1.out.b.adds _ _, Below.adds_ T1.out.below T1.out.below.size _ _⟩)
  clear hY T1 la
  have la := T2.out.b.lt
  go_upto_region 4 with (first
    | (focus ((with_reducible refine wpList_wanted ?_ (fun K hK => ?_)); rotate_left; (refine wp_load_sub 30 (.tmp 2) ?ho w.heap.size 0 16 ?hx 30 zs (0, 0) _ ?hg Tryd.underlying30 rfl infoA16 ?hs (hK _ _ ?_)); (case ho => with_reducible rfl); (case hx => rfl); (case hg => exact T2.out.a); (case hs => rw [HZ.out]; exact Nat.le_refl _); rw [show sub zs 0 16 = zs by rw [← HZ.out]; exact sub_all zs]; rotate_left; rfl))
    | (go_at_call 40; refine (CH.out _).mono ?_; rintro e w' ⟨rfl, hb⟩; obtain ⟨o1, n1, rfl⟩ := below_adds hb; clear hb)
    | (focus ((with_reducible refine wpList_wanted ?_ (fun K hK => ?_)); rotate_left; (refine wp_store_new 30 (.tmp 5) (.tmp 18) ?ho ?g8 (rowI us) ?hx ?hy 30 (rowI z16) ?hg (by rw [rowI_size, HU.out]; exact infoA16) (by rw [rowI_size, rowI_size, HU.out]; rfl) (rowI_one us) (hK _ _ ?_)); (case ho => with_reducible rfl); (case hx => rfl); (case hy => rfl); (case hg => first | rfl | (simp only [size_addsW, World.size_alloc])); (try simp only [Act.put, List.setIfInBounds_toArray, List.set_cons_zero, List.set_cons_succ]); rotate_left; rfl)))
  refine all_add' ?_
  intro V hV
  have hvb : Below w.heap.size w V := hV ▸ Below.alloc (Below.adds_ T2.out.below T2.out.below.size _ _) (by simp only [size_addsW]; have := T2.out.below.size; omega) _
  have hvr : Blk V (Y.heap.size + o1.size) (rowI us) 30 := hV ▸ Blk.new _ _ _ _ (by simp only [size_addsW])
  have hvo : Blk V (w.heap.size + 1) (rowI z16) 30 := hV ▸ ((T2.out.b.adds _ _).alloc _)
  have hg1 : w.heap.size + 1 < Y.heap.size + o1.size := by omega
  clear hV T2 CH CB la
  generalize Y.heap.size + o1.size = g at hvr hg1 ⊢
  have HV := Lib.hid (⟨hvo, hvr, hvb⟩ : Blk V (w.heap.size + 1) (rowI z16) 30 ∧ Blk V g (rowI us) 30 ∧ Below w.heap.size w V)
  clear hvr hvb hvo
  go_wp2_with (focus ((with_reducible refine wpList_wanted ?_ (fun K hK => ?_)); rotate_left; (refine wp_load_sub 30 (.tmp 5) ?ho g 0 16 ?hx 30 us (0, 0) _ ?hg Tryd.underlying30 rfl infoA16 ?hs (hK _ _ ?_)); (case ho => with_reducible rfl); (case hx => rfl); (case hg => exact HV.out.2.1); (case hs => rw [HU.out]; exact Nat.le_refl _); rw [show sub us 0 16 = us by rw [← HU.out]; exact sub_all us]; rotate_left; rfl))
  go_loopw [20] (fun v wr => ∃ (k : Nat) (ds : List Int), v = .int .i64 (k : Int) ∧ k ≤ 16 ∧ ds.length = 16 ∧ (∀ i, i < k → ds.getD i 0 = F i) ∧ Blk wr (w.heap.size + 1) (rowI z16) 30 ∧ Blk wr g (rowI ds) 30 ∧ Below w.heap.size w wr) (fun v _ => 16 - (intOf v).toNat)
  case atStart => exact ⟨0, us, rfl, by omega, HU.out, fun i hi => by omega, HV.out⟩
  case round =>
    clear HV
    obtain ⟨k, ds, rfl, hk, hd, hf, hst⟩ := hrel
    have HF := Lib.hid hf
    have HD := Lib.hid hd
    have HST := Lib.hid hst
    clear hd hf
    by_cases hlt : k < 16
    · have hd1 : (k : Int) < 16 := by omega
      have bk := hst.2.1.get (rowI_get (zs := ds) (j := k) (by rw [HD.out]; exact hlt))
      have bf := hst.2.1.hot k
      have lb := hst.2.1.lt
      have c1 := HUB.out k
      clear hst
      generalize ds.getD k 0 = old at bk
      have hidx : ∀ W, (Instr.index 30 (.agg (rowI us)) (.int .i64 (k : Int))).run Tryd.prog W = .ok (.int .i64 (us.getD k 0)) W := fun W => run_index_int W 30 3 16 Tryd.underlying30 Tryd.underlying3 (by kernel_rfl) us k hlt HU.out
      have hFk := Lib.hid (show ∀ i, i < k + 1 → (ds.set k (qz (us.getD k 0) s)).getD i 0 = F i from set_ok (F := F) HD.out hlt HF.out (HFF.out k).symm)
      have CQ1 := Lib.hid (show ∀ W, Below w.heap.size w W → Calls Tryd.prog 41 #[.int .i64 (us.getD k 0), .int .i64 (k0 : Int)] W fun e w' => e = .returned (.int .i64 (qz (us.getD k 0) s)) ∧ Below W.heap.size W w' from fun W hW => CQ.out _ W c1 hW)
      generalize us.getD k 0 = z at hidx hFk CQ1
      generalize qz z s = qv at hFk CQ1
      clear c1
      go_wp2_with (go_at_call 41; (with_reducible refine (CQ1.out _ HST.out.2.2).mono ?_); rintro e w' ⟨rfl, hb⟩; obtain ⟨o1, n1, rfl⟩ := below_adds hb; clear hb)
      go_roundw
      case rel => exact ⟨k + 1, ds.set k qv, by go_num, by omega, by rw [List.length_set]; exact HD.out, hFk.out, by first | exact ((HST.out.1.other (by simp only; omega) _).adds _ _) | exact ((HST.out.1.adds _ _).other (by simp only; omega) _), by (first | (have h1 := (HST.out.2.1.set k (.int .i64 qv)); rw [rowI_set] at h1; exact h1.adds _ _) | (have h1 := ((HST.out.2.1.adds _ _).set k (.int .i64 qv)); rw [rowI_set] at h1; exact h1)), by first | exact Below.adds_ (HST.out.2.2.setCell (by simp only; omega) _) (by simp only [World.size_setCell]; exact HST.out.2.2.size) _ _ | exact (Below.adds_ HST.out.2.2 HST.out.2.2.size _ _).setCell (by simp only; omega) _⟩
      case measure => simp [intOf]; omega
    · obtain rfl : k = 16 := by omega
      have hpl := mp_of HD.out HF.out
      have HP := Lib.hid hpl
      clear hpl
      have hst := HST.out
      go_upto_region 9 with fail
      refine wp_region_lit ?_
      refine wpList_load_sub rfl 30 (.tmp 5) rfl g 0 16 rfl 30 ds (0, 0) _ hst.2.1 Tryd.underlying30 rfl infoA16 (by rw [HD.out]; exact Nat.le_refl _) ?_
      rw [show sub ds 0 16 = ds by rw [← HD.out]; exact sub_all ds]
      refine wpList_store_sub rfl 30 (.tmp 4) (.tmp 30) rfl (w.heap.size + 1) 0 ds rfl rfl 30 z16 hst.1 (by rw [HD.out]; exact infoA16) (by rw [HD.out]; decide) ?_
      rw [spl_full (by rw [HD.out]; rfl)]
      go_wp2_with fail
      refine bodyPost_ret (v := .agg (rowI ds)) (by exact results_cell_row Tryd.results24 _ _ (w.heap.size + 1) 30 (rowI ds) (0, 0) _ rfl (hst.1.row (rowI ds)) Tryd.underlying30 rfl (by rw [rowI_size, HD.out]; exact infoA16)) rfl ?_
      exact ⟨by rw [HP.out], below_row hst.2.2 hst.2.2.size (by omega) _⟩

set_option maxRecDepth 100000 in
set_option maxHeartbeats 4000000 in
theorem S_CodeBlock (zs : List Int) (k0 : Nat) (w : World) (hz : zs.length = 16) (hb : bdL 255 zs) (hk0 : k0 < 16) :
    Calls Tryd.prog 34 #[.agg (rowI zs), .int .i64 (k0 : Int)] w fun e w' => e = .returned (.agg (rowI (mp (cbF zs k0)))) ∧ Below w.heap.size w w' := by
  have HZ := Lib.hid hz
  have hwg : w.heap.size ≤ w.heap.size := Nat.le_refl _
  have hT0 : T3 w.heap.size zs z16 z16 w (((w.alloc (.cells (rowI zs) 30)).alloc (.cells (rowI z16) 30)).alloc (.cells (rowI z16) 30)) := T3.start w zs z16
  have HT0 := Lib.hid hT0
  clear hT0
  obtain ⟨us, hus⟩ : ∃ us, us = apL zs := ⟨_, rfl⟩
  have CH := Lib.hid (show ∀ W, Calls Tryd.prog 46 #[.agg (rowI zs)] W fun e w' => e = .returned (.agg (rowI us)) ∧ Below W.heap.size W w' from fun W => by rw [hus]; exact S_l3Apply zs W hz hb)
  have CB := Lib.hid (show ∀ W, Calls Tryd.prog 45 #[.agg (rowI zs), .int .i64 255] W fun e w' => e = .returned (.bool true) ∧ Below W.heap.size W w' from fun W => by have := S_l3Ok zs 255 W hz (by omega); rwa [absB_of hb] at this)
  have CQ := Lib.hid (show ∀ c W, -4080 ≤ c ∧ c ≤ 4080 → Calls Tryd.prog 47 #[.int .i64 c, .int .i64 (k0 : Int)] W fun e w' => e = .returned (.int .i64 (qz c (qs k0))) ∧ Below W.heap.size W w' from fun c W hc => S_l4Quant c k0 W hc hk0)
  have HU := Lib.hid (show us.length = 16 by rw [hus, apL_len])
  have HUB := Lib.hid (show bdL 4080 us from hus ▸ ap_bd hb)
  obtain ⟨F, hF⟩ : ∃ F, F = cbF zs k0 := ⟨_, rfl⟩
  rw [← hF]
  have HFF := Lib.hid (show ∀ i, F i = qz (us.getD i 0) (qs k0) from fun i => by rw [hF, hus]; rfl)
  have hin : M.inB (k0 : Int) 0 15 = true := M.inB_iff.2 ⟨by omega, by omega⟩
  clear hz hb hk0 hus hF
  generalize qs k0 = s at CQ HFF
  go_enter Tryd.func34, Tryd.ntmps34
  go_upto_region 2 with fail
  refine all_add' ?_
  intro Z hZ
  have T1 := Lib.hid (show T3 w.heap.size zs z16 z16 w Z from hZ ▸ HT0.out)
  clear hZ HT0
  have la := T1.out.c.lt
  go_upto_region 4 with (first
    | (go_at_call 15; refine (S_l1In _ _ _ _).mono ?_; rw [hin]; rintro e w' ⟨rfl, rfl⟩)
    | (focus ((with_reducible refine wpList_wanted ?_ (fun K hK => ?_)); rotate_left; (refine wp_load_sub 30 (.tmp 2) ?ho w.heap.size 0 16 ?hx 30 zs (0, 0) _ ?hg Tryd.underlying30 rfl infoA16 ?hs (hK _ _ ?_)); (case ho => with_reducible rfl); (case hx => rfl); (case hg => exact T1.out.a); (case hs => rw [HZ.out]; exact Nat.le_refl _); rw [show sub zs 0 16 = zs by rw [← HZ.out]; exact sub_all zs]; rotate_left; rfl))
    | (go_at_call 45; refine (CB.out _).mono ?_; rintro e w' ⟨rfl, hb⟩; obtain ⟨o1, n1, rfl⟩ := below_adds hb; clear hb))
  refine all_add' ?_
  intro Y hY
  have T2 := Lib.hid (show T3 w.heap.size zs z16 z16 w Y from hY ▸ T1.out.adds _ _)
  clear hY T1 la
  have la := T2.out.c.lt
  go_upto_region 5 with (first
    | (focus ((with_reducible refine wpList_wanted ?_ (fun K hK => ?_)); rotate_left; (refine wp_load_sub 30 (.tmp 2) ?ho w.heap.size 0 16 ?hx 30 zs (0, 0) _ ?hg Tryd.underlying30 rfl infoA16 ?hs (hK _ _ ?_)); (case ho => with_reducible rfl); (case hx => rfl); (case hg => exact T2.out.a); (case hs => rw [HZ.out]; exact Nat.le_refl _); rw [show sub zs 0 16 = zs by rw [← HZ.out]; exact sub_all zs]; rotate_left; rfl))
    | (go_at_call 46; refine (CH.out _).mono ?_; rintro e w' ⟨rfl, hb⟩; obtain ⟨o1, n1, rfl⟩ := below_adds hb; clear hb)
    | (focus ((with_reducible refine wpList_wanted ?_ (fun K hK => ?_)); rotate_left; (refine wp_store_new 30 (.tmp 6) (.tmp 19) ?ho ?g8 (rowI us) ?hx ?hy 30 (rowI z16) ?hg (by rw [rowI_size, HU.out]; exact infoA16) (by rw [rowI_size, rowI_size, HU.out]; rfl) (rowI_one us) (hK _ _ ?_)); (case ho => with_reducible rfl); (case hx => rfl); (case hy => rfl); (case hg => first | rfl | (simp only [size_addsW, World.size_alloc])); (try simp only [Act.put, List.setIfInBounds_toArray, List.set_cons_zero, List.set_cons_succ]); rotate_left; rfl)))
  refine all_add' ?_
  intro V hV
  have hvb : T3 w.heap.size zs z16 z16 w V := hV ▸ ⟨(T2.out.a.adds _ _).alloc _, (T2.out.b.adds _ _).alloc _, (T2.out.c.adds _ _).alloc _, Below.alloc (Below.adds_ T2.out.below T2.out.below.size _ _) (by simp only [size_addsW]; have := T2.out.below.size; omega) _⟩
  have hvr : Blk V (Y.heap.size + o1.size) (rowI us) 30 := hV ▸ Blk.new _ _ _ _ (by simp only [size_addsW])
  have hg1 : w.heap.size + 1 + 1 < Y.heap.size + o1.size := by omega
  clear hV T2 CH CB la
  generalize Y.heap.size + o1.size = g at hvr hg1 ⊢
  have HV := Lib.hid (⟨hvr, hvb⟩ : Blk V g (rowI us) 30 ∧ T3 w.heap.size zs z16 z16 w V)
  clear hvr hvb
  go_wp2_with fail
  go_loopw [7] (fun v wr => ∃ (k : Nat) (ds : List Int), v = .int .i64 (k : Int) ∧ k ≤ 16 ∧ ds.length = 16 ∧ (∀ i, i < k → ds.getD i 0 = F i) ∧ Blk wr g (rowI us) 30 ∧ T3 w.heap.size zs z16 ds w wr) (fun v _ => 16 - (intOf v).toNat)
  case atStart => exact ⟨0, z16, rfl, by omega, rfl, fun i hi => by omega, HV.out⟩
  case round =>
    clear HV
    obtain ⟨k, ds, rfl, hk, hd, hf, hst⟩ := hrel
    have HF := Lib.hid hf
    have HD := Lib.hid hd
    have HST := Lib.hid hst
    clear hd hf
    by_cases hlt : k < 16
    · have hd1 : (k : Int) < 16 := by omega
      have bu := hst.1.get (rowI_get (zs := us) (j := k) (by rw [HU.out]; exact hlt))
      have lu := hst.1.lt
      have bk := hst.2.c.get (rowI_get (zs := ds) (j := k) (by rw [HD.out]; exact hlt))
      have bf := hst.2.c.hot k
      have lb := hst.2.c.lt
      have c1 := HUB.out k
      clear hst
      generalize ds.getD k 0 = old at bk
      have hFk := Lib.hid (show ∀ i, i < k + 1 → (ds.set k (qz (us.getD k 0) s)).getD i 0 = F i from set_ok (F := F) HD.out hlt HF.out (HFF.out k).symm)
      have CQ1 := Lib.hid (show ∀ W, Calls Tryd.prog 47 #[.int .i64 (us.getD k 0), .int .i64 (k0 : Int)] W fun e w' => e = .returned (.int .i64 (qz (us.getD k 0) s)) ∧ Below W.heap.size W w' from fun W => CQ.out _ W c1)
      generalize us.getD k 0 = z at bu hFk CQ1
      generalize qz z s = qv at hFk CQ1
      clear c1
      go_wp2_with (go_at_call 47; refine (CQ1.out _).mono ?_; rintro e w' ⟨rfl, hb⟩; obtain ⟨o1, n1, rfl⟩ := below_adds hb; clear hb)
      go_roundw
      case rel => exact ⟨k + 1, ds.set k qv, by go_num, by omega, by rw [List.length_set]; exact HD.out, hFk.out, by first | exact ((HST.out.1.other (by simp only; omega) _).adds _ _) | exact ((HST.out.1.adds _ _).other (by simp only; omega) _), by first | exact (T3.setC HST.out.2 hwg k _).adds _ _ | exact T3.setC (HST.out.2.adds _ _) hwg k _⟩
      case measure => simp [intOf]; omega
    · obtain rfl : k = 16 := by omega
      have hpl := mp_of HD.out HF.out
      have HP := Lib.hid hpl
      clear hpl
      have hst := HST.out.2
      go_upto_region 9 with fail
      refine wp_region_lit ?_
      refine wpList_load_sub rfl 30 (.tmp 5) rfl (w.heap.size + 1 + 1) 0 16 rfl 30 ds (0, 0) _ hst.c Tryd.underlying30 rfl infoA16 (by rw [HD.out]; exact Nat.le_refl _) ?_
      rw [show sub ds 0 16 = ds by rw [← HD.out]; exact sub_all ds]
      refine wpList_store_sub rfl 30 (.tmp 4) (.tmp 31) rfl (w.heap.size + 1) 0 ds rfl rfl 30 z16 hst.b (by rw [HD.out]; exact infoA16) (by rw [HD.out]; decide) ?_
      rw [spl_full (by rw [HD.out]; rfl)]
      go_wp2_with fail
      refine bodyPost_ret (v := .agg (rowI ds)) (by exact results_cell_row Tryd.results34 _ _ (w.heap.size + 1) 30 (rowI ds) (0, 0) _ rfl (hst.b.row (rowI ds)) Tryd.underlying30 rfl (by rw [rowI_size, HD.out]; exact infoA16)) rfl ?_
      exact ⟨by rw [HP.out], below_row hst.below hst.below.size (by omega) _⟩

end Go.Proofs.YtijccageaingjaaDoor
