/- The cost of a transform, the reference's. -/
import Derived.Test.YthnigldbpikcaaaTrfS
import Derived.Test.YthnigldbpikcaaaTrfJ
namespace Go.Proofs.Ythnigldbpikcaaa
open Go.RowKit
set_option linter.unusedVariables false
set_option linter.unusedSimpArgs false

attribute [local go_sem] size_addsW cell?_addsW frozen?_addsW setCell_addsW drew_addsW adds_addsW setCell_twice alloc_adds0 size_adds0 adds_adds0 sel2 sel3 sel4 sel5 sel6 sel7 sel8 sel9 lt_more lt_more2 lt_more3 lt_more4 adds_drew adds_drewN drewN_addsW ltA_1_1 ltA_1_2 ltA_1_3 ltA_1_4 ltA_1_5 ltA_1_6 ltA_2_1 ltA_2_2 ltA_2_3 ltA_2_4 ltA_2_5 ltA_2_6 ltA_3_1 ltA_3_2 ltA_3_3 ltA_3_4 ltA_3_5 ltA_3_6 ltA_4_1 ltA_4_2 ltA_4_3 ltA_4_4 ltA_4_5 ltA_4_6 ltA_5_1 ltA_5_2 ltA_5_3 ltA_5_4 ltA_5_5 ltA_5_6 ltA_6_1 ltA_6_2 ltA_6_3 ltA_6_4 ltA_6_5 ltA_6_6 ltA_7_1 ltA_7_2 ltA_7_3 ltA_7_4 ltA_7_5 ltA_7_6 ltA_8_1 ltA_8_2 ltA_8_3 ltA_8_4 ltA_8_5 ltA_8_6 ltA_9_1 ltA_9_2 ltA_9_3 ltA_9_4 ltA_9_5 ltA_9_6 ltA_10_1 ltA_10_2 ltA_10_3 ltA_10_4 ltA_10_5 ltA_10_6 ltA_11_1 ltA_11_2 ltA_11_3 ltA_11_4 ltA_11_5 ltA_11_6 ltA_12_1 ltA_12_2 ltA_12_3 ltA_12_4 ltA_12_5 ltA_12_6

theorem smp_no {zs : List Int} {k : Nat} (hk : k < zs.length) (h : M.inB (zs.getD k 0) 0 255 = false) : M.samplesB zs = false := by
  cases e : M.samplesB zs
  · rfl
  · have := smp_get e k
    rw [M.inB_no] at h
    omega
theorem smp_of {zs : List Int} (h : ∀ k, k < zs.length → M.inB (zs.getD k 0) 0 255 = true) : M.samplesB zs = true := by
  unfold M.samplesB
  rw [List.all_eq_true]
  intro x hx
  obtain ⟨k, hk, rfl⟩ := List.getElem_of_mem hx
  have := h k hk
  rwa [List.getD_eq_getElem?_getD, List.getElem?_eq_getElem hk, Option.getD_some] at this

set_option maxRecDepth 100000 in
set_option maxHeartbeats 4000000 in
theorem S_TransformCost (xs ys : List Int) (w : World) (hx : xs.length = 16) (hy : ys.length = 16) :
    Calls Try.prog 26 #[.agg (rowI xs), .agg (rowI ys)] w fun e w' => e = .returned (.int .i64 (tcV xs ys)) ∧ Below w.heap.size w w' := by
  have HX := Lib.hid hx
  have HY := Lib.hid hy
  clear hx hy
  have hwg : w.heap.size ≤ w.heap.size := Nat.le_refl _
  have HT0 := Lib.hid (T3.start w xs ys)
  go_enter Try.func26, Try.ntmps26
  go_upto_region 2 with fail
  refine all_add' ?_
  intro Z hZ
  have T1 := Lib.hid (show T3 w.heap.size xs ys z16 w Z from hZ ▸ HT0.out)
  clear hZ HT0
  go_wp2_with fail
  go_loopw [6] (fun v wr => ∃ (k : Nat) (ds : List Int), v = .int .i64 (k : Int) ∧ k ≤ 16 ∧ ds.length = 16 ∧ (∀ i, i < k → M.inB (xs.getD i 0) 0 255 = true ∧ M.inB (ys.getD i 0) 0 255 = true) ∧ (∀ i, i < k → ds.getD i 0 = xs.getD i 0 - ys.getD i 0) ∧ T3 w.heap.size xs ys ds w wr) (fun v _ => 16 - (intOf v).toNat)
  case atStart => exact ⟨0, z16, rfl, by omega, rfl, fun i hi => by omega, fun i hi => by omega, T1.out⟩
  case round =>
    clear T1
    obtain ⟨k, ds, rfl, hk, hd, hi, hf, hst⟩ := hrel
    have HD := Lib.hid hd
    have HI := Lib.hid hi
    have HF := Lib.hid hf
    have HST := Lib.hid hst
    clear hd hi hf
    by_cases hlt : k < 16
    · have hd1 : (k : Int) < 16 := by omega
      have b1 := hst.a.get (rowI_get (zs := xs) (j := k) (by rw [HX.out]; exact hlt))
      have b2 := hst.b.get (rowI_get (zs := ys) (j := k) (by rw [HY.out]; exact hlt))
      have b3 := hst.c.get (rowI_get (zs := ds) (j := k) (by rw [HD.out]; exact hlt))
      have b4 := hst.c.hot k
      have la := hst.c.lt
      generalize ds.getD k 0 = old at b3
      clear hst
      have HN1 := Lib.hid (show M.inB (xs.getD k 0) 0 255 = false → tcV xs ys = -1 from fun h => by unfold tcV; rw [smp_no (by rw [HX.out]; exact hlt) h]; rfl)
      have HN2 := Lib.hid (show M.inB (ys.getD k 0) 0 255 = false → tcV xs ys = -1 from fun h => by unfold tcV; rw [smp_no (by rw [HY.out]; exact hlt) h]; rw [if_neg (by simp)])
      have HI2 := Lib.hid (show M.inB (xs.getD k 0) 0 255 = true → M.inB (ys.getD k 0) 0 255 = true → ∀ i, i < k + 1 → M.inB (xs.getD i 0) 0 255 = true ∧ M.inB (ys.getD i 0) 0 255 = true from fun h h2 i hi => by
        by_cases e : i = k
        · subst e; exact ⟨h, h2⟩
        · exact HI.out i (by omega))
      have hFk := Lib.hid (show ∀ v, v = xs.getD k 0 - ys.getD k 0 → ∀ i, i < k + 1 → (ds.set k v).getD i 0 = xs.getD i 0 - ys.getD i 0 from fun v hv => set_ok (F := fun i => xs.getD i 0 - ys.getD i 0) HD.out hlt HF.out hv)
      generalize xs.getD k 0 = x at b1 HN1 HI2 hFk
      generalize ys.getD k 0 = y at b2 HN2 HI2 hFk
      cases hbx : M.inB x 0 255
      · go_wp2_with (go_at_call 23; refine (S_l1In _ _ _ _).mono ?_; (first | rw [hbx] | skip); rintro e w' ⟨rfl, rfl⟩)
        go_returns
        exact ⟨by rw [HN1.out hbx]; rfl, HST.out.below⟩
      · cases hby : M.inB y 0 255
        · go_wp2_with (go_at_call 23; refine (S_l1In _ _ _ _).mono ?_; (first | rw [hbx] | rw [hby]); rintro e w' ⟨rfl, rfl⟩)
          go_returns
          exact ⟨by rw [HN2.out hby]; rfl, HST.out.below⟩
        · have r1 := M.inB_iff.1 hbx
          have r2 := M.inB_iff.1 hby
          have q1 : IntKind.i64.wrap (x - y) = x - y := IntWalk.i64_in _ (by omega)
          go_wp2_with (go_at_call 23; refine (S_l1In _ _ _ _).mono ?_; (first | rw [hbx] | rw [hby]); rintro e w' ⟨rfl, rfl⟩)
          go_region
          go_wp2_with fail
          go_roundw
          case rel => exact ⟨k + 1, ds.set k (x - y), by go_num, by omega, by rw [List.length_set]; exact HD.out, HI2.out hbx hby, hFk.out _ rfl, by repeat (first | (with_reducible apply T3.drewN) | (with_reducible apply T3.drew) | exact T3.setC HST.out hwg k _ | refine T3.setC ?_ hwg k _ | exact HST.out)⟩
          case measure => simp [intOf]; omega
    · obtain rfl : k = 16 := by omega
      have hsx := smp_of (zs := xs) fun i hi => (HI.out i (by rw [HX.out] at hi; exact hi)).1
      have hsy := smp_of (zs := ys) fun i hi => (HI.out i (by rw [HY.out] at hi; exact hi)).2
      have hds := dfL_of HD.out HF.out
      have hbd : bdL 255 ds := by rw [hds]; exact dfL_bd hsx hsy
      obtain ⟨us, hus⟩ : ∃ us, us = apL ds := ⟨_, rfl⟩
      have hlu := Lib.hid (show us.length = 16 by rw [hus, apL_len])
      have CA := Lib.hid (show ∀ W, Calls Try.prog 44 #[.agg (rowI ds)] W fun e w' => e = .returned (.agg (rowI us)) ∧ Below W.heap.size W w' from fun W => by rw [hus]; exact S_l3Apply ds W HD.out hbd)
      have HUB := Lib.hid (show bdL 16711680 us by rw [hus, ← had_eq HD.out]; exact h2_bd' hbd (by omega))
      have HU := Lib.hid (show tcV xs ys = asum us 16 / 4 by unfold tcV; rw [if_pos ⟨hsx, hsy⟩, ← hds, had_eq HD.out, ← hus])
      clear hus hds hbd hsx hsy
      clear hst
      go_upto_region 9 with (first
        | (focus ((with_reducible refine wpList_wanted ?_ (fun K hK => ?_)); rotate_left; (refine wp_load_sub 28 (.tmp 5) ?ho (w.heap.size + 1 + 1) 0 16 ?hx 28 ds (0, 0) _ ?hg Try.underlying28 rfl infoA16 ?hs (hK _ _ ?_)); (case ho => with_reducible rfl); (case hx => rfl); (case hg => exact HST.out.c); (case hs => rw [HD.out]; exact Nat.le_refl _); rw [show sub ds 0 16 = ds by rw [← HD.out]; exact sub_all ds]; rotate_left; rfl))
        | (go_at_call 44; refine (CA.out _).mono ?_; rintro e w' ⟨rfl, hb⟩; obtain ⟨o1, n1, rfl⟩ := below_adds hb; clear hb)
        | (focus ((with_reducible refine wpList_wanted ?_ (fun K hK => ?_)); rotate_left; (refine wp_store_new 28 (.tmp 7) (.tmp 37) ?ho ?g8 (rowI us) ?hx ?hy 28 (rowI z16) ?hg (by rw [rowI_size, hlu.out]; exact infoA16) (by rw [rowI_size, rowI_size, hlu.out]; rfl) (rowI_one us) (hK _ _ ?_)); (case ho => with_reducible rfl); (case hx => rfl); (case hy => rfl); (case hg => first | rfl | (simp only [size_addsW, World.size_alloc])); (try simp only [Act.put, List.setIfInBounds_toArray, List.set_cons_zero, List.set_cons_succ]); rotate_left; rfl)))
      refine all_add' ?_
      intro V hV
      have hvb : Below w.heap.size w V := hV ▸ Below.alloc (Below.adds_ HST.out.below HST.out.below.size _ _) (by simp only [size_addsW]; have := HST.out.below.size; omega) _
      have hvr : Blk V (wr.heap.size + o1.size) (rowI us) 28 := hV ▸ Blk.new _ _ _ _ (by simp only [size_addsW])
      clear hV HST CA
      generalize wr.heap.size + o1.size = g at hvr ⊢
      have HV := Lib.hid (⟨hvr, hvb⟩ : Blk V g (rowI us) 28 ∧ Below w.heap.size w V)
      clear hvr hvb
      go_wp2_with fail
      go_loopw [8, 9] (fun t v wr => ∃ k : Nat, t = .int .i64 (asum us k) ∧ v = .int .i64 (k : Int) ∧ k ≤ 16 ∧ Blk wr g (rowI us) 28 ∧ Below w.heap.size w wr) (fun _ v _ => 16 - (intOf v).toNat)
      case atStart => exact ⟨0, rfl, rfl, by omega, HV.out⟩
      case round =>
        clear HV
        obtain ⟨k, rfl, rfl, hk, hst⟩ := hrel
        have HST := Lib.hid hst
        by_cases hlt : k < 16
        · have hd1 : (k : Int) < 16 := by omega
          have a1 := asum_bd HUB.out k
          have a2 := HUB.out k
          have b1 := hst.1.get (rowI_get (zs := us) (j := k) (by rw [hlu.out]; exact hlt))
          have lb := hst.1.lt
          have HS := Lib.hid (show asum us k + ab (us.getD k 0) = asum us (k + 1) from rfl)
          generalize asum us k = s at a1 HS ⊢
          generalize us.getD k 0 = z at a2 b1 HS
          have q1 : IntKind.i64.wrap (-z) = -z := IntWalk.i64_in _ (by omega)
          have q2 : IntKind.i64.wrap (s + z) = s + z := IntWalk.i64_in _ (by omega)
          have q3 : IntKind.i64.wrap (s + -z) = s + -z := IntWalk.i64_in _ (by omega)
          clear hst
          have HSS := Lib.hid (show s + max z (-z) = s + ab z from rfl)
          go_wp2_with fail
          go_quiet (fail)
          go_wp2_with fail
          go_roundw
          case rel => exact ⟨k + 1, by rw [← HS.out, show (if z < -z then -z else z) = ab z by unfold ab; split <;> omega], by go_num, by omega, HST.out.1, HST.out.2.trans ((drewNb _ _).mono HST.out.2.size)⟩
          case measure => simp [intOf]; omega
        · have hk16 : k = 16 := by omega
          subst hk16
          have a1 := asum_bd HUB.out 16
          generalize asum us 16 = s at a1 HU ⊢
          clear hst
          go_wp2_with fail
          go_returns
          exact ⟨by rw [HU.out]; rfl, HST.out.2⟩

end Go.Proofs.Ythnigldbpikcaaa
