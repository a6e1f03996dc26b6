/- The cost of a transform, the program's. -/
import Derived.Test.YthnigldbpikcaaaTrfI
import Derived.Test.YthnigldbpikcaaaSmall
namespace Go.Proofs.Ythnigldbpikcaaa
open Go.RowKit
set_option linter.unusedVariables false
set_option linter.unusedSimpArgs false

attribute [local go_sem] size_addsW cell?_addsW frozen?_addsW setCell_addsW drew_addsW adds_addsW setCell_twice alloc_adds0 size_adds0 adds_adds0 sel2 sel3 sel4 sel5 sel6 sel7 sel8 sel9 lt_more lt_more2 lt_more3 lt_more4 adds_drew adds_drewN drewN_addsW ltA_1_1 ltA_1_2 ltA_1_3 ltA_1_4 ltA_1_5 ltA_1_6 ltA_2_1 ltA_2_2 ltA_2_3 ltA_2_4 ltA_2_5 ltA_2_6 ltA_3_1 ltA_3_2 ltA_3_3 ltA_3_4 ltA_3_5 ltA_3_6 ltA_4_1 ltA_4_2 ltA_4_3 ltA_4_4 ltA_4_5 ltA_4_6 ltA_5_1 ltA_5_2 ltA_5_3 ltA_5_4 ltA_5_5 ltA_5_6 ltA_6_1 ltA_6_2 ltA_6_3 ltA_6_4 ltA_6_5 ltA_6_6 ltA_7_1 ltA_7_2 ltA_7_3 ltA_7_4 ltA_7_5 ltA_7_6 ltA_8_1 ltA_8_2 ltA_8_3 ltA_8_4 ltA_8_5 ltA_8_6 ltA_9_1 ltA_9_2 ltA_9_3 ltA_9_4 ltA_9_5 ltA_9_6 ltA_10_1 ltA_10_2 ltA_10_3 ltA_10_4 ltA_10_5 ltA_10_6 ltA_11_1 ltA_11_2 ltA_11_3 ltA_11_4 ltA_11_5 ltA_11_6 ltA_12_1 ltA_12_2 ltA_12_3 ltA_12_4 ltA_12_5 ltA_12_6

theorem row16 {W : World} {g : Nat} {zs : List Int} {t : TypeId} (h : Blk W g (rowI zs) t) : RowAt .i64 W (some ⟨g, 0, none⟩) zs := fun _ =>
  ⟨g, 0, rfl, h.lt, fun i hi => h.get (by rw [Nat.zero_add]; exact rowI_get hi)⟩
structure B2 (G : Nat) (A B : List Int) (w W : World) : Prop where
  a : Blk W G (rowI A) 28
  b : Blk W (G + 1) (rowI B) 28
  below : Below w.heap.size w W
theorem B2.start (w : World) (A B : List Int) : B2 w.heap.size A B w ((w.alloc (.cells (rowI A) 28)).alloc (.cells (rowI B) 28)) :=
  ⟨(Blk.new w _ _ _ rfl).alloc _, Blk.new _ _ _ _ (by simp), (by repeat' (first | (with_reducible exact Below.refl _ _) | (with_reducible refine Below.adds_ ?_ ?_ _ _) | (with_reducible refine Below.alloc ?_ ?_ _) | (with_reducible refine Below.drew ?_) | (with_reducible refine Below.setCell ?_ ?_ _) | (with_reducible assumption) | go_size | (simp only [size_addsW, World.size_alloc, World.size_drew, World.size_setCell]; omega)))⟩

set_option maxRecDepth 100000 in
set_option maxHeartbeats 4000000 in
theorem I_TransformCost (xs ys : List Int) (w : World) (hx : xs.length = 16) (hy : ys.length = 16) :
    Calls Try.prog 17 #[.agg (rowI xs), .agg (rowI ys)] w fun e w' => e = .returned (.int .i64 (tcV xs ys)) ∧ Below w.heap.size w w' := by
  have HX := Lib.hid hx
  have HY := Lib.hid hy
  obtain ⟨p, hp⟩ : ∃ p, p = M.samplesB xs := ⟨_, rfl⟩
  obtain ⟨q, hq⟩ : ∃ q, q = M.samplesB ys := ⟨_, rfl⟩
  have C1 : ∀ W, Blk W w.heap.size (rowI xs) 28 → Calls Try.prog 28 #[.slice (some ⟨w.heap.size, 0, none⟩) 16 16] W fun e w' => e = .returned (.bool p) ∧ W = w' := fun W hW => by
    have := I_samplesIn (some ⟨w.heap.size, 0, none⟩) 16 xs W (row16 hW) (by omega)
    rw [hx, ← hp] at this
    exact this
  have C2 : ∀ W, Blk W (w.heap.size + 1) (rowI ys) 28 → Calls Try.prog 28 #[.slice (some ⟨w.heap.size + 1, 0, none⟩) 16 16] W fun e w' => e = .returned (.bool q) ∧ W = w' := fun W hW => by
    have := I_samplesIn (some ⟨w.heap.size + 1, 0, none⟩) 16 ys W (row16 hW) (by omega)
    rw [hy, ← hq] at this
    exact this
  have S1 := Lib.hid C1
  have S2 := Lib.hid C2
  clear C1 C2 hx hy
  have HPQ := Lib.hid (show tcV xs ys = if p = true ∧ q = true then asum (h2 (dfL xs ys) 4) 16 / 4 else -1 by rw [hp, hq]; rfl)
  have HBD := Lib.hid (show p = true → bdL 255 xs from fun h i => by have := smp_get (hp.symm.trans h) i; omega)
  have HBE := Lib.hid (show q = true → bdL 255 ys from fun h i => by have := smp_get (hq.symm.trans h) i; omega)
  have HBF := Lib.hid (show p = true → q = true → bdL 255 (dfL xs ys) from fun h h2 => dfL_bd (hp.symm.trans h) (hq.symm.trans h2))
  clear hp hq
  have hwg : w.heap.size ≤ w.heap.size := Nat.le_refl _
  have HT0 := Lib.hid (B2.start w xs ys)
  go_enter Try.func17, Try.ntmps17
  go_upto_region 1 with fail
  refine all_add' ?_
  intro Z hZ
  have T1 := Lib.hid (show B2 w.heap.size xs ys w Z from hZ ▸ HT0.out)
  clear hZ HT0
  have lz : w.heap.size + 1 < Z.heap.size := T1.out.b.lt
  cases p
  · go_wp2_with (first | (go_at_call 28; with_reducible refine (S1.out _ T1.out.a).mono ?_; rintro e w' ⟨rfl, rfl⟩) | (go_at_call 28; with_reducible refine (S2.out _ T1.out.b).mono ?_; rintro e w' ⟨rfl, rfl⟩))
    go_returns
    exact ⟨by rw [HPQ.out]; rfl, T1.out.below⟩
  · cases q
    · go_wp2_with (first | (go_at_call 28; with_reducible refine (S1.out _ T1.out.a).mono ?_; rintro e w' ⟨rfl, rfl⟩) | (go_at_call 28; with_reducible refine (S2.out _ T1.out.b).mono ?_; rintro e w' ⟨rfl, rfl⟩))
      go_returns
      exact ⟨by rw [HPQ.out]; rfl, T1.out.below⟩
    · obtain ⟨ds, hds⟩ : ∃ ds, ds = dfL xs ys := ⟨_, rfl⟩
      have CD := Lib.hid (show ∀ W, Calls Try.prog 31 #[.agg (rowI xs), .agg (rowI ys)] W fun e w' => e = .returned (.agg (rowI ds)) ∧ Below W.heap.size W w' from fun W => by rw [hds]; exact I_difference xs ys W HX.out HY.out (HBD.out rfl) (HBE.out rfl))
      obtain ⟨us, hus⟩ : ∃ us, us = h2 ds 4 := ⟨_, rfl⟩
      have hlu := Lib.hid (show us.length = 16 by rw [hus, h2_len, hds, dfL_len])
      have CH := Lib.hid (show ∀ W, Calls Try.prog 30 #[.agg (rowI ds)] W fun e w' => e = .returned (.agg (rowI us)) ∧ Below W.heap.size W w' from fun W => by rw [hus]; exact I_hadamard ds W (by rw [hds, dfL_len]) (by rw [hds]; exact HBF.out rfl rfl))
      have HUB := Lib.hid (show bdL 16711680 us by rw [hus, hds]; exact h2_bd' (HBF.out rfl rfl) (by omega))
      have HU := Lib.hid (show tcV xs ys = asum us 16 / 4 by rw [HPQ.out, hus, hds]; rfl)
      clear hus hds
      go_wp2_with (first
        | (go_at_call 28; with_reducible refine (S1.out _ T1.out.a).mono ?_; rintro e w' ⟨rfl, rfl⟩)
        | (go_at_call 28; with_reducible refine (S2.out _ T1.out.b).mono ?_; rintro e w' ⟨rfl, rfl⟩)
        | (focus ((with_reducible refine wpList_wanted ?_ (fun K hK => ?_)); rotate_left; (refine wp_load_sub 28 (.tmp 2) ?ho w.heap.size 0 16 ?hx 28 xs (0, 0) _ ?hg Try.underlying28 rfl infoA16 ?hs (hK _ _ ?_)); (case ho => with_reducible rfl); (case hx => rfl); (case hg => exact T1.out.a); (case hs => rw [HX.out]; exact Nat.le_refl _); rw [show sub xs 0 16 = xs by rw [← HX.out]; exact sub_all xs]; rotate_left; rfl))
        | (focus ((with_reducible refine wpList_wanted ?_ (fun K hK => ?_)); rotate_left; (refine wp_load_sub 28 (.tmp 3) ?ho (w.heap.size + 1) 0 16 ?hx 28 ys (0, 0) _ ?hg Try.underlying28 rfl infoA16 ?hs (hK _ _ ?_)); (case ho => with_reducible rfl); (case hx => rfl); (case hg => exact T1.out.b); (case hs => rw [HY.out]; exact Nat.le_refl _); rw [show sub ys 0 16 = ys by rw [← HY.out]; exact sub_all ys]; rotate_left; rfl))
        | (go_at_call 31; refine (CD.out _).mono ?_; rintro e w' ⟨rfl, hb⟩; obtain ⟨o1, n1, rfl⟩ := below_adds hb; clear hb)
        | (go_at_call 30; refine (CH.out _).mono ?_; rintro e w' ⟨rfl, hb⟩; obtain ⟨o1, n1, rfl⟩ := below_adds hb; clear hb))
      refine all_add' ?_
      intro Y hY
      have HB1 := Lib.hid (show Below w.heap.size w Y from hY ▸ Below.adds_ T1.out.below T1.out.below.size _ _)
      clear hY CD CH S1 S2 T1 lz
      go_loopw [5, 20] (fun t v wr => ∃ k : Nat, t = .int .i64 (asum us k) ∧ v = .int .i64 (k : Int) ∧ k ≤ 16 ∧ Below w.heap.size w wr) (fun _ v _ => 16 - (intOf v).toNat)
      case atStart => exact ⟨0, rfl, rfl, by omega, HB1.out⟩
      case round =>
        clear HB1
        obtain ⟨k, rfl, rfl, hk, hst⟩ := hrel
        have HST := Lib.hid hst
        clear hst
        by_cases hlt : k < 16
        · have hd1 : (k : Int) < 16 := by omega
          have a1 := asum_bd HUB.out k
          have a2 := HUB.out k
          have hidx : ∀ W, (Instr.index 28 (.agg (rowI us)) (.int .i64 (k : Int))).run Try.prog W = .ok (.int .i64 (us.getD k 0)) W := fun W => run_index_int W 28 3 16 Try.underlying28 Try.underlying3 (by kernel_rfl) us k hlt hlu.out
          have HS := Lib.hid (show asum us k + ab (us.getD k 0) = asum us (k + 1) from rfl)
          generalize asum us k = s at a1 HS
          generalize us.getD k 0 = z at a2 hidx HS
          have CA := Lib.hid (show ∀ W, Calls Try.prog 32 #[.int .i64 z] W fun e w' => e = .returned (.int .i64 (ab z)) ∧ W = w' from fun W => I_abs z W (by omega))
          have a3 : 0 ≤ ab z ∧ ab z ≤ 16711680 := by unfold ab; omega
          generalize ab z = y at HS CA a3
          have d1 : IntKind.i64.wrap (s + y) = s + y := IntWalk.i64_in _ (by omega)
          clear a2
          go_wp2_with (go_at_call 32; refine (CA.out _).mono ?_; rintro e w' ⟨rfl, rfl⟩)
          go_roundw
          case rel => exact ⟨k + 1, by rw [HS.out], by go_num, by omega, HST.out⟩
          case measure => simp [intOf]; omega
        · obtain rfl : k = 16 := by omega
          have a1 := asum_bd HUB.out 16
          generalize asum us 16 = s at a1 HU
          go_wp2_with fail
          go_returns
          exact ⟨by rw [HU.out]; rfl, HST.out⟩

end Go.Proofs.Ythnigldbpikcaaa
