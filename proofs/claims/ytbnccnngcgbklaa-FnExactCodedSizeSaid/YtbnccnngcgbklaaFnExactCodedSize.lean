/- PROVED: the law laws.FnExactCodedSize returns true for every input (the program's CodedSize answers as the reference's does, and leaves its argument as it was); no conditions. -/
import Derived.Test.YtbnccnngcgbklaaRows
import Derived.Test.YtbnccnngcgbklaaCodedO
import Derived.Deep.RegionHeld3
import Derived.Deep.DeepCutAuto
import Derived.WalkKit
import Derived.ProofKit
import Derived.OpenShut
import Derived.ShutString
import Derived.ChangeOld
import Derived.Below
import Derived.Lib.SmallJoins
namespace Go.Proofs.Ytbnccnngcgbklaa.fnExactCodedSize
open Go.ChangeShapes Go.WideShapes Go.ChangeAt Go.RowKit
open Go.ChangeMaps (open_string shut_string)
set_option linter.unusedVariables false
set_option linter.unusedSimpArgs false

theorem own : ownKnob Try.prog.godebug = none := by kernel_rfl
theorem laidOut : laidOutB Try.prog = true := by kernel_rfl

attribute [local go_sem] size_addsW cell?_addsW frozen?_addsW setCell_addsW drew_addsW adds_addsW setCell_twice alloc_adds0 size_adds0 adds_adds0 sel2 sel3 sel4 sel5 sel6 sel7 sel8 sel9 lt_more lt_more2 lt_more3 lt_more4 adds_drew adds_drewN drewN_addsW ltA_1_1 ltA_1_2 ltA_1_3 ltA_1_4 ltA_1_5 ltA_1_6 ltA_2_1 ltA_2_2 ltA_2_3 ltA_2_4 ltA_2_5 ltA_2_6 ltA_3_1 ltA_3_2 ltA_3_3 ltA_3_4 ltA_3_5 ltA_3_6 ltA_4_1 ltA_4_2 ltA_4_3 ltA_4_4 ltA_4_5 ltA_4_6 ltA_5_1 ltA_5_2 ltA_5_3 ltA_5_4 ltA_5_5 ltA_5_6 ltA_6_1 ltA_6_2 ltA_6_3 ltA_6_4 ltA_6_5 ltA_6_6 ltA_7_1 ltA_7_2 ltA_7_3 ltA_7_4 ltA_7_5 ltA_7_6 ltA_8_1 ltA_8_2 ltA_8_3 ltA_8_4 ltA_8_5 ltA_8_6 ltA_9_1 ltA_9_2 ltA_9_3 ltA_9_4 ltA_9_5 ltA_9_6 ltA_10_1 ltA_10_2 ltA_10_3 ltA_10_4 ltA_10_5 ltA_10_6 ltA_11_1 ltA_11_2 ltA_11_3 ltA_11_4 ltA_11_5 ltA_11_6 ltA_12_1 ltA_12_2 ltA_12_3 ltA_12_4 ltA_12_5 ltA_12_6
theorem own_len {w : World} {A : Option Addr} {n : Nat} {a : Nat → Option Addr} {l c : Nat → Nat} {z : Nat → List Int} (h : SSAt w A n a l c z) (hn : n + sm l n ≤ 1048576) : ∀ i, i < n → (z i).length = l i ∧ l i ≤ 1048576 := fun i hi =>
  ⟨(h.2 i hi).2.1, by have := sm_at l hi; omega⟩
theorem infoLC (x y : Int) (i : Bool) (q : Int) (A : Option Addr) (n cap : Nat) : (Try.prog.info? 24).map (·.size) = some (cdA x y i q A n cap).size := by kernel_rfl

set_option maxHeartbeats 2000000 in
set_option maxRecDepth 100000 in
theorem walk (x y : Int) (i : Bool) (q : Int) (A : Option Addr) (n cap : Nat) (a : Nat → Option Addr) (l c : Nat → Nat) (z : Nat → List Int) (w : World) (hss : SSAt w A n a l c z) (hn : n ≤ maxLen) :
    Calls Try.prog 3 #[.agg (cdA x y i q A n cap)] w fun e w' => e = .returned (.bool true) ∧ Below w.heap.size w w' := by
  unfold maxLen at hn
  have HS := Lib.hid hss
  have CZ := Lib.hid (show ∀ W, Below w.heap.size w W → Calls Try.prog 6 #[.agg (cdA x y i q A n cap), .int .i64 1048576] W fun e w' => e = .returned (.int .i64 (if (1048576 : Int) < (n : Int) + (sm l n : Nat) then -1 else 1048576 - ((n : Int) + (sm l n : Nat)))) ∧ Below W.heap.size W w' from fun W hW => L_szCoded x y i q A n cap a l c z 1048576 W (HS.out.keep hW) (by omega) (by omega))
  have HT0 := Lib.hid (⟨Blk.new w _ _ _ rfl, (by repeat' (first | (with_reducible exact Below.refl _ _) | (with_reducible refine Below.adds_ ?_ ?_ _ _) | (with_reducible refine Below.alloc ?_ ?_ _) | (with_reducible refine Below.drew ?_) | (with_reducible refine Below.setCell ?_ ?_ _) | (with_reducible assumption) | go_size | (simp only [size_addsW, World.size_alloc, World.size_drew, World.size_setCell]; omega)))⟩ : Blk (w.alloc (.cells (cdA x y i q A n cap) 24)) w.heap.size (cdA x y i q A n cap) 24 ∧ Below w.heap.size w (w.alloc (.cells (cdA x y i q A n cap) 24)))
  clear hss hn
  by_cases hbig : (1048576 : Int) < (n : Int) + (sm l n : Nat)
  · rw [if_pos hbig] at CZ
    clear hbig
    unfold cdA at CZ ⊢
    go_enter Try.func3, Try.ntmps3
    go_wp2_with (go_at_call 6; refine (CZ.out _ (by repeat' (first | (with_reducible exact Below.refl _ _) | (with_reducible refine Below.adds_ ?_ ?_ _ _) | (with_reducible refine Below.alloc ?_ ?_ _) | (with_reducible refine Below.drew ?_) | (with_reducible refine Below.setCell ?_ ?_ _) | (with_reducible assumption) | go_size | (simp only [size_addsW, World.size_alloc, World.size_drew, World.size_setCell]; omega)))).mono ?_; rintro e w' ⟨rfl, hb⟩; obtain ⟨o1, n1, rfl⟩ := below_adds hb; clear hb)
    go_returns
    exact ⟨rfl, (by repeat' (first | (with_reducible exact Below.refl _ _) | (with_reducible refine Below.adds_ ?_ ?_ _ _) | (with_reducible refine Below.alloc ?_ ?_ _) | (with_reducible refine Below.drew ?_) | (with_reducible refine Below.setCell ?_ ?_ _) | (with_reducible assumption) | go_size | (simp only [size_addsW, World.size_alloc, World.size_drew, World.size_setCell]; omega)))⟩
  · rw [if_neg hbig] at CZ
    have hN : n + sm l n ≤ 1048576 := by omega
    have hr0 : 0 ≤ (1048576 : Int) - ((n : Int) + (sm l n : Nat)) := by omega
    clear hbig
    generalize (1048576 : Int) - ((n : Int) + (sm l n : Nat)) = r at CZ hr0
    have HOL := Lib.hid (own_len HS.out hN)
    obtain ⟨N, hYtbnccnngcgbklaa⟩ : ∃ N, N = sm l n := ⟨_, rfl⟩
    have CC := Lib.hid (show ∀ W, Below w.heap.size w W → Calls Try.prog 8 #[.agg (cdA x y i q A n cap)] W fun e w' => ∃ g p, e = .returned (.agg (cdA x y i q (some ⟨g, 0, none⟩) n n)) ∧ SSOwn w' g n n p l z ∧ W.heap.size ≤ g ∧ Below W.heap.size W w' from fun W hW => L_toCoded x y i q A n cap a l c z W (HS.out.keep hW) hN)
    have CI := Lib.hid (show ∀ W g p, SSOwn W g n n p l z → Calls Try.prog 9 #[.agg (cdA x y i q (some ⟨g, 0, none⟩) n n)] W fun e w' => e = .returned (.int .i64 (N : Nat)) ∧ Below W.heap.size W w' from fun W g p hW => by rw [hYtbnccnngcgbklaa]; exact I_CodedSize x y i q _ n n _ l l z W (hW.ss HOL.out) hN)
    have CS := Lib.hid (show ∀ W g p, SSOwn W g n n p l z → Calls Try.prog 7 #[.agg (cdA x y i q (some ⟨g, 0, none⟩) n n)] W fun e w' => e = .returned (.int .i64 (N : Nat)) ∧ Below W.heap.size W w' from fun W g p hW => by rw [hYtbnccnngcgbklaa]; exact S_CodedSize x y i q _ n n _ l l z W (hW.ss HOL.out) hN)
    have CE := Lib.hid (show ∀ W g p g' p', SSOwn W g n n p l z → SSOwn W g' n n p' l z → Calls Try.prog 10 #[.agg (cdA x y i q (some ⟨g, 0, none⟩) n n), .agg (cdA x y i q (some ⟨g', 0, none⟩) n n)] W fun e w' => e = .returned (.bool true) ∧ Below W.heap.size W w' from fun W g p g' p' hW hW' => L_eqCoded x y i q _ _ n n n _ _ l l l z W (hW.ss HOL.out) (hW'.ss HOL.out) hN)
    clear hYtbnccnngcgbklaa hN
    unfold cdA at CZ ⊢
    go_enter Try.func3, Try.ntmps3
    go_upto_region 1 with fail
    refine all_add' ?_
    intro Z hZ
    have HA := Lib.hid (show Blk Z w.heap.size (cdA x y i q A n cap) 24 from hZ ▸ HT0.out.1)
    have HB := Lib.hid (show Below w.heap.size w Z from hZ ▸ HT0.out.2)
    clear hZ HT0
    have hst := HA.out
    have e0 : Z.cell? ⟨w.heap.size, 0, none⟩ = some (.int .i64 x) := hst.get rfl
    have e1 : Z.cell? ⟨w.heap.size, 1, none⟩ = some (.int .i64 y) := hst.get rfl
    have e2 : Z.cell? ⟨w.heap.size, 2, none⟩ = some (.bool i) := hst.get rfl
    have e3 : Z.cell? ⟨w.heap.size, 3, none⟩ = some (.int .i64 q) := hst.get rfl
    have e4 : Z.cell? ⟨w.heap.size, 4, none⟩ = some (.slice A n cap) := hst.get rfl
    have lz := hst.lt
    clear hst
    go_upto_region 5 with (go_at_call 6; refine (CZ.out _ HB.out).mono ?_; rintro e w' ⟨rfl, hb⟩; obtain ⟨o1, n1, rfl⟩ := below_adds hb; clear hb)
    refine all_add' ?_
    intro Y hY
    have HA2 := Lib.hid (show Blk Y w.heap.size (cdA x y i q A n cap) 24 from hY ▸ HA.out.adds _ _)
    have HB2 := Lib.hid (show Below w.heap.size w Y from hY ▸ Below.adds_ HB.out HB.out.size _ _)
    clear hY HA HB e0 e1 e2 e3 e4 lz CZ hr0
    unfold cdA at CC CI CS CE
    have hst := HA2.out
    have e0 : Y.cell? ⟨w.heap.size, 0, none⟩ = some (.int .i64 x) := hst.get rfl
    have e1 : Y.cell? ⟨w.heap.size, 1, none⟩ = some (.int .i64 y) := hst.get rfl
    have e2 : Y.cell? ⟨w.heap.size, 2, none⟩ = some (.bool i) := hst.get rfl
    have e3 : Y.cell? ⟨w.heap.size, 3, none⟩ = some (.int .i64 q) := hst.get rfl
    have e4 : Y.cell? ⟨w.heap.size, 4, none⟩ = some (.slice A n cap) := hst.get rfl
    have ly := hst.lt
    clear hst
    go_wp2_with fail
    refine (CC.out _ HB2.out).mono ?_
    rintro e W1 ⟨g1, p1, rfl, ho, hg, hb⟩
    have HO := Lib.hid ho
    have HA3 := Lib.hid (HA2.out.below hb ly)
    have HB3 := Lib.hid (HB2.out.trans (hb.mono HB2.out.size))
    clear ho hg hb HA2 HB2 e0 e1 e2 e3 e4 ly
    go_upto_region 6 with (go_at_call 7; refine (CS.out _ _ _ HO.out).mono ?_; rintro e w' ⟨rfl, hb⟩; obtain ⟨o1, n1, rfl⟩ := below_adds hb; clear hb)
    refine all_add' ?_
    intro X hX
    have HA4 := Lib.hid (show Blk X w.heap.size (cdA x y i q A n cap) 24 from hX ▸ HA3.out.adds _ _)
    have HB4 := Lib.hid (show Below w.heap.size w X from hX ▸ Below.adds_ HB3.out HB3.out.size _ _)
    clear hX HA3 HB3 HO CS
    have hst := HA4.out
    have e0 : X.cell? ⟨w.heap.size, 0, none⟩ = some (.int .i64 x) := hst.get rfl
    have e1 : X.cell? ⟨w.heap.size, 1, none⟩ = some (.int .i64 y) := hst.get rfl
    have e2 : X.cell? ⟨w.heap.size, 2, none⟩ = some (.bool i) := hst.get rfl
    have e3 : X.cell? ⟨w.heap.size, 3, none⟩ = some (.int .i64 q) := hst.get rfl
    have e4 : X.cell? ⟨w.heap.size, 4, none⟩ = some (.slice A n cap) := hst.get rfl
    have ly := hst.lt
    clear hst
    go_wp2_with fail
    refine (CC.out _ HB4.out).mono ?_
    rintro e W2 ⟨g2, p2, rfl, ho, hg, hb⟩
    have HO := Lib.hid ho
    have HA5 := Lib.hid (HA4.out.below hb ly)
    have HB5 := Lib.hid (HB4.out.trans (hb.mono HB4.out.size))
    clear ho hg hb HA4 HB4 e0 e1 e2 e3 e4 ly
    go_upto_region 7 with fail
    refine all_add' ?_
    intro V hV
    have hg5 : w.heap.size < W2.heap.size := HA5.out.lt
    have HP := Lib.hid (show (Blk V w.heap.size (cdA x y i q A n cap) 24 ∧ Blk V W2.heap.size (cdA x y i q (some ⟨g2, 0, none⟩) n n) 27) ∧ SSOwn V g2 n n p2 l z from ⟨⟨hV ▸ HA5.out.alloc _, hV ▸ Blk.new _ _ _ _ rfl⟩, hV ▸ HO.out.below (Below.alloc (Below.refl _ _) (Nat.le_refl _) _)⟩)
    have HB6 := Lib.hid (show Below w.heap.size w V from hV ▸ Below.alloc HB5.out HB5.out.size _)
    clear hV HA5 HO HB5
    generalize W2.heap.size = k5 at HP hg5 ⊢
    have hst := HP.out.1.2
    have e0 : V.cell? ⟨k5, 0, none⟩ = some (.int .i64 x) := hst.get rfl
    have e1 : V.cell? ⟨k5, 1, none⟩ = some (.int .i64 y) := hst.get rfl
    have e2 : V.cell? ⟨k5, 2, none⟩ = some (.bool i) := hst.get rfl
    have e3 : V.cell? ⟨k5, 3, none⟩ = some (.int .i64 q) := hst.get rfl
    have e4 : V.cell? ⟨k5, 4, none⟩ = some (.slice (some ⟨g2, 0, none⟩) n n) := hst.get rfl
    have ly := hst.lt
    clear hst
    go_upto_region 10 with (go_at_call 9; refine (CI.out _ _ _ HP.out.2).mono ?_; rintro e w' ⟨rfl, hb⟩; obtain ⟨o1, n1, rfl⟩ := below_adds hb; clear hb)
    refine all_add' ?_
    intro U hU
    have HQ := Lib.hid (show (Blk U w.heap.size (cdA x y i q A n cap) 24 ∧ Blk U k5 (cdA x y i q (some ⟨g2, 0, none⟩) n n) 27) ∧ SSOwn U g2 n n p2 l z ∧ Below w.heap.size w U from ⟨⟨hU ▸ HP.out.1.1.adds _ _, hU ▸ HP.out.1.2.adds _ _⟩, hU ▸ HP.out.2.below (Below.adds_ (Below.refl _ _) (Nat.le_refl _) _ _), hU ▸ Below.adds_ HB6.out HB6.out.size _ _⟩)
    clear hU HP HB6 CI e0 e1 e2 e3 e4 ly
    have lu := HQ.out.1.2.lt
    have lw := HQ.out.1.1.lt
    go_upto_region 10 with fail
    refine wp_region_held_drew (S := (fun w' => Below U.heap.size U w')) (by kernel_rfl) ?_ (fun hHeld => ?_)
    · (first | exact Below.refl _ _ | assumption | exact Below.drew (Below.refl _ _) | exact Below.trans hHeld (hb.mono hHeld.size))
    refine wpAnyH_ready (rs := [0, 1]) (by kernel_rfl) (by simp) ?_
    refine AllReadyH.cons (o := _) rfl (fun K hK => ?_) ?_
    · (try dsimp only [List.getElem_toArray, List.getElem_cons_succ, List.getElem_cons_zero])
      (rw [if_pos (by rfl)]; first | (refine wp_load_row 27 (.tmp 5) (by with_reducible rfl) k5 (by rfl) 27 (cdA x y i q (some ⟨g2, 0, none⟩) n n) (0, 0) _ (HQ.out.1.2.below hHeld lu) Try.underlying27 rfl (infoCoded _ _ _ _ _ _ _) ?_) | (refine wp_load_row 24 (.tmp 1) (by with_reducible rfl) w.heap.size (by rfl) 24 (cdA x y i q A n cap) (0, 0) _ (HQ.out.1.1.below hHeld lw) Try.underlying24 rfl (infoLC _ _ _ _ _ _ _) ?_))
      refine hK.out _ _ ?_ (fun hHeld => ?_)
      · (first | exact Below.refl _ _ | assumption | exact Below.drew (Below.refl _ _) | exact Below.trans hHeld (hb.mono hHeld.size))
      clear hK K
      try simp only [Act.put, List.setIfInBounds_toArray, List.set_cons_zero, List.set_cons_succ]
      refine wpAnyH_ready (rs := [1]) (by kernel_rfl) (by simp) ?_
      refine AllReadyH.cons (o := _) rfl (fun K hK => ?_) ?_
      · (try dsimp only [List.getElem_toArray, List.getElem_cons_succ, List.getElem_cons_zero])
        (rw [if_pos (by rfl)]; first | (refine wp_load_row 27 (.tmp 5) (by with_reducible rfl) k5 (by rfl) 27 (cdA x y i q (some ⟨g2, 0, none⟩) n n) (0, 0) _ (HQ.out.1.2.below hHeld lu) Try.underlying27 rfl (infoCoded _ _ _ _ _ _ _) ?_) | (refine wp_load_row 24 (.tmp 1) (by with_reducible rfl) w.heap.size (by rfl) 24 (cdA x y i q A n cap) (0, 0) _ (HQ.out.1.1.below hHeld lw) Try.underlying24 rfl (infoLC _ _ _ _ _ _ _) ?_))
        refine hK.out _ _ ?_ (fun hHeld => ?_)
        · (first | exact Below.refl _ _ | assumption | exact Below.drew (Below.refl _ _) | exact Below.trans hHeld (hb.mono hHeld.size))
        clear hK K
        try simp only [Act.put, List.setIfInBounds_toArray, List.set_cons_zero, List.set_cons_succ]
        refine wpAnyH_ready (rs := [2]) (by kernel_rfl) (by simp) ?_
        refine AllReadyH.cons (o := _) rfl (fun K hK => ?_) ?_
        · (try dsimp only [List.getElem_toArray, List.getElem_cons_succ, List.getElem_cons_zero]); go_simp
          (first | (go_at_call 8; refine (CC.out _ (HQ.out.2.2.trans (hHeld.mono HQ.out.2.2.size))).mono ?_; rintro e w' ⟨g3, p3, rfl, ho, hg, hb⟩; have HO3 := Lib.hid ho; clear ho hg) | (go_at_call 10; refine (CE.out _ g2 p2 g3 p3 (HQ.out.2.1.below hHeld) HO3.out).mono ?_; rintro e w' ⟨rfl, hb⟩))
          try go_wp2_with fail
          refine hK.out _ _ ?_ (fun hHeld => ?_)
          · (first | exact Below.refl _ _ | assumption | exact Below.drew (Below.refl _ _) | exact Below.trans hHeld (hb.mono hHeld.size))
          clear hK K
          try simp only [Act.put, List.setIfInBounds_toArray, List.set_cons_zero, List.set_cons_succ]
          refine wpAnyH_ready (rs := [3]) (by kernel_rfl) (by simp) ?_
          refine AllReadyH.cons (o := _) rfl (fun K hK => ?_) ?_
          · (try dsimp only [List.getElem_toArray, List.getElem_cons_succ, List.getElem_cons_zero]); go_simp
            (first | (go_at_call 8; refine (CC.out _ (HQ.out.2.2.trans (hHeld.mono HQ.out.2.2.size))).mono ?_; rintro e w' ⟨g3, p3, rfl, ho, hg, hb⟩; have HO3 := Lib.hid ho; clear ho hg) | (go_at_call 10; refine (CE.out _ g2 p2 g3 p3 (HQ.out.2.1.below hHeld) HO3.out).mono ?_; rintro e w' ⟨rfl, hb⟩))
            try go_wp2_with fail
            refine hK.out _ _ ?_ (fun hHeld => ?_)
            · (first | exact Below.refl _ _ | assumption | exact Below.drew (Below.refl _ _) | exact Below.trans hHeld (hb.mono hHeld.size))
            clear hK K
            try simp only [Act.put, List.setIfInBounds_toArray, List.set_cons_zero, List.set_cons_succ]
            refine wpAnyH_take (i := 4) (oi := _) (v := ?_) rfl (by kernel_rfl) (by kernel_rfl) (by kernel_rfl) (fun _ _ _ h => h) (Or.inl ⟨by rfl, ?_⟩) (by assumption) ?_
            rotate_left
            · intro w hSw; (try dsimp only at hSw); go_simp; (try with_reducible rfl)
            try dsimp only [List.getElem_toArray, List.getElem_cons_succ, List.getElem_cons_zero]
            simp only [Act.put, List.setIfInBounds_toArray, List.set_cons_zero, List.set_cons_succ]
            refine wpAnyH_done (by kernel_rfl) ?_ _
            go_wp2_with fail
            go_returns
            exact ⟨rfl, HQ.out.2.2.trans (hHeld.mono HQ.out.2.2.size)⟩
          exact AllReadyH.nil
        exact AllReadyH.nil
      exact AllReadyH.nil
    refine AllReadyH.cons (o := _) rfl (fun K hK => ?_) ?_
    · (try dsimp only [List.getElem_toArray, List.getElem_cons_succ, List.getElem_cons_zero])
      (rw [if_pos (by rfl)]; first | (refine wp_load_row 27 (.tmp 5) (by with_reducible rfl) k5 (by rfl) 27 (cdA x y i q (some ⟨g2, 0, none⟩) n n) (0, 0) _ (HQ.out.1.2.below hHeld lu) Try.underlying27 rfl (infoCoded _ _ _ _ _ _ _) ?_) | (refine wp_load_row 24 (.tmp 1) (by with_reducible rfl) w.heap.size (by rfl) 24 (cdA x y i q A n cap) (0, 0) _ (HQ.out.1.1.below hHeld lw) Try.underlying24 rfl (infoLC _ _ _ _ _ _ _) ?_))
      refine hK.out _ _ ?_ (fun hHeld => ?_)
      · (first | exact Below.refl _ _ | assumption | exact Below.drew (Below.refl _ _) | exact Below.trans hHeld (hb.mono hHeld.size))
      clear hK K
      try simp only [Act.put, List.setIfInBounds_toArray, List.set_cons_zero, List.set_cons_succ]
      refine wpAnyH_ready (rs := [0, 2]) (by kernel_rfl) (by simp) ?_
      refine AllReadyH.cons (o := _) rfl (fun K hK => ?_) ?_
      · (try dsimp only [List.getElem_toArray, List.getElem_cons_succ, List.getElem_cons_zero])
        (rw [if_pos (by rfl)]; first | (refine wp_load_row 27 (.tmp 5) (by with_reducible rfl) k5 (by rfl) 27 (cdA x y i q (some ⟨g2, 0, none⟩) n n) (0, 0) _ (HQ.out.1.2.below hHeld lu) Try.underlying27 rfl (infoCoded _ _ _ _ _ _ _) ?_) | (refine wp_load_row 24 (.tmp 1) (by with_reducible rfl) w.heap.size (by rfl) 24 (cdA x y i q A n cap) (0, 0) _ (HQ.out.1.1.below hHeld lw) Try.underlying24 rfl (infoLC _ _ _ _ _ _ _) ?_))
        refine hK.out _ _ ?_ (fun hHeld => ?_)
        · (first | exact Below.refl _ _ | assumption | exact Below.drew (Below.refl _ _) | exact Below.trans hHeld (hb.mono hHeld.size))
        clear hK K
        try simp only [Act.put, List.setIfInBounds_toArray, List.set_cons_zero, List.set_cons_succ]
        refine wpAnyH_ready (rs := [2]) (by kernel_rfl) (by simp) ?_
        refine AllReadyH.cons (o := _) rfl (fun K hK => ?_) ?_
        · (try dsimp only [List.getElem_toArray, List.getElem_cons_succ, List.getElem_cons_zero]); go_simp
          (first | (go_at_call 8; refine (CC.out _ (HQ.out.2.2.trans (hHeld.mono HQ.out.2.2.size))).mono ?_; rintro e w' ⟨g3, p3, rfl, ho, hg, hb⟩; have HO3 := Lib.hid ho; clear ho hg) | (go_at_call 10; refine (CE.out _ g2 p2 g3 p3 (HQ.out.2.1.below hHeld) HO3.out).mono ?_; rintro e w' ⟨rfl, hb⟩))
          try go_wp2_with fail
          refine hK.out _ _ ?_ (fun hHeld => ?_)
          · (first | exact Below.refl _ _ | assumption | exact Below.drew (Below.refl _ _) | exact Below.trans hHeld (hb.mono hHeld.size))
          clear hK K
          try simp only [Act.put, List.setIfInBounds_toArray, List.set_cons_zero, List.set_cons_succ]
          refine wpAnyH_ready (rs := [3]) (by kernel_rfl) (by simp) ?_
          refine AllReadyH.cons (o := _) rfl (fun K hK => ?_) ?_
          · (try dsimp only [List.getElem_toArray, List.getElem_cons_succ, List.getElem_cons_zero]); go_simp
            (first | (go_at_call 8; refine (CC.out _ (HQ.out.2.2.trans (hHeld.mono HQ.out.2.2.size))).mono ?_; rintro e w' ⟨g3, p3, rfl, ho, hg, hb⟩; have HO3 := Lib.hid ho; clear ho hg) | (go_at_call 10; refine (CE.out _ g2 p2 g3 p3 (HQ.out.2.1.below hHeld) HO3.out).mono ?_; rintro e w' ⟨rfl, hb⟩))
            try go_wp2_with fail
            refine hK.out _ _ ?_ (fun hHeld => ?_)
            · (first | exact Below.refl _ _ | assumption | exact Below.drew (Below.refl _ _) | exact Below.trans hHeld (hb.mono hHeld.size))
            clear hK K
            try simp only [Act.put, List.setIfInBounds_toArray, List.set_cons_zero, List.set_cons_succ]
            refine wpAnyH_take (i := 4) (oi := _) (v := ?_) rfl (by kernel_rfl) (by kernel_rfl) (by kernel_rfl) (fun _ _ _ h => h) (Or.inl ⟨by rfl, ?_⟩) (by assumption) ?_
            rotate_left
            · intro w hSw; (try dsimp only at hSw); go_simp; (try with_reducible rfl)
            try dsimp only [List.getElem_toArray, List.getElem_cons_succ, List.getElem_cons_zero]
            simp only [Act.put, List.setIfInBounds_toArray, List.set_cons_zero, List.set_cons_succ]
            refine wpAnyH_done (by kernel_rfl) ?_ _
            go_wp2_with fail
            go_returns
            exact ⟨rfl, HQ.out.2.2.trans (hHeld.mono HQ.out.2.2.size)⟩
          exact AllReadyH.nil
        exact AllReadyH.nil
      refine AllReadyH.cons (o := _) rfl (fun K hK => ?_) ?_
      · (try dsimp only [List.getElem_toArray, List.getElem_cons_succ, List.getElem_cons_zero]); go_simp
        (first | (go_at_call 8; refine (CC.out _ (HQ.out.2.2.trans (hHeld.mono HQ.out.2.2.size))).mono ?_; rintro e w' ⟨g3, p3, rfl, ho, hg, hb⟩; have HO3 := Lib.hid ho; clear ho hg) | (go_at_call 10; refine (CE.out _ g2 p2 g3 p3 (HQ.out.2.1.below hHeld) HO3.out).mono ?_; rintro e w' ⟨rfl, hb⟩))
        try go_wp2_with fail
        refine hK.out _ _ ?_ (fun hHeld => ?_)
        · (first | exact Below.refl _ _ | assumption | exact Below.drew (Below.refl _ _) | exact Below.trans hHeld (hb.mono hHeld.size))
        clear hK K
        try simp only [Act.put, List.setIfInBounds_toArray, List.set_cons_zero, List.set_cons_succ]
        refine wpAnyH_ready (rs := [0]) (by kernel_rfl) (by simp) ?_
        refine AllReadyH.cons (o := _) rfl (fun K hK => ?_) ?_
        · (try dsimp only [List.getElem_toArray, List.getElem_cons_succ, List.getElem_cons_zero])
          (rw [if_pos (by rfl)]; first | (refine wp_load_row 27 (.tmp 5) (by with_reducible rfl) k5 (by rfl) 27 (cdA x y i q (some ⟨g2, 0, none⟩) n n) (0, 0) _ (HQ.out.1.2.below hHeld lu) Try.underlying27 rfl (infoCoded _ _ _ _ _ _ _) ?_) | (refine wp_load_row 24 (.tmp 1) (by with_reducible rfl) w.heap.size (by rfl) 24 (cdA x y i q A n cap) (0, 0) _ (HQ.out.1.1.below hHeld lw) Try.underlying24 rfl (infoLC _ _ _ _ _ _ _) ?_))
          refine hK.out _ _ ?_ (fun hHeld => ?_)
          · (first | exact Below.refl _ _ | assumption | exact Below.drew (Below.refl _ _) | exact Below.trans hHeld (hb.mono hHeld.size))
          clear hK K
          try simp only [Act.put, List.setIfInBounds_toArray, List.set_cons_zero, List.set_cons_succ]
          refine wpAnyH_ready (rs := [3]) (by kernel_rfl) (by simp) ?_
          refine AllReadyH.cons (o := _) rfl (fun K hK => ?_) ?_
          · (try dsimp only [List.getElem_toArray, List.getElem_cons_succ, List.getElem_cons_zero]); go_simp
            (first | (go_at_call 8; refine (CC.out _ (HQ.out.2.2.trans (hHeld.mono HQ.out.2.2.size))).mono ?_; rintro e w' ⟨g3, p3, rfl, ho, hg, hb⟩; have HO3 := Lib.hid ho; clear ho hg) | (go_at_call 10; refine (CE.out _ g2 p2 g3 p3 (HQ.out.2.1.below hHeld) HO3.out).mono ?_; rintro e w' ⟨rfl, hb⟩))
            try go_wp2_with fail
            refine hK.out _ _ ?_ (fun hHeld => ?_)
            · (first | exact Below.refl _ _ | assumption | exact Below.drew (Below.refl _ _) | exact Below.trans hHeld (hb.mono hHeld.size))
            clear hK K
            try simp only [Act.put, List.setIfInBounds_toArray, List.set_cons_zero, List.set_cons_succ]
            refine wpAnyH_take (i := 4) (oi := _) (v := ?_) rfl (by kernel_rfl) (by kernel_rfl) (by kernel_rfl) (fun _ _ _ h => h) (Or.inl ⟨by rfl, ?_⟩) (by assumption) ?_
            rotate_left
            · intro w hSw; (try dsimp only at hSw); go_simp; (try with_reducible rfl)
            try dsimp only [List.getElem_toArray, List.getElem_cons_succ, List.getElem_cons_zero]
            simp only [Act.put, List.setIfInBounds_toArray, List.set_cons_zero, List.set_cons_succ]
            refine wpAnyH_done (by kernel_rfl) ?_ _
            go_wp2_with fail
            go_returns
            exact ⟨rfl, HQ.out.2.2.trans (hHeld.mono HQ.out.2.2.size)⟩
          exact AllReadyH.nil
        exact AllReadyH.nil
      exact AllReadyH.nil
    exact AllReadyH.nil

set_option maxRecDepth 100000 in
theorem lifted (os : Os) (started : os.Started) (H : Type) (enc : TypeId × Value → H) :
    ReturnsInHanded {} Try.checked os 3 .any (Rows.fnExactCodedSizeSpec.pre6 enc Try.prog Try.f3 Rows.fnExactCodedSizeRow.domain false) (Rows.fnExactCodedSizeSpec.post enc Try.prog Try.f3 false true false false) := by
  refine returnsInHanded_of_change (C := Try.checked) own started (by kernel_rfl) Try.func3
    (ChangeSpec.witness6 (enc := enc) (C := Try.checked) false ⟨#[], #[.agg #[.int .i64 0, .int .i64 0, .bool false, .int .i64 0, .slice none 0 0]], []⟩ 8 (by kernel_rfl) (by kernel_rfl) (by kernel_rfl) (by kernel_rfl)) ?_
  intro W base args ds gs before hval0 hW hcnd _
  have hval : ∀ (j : Nat) t v, Try.f3.params[j]? = some t → args[j]? = some v → Value.okWide Try.prog W .any base t v := hval0
  have hW' := hW
  obtain ⟨p, q, hA0, hV, rfl, hfz, hnd⟩ := hW
  have hA : DataW.TrodAll enc Try.prog W 0 (fun _ => true) true Try.f3.params.toList args.toList ds p := hA0
  rw [Try.params3] at hA hval
  obtain ⟨v0, vs0, d0, ds0, p0, q0, hargs, rfl, rfl, h0, r0⟩ := trodAll_cons hA
  obtain ⟨rfl, rfl, rfl⟩ := trodAll_nil r0
  obtain rfl : args = #[v0] := by cases args; simp_all
  obtain ⟨rfl, rfl⟩ := trodVars_none hV
  have k0 := h0
  have lt0 : ∀ x ∈ p0, x.block < W.heap.size := by obtain ⟨m, hm⟩ := k0; exact DataW.trod_lt m _ _ _ hm
  obtain ⟨cs0, m0, rfl, hsz0, hfs0⟩ := open_fields Try.underlying24 (by kernel_rfl) (by kernel_rfl) (hval 0 24 v0 rfl rfl) h0
  obtain ⟨c00, c01, c02, c03, c04, rfl⟩ := arr5 cs0 hsz0
  obtain ⟨y00, hy00⟩ := hfs0 0 _ _ rfl rfl
  obtain ⟨y01, hy01⟩ := hfs0 1 _ _ rfl rfl
  obtain ⟨y02, hy02⟩ := hfs0 2 _ _ rfl rfl
  obtain ⟨y03, hy03⟩ := hfs0 3 _ _ rfl rfl
  obtain ⟨y04, hy04⟩ := hfs0 4 _ _ rfl rfl
  obtain ⟨x, e_x, -, -⟩ := DataW.trod_int Try.underlying3 hy00
  simp only [List.cons.injEq, and_true] at e_x
  subst e_x
  obtain ⟨y, e_y, -, -⟩ := DataW.trod_int Try.underlying3 hy01
  simp only [List.cons.injEq, and_true] at e_y
  subst e_y
  obtain ⟨i, e_i, -⟩ := DataW.trod_bool Try.underlying4 hy02
  simp only [List.cons.injEq, and_true] at e_i
  subst e_i
  obtain ⟨q, e_q, -, -⟩ := DataW.trod_int Try.underlying3 hy03
  simp only [List.cons.injEq, and_true] at e_q
  subst e_q
  obtain ⟨A, n, cap, a, l, c, z, e_s, hss0, hn0⟩ := open_ss hy04
  subst e_s
  clear hA0 hval0
  refine (walk x y i q A n cap a l c z W hss0 hn0).mono fun e W' ⟨he, bel⟩ => ?_
  subst he
  exact ⟨_, rfl, _, _, _, [], _, [], hW', trodAll_mk1 (shut_bool Try.underlying4 _), (trodAll_cons_mk (Below.trod laidOut (by kernel_rfl) (of_decide_eq_true (by kernel_rfl)) k0 bel lt0) trodAll_mk0), rfl, bel.frame _, fun h => by cases h⟩

theorem over : Rows.fnExactCodedSizeRow.holds Try.pinned (OpenSpec.ofChange Rows.fnExactCodedSizeSpec) :=
  OpenClaim.holds_of_wide 3 Try.f3 rfl rfl rfl rfl rfl rfl rfl ⟨rfl, rfl, rfl, rfl, rfl⟩ rfl rfl rfl rfl rfl (by kernel_rfl) Try.func3 (by kernel_rfl)
    (of_decide_eq_true (by kernel_rfl)) (by unfold Func.isWrapper; first | (rw [if_pos (by decide +kernel)]; kernel_rfl) | (rw [if_neg (by decide +kernel)]; exact ⟨rfl, rfl⟩))
    (fun os started H enc _ => lifted os started H enc)

theorem proved : Rows.FnExactCodedSizeSaid := over
#print axioms proved
end Go.Proofs.Ytbnccnngcgbklaa.fnExactCodedSize
