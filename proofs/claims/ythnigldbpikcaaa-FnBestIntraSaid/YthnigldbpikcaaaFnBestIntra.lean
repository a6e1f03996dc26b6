/- PROVED: the law laws.FnBestIntra returns true for every input: BestIntra answers as the reference does, no mode costs less than the best, and modes before it cost more; no conditions. -/
import Derived.Test.YthnigldbpikcaaaRows
import Derived.Test.YthnigldbpikcaaaBestS
import Derived.Test.YthnigldbpikcaaaDrawU
import Derived.WalkKit
import Derived.ProofKit
import Derived.OpenShut
import Derived.ShutString
import Derived.ChangeOld
import Derived.Below
import Derived.Lib.SmallJoins
namespace Go.Proofs.Ythnigldbpikcaaa.fnBestIntra
open Go.ChangeShapes Go.WideShapes Go.ChangeAt Go.RowKit
open Go.ChangeMaps (open_string shut_string)
set_option linter.unusedVariables false
set_option linter.unusedSimpArgs false

theorem own : ownKnob Try.prog.godebug = none := by kernel_rfl
theorem laidOut : laidOutB Try.prog = true := by kernel_rfl

attribute [local go_sem] size_addsW cell?_addsW frozen?_addsW setCell_addsW drew_addsW adds_addsW setCell_twice alloc_adds0 size_adds0 adds_adds0 sel2 sel3 sel4 sel5 sel6 sel7 sel8 sel9 lt_more lt_more2 lt_more3 lt_more4 adds_drew adds_drewN drewN_addsW ltA_1_1 ltA_1_2 ltA_1_3 ltA_1_4 ltA_1_5 ltA_1_6 ltA_2_1 ltA_2_2 ltA_2_3 ltA_2_4 ltA_2_5 ltA_2_6 ltA_3_1 ltA_3_2 ltA_3_3 ltA_3_4 ltA_3_5 ltA_3_6 ltA_4_1 ltA_4_2 ltA_4_3 ltA_4_4 ltA_4_5 ltA_4_6 ltA_5_1 ltA_5_2 ltA_5_3 ltA_5_4 ltA_5_5 ltA_5_6 ltA_6_1 ltA_6_2 ltA_6_3 ltA_6_4 ltA_6_5 ltA_6_6 ltA_7_1 ltA_7_2 ltA_7_3 ltA_7_4 ltA_7_5 ltA_7_6 ltA_8_1 ltA_8_2 ltA_8_3 ltA_8_4 ltA_8_5 ltA_8_6 ltA_9_1 ltA_9_2 ltA_9_3 ltA_9_4 ltA_9_5 ltA_9_6 ltA_10_1 ltA_10_2 ltA_10_3 ltA_10_4 ltA_10_5 ltA_10_6 ltA_11_1 ltA_11_2 ltA_11_3 ltA_11_4 ltA_11_5 ltA_11_6 ltA_12_1 ltA_12_2 ltA_12_3 ltA_12_4 ltA_12_5 ltA_12_6
def PB (k3 k4 : Nat) (xs : List Int) (f g : Nat → Int) (c : Int) (u l : Bool) (W : World) : Prop :=
  Blk W k3 (rowI xs) 28 ∧ Blk W k4 (eA f g c u l) 25
theorem PB.adds {k3 k4 : Nat} {xs : List Int} {f g : Nat → Int} {c : Int} {u l : Bool} {W : World} (h : PB k3 k4 xs f g c u l W) (os : Array Obj) (n : Nat) : PB k3 k4 xs f g c u l (addsW W os n) := ⟨h.1.adds os n, h.2.adds os n⟩
theorem PB.below {k3 k4 : Nat} {xs : List Int} {f g : Nat → Int} {c : Int} {u l : Bool} {W W' : World} (h : PB k3 k4 xs f g c u l W) (hb : Below W.heap.size W W') : PB k3 k4 xs f g c u l W' := ⟨h.1.below hb h.1.lt, h.2.below hb h.2.lt⟩
theorem best_no {xs : List Int} {f g : Nat → Int} {c : Int} {u l : Bool} (h : ¬ (M.samplesB xs = true ∧ evB f g c = true)) : biV xs f g c u l = -1 := by unfold biV; rw [if_neg h]
theorem best_ok {xs : List Int} {f g : Nat → Int} {c : Int} {u l : Bool} (h : M.samplesB xs = true ∧ evB f g c = true) : biV xs f g c u l = (bsG (0, 0) (coV xs f g c u l) 5).1 := by unfold biV; rw [if_pos h]
theorem prL_pL {m : Nat} {f g : Nat → Int} {c : Int} {u l : Bool} (hm : m ≤ 4) (h : evB f g c = true) : prL (m : Int) f g c u l = pL m f g c u l := by
  rw [prL, if_pos ⟨by omega, by omega, h⟩, Int.toNat_natCast]

set_option maxHeartbeats 4000000 in
set_option maxRecDepth 100000 in
theorem walk (a_cs : Option Addr) (len_cs cap_cs : Nat) (cs : List Int) (w : World) (w_cs : IsRow .u8 w a_cs len_cs cap_cs cs) :
    Calls Try.prog 6 #[.slice a_cs len_cs cap_cs] w fun e w' => e = .returned (.bool true) ∧ Below w.heap.size w w' := by
  have hlm := (RowAt.of_row w_cs).2.2.1
  unfold maxLen at hlm
  have HI := Lib.hid w_cs
  clear w_cs
  by_cases hbig : 1048576 < len_cs
  · go_enter Try.func6, Try.ntmps6
    go_wp2
    go_returns
    exact ⟨rfl, (by repeat' (first | (with_reducible exact Below.refl _ _) | (with_reducible refine Below.adds_ ?_ ?_ _ _) | (with_reducible refine Below.alloc ?_ ?_ _) | (with_reducible refine Below.drew ?_) | (with_reducible refine Below.setCell ?_ ?_ _) | (with_reducible assumption) | go_size | (simp only [size_addsW, World.size_alloc, World.size_drew, World.size_setCell]; omega)))⟩
  · go_enter Try.func6, Try.ntmps6
    go_upto_region 4 with (first
      | (go_at_call 16; refine (S_DrawBestIntra _ _ _ cs _ (IsRow.keep HI.out (by repeat' (first | (with_reducible exact Below.refl _ _) | (with_reducible refine Below.adds_ ?_ ?_ _ _) | (with_reducible refine Below.alloc ?_ ?_ _) | (with_reducible refine Below.drew ?_) | (with_reducible refine Below.setCell ?_ ?_ _) | (with_reducible assumption) | go_size | (simp only [size_addsW, World.size_alloc, World.size_drew, World.size_setCell]; omega))))).mono ?_; rintro e w1 ⟨xs, f, g, c, u, l, rfl, hx, hb⟩; have HB := Lib.hid hb; have HX := Lib.hid hx; clear hb hx)
      | (focus ((with_reducible refine wpList_wanted ?_ (fun K hK => ?_)); rotate_left; (refine wp_store_row 28 (.tmp 3) (.tmp 15) ?ho w1.heap.size (rowI xs) ?hx ?hy 28 (rowI z16) ?hg (by rw [rowI_size, HX.out]; exact infoA16) (by rw [rowI_size, rowI_size, HX.out]; rfl) (rowI_one xs) (hK _ _ ?_)); (case ho => with_reducible rfl); (case hx => rfl); (case hy => rfl); (case hg => exact (Blk.new _ _ _ _ rfl).alloc _); (try simp only [Act.put, List.setIfInBounds_toArray, List.set_cons_zero, List.set_cons_succ]); rotate_left; rfl))
      | (focus ((with_reducible refine wpList_wanted ?_ (fun K hK => ?_)); rotate_left; (refine wp_store_row 25 (.tmp 4) (.tmp 16) ?ho (w1.heap.size + 1) (eA f g c u l) ?hx ?hy 25 e0 ?hg (infoEd f g c u l) rfl (eA_one f g c u l) (hK _ _ ?_)); (case ho => with_reducible rfl); (case hx => rfl); (case hy => rfl); (case hg => exact (setRow_other _ _ _ _ (by omega)).trans (Blk.new _ _ _ _ (by simp))); (try simp only [Act.put, List.setIfInBounds_toArray, List.set_cons_zero, List.set_cons_succ]); rotate_left; rfl)))
    refine all_add' ?_
    intro Y hY
    have hY3 : Blk Y w1.heap.size (rowI xs) 28 := by rw [hY]; exact (setRow_other _ _ _ _ (by omega)).trans (Blk.row ((Blk.new _ _ _ _ rfl).alloc _) _)
    have hY4 : Blk Y (w1.heap.size + 1) (eA f g c u l) 25 := by rw [hY]; exact Blk.row (cs := e0) ((setRow_other _ _ _ _ (by omega)).trans (Blk.new _ _ _ _ (by simp))) _
    have hq1 : Below w.heap.size w ((w1.alloc (.cells (rowI z16) 28)).alloc (.cells e0 25)) := Below.alloc (Below.alloc HB.out HB.out.size _) (Below.alloc HB.out HB.out.size (.cells (rowI z16) 28)).size _
    have hq2 := below_row hq1 hq1.size HB.out.size (rowI xs)
    have hYb : Below w.heap.size w Y := by rw [hY]; exact below_row hq2 hq2.size (show w.heap.size ≤ w1.heap.size + 1 by have := HB.out.size; omega) (eA f g c u l)
    clear hY hq1 hq2 HB HI hlm hbig
    generalize w1.heap.size + 1 = k4 at hY4 ⊢
    generalize w1.heap.size = k3 at hY3 ⊢
    have HP := Lib.hid (show PB k3 k4 xs f g c u l Y from ⟨hY3, hY4⟩)
    have HB := Lib.hid hYb
    have l3 := hY3.lt
    have l4 := hY4.lt
    obtain ⟨n, hn⟩ : ∃ n, n = biV xs f g c u l := ⟨_, rfl⟩
    have CI := Lib.hid (show ∀ W, Calls Try.prog 15 #[.agg (rowI xs), .agg (eA f g c u l)] W fun e w' => e = .returned (.int .i64 n) ∧ Below W.heap.size W w' from fun W => by rw [hn]; exact I_BestIntra xs f g c u l W HX.out)
    have CS := Lib.hid (show ∀ W, Calls Try.prog 12 #[.agg (rowI xs), .agg (eA f g c u l)] W fun e w' => e = .returned (.int .i64 n) ∧ Below W.heap.size W w' from fun W => by rw [hn]; exact S_BestIntra xs f g c u l W HX.out)
    have e0 : Y.cell? ⟨k4, 0, none⟩ = some (.int .i64 (f 0)) := hY4.get rfl
    have e1 : Y.cell? ⟨k4, 1, none⟩ = some (.int .i64 (f 1)) := hY4.get rfl
    have e2 : Y.cell? ⟨k4, 2, none⟩ = some (.int .i64 (f 2)) := hY4.get rfl
    have e3 : Y.cell? ⟨k4, 3, none⟩ = some (.int .i64 (f 3)) := hY4.get rfl
    have e4 : Y.cell? ⟨k4, 4, none⟩ = some (.int .i64 (g 0)) := hY4.get rfl
    have e5 : Y.cell? ⟨k4, 5, none⟩ = some (.int .i64 (g 1)) := hY4.get rfl
    have e6 : Y.cell? ⟨k4, 6, none⟩ = some (.int .i64 (g 2)) := hY4.get rfl
    have e7 : Y.cell? ⟨k4, 7, none⟩ = some (.int .i64 (g 3)) := hY4.get rfl
    have e8 : Y.cell? ⟨k4, 8, none⟩ = some (.int .i64 c) := hY4.get rfl
    have e9 : Y.cell? ⟨k4, 9, none⟩ = some (.bool u) := hY4.get rfl
    have e10 : Y.cell? ⟨k4, 10, none⟩ = some (.bool l) := hY4.get rfl
    have HN := Lib.hid hn
    clear hY3 hY4 hYb hn
    unfold eA at CI CS
    go_upto_region 5 with (first | (focus ((with_reducible refine wpList_wanted ?_ (fun K hK => ?_)); rotate_left; (refine wp_load_sub 28 (.tmp 3) ?ho k3 0 16 ?hx 28 xs (0, 0) _ ?hg Try.underlying28 rfl infoA16 ?hs (hK _ _ ?_)); (case ho => with_reducible rfl); (case hx => rfl); (case hg => exact HP.out.1); (case hs => rw [HX.out]; exact Nat.le_refl _); rw [show sub xs 0 16 = xs by rw [← HX.out]; exact sub_all xs]; rotate_left; rfl)) | (go_at_call 15; refine (CI.out _).mono ?_; rintro e w' ⟨rfl, hb⟩; obtain ⟨o1, n1, rfl⟩ := below_adds hb; clear hb))
    refine all_add' ?_
    intro Z hZ
    have HP2 := Lib.hid (show PB k3 k4 xs f g c u l Z from hZ ▸ HP.out.adds _ _)
    have HB2 := Lib.hid (show Below w.heap.size w Z from hZ ▸ Below.adds_ HB.out HB.out.size _ _)
    clear hZ HP HB CI e0 e1 e2 e3 e4 e5 e6 e7 e8 e9 e10 l3 l4
    have HP := HP2
    have HB := HB2
    clear HP2 HB2
    have hst := HP.out
    have l3 := hst.1.lt
    have l4 := hst.2.lt
    have e0 : Z.cell? ⟨k4, 0, none⟩ = some (.int .i64 (f 0)) := hst.2.get rfl
    have e1 : Z.cell? ⟨k4, 1, none⟩ = some (.int .i64 (f 1)) := hst.2.get rfl
    have e2 : Z.cell? ⟨k4, 2, none⟩ = some (.int .i64 (f 2)) := hst.2.get rfl
    have e3 : Z.cell? ⟨k4, 3, none⟩ = some (.int .i64 (f 3)) := hst.2.get rfl
    have e4 : Z.cell? ⟨k4, 4, none⟩ = some (.int .i64 (g 0)) := hst.2.get rfl
    have e5 : Z.cell? ⟨k4, 5, none⟩ = some (.int .i64 (g 1)) := hst.2.get rfl
    have e6 : Z.cell? ⟨k4, 6, none⟩ = some (.int .i64 (g 2)) := hst.2.get rfl
    have e7 : Z.cell? ⟨k4, 7, none⟩ = some (.int .i64 (g 3)) := hst.2.get rfl
    have e8 : Z.cell? ⟨k4, 8, none⟩ = some (.int .i64 c) := hst.2.get rfl
    have e9 : Z.cell? ⟨k4, 9, none⟩ = some (.bool u) := hst.2.get rfl
    have e10 : Z.cell? ⟨k4, 10, none⟩ = some (.bool l) := hst.2.get rfl
    clear hst
    go_upto_region 7 with (first | (focus ((with_reducible refine wpList_wanted ?_ (fun K hK => ?_)); rotate_left; (refine wp_load_sub 28 (.tmp 3) ?ho k3 0 16 ?hx 28 xs (0, 0) _ ?hg Try.underlying28 rfl infoA16 ?hs (hK _ _ ?_)); (case ho => with_reducible rfl); (case hx => rfl); (case hg => exact HP.out.1); (case hs => rw [HX.out]; exact Nat.le_refl _); rw [show sub xs 0 16 = xs by rw [← HX.out]; exact sub_all xs]; rotate_left; rfl)) | (go_at_call 12; refine (CS.out _).mono ?_; rintro e w' ⟨rfl, hb⟩; obtain ⟨o1, n1, rfl⟩ := below_adds hb; clear hb))
    refine all_add' ?_
    intro X hX
    have HP2 := Lib.hid (show PB k3 k4 xs f g c u l X from hX ▸ HP.out.adds _ _)
    have HB2 := Lib.hid (show Below w.heap.size w X from hX ▸ Below.adds_ HB.out HB.out.size _ _)
    clear hX HP HB CS e0 e1 e2 e3 e4 e5 e6 e7 e8 e9 e10 l3 l4
    have HP := HP2
    have HB := HB2
    clear HP2 HB2
    by_cases hok : M.samplesB xs = true ∧ evB f g c = true
    · obtain ⟨C, hC⟩ : ∃ C, C = coV xs f g c u l := ⟨_, rfl⟩
      have hn5 : n = (bsG (0, 0) C 5).1 := by rw [HN.out, hC]; exact best_ok hok
      have hin := bsG_in (0, 0) C 4
      have hval := bsG_val (0, 0) C 4
      have hmin := bsG_min (0, 0) C 4
      rw [← hn5] at hin hval hmin
      obtain ⟨L, hL⟩ : ∃ L, L = C n.toNat := ⟨_, rfl⟩
      rw [hval, ← hL] at hmin
      have CPr := Lib.hid (show ∀ k, k ≤ 4 → ∀ W, Calls Try.prog 8 #[.int .i64 ((k : Nat) : Int), .agg (eA f g c u l)] W fun e w' => e = .returned (.agg (rowI (pL k f g c u l))) ∧ Below W.heap.size W w' from fun k hk W => by rw [← prL_pL hk hok.2]; exact I_PredictIntra k f g c u l W)
      have CTr := Lib.hid (show ∀ k W, Calls Try.prog 17 #[.agg (rowI xs), .agg (rowI (pL k f g c u l))] W fun e w' => e = .returned (.int .i64 (C k)) ∧ Below W.heap.size W w' from fun k W => by rw [hC, coV]; exact I_TransformCost xs _ W HX.out (pL_len _ _ _ _ _ _))
      have HMIN := Lib.hid hmin
      clear HN
      obtain ⟨nn, hnn⟩ : ∃ nn : Nat, n = (nn : Int) := ⟨n.toNat, by omega⟩
      subst hnn
      have HLL := Lib.hid (show C nn = L by rw [hL, Int.toNat_natCast])
      clear hok hn5 hval hmin hL hC
      have d1 : decide ((nn : Int) < 0) = false := by simp
      go_upto_region 9 with fail
      have lx := HP.out.2.lt
      go_cut [6] (fun s wx => s = .int .i64 L ∧ Below X.heap.size X wx)
      case first =>
        obtain ⟨ys, hys⟩ : ∃ ys, ys = pL nn f g c u l := ⟨_, rfl⟩
        have CP := Lib.hid (CPr.out nn (by omega))
        have CT := Lib.hid (CTr.out nn)
        rw [HLL.out] at CT
        rw [← hys] at CP CT
        clear hys CPr CTr
        unfold eA at CP
        refine wp_region_held_drew (S := (fun w' => PB k3 k4 xs f g c u l w')) (by kernel_rfl) ?_ (fun hHeld => ?_)
        · (first | exact HP.out | assumption | exact PB.adds (by assumption) _ _)
        refine wpAnyH_take (i := 1) (oi := _) (v := ?_) rfl (by kernel_rfl) (by kernel_rfl) (by kernel_rfl) (fun _ _ _ h => h) (Or.inl ⟨by rfl, ?_⟩) (by assumption) ?_
        rotate_left
        · intro w hSw; (try dsimp only at hSw); go_simp; (try with_reducible rfl)
        try dsimp only [List.getElem_toArray, List.getElem_cons_succ, List.getElem_cons_zero]
        simp only [Act.put, List.setIfInBounds_toArray, List.set_cons_zero, List.set_cons_succ]
        refine wpAnyH_ready (rs := [0, 2]) (by kernel_rfl) (by simp) ?_
        refine AllReadyH.cons (o := _) rfl (fun K hK => ?_) ?_
        · (try dsimp only [List.getElem_toArray, List.getElem_cons_succ, List.getElem_cons_zero])
          (rw [if_pos (by rfl)]; first | (refine wp_load_row 25 (.tmp 4) (by with_reducible rfl) k4 (by rfl) 25 (eA f g c u l) (0, 0) _ hHeld.2 Try.underlying25 rfl (infoEd f g c u l) ?_) | (refine wp_load_row 28 (.tmp 3) (by with_reducible rfl) k3 (by rfl) 28 (rowI xs) (0, 0) _ hHeld.1 Try.underlying28 rfl (by rw [rowI_size, HX.out]; exact infoA16) ?_))
          refine hK.out _ _ ?_ (fun hHeld => ?_)
          · (first | exact HP.out | assumption | exact PB.adds (by assumption) _ _)
          clear hK K
          try simp only [Act.put, List.setIfInBounds_toArray, List.set_cons_zero, List.set_cons_succ]
          refine wpAnyH_ready (rs := [2]) (by kernel_rfl) (by simp) ?_
          refine AllReadyH.cons (o := _) rfl (fun K hK => ?_) ?_
          · (try dsimp only [List.getElem_toArray, List.getElem_cons_succ, List.getElem_cons_zero])
            (rw [if_pos (by rfl)]; first | (refine wp_load_row 25 (.tmp 4) (by with_reducible rfl) k4 (by rfl) 25 (eA f g c u l) (0, 0) _ hHeld.2 Try.underlying25 rfl (infoEd f g c u l) ?_) | (refine wp_load_row 28 (.tmp 3) (by with_reducible rfl) k3 (by rfl) 28 (rowI xs) (0, 0) _ hHeld.1 Try.underlying28 rfl (by rw [rowI_size, HX.out]; exact infoA16) ?_))
            refine hK.out _ _ ?_ (fun hHeld => ?_)
            · (first | exact HP.out | assumption | exact PB.adds (by assumption) _ _)
            clear hK K
            try simp only [Act.put, List.setIfInBounds_toArray, List.set_cons_zero, List.set_cons_succ]
            refine wpAnyH_ready (rs := [3]) (by kernel_rfl) (by simp) ?_
            refine AllReadyH.cons (o := _) rfl (fun K hK => ?_) ?_
            · (try dsimp only [List.getElem_toArray, List.getElem_cons_succ, List.getElem_cons_zero]); go_simp
              (first | (go_at_call 8; refine (CP.out _).mono ?_; rintro e w' ⟨rfl, hb⟩; obtain ⟨o2, n2, rfl⟩ := below_adds hb; clear hb) | (go_at_call 17; refine (CT.out _).mono ?_; rintro e w' ⟨rfl, hb⟩; obtain ⟨o2, n2, rfl⟩ := below_adds hb; clear hb))
              try go_wp2_with fail
              refine hK.out _ _ ?_ (fun hHeld => ?_)
              · (first | exact HP.out | assumption | exact PB.adds (by assumption) _ _)
              clear hK K
              try simp only [Act.put, List.setIfInBounds_toArray, List.set_cons_zero, List.set_cons_succ]
              refine wpAnyH_ready (rs := [4]) (by kernel_rfl) (by simp) ?_
              refine AllReadyH.cons (o := _) rfl (fun K hK => ?_) ?_
              · (try dsimp only [List.getElem_toArray, List.getElem_cons_succ, List.getElem_cons_zero]); go_simp
                (first | (go_at_call 8; refine (CP.out _).mono ?_; rintro e w' ⟨rfl, hb⟩; obtain ⟨o2, n2, rfl⟩ := below_adds hb; clear hb) | (go_at_call 17; refine (CT.out _).mono ?_; rintro e w' ⟨rfl, hb⟩; obtain ⟨o2, n2, rfl⟩ := below_adds hb; clear hb))
                try go_wp2_with fail
                refine hK.out _ _ ?_ (fun hHeld => ?_)
                · (first | exact HP.out | assumption | exact PB.adds (by assumption) _ _)
                clear hK K
                try simp only [Act.put, List.setIfInBounds_toArray, List.set_cons_zero, List.set_cons_succ]
                refine wpAnyH_take (i := 5) (oi := _) (v := ?_) rfl (by kernel_rfl) (by kernel_rfl) (by kernel_rfl) (fun _ _ _ h => h) (Or.inl ⟨by rfl, ?_⟩) (by assumption) ?_
                rotate_left
                · intro w hSw; (try dsimp only at hSw); go_simp; (try with_reducible rfl)
                try dsimp only [List.getElem_toArray, List.getElem_cons_succ, List.getElem_cons_zero]
                simp only [Act.put, List.setIfInBounds_toArray, List.set_cons_zero, List.set_cons_succ]
                refine wpAnyH_done (by kernel_rfl) ?_ _
                go_wp2_with fail
                go_meet
                exact ⟨rfl, (by repeat' (first | (with_reducible exact Below.refl _ _) | (with_reducible refine Below.adds_ ?_ ?_ _ _) | (with_reducible refine Below.alloc ?_ ?_ _) | (with_reducible refine Below.drew ?_) | (with_reducible refine Below.setCell ?_ ?_ _) | (with_reducible assumption) | go_size | (simp only [size_addsW, World.size_alloc, World.size_drew, World.size_setCell]; omega)))⟩
              exact AllReadyH.nil
            exact AllReadyH.nil
          exact AllReadyH.nil
        refine AllReadyH.cons (o := _) rfl (fun K hK => ?_) ?_
        · (try dsimp only [List.getElem_toArray, List.getElem_cons_succ, List.getElem_cons_zero])
          (rw [if_pos (by rfl)]; first | (refine wp_load_row 25 (.tmp 4) (by with_reducible rfl) k4 (by rfl) 25 (eA f g c u l) (0, 0) _ hHeld.2 Try.underlying25 rfl (infoEd f g c u l) ?_) | (refine wp_load_row 28 (.tmp 3) (by with_reducible rfl) k3 (by rfl) 28 (rowI xs) (0, 0) _ hHeld.1 Try.underlying28 rfl (by rw [rowI_size, HX.out]; exact infoA16) ?_))
          refine hK.out _ _ ?_ (fun hHeld => ?_)
          · (first | exact HP.out | assumption | exact PB.adds (by assumption) _ _)
          clear hK K
          try simp only [Act.put, List.setIfInBounds_toArray, List.set_cons_zero, List.set_cons_succ]
          refine wpAnyH_ready (rs := [0, 3]) (by kernel_rfl) (by simp) ?_
          refine AllReadyH.cons (o := _) rfl (fun K hK => ?_) ?_
          · (try dsimp only [List.getElem_toArray, List.getElem_cons_succ, List.getElem_cons_zero])
            (rw [if_pos (by rfl)]; first | (refine wp_load_row 25 (.tmp 4) (by with_reducible rfl) k4 (by rfl) 25 (eA f g c u l) (0, 0) _ hHeld.2 Try.underlying25 rfl (infoEd f g c u l) ?_) | (refine wp_load_row 28 (.tmp 3) (by with_reducible rfl) k3 (by rfl) 28 (rowI xs) (0, 0) _ hHeld.1 Try.underlying28 rfl (by rw [rowI_size, HX.out]; exact infoA16) ?_))
            refine hK.out _ _ ?_ (fun hHeld => ?_)
            · (first | exact HP.out | assumption | exact PB.adds (by assumption) _ _)
            clear hK K
            try simp only [Act.put, List.setIfInBounds_toArray, List.set_cons_zero, List.set_cons_succ]
            refine wpAnyH_ready (rs := [3]) (by kernel_rfl) (by simp) ?_
            refine AllReadyH.cons (o := _) rfl (fun K hK => ?_) ?_
            · (try dsimp only [List.getElem_toArray, List.getElem_cons_succ, List.getElem_cons_zero]); go_simp
              (first | (go_at_call 8; refine (CP.out _).mono ?_; rintro e w' ⟨rfl, hb⟩; obtain ⟨o2, n2, rfl⟩ := below_adds hb; clear hb) | (go_at_call 17; refine (CT.out _).mono ?_; rintro e w' ⟨rfl, hb⟩; obtain ⟨o2, n2, rfl⟩ := below_adds hb; clear hb))
              try go_wp2_with fail
              refine hK.out _ _ ?_ (fun hHeld => ?_)
              · (first | exact HP.out | assumption | exact PB.adds (by assumption) _ _)
              clear hK K
              try simp only [Act.put, List.setIfInBounds_toArray, List.set_cons_zero, List.set_cons_succ]
              refine wpAnyH_ready (rs := [4]) (by kernel_rfl) (by simp) ?_
              refine AllReadyH.cons (o := _) rfl (fun K hK => ?_) ?_
              · (try dsimp only [List.getElem_toArray, List.getElem_cons_succ, List.getElem_cons_zero]); go_simp
                (first | (go_at_call 8; refine (CP.out _).mono ?_; rintro e w' ⟨rfl, hb⟩; obtain ⟨o2, n2, rfl⟩ := below_adds hb; clear hb) | (go_at_call 17; refine (CT.out _).mono ?_; rintro e w' ⟨rfl, hb⟩; obtain ⟨o2, n2, rfl⟩ := below_adds hb; clear hb))
                try go_wp2_with fail
                refine hK.out _ _ ?_ (fun hHeld => ?_)
                · (first | exact HP.out | assumption | exact PB.adds (by assumption) _ _)
                clear hK K
                try simp only [Act.put, List.setIfInBounds_toArray, List.set_cons_zero, List.set_cons_succ]
                refine wpAnyH_take (i := 5) (oi := _) (v := ?_) rfl (by kernel_rfl) (by kernel_rfl) (by kernel_rfl) (fun _ _ _ h => h) (Or.inl ⟨by rfl, ?_⟩) (by assumption) ?_
                rotate_left
                · intro w hSw; (try dsimp only at hSw); go_simp; (try with_reducible rfl)
                try dsimp only [List.getElem_toArray, List.getElem_cons_succ, List.getElem_cons_zero]
                simp only [Act.put, List.setIfInBounds_toArray, List.set_cons_zero, List.set_cons_succ]
                refine wpAnyH_done (by kernel_rfl) ?_ _
                go_wp2_with fail
                go_meet
                exact ⟨rfl, (by repeat' (first | (with_reducible exact Below.refl _ _) | (with_reducible refine Below.adds_ ?_ ?_ _ _) | (with_reducible refine Below.alloc ?_ ?_ _) | (with_reducible refine Below.drew ?_) | (with_reducible refine Below.setCell ?_ ?_ _) | (with_reducible assumption) | go_size | (simp only [size_addsW, World.size_alloc, World.size_drew, World.size_setCell]; omega)))⟩
              exact AllReadyH.nil
            exact AllReadyH.nil
          refine AllReadyH.cons (o := _) rfl (fun K hK => ?_) ?_
          · (try dsimp only [List.getElem_toArray, List.getElem_cons_succ, List.getElem_cons_zero]); go_simp
            (first | (go_at_call 8; refine (CP.out _).mono ?_; rintro e w' ⟨rfl, hb⟩; obtain ⟨o2, n2, rfl⟩ := below_adds hb; clear hb) | (go_at_call 17; refine (CT.out _).mono ?_; rintro e w' ⟨rfl, hb⟩; obtain ⟨o2, n2, rfl⟩ := below_adds hb; clear hb))
            try go_wp2_with fail
            refine hK.out _ _ ?_ (fun hHeld => ?_)
            · (first | exact HP.out | assumption | exact PB.adds (by assumption) _ _)
            clear hK K
            try simp only [Act.put, List.setIfInBounds_toArray, List.set_cons_zero, List.set_cons_succ]
            refine wpAnyH_ready (rs := [0]) (by kernel_rfl) (by simp) ?_
            refine AllReadyH.cons (o := _) rfl (fun K hK => ?_) ?_
            · (try dsimp only [List.getElem_toArray, List.getElem_cons_succ, List.getElem_cons_zero])
              (rw [if_pos (by rfl)]; first | (refine wp_load_row 25 (.tmp 4) (by with_reducible rfl) k4 (by rfl) 25 (eA f g c u l) (0, 0) _ hHeld.2 Try.underlying25 rfl (infoEd f g c u l) ?_) | (refine wp_load_row 28 (.tmp 3) (by with_reducible rfl) k3 (by rfl) 28 (rowI xs) (0, 0) _ hHeld.1 Try.underlying28 rfl (by rw [rowI_size, HX.out]; exact infoA16) ?_))
              refine hK.out _ _ ?_ (fun hHeld => ?_)
              · (first | exact HP.out | assumption | exact PB.adds (by assumption) _ _)
              clear hK K
              try simp only [Act.put, List.setIfInBounds_toArray, List.set_cons_zero, List.set_cons_succ]
              refine wpAnyH_ready (rs := [4]) (by kernel_rfl) (by simp) ?_
              refine AllReadyH.cons (o := _) rfl (fun K hK => ?_) ?_
              · (try dsimp only [List.getElem_toArray, List.getElem_cons_succ, List.getElem_cons_zero]); go_simp
                (first | (go_at_call 8; refine (CP.out _).mono ?_; rintro e w' ⟨rfl, hb⟩; obtain ⟨o2, n2, rfl⟩ := below_adds hb; clear hb) | (go_at_call 17; refine (CT.out _).mono ?_; rintro e w' ⟨rfl, hb⟩; obtain ⟨o2, n2, rfl⟩ := below_adds hb; clear hb))
                try go_wp2_with fail
                refine hK.out _ _ ?_ (fun hHeld => ?_)
                · (first | exact HP.out | assumption | exact PB.adds (by assumption) _ _)
                clear hK K
                try simp only [Act.put, List.setIfInBounds_toArray, List.set_cons_zero, List.set_cons_succ]
                refine wpAnyH_take (i := 5) (oi := _) (v := ?_) rfl (by kernel_rfl) (by kernel_rfl) (by kernel_rfl) (fun _ _ _ h => h) (Or.inl ⟨by rfl, ?_⟩) (by assumption) ?_
                rotate_left
                · intro w hSw; (try dsimp only at hSw); go_simp; (try with_reducible rfl)
                try dsimp only [List.getElem_toArray, List.getElem_cons_succ, List.getElem_cons_zero]
                simp only [Act.put, List.setIfInBounds_toArray, List.set_cons_zero, List.set_cons_succ]
                refine wpAnyH_done (by kernel_rfl) ?_ _
                go_wp2_with fail
                go_meet
                exact ⟨rfl, (by repeat' (first | (with_reducible exact Below.refl _ _) | (with_reducible refine Below.adds_ ?_ ?_ _ _) | (with_reducible refine Below.alloc ?_ ?_ _) | (with_reducible refine Below.drew ?_) | (with_reducible refine Below.setCell ?_ ?_ _) | (with_reducible assumption) | go_size | (simp only [size_addsW, World.size_alloc, World.size_drew, World.size_setCell]; omega)))⟩
              exact AllReadyH.nil
            exact AllReadyH.nil
          exact AllReadyH.nil
        exact AllReadyH.nil
      case rest =>
        obtain ⟨rfl, hbc⟩ := hcut
        have HP2 := Lib.hid (HP.out.below hbc)
        have HB2 := Lib.hid (HB.out.trans (hbc.mono HB.out.size))
        clear HP HB hbc lx
        go_wp2_with fail
        go_loopw [7] (fun v wr => ∃ k : Nat, v = .int .i64 (k : Int) ∧ k ≤ 5 ∧ PB k3 k4 xs f g c u l wr ∧ Below w.heap.size w wr) (fun v _ => 5 - (intOf v).toNat)
        case atStart => exact ⟨0, rfl, by omega, HP2.out, HB2.out⟩
        case round =>
          clear HP2 HB2
          obtain ⟨k, rfl, hk, hp, hb⟩ := hrel
          have HP := Lib.hid hp
          have HB := Lib.hid hb
          have lw := hp.2.lt
          clear hp hb
          by_cases hlt : k < 5
          · have hd1 : (k : Int) ≤ 4 := by omega
            go_upto_region 13 with fail
            go_cut [8] (fun s wx => s = .int .i64 (C k) ∧ Below wr.heap.size wr wx)
            case first =>
              obtain ⟨ys, hys⟩ : ∃ ys, ys = pL k f g c u l := ⟨_, rfl⟩
              have CP := Lib.hid (CPr.out k (by omega))
              have CT := Lib.hid (CTr.out k)
              rw [← hys] at CP CT
              obtain ⟨v, hv⟩ : ∃ v, v = C k := ⟨_, rfl⟩
              rw [← hv] at CT
              have HVC := Lib.hid hv
              clear hys CPr CTr hv
              unfold eA at CP
              refine wp_region_held_drew (S := (fun w' => PB k3 k4 xs f g c u l w')) (by kernel_rfl) ?_ (fun hHeld => ?_)
              · (first | exact HP.out | assumption | exact PB.adds (by assumption) _ _)
              refine wpAnyH_take (i := 1) (oi := _) (v := ?_) rfl (by kernel_rfl) (by kernel_rfl) (by kernel_rfl) (fun _ _ _ h => h) (Or.inl ⟨by rfl, ?_⟩) (by assumption) ?_
              rotate_left
              · intro w hSw; (try dsimp only at hSw); go_simp; (try with_reducible rfl)
              try dsimp only [List.getElem_toArray, List.getElem_cons_succ, List.getElem_cons_zero]
              simp only [Act.put, List.setIfInBounds_toArray, List.set_cons_zero, List.set_cons_succ]
              refine wpAnyH_ready (rs := [0, 2]) (by kernel_rfl) (by simp) ?_
              refine AllReadyH.cons (o := _) rfl (fun K hK => ?_) ?_
              · (try dsimp only [List.getElem_toArray, List.getElem_cons_succ, List.getElem_cons_zero])
                (rw [if_pos (by rfl)]; first | (refine wp_load_row 25 (.tmp 4) (by with_reducible rfl) k4 (by rfl) 25 (eA f g c u l) (0, 0) _ hHeld.2 Try.underlying25 rfl (infoEd f g c u l) ?_) | (refine wp_load_row 28 (.tmp 3) (by with_reducible rfl) k3 (by rfl) 28 (rowI xs) (0, 0) _ hHeld.1 Try.underlying28 rfl (by rw [rowI_size, HX.out]; exact infoA16) ?_))
                refine hK.out _ _ ?_ (fun hHeld => ?_)
                · (first | exact HP.out | assumption | exact PB.adds (by assumption) _ _)
                clear hK K
                try simp only [Act.put, List.setIfInBounds_toArray, List.set_cons_zero, List.set_cons_succ]
                refine wpAnyH_ready (rs := [2]) (by kernel_rfl) (by simp) ?_
                refine AllReadyH.cons (o := _) rfl (fun K hK => ?_) ?_
                · (try dsimp only [List.getElem_toArray, List.getElem_cons_succ, List.getElem_cons_zero])
                  (rw [if_pos (by rfl)]; first | (refine wp_load_row 25 (.tmp 4) (by with_reducible rfl) k4 (by rfl) 25 (eA f g c u l) (0, 0) _ hHeld.2 Try.underlying25 rfl (infoEd f g c u l) ?_) | (refine wp_load_row 28 (.tmp 3) (by with_reducible rfl) k3 (by rfl) 28 (rowI xs) (0, 0) _ hHeld.1 Try.underlying28 rfl (by rw [rowI_size, HX.out]; exact infoA16) ?_))
                  refine hK.out _ _ ?_ (fun hHeld => ?_)
                  · (first | exact HP.out | assumption | exact PB.adds (by assumption) _ _)
                  clear hK K
                  try simp only [Act.put, List.setIfInBounds_toArray, List.set_cons_zero, List.set_cons_succ]
                  refine wpAnyH_ready (rs := [3]) (by kernel_rfl) (by simp) ?_
                  refine AllReadyH.cons (o := _) rfl (fun K hK => ?_) ?_
                  · (try dsimp only [List.getElem_toArray, List.getElem_cons_succ, List.getElem_cons_zero]); go_simp
                    (first | (go_at_call 8; refine (CP.out _).mono ?_; rintro e w' ⟨rfl, hb⟩; obtain ⟨o2, n2, rfl⟩ := below_adds hb; clear hb) | (go_at_call 17; refine (CT.out _).mono ?_; rintro e w' ⟨rfl, hb⟩; obtain ⟨o2, n2, rfl⟩ := below_adds hb; clear hb))
                    try go_wp2_with fail
                    refine hK.out _ _ ?_ (fun hHeld => ?_)
                    · (first | exact HP.out | assumption | exact PB.adds (by assumption) _ _)
                    clear hK K
                    try simp only [Act.put, List.setIfInBounds_toArray, List.set_cons_zero, List.set_cons_succ]
                    refine wpAnyH_ready (rs := [4]) (by kernel_rfl) (by simp) ?_
                    refine AllReadyH.cons (o := _) rfl (fun K hK => ?_) ?_
                    · (try dsimp only [List.getElem_toArray, List.getElem_cons_succ, List.getElem_cons_zero]); go_simp
                      (first | (go_at_call 8; refine (CP.out _).mono ?_; rintro e w' ⟨rfl, hb⟩; obtain ⟨o2, n2, rfl⟩ := below_adds hb; clear hb) | (go_at_call 17; refine (CT.out _).mono ?_; rintro e w' ⟨rfl, hb⟩; obtain ⟨o2, n2, rfl⟩ := below_adds hb; clear hb))
                      try go_wp2_with fail
                      refine hK.out _ _ ?_ (fun hHeld => ?_)
                      · (first | exact HP.out | assumption | exact PB.adds (by assumption) _ _)
                      clear hK K
                      try simp only [Act.put, List.setIfInBounds_toArray, List.set_cons_zero, List.set_cons_succ]
                      refine wpAnyH_take (i := 5) (oi := _) (v := ?_) rfl (by kernel_rfl) (by kernel_rfl) (by kernel_rfl) (fun _ _ _ h => h) (Or.inl ⟨by rfl, ?_⟩) (by assumption) ?_
                      rotate_left
                      · intro w hSw; (try dsimp only at hSw); go_simp; (try with_reducible rfl)
                      try dsimp only [List.getElem_toArray, List.getElem_cons_succ, List.getElem_cons_zero]
                      simp only [Act.put, List.setIfInBounds_toArray, List.set_cons_zero, List.set_cons_succ]
                      refine wpAnyH_done (by kernel_rfl) ?_ _
                      go_wp2_with fail
                      go_meet
                      exact ⟨by rw [HVC.out], (by repeat' (first | (with_reducible exact Below.refl _ _) | (with_reducible refine Below.adds_ ?_ ?_ _ _) | (with_reducible refine Below.alloc ?_ ?_ _) | (with_reducible refine Below.drew ?_) | (with_reducible refine Below.setCell ?_ ?_ _) | (with_reducible assumption) | go_size | (simp only [size_addsW, World.size_alloc, World.size_drew, World.size_setCell]; omega)))⟩
                    exact AllReadyH.nil
                  exact AllReadyH.nil
                exact AllReadyH.nil
              refine AllReadyH.cons (o := _) rfl (fun K hK => ?_) ?_
              · (try dsimp only [List.getElem_toArray, List.getElem_cons_succ, List.getElem_cons_zero])
                (rw [if_pos (by rfl)]; first | (refine wp_load_row 25 (.tmp 4) (by with_reducible rfl) k4 (by rfl) 25 (eA f g c u l) (0, 0) _ hHeld.2 Try.underlying25 rfl (infoEd f g c u l) ?_) | (refine wp_load_row 28 (.tmp 3) (by with_reducible rfl) k3 (by rfl) 28 (rowI xs) (0, 0) _ hHeld.1 Try.underlying28 rfl (by rw [rowI_size, HX.out]; exact infoA16) ?_))
                refine hK.out _ _ ?_ (fun hHeld => ?_)
                · (first | exact HP.out | assumption | exact PB.adds (by assumption) _ _)
                clear hK K
                try simp only [Act.put, List.setIfInBounds_toArray, List.set_cons_zero, List.set_cons_succ]
                refine wpAnyH_ready (rs := [0, 3]) (by kernel_rfl) (by simp) ?_
                refine AllReadyH.cons (o := _) rfl (fun K hK => ?_) ?_
                · (try dsimp only [List.getElem_toArray, List.getElem_cons_succ, List.getElem_cons_zero])
                  (rw [if_pos (by rfl)]; first | (refine wp_load_row 25 (.tmp 4) (by with_reducible rfl) k4 (by rfl) 25 (eA f g c u l) (0, 0) _ hHeld.2 Try.underlying25 rfl (infoEd f g c u l) ?_) | (refine wp_load_row 28 (.tmp 3) (by with_reducible rfl) k3 (by rfl) 28 (rowI xs) (0, 0) _ hHeld.1 Try.underlying28 rfl (by rw [rowI_size, HX.out]; exact infoA16) ?_))
                  refine hK.out _ _ ?_ (fun hHeld => ?_)
                  · (first | exact HP.out | assumption | exact PB.adds (by assumption) _ _)
                  clear hK K
                  try simp only [Act.put, List.setIfInBounds_toArray, List.set_cons_zero, List.set_cons_succ]
                  refine wpAnyH_ready (rs := [3]) (by kernel_rfl) (by simp) ?_
                  refine AllReadyH.cons (o := _) rfl (fun K hK => ?_) ?_
                  · (try dsimp only [List.getElem_toArray, List.getElem_cons_succ, List.getElem_cons_zero]); go_simp
                    (first | (go_at_call 8; refine (CP.out _).mono ?_; rintro e w' ⟨rfl, hb⟩; obtain ⟨o2, n2, rfl⟩ := below_adds hb; clear hb) | (go_at_call 17; refine (CT.out _).mono ?_; rintro e w' ⟨rfl, hb⟩; obtain ⟨o2, n2, rfl⟩ := below_adds hb; clear hb))
                    try go_wp2_with fail
                    refine hK.out _ _ ?_ (fun hHeld => ?_)
                    · (first | exact HP.out | assumption | exact PB.adds (by assumption) _ _)
                    clear hK K
                    try simp only [Act.put, List.setIfInBounds_toArray, List.set_cons_zero, List.set_cons_succ]
                    refine wpAnyH_ready (rs := [4]) (by kernel_rfl) (by simp) ?_
                    refine AllReadyH.cons (o := _) rfl (fun K hK => ?_) ?_
                    · (try dsimp only [List.getElem_toArray, List.getElem_cons_succ, List.getElem_cons_zero]); go_simp
                      (first | (go_at_call 8; refine (CP.out _).mono ?_; rintro e w' ⟨rfl, hb⟩; obtain ⟨o2, n2, rfl⟩ := below_adds hb; clear hb) | (go_at_call 17; refine (CT.out _).mono ?_; rintro e w' ⟨rfl, hb⟩; obtain ⟨o2, n2, rfl⟩ := below_adds hb; clear hb))
                      try go_wp2_with fail
                      refine hK.out _ _ ?_ (fun hHeld => ?_)
                      · (first | exact HP.out | assumption | exact PB.adds (by assumption) _ _)
                      clear hK K
                      try simp only [Act.put, List.setIfInBounds_toArray, List.set_cons_zero, List.set_cons_succ]
                      refine wpAnyH_take (i := 5) (oi := _) (v := ?_) rfl (by kernel_rfl) (by kernel_rfl) (by kernel_rfl) (fun _ _ _ h => h) (Or.inl ⟨by rfl, ?_⟩) (by assumption) ?_
                      rotate_left
                      · intro w hSw; (try dsimp only at hSw); go_simp; (try with_reducible rfl)
                      try dsimp only [List.getElem_toArray, List.getElem_cons_succ, List.getElem_cons_zero]
                      simp only [Act.put, List.setIfInBounds_toArray, List.set_cons_zero, List.set_cons_succ]
                      refine wpAnyH_done (by kernel_rfl) ?_ _
                      go_wp2_with fail
                      go_meet
                      exact ⟨by rw [HVC.out], (by repeat' (first | (with_reducible exact Below.refl _ _) | (with_reducible refine Below.adds_ ?_ ?_ _ _) | (with_reducible refine Below.alloc ?_ ?_ _) | (with_reducible refine Below.drew ?_) | (with_reducible refine Below.setCell ?_ ?_ _) | (with_reducible assumption) | go_size | (simp only [size_addsW, World.size_alloc, World.size_drew, World.size_setCell]; omega)))⟩
                    exact AllReadyH.nil
                  exact AllReadyH.nil
                refine AllReadyH.cons (o := _) rfl (fun K hK => ?_) ?_
                · (try dsimp only [List.getElem_toArray, List.getElem_cons_succ, List.getElem_cons_zero]); go_simp
                  (first | (go_at_call 8; refine (CP.out _).mono ?_; rintro e w' ⟨rfl, hb⟩; obtain ⟨o2, n2, rfl⟩ := below_adds hb; clear hb) | (go_at_call 17; refine (CT.out _).mono ?_; rintro e w' ⟨rfl, hb⟩; obtain ⟨o2, n2, rfl⟩ := below_adds hb; clear hb))
                  try go_wp2_with fail
                  refine hK.out _ _ ?_ (fun hHeld => ?_)
                  · (first | exact HP.out | assumption | exact PB.adds (by assumption) _ _)
                  clear hK K
                  try simp only [Act.put, List.setIfInBounds_toArray, List.set_cons_zero, List.set_cons_succ]
                  refine wpAnyH_ready (rs := [0]) (by kernel_rfl) (by simp) ?_
                  refine AllReadyH.cons (o := _) rfl (fun K hK => ?_) ?_
                  · (try dsimp only [List.getElem_toArray, List.getElem_cons_succ, List.getElem_cons_zero])
                    (rw [if_pos (by rfl)]; first | (refine wp_load_row 25 (.tmp 4) (by with_reducible rfl) k4 (by rfl) 25 (eA f g c u l) (0, 0) _ hHeld.2 Try.underlying25 rfl (infoEd f g c u l) ?_) | (refine wp_load_row 28 (.tmp 3) (by with_reducible rfl) k3 (by rfl) 28 (rowI xs) (0, 0) _ hHeld.1 Try.underlying28 rfl (by rw [rowI_size, HX.out]; exact infoA16) ?_))
                    refine hK.out _ _ ?_ (fun hHeld => ?_)
                    · (first | exact HP.out | assumption | exact PB.adds (by assumption) _ _)
                    clear hK K
                    try simp only [Act.put, List.setIfInBounds_toArray, List.set_cons_zero, List.set_cons_succ]
                    refine wpAnyH_ready (rs := [4]) (by kernel_rfl) (by simp) ?_
                    refine AllReadyH.cons (o := _) rfl (fun K hK => ?_) ?_
                    · (try dsimp only [List.getElem_toArray, List.getElem_cons_succ, List.getElem_cons_zero]); go_simp
                      (first | (go_at_call 8; refine (CP.out _).mono ?_; rintro e w' ⟨rfl, hb⟩; obtain ⟨o2, n2, rfl⟩ := below_adds hb; clear hb) | (go_at_call 17; refine (CT.out _).mono ?_; rintro e w' ⟨rfl, hb⟩; obtain ⟨o2, n2, rfl⟩ := below_adds hb; clear hb))
                      try go_wp2_with fail
                      refine hK.out _ _ ?_ (fun hHeld => ?_)
                      · (first | exact HP.out | assumption | exact PB.adds (by assumption) _ _)
                      clear hK K
                      try simp only [Act.put, List.setIfInBounds_toArray, List.set_cons_zero, List.set_cons_succ]
                      refine wpAnyH_take (i := 5) (oi := _) (v := ?_) rfl (by kernel_rfl) (by kernel_rfl) (by kernel_rfl) (fun _ _ _ h => h) (Or.inl ⟨by rfl, ?_⟩) (by assumption) ?_
                      rotate_left
                      · intro w hSw; (try dsimp only at hSw); go_simp; (try with_reducible rfl)
                      try dsimp only [List.getElem_toArray, List.getElem_cons_succ, List.getElem_cons_zero]
                      simp only [Act.put, List.setIfInBounds_toArray, List.set_cons_zero, List.set_cons_succ]
                      refine wpAnyH_done (by kernel_rfl) ?_ _
                      go_wp2_with fail
                      go_meet
                      exact ⟨by rw [HVC.out], (by repeat' (first | (with_reducible exact Below.refl _ _) | (with_reducible refine Below.adds_ ?_ ?_ _ _) | (with_reducible refine Below.alloc ?_ ?_ _) | (with_reducible refine Below.drew ?_) | (with_reducible refine Below.setCell ?_ ?_ _) | (with_reducible assumption) | go_size | (simp only [size_addsW, World.size_alloc, World.size_drew, World.size_setCell]; omega)))⟩
                    exact AllReadyH.nil
                  exact AllReadyH.nil
                exact AllReadyH.nil
              exact AllReadyH.nil
            case rest =>
              obtain ⟨rfl, hbc⟩ := hcut
              have HP2 := Lib.hid (HP.out.below hbc)
              have HB2 := Lib.hid (HB.out.trans (hbc.mono HB.out.size))
              have hm := HMIN.out k (by omega)
              clear HP HB hbc lw CPr CTr
              generalize C k = v at hm ⊢
              have b1 : ¬ v < L := by omega
              by_cases hkn : (k : Int) < (nn : Int)
              · have b2 : (v == L) = false := by have := hm.2 hkn; simp; omega
                go_wp2_with fail
                go_roundw
                case rel => exact ⟨k + 1, by go_num, by omega, HP2.out, HB2.out⟩
                case measure => simp [intOf]; omega
              · go_wp2_with fail
                go_roundw
                case rel => exact ⟨k + 1, by go_num, by omega, HP2.out, HB2.out⟩
                case measure => simp [intOf]; omega
          · have hd1 : ¬ (k : Int) ≤ 4 := by omega
            go_wp2_with fail
            go_returns
            exact ⟨rfl, HB.out⟩
    · have hn1 : n < 0 := by rw [HN.out, best_no hok]; decide
      have d1 : decide (n < 0) = true := by simp; omega
      clear HN hok
      go_wp2_with (go_at_call 11; refine (L_alive _).mono ?_; rintro e w' ⟨rfl, hb⟩; obtain ⟨o1, n1, rfl⟩ := below_adds hb; clear hb)
      go_returns
      exact ⟨rfl, Below.adds_ HB.out HB.out.size _ _⟩

set_option maxRecDepth 100000 in
theorem lifted (os : Os) (started : os.Started) (H : Type) (enc : TypeId × Value → H) :
    ReturnsInHanded {} Try.checked os 6 .any (Rows.fnBestIntraSpec.pre6 enc Try.prog Try.f6 Rows.fnBestIntraRow.domain false) (Rows.fnBestIntraSpec.post enc Try.prog Try.f6 false true false false) := by
  refine returnsInHanded_of_change (C := Try.checked) own started (by kernel_rfl) Try.func6
    (ChangeSpec.witness6 (enc := enc) (C := Try.checked) false ⟨#[], #[.slice none 0 0], []⟩ 8 (by kernel_rfl) (by kernel_rfl) (by kernel_rfl) (by kernel_rfl)) ?_
  intro W base args ds gs before hval0 hW hcnd _
  have hval : ∀ (j : Nat) t v, Try.f6.params[j]? = some t → args[j]? = some v → Value.okWide Try.prog W .any base t v := hval0
  have hW' := hW
  obtain ⟨p, q, hA0, hV, rfl, hfz, hnd⟩ := hW
  have hA : DataW.TrodAll enc Try.prog W 0 (fun _ => true) true Try.f6.params.toList args.toList ds p := hA0
  rw [Try.params6] at hA hval
  obtain ⟨v0, vs0, d0, ds0, p0, q0, hargs, rfl, rfl, h0, r0⟩ := trodAll_cons hA
  obtain ⟨rfl, rfl, rfl⟩ := trodAll_nil r0
  obtain rfl : args = #[v0] := by cases args; simp_all
  obtain ⟨rfl, rfl⟩ := trodVars_none hV
  have k0 := h0
  have lt0 : ∀ x ∈ p0, x.block < W.heap.size := by obtain ⟨m, hm⟩ := k0; exact DataW.trod_lt m _ _ _ hm
  obtain ⟨aa0, ll0, cc0, rfl⟩ := okWide_slice Try.underlying22 (hval 0 22 v0 rfl rfl)
  obtain ⟨f0, hf0⟩ := h0
  simp only [Value.cells] at hf0
  obtain ⟨a_cs, len_cs, cap_cs, cs, e_cs, w_cs⟩ : ∃ a l c zs, (.slice aa0 ll0 cc0 : Value) = .slice a l c ∧ IsRow .u8 W a l c zs := by
    rcases open_ints Try.underlying22 Try.underlying5 (by kernel_rfl) hf0 with ⟨hcs, _⟩ | ⟨x, l, c, zs, hcs, _, hl, hm, hz, _, hcell, hwz⟩
    · simp only [List.cons.injEq, and_true] at hcs; exact ⟨none, 0, 0, [], hcs, .inl ⟨rfl, rfl, rfl, rfl⟩⟩
    · simp only [List.cons.injEq, and_true] at hcs; exact ⟨some x, l, c, zs, hcs, .inr ⟨x, rfl, hl, hm, by simpa using hz, hcell, hwz⟩⟩
  simp only [Value.slice.injEq] at e_cs
  obtain ⟨rfl, rfl, rfl⟩ := e_cs
  clear hA0 hval0
  refine (walk _ _ _ cs W w_cs).mono fun e W' ⟨he, bel⟩ => ?_
  subst he
  exact ⟨_, rfl, _, _, _, [], _, [], hW', trodAll_mk1 (shut_bool Try.underlying4 _), (trodAll_cons_mk (Below.trod laidOut (by kernel_rfl) (of_decide_eq_true (by kernel_rfl)) k0 bel lt0) trodAll_mk0), rfl, bel.frame _, fun h => by cases h⟩

theorem over : Rows.fnBestIntraRow.holds Try.pinned (OpenSpec.ofChange Rows.fnBestIntraSpec) :=
  OpenClaim.holds_of_wide 6 Try.f6 rfl rfl rfl rfl rfl rfl rfl ⟨rfl, rfl, rfl, rfl, rfl⟩ rfl rfl rfl rfl rfl (by kernel_rfl) Try.func6 (by kernel_rfl)
    (of_decide_eq_true (by kernel_rfl)) (by unfold Func.isWrapper; first | (rw [if_pos (by decide +kernel)]; kernel_rfl) | (rw [if_neg (by decide +kernel)]; exact ⟨rfl, rfl⟩))
    (fun os started H enc _ => lifted os started H enc)

theorem proved : Rows.FnBestIntraSaid := over
#print axioms proved
end Go.Proofs.Ythnigldbpikcaaa.fnBestIntra
