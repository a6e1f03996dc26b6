/- PROVED: the law laws.FnIntraDirections returns true for every input: the vertical mode repeats the row above, and turned edges give the turned prediction in the turned mode; no conditions. -/
import Derived.Test.YthnigldbpikcaaaRows
import Derived.Test.YthnigldbpikcaaaDrawS
import Derived.Test.YthnigldbpikcaaaPredM
import Derived.Test.YthnigldbpikcaaaPredU
import Derived.Test.YthnigldbpikcaaaPredL
import Derived.WalkKit
import Derived.ProofKit
import Derived.OpenShut
import Derived.ShutString
import Derived.ChangeOld
import Derived.Below
import Derived.Lib.SmallJoins
namespace Go.Proofs.Ythnigldbpikcaaa.fnIntraDirections
open Go.ChangeShapes Go.WideShapes Go.ChangeAt Go.RowKit
open Go.ChangeMaps (open_string shut_string)
set_option linter.unusedVariables false
set_option linter.unusedSimpArgs false

theorem own : ownKnob Try.prog.godebug = none := by kernel_rfl
theorem laidOut : laidOutB Try.prog = true := by kernel_rfl

attribute [local go_sem] size_addsW cell?_addsW frozen?_addsW setCell_addsW drew_addsW adds_addsW setCell_twice alloc_adds0 size_adds0 adds_adds0 sel2 sel3 sel4 sel5 sel6 sel7 sel8 sel9 lt_more lt_more2 lt_more3 lt_more4 adds_drew adds_drewN drewN_addsW ltA_1_1 ltA_1_2 ltA_1_3 ltA_1_4 ltA_1_5 ltA_1_6 ltA_2_1 ltA_2_2 ltA_2_3 ltA_2_4 ltA_2_5 ltA_2_6 ltA_3_1 ltA_3_2 ltA_3_3 ltA_3_4 ltA_3_5 ltA_3_6 ltA_4_1 ltA_4_2 ltA_4_3 ltA_4_4 ltA_4_5 ltA_4_6 ltA_5_1 ltA_5_2 ltA_5_3 ltA_5_4 ltA_5_5 ltA_5_6 ltA_6_1 ltA_6_2 ltA_6_3 ltA_6_4 ltA_6_5 ltA_6_6 ltA_7_1 ltA_7_2 ltA_7_3 ltA_7_4 ltA_7_5 ltA_7_6 ltA_8_1 ltA_8_2 ltA_8_3 ltA_8_4 ltA_8_5 ltA_8_6 ltA_9_1 ltA_9_2 ltA_9_3 ltA_9_4 ltA_9_5 ltA_9_6 ltA_10_1 ltA_10_2 ltA_10_3 ltA_10_4 ltA_10_5 ltA_10_6 ltA_11_1 ltA_11_2 ltA_11_3 ltA_11_4 ltA_11_5 ltA_11_6 ltA_12_1 ltA_12_2 ltA_12_3 ltA_12_4 ltA_12_5 ltA_12_6
def PS (k4 k5 : Nat) (f g : Nat → Int) (c : Int) (u l : Bool) (zs : List Int) (W : World) : Prop :=
  Blk W k4 (eA f g c u l) 25 ∧ Blk W k5 (rowI zs) 28
theorem PS.adds {k4 k5 : Nat} {f g : Nat → Int} {c : Int} {u l : Bool} {zs : List Int} {W : World} (h : PS k4 k5 f g c u l zs W) (os : Array Obj) (n : Nat) : PS k4 k5 f g c u l zs (addsW W os n) := ⟨h.1.adds os n, h.2.adds os n⟩
structure GS (g0 k4 k5 k8 k9 : Nat) (f g : Nat → Int) (c : Int) (u l : Bool) (zs xs vs : List Int) (w W : World) : Prop where
  e : Blk W k4 (eA f g c u l) 25
  r : Blk W k5 (rowI zs) 28
  x : Blk W k8 (rowI xs) 28
  v : Blk W k9 (rowI vs) 28
  b : Below g0 w W

set_option maxHeartbeats 4000000 in
set_option maxRecDepth 100000 in
theorem walk (a_cs : Option Addr) (len_cs cap_cs : Nat) (cs : List Int) (w : World) (w_cs : IsRow .u8 w a_cs len_cs cap_cs cs) :
    Calls Try.prog 3 #[.slice a_cs len_cs cap_cs] w fun e w' => e = .returned (.bool true) ∧ Below w.heap.size w w' := by
  have hlm := (RowAt.of_row w_cs).2.2.1
  unfold maxLen at hlm
  have HI := Lib.hid w_cs
  clear w_cs
  by_cases hbig : 1048576 < len_cs
  · go_enter Try.func3, Try.ntmps3
    go_wp2
    go_returns
    exact ⟨rfl, (by repeat' (first | (with_reducible exact Below.refl _ _) | (with_reducible refine Below.adds_ ?_ ?_ _ _) | (with_reducible refine Below.alloc ?_ ?_ _) | (with_reducible refine Below.drew ?_) | (with_reducible refine Below.setCell ?_ ?_ _) | (with_reducible assumption) | go_size | (simp only [size_addsW, World.size_alloc, World.size_drew, World.size_setCell]; omega)))⟩
  · go_enter Try.func3, Try.ntmps3
    go_upto_region 4 with (go_at_call 7; refine (S_DrawPredictIntra _ _ _ cs _ (IsRow.keep HI.out (by repeat' (first | (with_reducible exact Below.refl _ _) | (with_reducible refine Below.adds_ ?_ ?_ _ _) | (with_reducible refine Below.alloc ?_ ?_ _) | (with_reducible refine Below.drew ?_) | (with_reducible refine Below.setCell ?_ ?_ _) | (with_reducible assumption) | go_size | (simp only [size_addsW, World.size_alloc, World.size_drew, World.size_setCell]; omega))))).mono ?_; rintro e w1 ⟨m, f, g, c, u, l, rfl, hm0, hm1, hb⟩; have HB := Lib.hid hb; clear hb; unfold eA)
    refine all_add' ?_
    intro Y hY
    have hYe : Blk Y w1.heap.size (eA f g c u l) 25 := hY ▸ Blk.new _ _ _ _ rfl
    have hYb : Below w.heap.size w Y := hY ▸ Below.alloc HB.out HB.out.size _
    have hY0 : w.heap.size ≤ w1.heap.size := HB.out.size
    clear hY HB HI hlm hbig
    generalize w1.heap.size = k4 at hYe hY0 ⊢
    obtain ⟨zs, hzs⟩ : ∃ zs, zs = prL m f g c u l := ⟨_, rfl⟩
    have CI := Lib.hid (show ∀ W, Calls Try.prog 8 #[.int .i64 m, .agg (eA f g c u l)] W fun e w' => e = .returned (.agg (rowI zs)) ∧ Below W.heap.size W w' from fun W => by rw [hzs]; exact I_PredictIntra m f g c u l W)
    have CS := Lib.hid (show ∀ W, Calls Try.prog 9 #[.int .i64 m, .agg (eA f g c u l)] W fun e w' => e = .returned (.agg (rowI zs)) ∧ Below W.heap.size W w' from fun W => by rw [hzs]; exact S_PredictIntra m f g c u l W)
    have hz16 := Lib.hid (show zs.length = 16 by rw [hzs]; exact prL_len _ _ _ _ _ _)
    have HZ := Lib.hid hzs
    have HYb := Lib.hid hYb
    have hl4 := hYe.lt
    have hYs := hYb.size
    clear hzs hYb
    have e0 : Y.cell? ⟨k4, 0, none⟩ = some (.int .i64 (f 0)) := hYe.get rfl
    have e1 : Y.cell? ⟨k4, 1, none⟩ = some (.int .i64 (f 1)) := hYe.get rfl
    have e2 : Y.cell? ⟨k4, 2, none⟩ = some (.int .i64 (f 2)) := hYe.get rfl
    have e3 : Y.cell? ⟨k4, 3, none⟩ = some (.int .i64 (f 3)) := hYe.get rfl
    have e4 : Y.cell? ⟨k4, 4, none⟩ = some (.int .i64 (g 0)) := hYe.get rfl
    have e5 : Y.cell? ⟨k4, 5, none⟩ = some (.int .i64 (g 1)) := hYe.get rfl
    have e6 : Y.cell? ⟨k4, 6, none⟩ = some (.int .i64 (g 2)) := hYe.get rfl
    have e7 : Y.cell? ⟨k4, 7, none⟩ = some (.int .i64 (g 3)) := hYe.get rfl
    have e8 : Y.cell? ⟨k4, 8, none⟩ = some (.int .i64 c) := hYe.get rfl
    have e9 : Y.cell? ⟨k4, 9, none⟩ = some (.bool u) := hYe.get rfl
    have e10 : Y.cell? ⟨k4, 10, none⟩ = some (.bool l) := hYe.get rfl
    unfold eA at CI
    go_upto_region 5 with (first
      | (go_at_call 8; refine (CI.out _).mono ?_; rintro e w' ⟨rfl, hb⟩; obtain ⟨o1, n1, rfl⟩ := below_adds hb; clear hb)
      | (focus ((with_reducible refine wpList_wanted ?_ (fun K hK => ?_)); rotate_left; (refine wp_store_new 28 (.tmp 5) (.tmp 21) ?ho ?g (rowI zs) ?hx ?hy 28 (rowI z16) ?hg (by rw [rowI_size, hz16.out]; exact infoA16) (by rw [rowI_size, rowI_size, hz16.out]; rfl) (rowI_one zs) (hK _ _ ?_)); (case ho => with_reducible rfl); (case hx => rfl); (case hy => rfl); (case hg => first | rfl | (simp only [size_addsW, World.size_alloc])); (try simp only [Act.put, List.setIfInBounds_toArray, List.set_cons_zero, List.set_cons_succ]); rotate_left; rfl)))
    refine all_add' ?_
    intro Z hZ
    have hZe : Blk Z k4 (eA f g c u l) 25 := hZ ▸ (hYe.adds _ _).alloc _
    have hZr : Blk Z (Y.heap.size + o1.size) (rowI zs) 28 := hZ ▸ Blk.new _ _ _ _ (by simp only [size_addsW])
    have hZb : Below w.heap.size w Z := hZ ▸ Below.alloc (Below.adds_ HYb.out HYb.out.size _ _) (by simp only [size_addsW]; omega) _
    have hk0 : w.heap.size ≤ k4 := hY0
    have hk5 : k4 < Y.heap.size + o1.size := by omega
    clear hZ HYb hYe CI e0 e1 e2 e3 e4 e5 e6 e7 e8 e9 e10
    generalize Y.heap.size + o1.size = k5 at hZr hk5 ⊢
    have HP := Lib.hid (show PS k4 k5 f g c u l zs Z from ⟨hZe, hZr⟩)
    have HB := Lib.hid hZb
    have zZ := hZb.size
    have l5 := hZr.lt
    clear hZe hZr hZb hl4 hYs hY0
    go_cut [26] (fun s wx => s = .bool false ∧ Below Z.heap.size Z wx)
    case first =>
      refine wp_region_held_drew (S := (fun w' => PS k4 k5 f g c u l zs w')) (by kernel_rfl) ?_ (fun hHeld => ?_)
      · (first | exact HP.out | assumption | exact PS.adds (by assumption) _ _)
      refine wpAnyH_take (i := 1) (oi := _) (v := ?_) rfl (by kernel_rfl) (by kernel_rfl) (by kernel_rfl) (fun _ _ _ h => h) (Or.inl ⟨by rfl, ?_⟩) (by assumption) ?_
      rotate_left
      · intro w hSw; (try dsimp only at hSw); go_simp; (try with_reducible rfl)
      try dsimp only [List.getElem_toArray, List.getElem_cons_succ, List.getElem_cons_zero]
      simp only [Act.put, List.setIfInBounds_toArray, List.set_cons_zero, List.set_cons_succ]
      refine wpAnyH_ready (rs := [0, 2]) (by kernel_rfl) (by simp) ?_
      refine AllReadyH.cons (o := _) rfl (fun K hK => ?_) ?_
      · (try dsimp only [List.getElem_toArray, List.getElem_cons_succ, List.getElem_cons_zero])
        (rw [if_pos (by rfl)]; first | (refine wp_load_row 25 (.tmp 4) (by with_reducible rfl) k4 (by rfl) 25 (eA f g c u l) (0, 0) _ hHeld.1 Try.underlying25 rfl (infoEd f g c u l) ?_) | (refine wp_load_row 28 (.tmp 5) (by with_reducible rfl) k5 (by rfl) 28 (rowI zs) (0, 0) _ hHeld.2 Try.underlying28 rfl (by rw [rowI_size, hz16.out]; exact infoA16) ?_) | (refine wp_neq_agg 28 28 (.tmp 22) (.tmp 25) (by with_reducible rfl) (rowI zs) (rowI zs) (by rfl) (by rfl) (by kernel_rfl) true (eq16_same _ zs hz16.out) ?_))
        refine hK.out _ _ ?_ (fun hHeld => ?_)
        · (first | exact HP.out | assumption | exact PS.adds (by assumption) _ _)
        clear hK K
        try simp only [Act.put, List.setIfInBounds_toArray, List.set_cons_zero, List.set_cons_succ]
        refine wpAnyH_ready (rs := [2]) (by kernel_rfl) (by simp) ?_
        refine AllReadyH.cons (o := _) rfl (fun K hK => ?_) ?_
        · (try dsimp only [List.getElem_toArray, List.getElem_cons_succ, List.getElem_cons_zero])
          (rw [if_pos (by rfl)]; first | (refine wp_load_row 25 (.tmp 4) (by with_reducible rfl) k4 (by rfl) 25 (eA f g c u l) (0, 0) _ hHeld.1 Try.underlying25 rfl (infoEd f g c u l) ?_) | (refine wp_load_row 28 (.tmp 5) (by with_reducible rfl) k5 (by rfl) 28 (rowI zs) (0, 0) _ hHeld.2 Try.underlying28 rfl (by rw [rowI_size, hz16.out]; exact infoA16) ?_) | (refine wp_neq_agg 28 28 (.tmp 22) (.tmp 25) (by with_reducible rfl) (rowI zs) (rowI zs) (by rfl) (by rfl) (by kernel_rfl) true (eq16_same _ zs hz16.out) ?_))
          refine hK.out _ _ ?_ (fun hHeld => ?_)
          · (first | exact HP.out | assumption | exact PS.adds (by assumption) _ _)
          clear hK K
          try simp only [Act.put, List.setIfInBounds_toArray, List.set_cons_zero, List.set_cons_succ]
          refine wpAnyH_ready (rs := [3]) (by kernel_rfl) (by simp) ?_
          refine AllReadyH.cons (o := _) rfl (fun K hK => ?_) ?_
          · (try dsimp only [List.getElem_toArray, List.getElem_cons_succ, List.getElem_cons_zero]); go_simp
            (go_at_call 9; refine (CS.out _).mono ?_; rintro e w' ⟨rfl, hb⟩; obtain ⟨o2, n2, rfl⟩ := below_adds hb; clear hb)
            try go_wp2_with fail
            refine hK.out _ _ ?_ (fun hHeld => ?_)
            · (first | exact HP.out | assumption | exact PS.adds (by assumption) _ _)
            clear hK K
            try simp only [Act.put, List.setIfInBounds_toArray, List.set_cons_zero, List.set_cons_succ]
            refine wpAnyH_ready (rs := [4]) (by kernel_rfl) (by simp) ?_
            refine AllReadyH.cons (o := _) rfl (fun K hK => ?_) ?_
            · (try dsimp only [List.getElem_toArray, List.getElem_cons_succ, List.getElem_cons_zero])
              (rw [if_pos (by rfl)]; first | (refine wp_load_row 25 (.tmp 4) (by with_reducible rfl) k4 (by rfl) 25 (eA f g c u l) (0, 0) _ hHeld.1 Try.underlying25 rfl (infoEd f g c u l) ?_) | (refine wp_load_row 28 (.tmp 5) (by with_reducible rfl) k5 (by rfl) 28 (rowI zs) (0, 0) _ hHeld.2 Try.underlying28 rfl (by rw [rowI_size, hz16.out]; exact infoA16) ?_) | (refine wp_neq_agg 28 28 (.tmp 22) (.tmp 25) (by with_reducible rfl) (rowI zs) (rowI zs) (by rfl) (by rfl) (by kernel_rfl) true (eq16_same _ zs hz16.out) ?_))
              refine hK.out _ _ ?_ (fun hHeld => ?_)
              · (first | exact HP.out | assumption | exact PS.adds (by assumption) _ _)
              clear hK K
              try simp only [Act.put, List.setIfInBounds_toArray, List.set_cons_zero, List.set_cons_succ]
              refine wpAnyH_done (by kernel_rfl) ?_ _
              go_wp2_with fail
              go_meet
              exact ⟨by first | rfl | simp, (by repeat' (first | (with_reducible exact Below.refl _ _) | (with_reducible refine Below.adds_ ?_ ?_ _ _) | (with_reducible refine Below.alloc ?_ ?_ _) | (with_reducible refine Below.drew ?_) | (with_reducible refine Below.setCell ?_ ?_ _) | (with_reducible assumption) | go_size | (simp only [size_addsW, World.size_alloc, World.size_drew, World.size_setCell]; omega)))⟩
            exact AllReadyH.nil
          exact AllReadyH.nil
        exact AllReadyH.nil
      refine AllReadyH.cons (o := _) rfl (fun K hK => ?_) ?_
      · (try dsimp only [List.getElem_toArray, List.getElem_cons_succ, List.getElem_cons_zero])
        (rw [if_pos (by rfl)]; first | (refine wp_load_row 25 (.tmp 4) (by with_reducible rfl) k4 (by rfl) 25 (eA f g c u l) (0, 0) _ hHeld.1 Try.underlying25 rfl (infoEd f g c u l) ?_) | (refine wp_load_row 28 (.tmp 5) (by with_reducible rfl) k5 (by rfl) 28 (rowI zs) (0, 0) _ hHeld.2 Try.underlying28 rfl (by rw [rowI_size, hz16.out]; exact infoA16) ?_) | (refine wp_neq_agg 28 28 (.tmp 22) (.tmp 25) (by with_reducible rfl) (rowI zs) (rowI zs) (by rfl) (by rfl) (by kernel_rfl) true (eq16_same _ zs hz16.out) ?_))
        refine hK.out _ _ ?_ (fun hHeld => ?_)
        · (first | exact HP.out | assumption | exact PS.adds (by assumption) _ _)
        clear hK K
        try simp only [Act.put, List.setIfInBounds_toArray, List.set_cons_zero, List.set_cons_succ]
        refine wpAnyH_ready (rs := [0, 3]) (by kernel_rfl) (by simp) ?_
        refine AllReadyH.cons (o := _) rfl (fun K hK => ?_) ?_
        · (try dsimp only [List.getElem_toArray, List.getElem_cons_succ, List.getElem_cons_zero])
          (rw [if_pos (by rfl)]; first | (refine wp_load_row 25 (.tmp 4) (by with_reducible rfl) k4 (by rfl) 25 (eA f g c u l) (0, 0) _ hHeld.1 Try.underlying25 rfl (infoEd f g c u l) ?_) | (refine wp_load_row 28 (.tmp 5) (by with_reducible rfl) k5 (by rfl) 28 (rowI zs) (0, 0) _ hHeld.2 Try.underlying28 rfl (by rw [rowI_size, hz16.out]; exact infoA16) ?_) | (refine wp_neq_agg 28 28 (.tmp 22) (.tmp 25) (by with_reducible rfl) (rowI zs) (rowI zs) (by rfl) (by rfl) (by kernel_rfl) true (eq16_same _ zs hz16.out) ?_))
          refine hK.out _ _ ?_ (fun hHeld => ?_)
          · (first | exact HP.out | assumption | exact PS.adds (by assumption) _ _)
          clear hK K
          try simp only [Act.put, List.setIfInBounds_toArray, List.set_cons_zero, List.set_cons_succ]
          refine wpAnyH_ready (rs := [3]) (by kernel_rfl) (by simp) ?_
          refine AllReadyH.cons (o := _) rfl (fun K hK => ?_) ?_
          · (try dsimp only [List.getElem_toArray, List.getElem_cons_succ, List.getElem_cons_zero]); go_simp
            (go_at_call 9; refine (CS.out _).mono ?_; rintro e w' ⟨rfl, hb⟩; obtain ⟨o2, n2, rfl⟩ := below_adds hb; clear hb)
            try go_wp2_with fail
            refine hK.out _ _ ?_ (fun hHeld => ?_)
            · (first | exact HP.out | assumption | exact PS.adds (by assumption) _ _)
            clear hK K
            try simp only [Act.put, List.setIfInBounds_toArray, List.set_cons_zero, List.set_cons_succ]
            refine wpAnyH_ready (rs := [4]) (by kernel_rfl) (by simp) ?_
            refine AllReadyH.cons (o := _) rfl (fun K hK => ?_) ?_
            · (try dsimp only [List.getElem_toArray, List.getElem_cons_succ, List.getElem_cons_zero])
              (rw [if_pos (by rfl)]; first | (refine wp_load_row 25 (.tmp 4) (by with_reducible rfl) k4 (by rfl) 25 (eA f g c u l) (0, 0) _ hHeld.1 Try.underlying25 rfl (infoEd f g c u l) ?_) | (refine wp_load_row 28 (.tmp 5) (by with_reducible rfl) k5 (by rfl) 28 (rowI zs) (0, 0) _ hHeld.2 Try.underlying28 rfl (by rw [rowI_size, hz16.out]; exact infoA16) ?_) | (refine wp_neq_agg 28 28 (.tmp 22) (.tmp 25) (by with_reducible rfl) (rowI zs) (rowI zs) (by rfl) (by rfl) (by kernel_rfl) true (eq16_same _ zs hz16.out) ?_))
              refine hK.out _ _ ?_ (fun hHeld => ?_)
              · (first | exact HP.out | assumption | exact PS.adds (by assumption) _ _)
              clear hK K
              try simp only [Act.put, List.setIfInBounds_toArray, List.set_cons_zero, List.set_cons_succ]
              refine wpAnyH_done (by kernel_rfl) ?_ _
              go_wp2_with fail
              go_meet
              exact ⟨by first | rfl | simp, (by repeat' (first | (with_reducible exact Below.refl _ _) | (with_reducible refine Below.adds_ ?_ ?_ _ _) | (with_reducible refine Below.alloc ?_ ?_ _) | (with_reducible refine Below.drew ?_) | (with_reducible refine Below.setCell ?_ ?_ _) | (with_reducible assumption) | go_size | (simp only [size_addsW, World.size_alloc, World.size_drew, World.size_setCell]; omega)))⟩
            exact AllReadyH.nil
          exact AllReadyH.nil
        refine AllReadyH.cons (o := _) rfl (fun K hK => ?_) ?_
        · (try dsimp only [List.getElem_toArray, List.getElem_cons_succ, List.getElem_cons_zero]); go_simp
          (go_at_call 9; refine (CS.out _).mono ?_; rintro e w' ⟨rfl, hb⟩; obtain ⟨o2, n2, rfl⟩ := below_adds hb; clear hb)
          try go_wp2_with fail
          refine hK.out _ _ ?_ (fun hHeld => ?_)
          · (first | exact HP.out | assumption | exact PS.adds (by assumption) _ _)
          clear hK K
          try simp only [Act.put, List.setIfInBounds_toArray, List.set_cons_zero, List.set_cons_succ]
          refine wpAnyH_ready (rs := [0]) (by kernel_rfl) (by simp) ?_
          refine AllReadyH.cons (o := _) rfl (fun K hK => ?_) ?_
          · (try dsimp only [List.getElem_toArray, List.getElem_cons_succ, List.getElem_cons_zero])
            (rw [if_pos (by rfl)]; first | (refine wp_load_row 25 (.tmp 4) (by with_reducible rfl) k4 (by rfl) 25 (eA f g c u l) (0, 0) _ hHeld.1 Try.underlying25 rfl (infoEd f g c u l) ?_) | (refine wp_load_row 28 (.tmp 5) (by with_reducible rfl) k5 (by rfl) 28 (rowI zs) (0, 0) _ hHeld.2 Try.underlying28 rfl (by rw [rowI_size, hz16.out]; exact infoA16) ?_) | (refine wp_neq_agg 28 28 (.tmp 22) (.tmp 25) (by with_reducible rfl) (rowI zs) (rowI zs) (by rfl) (by rfl) (by kernel_rfl) true (eq16_same _ zs hz16.out) ?_))
            refine hK.out _ _ ?_ (fun hHeld => ?_)
            · (first | exact HP.out | assumption | exact PS.adds (by assumption) _ _)
            clear hK K
            try simp only [Act.put, List.setIfInBounds_toArray, List.set_cons_zero, List.set_cons_succ]
            refine wpAnyH_ready (rs := [4]) (by kernel_rfl) (by simp) ?_
            refine AllReadyH.cons (o := _) rfl (fun K hK => ?_) ?_
            · (try dsimp only [List.getElem_toArray, List.getElem_cons_succ, List.getElem_cons_zero])
              (rw [if_pos (by rfl)]; first | (refine wp_load_row 25 (.tmp 4) (by with_reducible rfl) k4 (by rfl) 25 (eA f g c u l) (0, 0) _ hHeld.1 Try.underlying25 rfl (infoEd f g c u l) ?_) | (refine wp_load_row 28 (.tmp 5) (by with_reducible rfl) k5 (by rfl) 28 (rowI zs) (0, 0) _ hHeld.2 Try.underlying28 rfl (by rw [rowI_size, hz16.out]; exact infoA16) ?_) | (refine wp_neq_agg 28 28 (.tmp 22) (.tmp 25) (by with_reducible rfl) (rowI zs) (rowI zs) (by rfl) (by rfl) (by kernel_rfl) true (eq16_same _ zs hz16.out) ?_))
              refine hK.out _ _ ?_ (fun hHeld => ?_)
              · (first | exact HP.out | assumption | exact PS.adds (by assumption) _ _)
              clear hK K
              try simp only [Act.put, List.setIfInBounds_toArray, List.set_cons_zero, List.set_cons_succ]
              refine wpAnyH_done (by kernel_rfl) ?_ _
              go_wp2_with fail
              go_meet
              exact ⟨by first | rfl | simp, (by repeat' (first | (with_reducible exact Below.refl _ _) | (with_reducible refine Below.adds_ ?_ ?_ _ _) | (with_reducible refine Below.alloc ?_ ?_ _) | (with_reducible refine Below.drew ?_) | (with_reducible refine Below.setCell ?_ ?_ _) | (with_reducible assumption) | go_size | (simp only [size_addsW, World.size_alloc, World.size_drew, World.size_setCell]; omega)))⟩
            exact AllReadyH.nil
          exact AllReadyH.nil
        exact AllReadyH.nil
      exact AllReadyH.nil
    case rest =>
      obtain ⟨rfl, hbc⟩ := hcut
      have hce := HP.out.1.below hbc (by omega)
      have hcr := HP.out.2.below hbc l5
      have hcb := HB.out.trans (hbc.mono zZ)
      have hcs := hcb.size
      have hcz := hbc.size
      clear HP HB hbc CS
      have HCB := Lib.hid hcb
      clear hcb
      obtain ⟨p, hp⟩ : ∃ p, p = evB f g c := ⟨_, rfl⟩
      have CE := Lib.hid (show ∀ W, Calls Try.prog 10 #[.agg (eA f g c u l)] W fun e w' => e = .returned (.bool p) ∧ Below W.heap.size W w' from fun W => by rw [hp]; exact S_EdgesValid f g c u l W)
      have hle := hce.lt
      have hlr := hcr.lt
      by_cases hok : 0 ≤ m ∧ m ≤ 4 ∧ evB f g c = true
      · obtain ⟨h1, h2, h3⟩ := hok
        obtain rfl : p = true := hp.trans h3
        have HBD := Lib.hid (show ∀ k, k < 16 → 0 ≤ zs.getD k 0 ∧ zs.getD k 0 ≤ 255 from fun k hk => by rw [HZ.out]; exact prL_bd ⟨h1, h2, h3⟩ hk)
        have hp3 := Lib.hid h3
        have hc := (evB_ok h3).2.2
        clear hp h3
        have e0 : wc.cell? ⟨k4, 0, none⟩ = some (.int .i64 (f 0)) := hce.get rfl
        have e1 : wc.cell? ⟨k4, 1, none⟩ = some (.int .i64 (f 1)) := hce.get rfl
        have e2 : wc.cell? ⟨k4, 2, none⟩ = some (.int .i64 (f 2)) := hce.get rfl
        have e3 : wc.cell? ⟨k4, 3, none⟩ = some (.int .i64 (f 3)) := hce.get rfl
        have e4 : wc.cell? ⟨k4, 4, none⟩ = some (.int .i64 (g 0)) := hce.get rfl
        have e5 : wc.cell? ⟨k4, 5, none⟩ = some (.int .i64 (g 1)) := hce.get rfl
        have e6 : wc.cell? ⟨k4, 6, none⟩ = some (.int .i64 (g 2)) := hce.get rfl
        have e7 : wc.cell? ⟨k4, 7, none⟩ = some (.int .i64 (g 3)) := hce.get rfl
        have e8 : wc.cell? ⟨k4, 8, none⟩ = some (.int .i64 c) := hce.get rfl
        have e9 : wc.cell? ⟨k4, 9, none⟩ = some (.bool u) := hce.get rfl
        have e10 : wc.cell? ⟨k4, 10, none⟩ = some (.bool l) := hce.get rfl
        have n1 : ¬ m < 0 := by omega
        have n2 : ¬ 4 < m := by omega
        unfold eA at CE
        go_upto_region 10 with (first | (go_at_call 10; refine (CE.out _).mono ?_; rintro e w' ⟨rfl, hb⟩; obtain ⟨o1, n1, rfl⟩ := below_adds hb; clear hb))
        refine all_add' ?_
        intro V hV
        have hve : Blk V k4 (eA f g c u l) 25 := hV ▸ (hce.adds _ _).alloc _
        have hvr : Blk V k5 (rowI zs) 28 := hV ▸ (hcr.adds _ _).alloc _
        have hvx : Blk V (wc.heap.size + o1.size) (eA g f c l u) 25 := hV ▸ Blk.new _ _ _ _ (by simp only [size_addsW])
        have hvb : Below w.heap.size w V := hV ▸ Below.alloc (Below.adds_ HCB.out HCB.out.size _ _) (by simp only [size_addsW]; omega) _
        have h06 : w.heap.size ≤ wc.heap.size + o1.size := by omega
        clear hV HCB hce hcr CE e0 e1 e2 e3 e4 e5 e6 e7 e8 e9 e10 hle hlr hcs hcz zZ l5
        generalize wc.heap.size + o1.size = k6 at hvx h06 ⊢
        obtain ⟨mm, rfl⟩ : ∃ mm : Nat, m = (mm : Int) := ⟨m.toNat, by omega⟩
        have hm4 : mm < 5 := by omega
        have HV := Lib.hid (⟨hve, hvr, hvx, hvb⟩ : Blk V k4 (eA f g c u l) 25 ∧ Blk V k5 (rowI zs) 28 ∧ Blk V k6 (eA g f c l u) 25 ∧ Below w.heap.size w V)
        clear hve hvr hvx hvb
        have d1 : (mm : Int) < 5 := by omega
        have d0 : 0 ≤ (mm : Int) := by omega
        go_upto_region 11 with fail
        generalize hge : ([0, 2, 1, 3, 4] : List Int)[mm]'(by simpa using hm4) = oo
        have ho : oo = ((tuM mm : Nat) : Int) := by
          rw [← hge]
          match mm, hm4 with
          | 0, _ => rfl
          | 1, _ => rfl
          | 2, _ => rfl
          | 3, _ => rfl
          | 4, _ => rfl
        clear hge
        refine all_add' ?_
        intro U hU
        obtain ⟨hve, hvr, hvx, hvb⟩ := HV.out
        clear HV
        have hue : Blk U k4 (eA f g c u l) 25 := hU ▸ hve.alloc _
        have hur : Blk U k5 (rowI zs) 28 := hU ▸ hvr.alloc _
        have hux : Blk U k6 (eA g f c l u) 25 := hU ▸ hvx.alloc _
        have hub : Below w.heap.size w U := hU ▸ Below.alloc hvb hvb.size _
        clear hU hve hvr hvx hvb
        obtain ⟨xs, hxs⟩ : ∃ xs, xs = prL oo g f c l u := ⟨_, rfl⟩
        obtain ⟨vs, hvs⟩ : ∃ vs, vs = prL 1 f g c u l := ⟨_, rfl⟩
        have CF := Lib.hid (show ∀ W, Calls Try.prog 8 #[.int .i64 oo, .agg (eA g f c l u)] W fun e w' => e = .returned (.agg (rowI xs)) ∧ Below W.heap.size W w' from fun W => by rw [hxs]; exact I_PredictIntra oo g f c l u W)
        have CG := Lib.hid (show ∀ W, Calls Try.prog 8 #[.int .i64 1, .agg (eA f g c u l)] W fun e w' => e = .returned (.agg (rowI vs)) ∧ Below W.heap.size W w' from fun W => by rw [hvs]; exact I_PredictIntra 1 f g c u l W)
        have HX := Lib.hid (show xs.length = 16 ∧ ∀ k, k < 16 → xs.getD (k % 4 * 4 + k / 4) 0 = zs.getD k 0 from ⟨by rw [hxs]; exact prL_len _ _ _ _ _ _, fun k hk => by rw [hxs, ho, HZ.out]; exact prL_turn (m := (mm : Int)) ⟨by omega, by omega, hp3.out⟩ hk⟩)
        have HG := Lib.hid (show vs.length = 16 ∧ ∀ k, k < 16 → vs.getD k 0 = f (k % 4) from ⟨by rw [hvs]; exact prL_len _ _ _ _ _ _, fun k hk => by rw [hvs]; exact prL_up hp3.out hk⟩)
        clear hxs hvs ho
        have x0 : U.cell? ⟨k6, 0, none⟩ = some (.int .i64 (g 0)) := hux.get rfl
        have x1 : U.cell? ⟨k6, 1, none⟩ = some (.int .i64 (g 1)) := hux.get rfl
        have x2 : U.cell? ⟨k6, 2, none⟩ = some (.int .i64 (g 2)) := hux.get rfl
        have x3 : U.cell? ⟨k6, 3, none⟩ = some (.int .i64 (g 3)) := hux.get rfl
        have x4 : U.cell? ⟨k6, 4, none⟩ = some (.int .i64 (f 0)) := hux.get rfl
        have x5 : U.cell? ⟨k6, 5, none⟩ = some (.int .i64 (f 1)) := hux.get rfl
        have x6 : U.cell? ⟨k6, 6, none⟩ = some (.int .i64 (f 2)) := hux.get rfl
        have x7 : U.cell? ⟨k6, 7, none⟩ = some (.int .i64 (f 3)) := hux.get rfl
        have x8 : U.cell? ⟨k6, 8, none⟩ = some (.int .i64 c) := hux.get rfl
        have x9 : U.cell? ⟨k6, 9, none⟩ = some (.bool l) := hux.get rfl
        have x10 : U.cell? ⟨k6, 10, none⟩ = some (.bool u) := hux.get rfl
        have lx := hux.lt
        have HU := Lib.hid (⟨hue, hur, hub⟩ : Blk U k4 (eA f g c u l) 25 ∧ Blk U k5 (rowI zs) 28 ∧ Below w.heap.size w U)
        clear hue hur hux hub
        unfold eA at CF
        go_upto_region 12 with (first
          | (go_at_call 8; refine (CF.out _).mono ?_; rintro e w' ⟨rfl, hb⟩; obtain ⟨o1, n1, rfl⟩ := below_adds hb; clear hb)
          | (focus ((with_reducible refine wpList_wanted ?_ (fun K hK => ?_)); rotate_left; (refine wp_store_new 28 (.tmp 8) (.tmp 56) ?ho ?g8 (rowI xs) ?hx ?hy 28 (rowI z16) ?hg (by rw [rowI_size, HX.out.1]; exact infoA16) (by rw [rowI_size, rowI_size, HX.out.1]; rfl) (rowI_one xs) (hK _ _ ?_)); (case ho => with_reducible rfl); (case hx => rfl); (case hy => rfl); (case hg => first | rfl | (simp only [size_addsW, World.size_alloc])); (try simp only [Act.put, List.setIfInBounds_toArray, List.set_cons_zero, List.set_cons_succ]); rotate_left; rfl)))
        refine all_add' ?_
        intro T hT
        obtain ⟨hue, hur, hub⟩ := HU.out
        clear HU
        have hus := hub.size
        have hte : Blk T k4 (eA f g c u l) 25 := hT ▸ (hue.adds _ _).alloc _
        have htr : Blk T k5 (rowI zs) 28 := hT ▸ (hur.adds _ _).alloc _
        have htx : Blk T (U.heap.size + o1.size) (rowI xs) 28 := hT ▸ Blk.new _ _ _ _ (by simp only [size_addsW])
        have htb : Below w.heap.size w T := hT ▸ Below.alloc (Below.adds_ hub hub.size _ _) (by simp only [size_addsW]; omega) _
        clear hT hue hur hub hus CF x0 x1 x2 x3 x4 x5 x6 x7 x8 x9 x10 lx
        generalize U.heap.size + o1.size = k8 at htx ⊢
        have y0 : T.cell? ⟨k4, 0, none⟩ = some (.int .i64 (f 0)) := hte.get rfl
        have y1 : T.cell? ⟨k4, 1, none⟩ = some (.int .i64 (f 1)) := hte.get rfl
        have y2 : T.cell? ⟨k4, 2, none⟩ = some (.int .i64 (f 2)) := hte.get rfl
        have y3 : T.cell? ⟨k4, 3, none⟩ = some (.int .i64 (f 3)) := hte.get rfl
        have y4 : T.cell? ⟨k4, 4, none⟩ = some (.int .i64 (g 0)) := hte.get rfl
        have y5 : T.cell? ⟨k4, 5, none⟩ = some (.int .i64 (g 1)) := hte.get rfl
        have y6 : T.cell? ⟨k4, 6, none⟩ = some (.int .i64 (g 2)) := hte.get rfl
        have y7 : T.cell? ⟨k4, 7, none⟩ = some (.int .i64 (g 3)) := hte.get rfl
        have y8 : T.cell? ⟨k4, 8, none⟩ = some (.int .i64 c) := hte.get rfl
        have y9 : T.cell? ⟨k4, 9, none⟩ = some (.bool u) := hte.get rfl
        have y10 : T.cell? ⟨k4, 10, none⟩ = some (.bool l) := hte.get rfl
        have ly := hte.lt
        have HT := Lib.hid (⟨hte, htr, htx, htb⟩ : Blk T k4 (eA f g c u l) 25 ∧ Blk T k5 (rowI zs) 28 ∧ Blk T k8 (rowI xs) 28 ∧ Below w.heap.size w T)
        clear hte htr htx htb
        unfold eA at CG
        go_upto_region 13 with (first
          | (go_at_call 8; refine (CG.out _).mono ?_; rintro e w' ⟨rfl, hb⟩; obtain ⟨o1, n1, rfl⟩ := below_adds hb; clear hb)
          | (focus ((with_reducible refine wpList_wanted ?_ (fun K hK => ?_)); rotate_left; (refine wp_store_new 28 (.tmp 9) (.tmp 58) ?ho ?g9 (rowI vs) ?hx ?hy 28 (rowI z16) ?hg (by rw [rowI_size, HG.out.1]; exact infoA16) (by rw [rowI_size, rowI_size, HG.out.1]; rfl) (rowI_one vs) (hK _ _ ?_)); (case ho => with_reducible rfl); (case hx => rfl); (case hy => rfl); (case hg => first | rfl | (simp only [size_addsW, World.size_alloc])); (try simp only [Act.put, List.setIfInBounds_toArray, List.set_cons_zero, List.set_cons_succ]); rotate_left; rfl)))
        refine all_add' ?_
        intro R hR
        obtain ⟨hte, htr, htx, htb⟩ := HT.out
        clear HT
        have hts := htb.size
        have hre : Blk R k4 (eA f g c u l) 25 := hR ▸ (hte.adds _ _).alloc _
        have hrr : Blk R k5 (rowI zs) 28 := hR ▸ (htr.adds _ _).alloc _
        have hrx : Blk R k8 (rowI xs) 28 := hR ▸ (htx.adds _ _).alloc _
        have hrv : Blk R (T.heap.size + o1.size) (rowI vs) 28 := hR ▸ Blk.new _ _ _ _ (by simp only [size_addsW])
        have hrb : Below w.heap.size w R := hR ▸ Below.alloc (Below.adds_ htb htb.size _ _) (by simp only [size_addsW]; omega) _
        clear hR hte htr htx htb hts CG y0 y1 y2 y3 y4 y5 y6 y7 y8 y9 y10 ly
        generalize T.heap.size + o1.size = k9 at hrv ⊢
        have HS := Lib.hid (show GS w.heap.size k4 k5 k8 k9 f g c u l zs xs vs w R from ⟨hre, hrr, hrx, hrv, hrb⟩)
        clear hre hrr hrx hrv hrb
        go_wp2_with fail
        go_loopw [10] (fun v wr => ∃ k : Nat, v = .int .i64 (k : Int) ∧ k ≤ 16 ∧ GS w.heap.size k4 k5 k8 k9 f g c u l zs xs vs w wr) (fun v _ => 16 - (intOf v).toNat)
        case atStart => exact ⟨0, rfl, by omega, HS.out⟩
        case round =>
          clear HS
          obtain ⟨k, rfl, hk, hst⟩ := hrel
          have HST := Lib.hid hst
          by_cases hlt : k < 16
          · have b1 := hst.r.get (rowI_get (zs := zs) (j := k) (by rw [hz16.out]; exact hlt))
            have b2 := hst.x.get (rowI_get (zs := xs) (j := k % 4 * 4 + k / 4) (by rw [HX.out.1]; omega))
            have b3 := hst.v.get (rowI_get (zs := vs) (j := k) (by rw [HG.out.1]; exact hlt))
            have b4 := hst.e.get (eA_up (f := f) (g := g) (c := c) (u := u) (l := l) (k := k % 4) (by omega))
            rw [HX.out.2 k hlt] at b2
            rw [HG.out.2 k hlt] at b3
            have le := hst.e.lt
            clear hst
            obtain ⟨kk, hkk⟩ : ∃ kk, kk = k + 1 := ⟨_, rfl⟩
            have HKK := Lib.hid hkk
            clear hkk
            obtain ⟨i, hi⟩ : ∃ i : Int, i = (k : Int) := ⟨_, rfl⟩
            rw [← hi]
            rcases (show k = 0 ∨ k = 1 ∨ k = 2 ∨ k = 3 ∨ k = 4 ∨ k = 5 ∨ k = 6 ∨ k = 7 ∨ k = 8 ∨ k = 9 ∨ k = 10 ∨ k = 11 ∨ k = 12 ∨ k = 13 ∨ k = 14 ∨ k = 15 by omega) with rfl | rfl | rfl | rfl | rfl | rfl | rfl | rfl | rfl | rfl | rfl | rfl | rfl | rfl | rfl | rfl
            all_goals
              simp only [Int.natCast_zero, Int.natCast_one, Int.cast_ofNat_Int] at hi
              obtain rfl := hi
              simp only [Nat.zero_mod, Nat.zero_div, Nat.reduceMod, Nat.reduceDiv, Nat.reduceMul, Nat.reduceAdd] at b1 b2 b3 b4
              go_wp2_with fail
              go_quiet (fail)
              go_wp2_with fail
              go_roundw
              case rel => exact ⟨kk, by rw [HKK.out]; go_num, by have := HKK.out; omega, ⟨HST.out.e, HST.out.r, HST.out.x, HST.out.v, HST.out.b.trans ((drewNb _ _).mono HST.out.b.size)⟩⟩
              case measure => simp [intOf]
          · obtain rfl : k = 16 := by omega
            clear hst
            go_wp2_with fail
            go_returns
            exact ⟨rfl, HST.out.b⟩
      · have hz2 := Lib.hid (HZ.out.trans (prL_bad hok))
        rcases (show p = false ∨ (p = true ∧ (m < 0 ∨ 4 < m)) by
          cases p
          · exact .inl rfl
          · refine .inr ⟨rfl, ?_⟩
            by_cases a1 : m < 0
            · exact .inl a1
            · by_cases a2 : 4 < m
              · exact .inr a2
              · exact absurd ⟨by omega, by omega, hp.symm⟩ hok) with rfl | ⟨rfl, h2⟩
        all_goals
          clear hp hok
          obtain ⟨d1, hd1⟩ : ∃ d, d = decide (m < 0) := ⟨_, rfl⟩
          obtain ⟨d2, hd2⟩ : ∃ d, d = decide (4 < m) := ⟨_, rfl⟩
          have HCR := Lib.hid hcr
          clear hcr
          have e0 : wc.cell? ⟨k4, 0, none⟩ = some (.int .i64 (f 0)) := hce.get rfl
          have e1 : wc.cell? ⟨k4, 1, none⟩ = some (.int .i64 (f 1)) := hce.get rfl
          have e2 : wc.cell? ⟨k4, 2, none⟩ = some (.int .i64 (f 2)) := hce.get rfl
          have e3 : wc.cell? ⟨k4, 3, none⟩ = some (.int .i64 (f 3)) := hce.get rfl
          have e4 : wc.cell? ⟨k4, 4, none⟩ = some (.int .i64 (g 0)) := hce.get rfl
          have e5 : wc.cell? ⟨k4, 5, none⟩ = some (.int .i64 (g 1)) := hce.get rfl
          have e6 : wc.cell? ⟨k4, 6, none⟩ = some (.int .i64 (g 2)) := hce.get rfl
          have e7 : wc.cell? ⟨k4, 7, none⟩ = some (.int .i64 (g 3)) := hce.get rfl
          have e8 : wc.cell? ⟨k4, 8, none⟩ = some (.int .i64 c) := hce.get rfl
          have e9 : wc.cell? ⟨k4, 9, none⟩ = some (.bool u) := hce.get rfl
          have e10 : wc.cell? ⟨k4, 10, none⟩ = some (.bool l) := hce.get rfl
          clear hce
          unfold eA at CE
        · go_wp2_with (first | (go_at_call 10; refine (CE.out _).mono ?_; rintro e w' ⟨rfl, hb⟩; obtain ⟨o1, n1, rfl⟩ := below_adds hb; clear hb) | (go_at_call 11; refine (L_alive _).mono ?_; rintro e w' ⟨rfl, hb⟩; obtain ⟨o1, n1, rfl⟩ := below_adds hb; clear hb))
          go_returns
          exact ⟨rfl, (Below.adds_ HCB.out HCB.out.size _ _)⟩
        · rcases (show m < 0 ∨ (¬ m < 0 ∧ 4 < m) by omega) with h3 | ⟨h3, h4⟩
          all_goals
            go_wp2_with (first | (go_at_call 10; refine (CE.out _).mono ?_; rintro e w' ⟨rfl, hb⟩; obtain ⟨o1, n1, rfl⟩ := below_adds hb; clear hb) | (go_at_call 11; refine (L_alive _).mono ?_; rintro e w' ⟨rfl, hb⟩; obtain ⟨o1, n1, rfl⟩ := below_adds hb; clear hb))
            go_returns
            exact ⟨rfl, (Below.adds_ HCB.out HCB.out.size _ _)⟩

set_option maxRecDepth 100000 in
theorem lifted (os : Os) (started : os.Started) (H : Type) (enc : TypeId × Value → H) :
    ReturnsInHanded {} Try.checked os 3 .any (Rows.fnIntraDirectionsSpec.pre6 enc Try.prog Try.f3 Rows.fnIntraDirectionsRow.domain false) (Rows.fnIntraDirectionsSpec.post enc Try.prog Try.f3 false true false false) := by
  refine returnsInHanded_of_change (C := Try.checked) own started (by kernel_rfl) Try.func3
    (ChangeSpec.witness6 (enc := enc) (C := Try.checked) false ⟨#[], #[.slice none 0 0], []⟩ 8 (by kernel_rfl) (by kernel_rfl) (by kernel_rfl) (by kernel_rfl)) ?_
  intro W base args ds gs before hval0 hW hcnd _
  have hval : ∀ (j : Nat) t v, Try.f3.params[j]? = some t → args[j]? = some v → Value.okWide Try.prog W .any base t v := hval0
  have hW' := hW
  obtain ⟨p, q, hA0, hV, rfl, hfz, hnd⟩ := hW
  have hA : DataW.TrodAll enc Try.prog W 0 (fun _ => true) true Try.f3.params.toList args.toList ds p := hA0
  rw [Try.params3] at hA hval
  obtain ⟨v0, vs0, d0, ds0, p0, q0, hargs, rfl, rfl, h0, r0⟩ := trodAll_cons hA
  obtain ⟨rfl, rfl, rfl⟩ := trodAll_nil r0
  obtain rfl : args = #[v0] := by cases args; simp_all
  obtain ⟨rfl, rfl⟩ := trodVars_none hV
  have k0 := h0
  have lt0 : ∀ x ∈ p0, x.block < W.heap.size := by obtain ⟨m, hm⟩ := k0; exact DataW.trod_lt m _ _ _ hm
  obtain ⟨aa0, ll0, cc0, rfl⟩ := okWide_slice Try.underlying22 (hval 0 22 v0 rfl rfl)
  obtain ⟨f0, hf0⟩ := h0
  simp only [Value.cells] at hf0
  obtain ⟨a_cs, len_cs, cap_cs, cs, e_cs, w_cs⟩ : ∃ a l c zs, (.slice aa0 ll0 cc0 : Value) = .slice a l c ∧ IsRow .u8 W a l c zs := by
    rcases open_ints Try.underlying22 Try.underlying5 (by kernel_rfl) hf0 with ⟨hcs, _⟩ | ⟨x, l, c, zs, hcs, _, hl, hm, hz, _, hcell, hwz⟩
    · simp only [List.cons.injEq, and_true] at hcs; exact ⟨none, 0, 0, [], hcs, .inl ⟨rfl, rfl, rfl, rfl⟩⟩
    · simp only [List.cons.injEq, and_true] at hcs; exact ⟨some x, l, c, zs, hcs, .inr ⟨x, rfl, hl, hm, by simpa using hz, hcell, hwz⟩⟩
  simp only [Value.slice.injEq] at e_cs
  obtain ⟨rfl, rfl, rfl⟩ := e_cs
  clear hA0 hval0
  refine (walk _ _ _ cs W w_cs).mono fun e W' ⟨he, bel⟩ => ?_
  subst he
  exact ⟨_, rfl, _, _, _, [], _, [], hW', trodAll_mk1 (shut_bool Try.underlying4 _), (trodAll_cons_mk (Below.trod laidOut (by kernel_rfl) (of_decide_eq_true (by kernel_rfl)) k0 bel lt0) trodAll_mk0), rfl, bel.frame _, fun h => by cases h⟩

theorem over : Rows.fnIntraDirectionsRow.holds Try.pinned (OpenSpec.ofChange Rows.fnIntraDirectionsSpec) :=
  OpenClaim.holds_of_wide 3 Try.f3 rfl rfl rfl rfl rfl rfl rfl ⟨rfl, rfl, rfl, rfl, rfl⟩ rfl rfl rfl rfl rfl (by kernel_rfl) Try.func3 (by kernel_rfl)
    (of_decide_eq_true (by kernel_rfl)) (by unfold Func.isWrapper; first | (rw [if_pos (by decide +kernel)]; kernel_rfl) | (rw [if_neg (by decide +kernel)]; exact ⟨rfl, rfl⟩))
    (fun os started H enc _ => lifted os started H enc)

theorem proved : Rows.FnIntraDirectionsSaid := over
#print axioms proved
end Go.Proofs.Ythnigldbpikcaaa.fnIntraDirections
