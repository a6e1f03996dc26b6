/- PROVED: the law laws.FnExactBestIntra returns true for every input (the program's BestIntra answers as the reference's does); no conditions. -/
import Derived.Test.YthnigldbpikcaaaRows
import Derived.Test.YthnigldbpikcaaaBestS
import Derived.Test.YthnigldbpikcaaaToB
import Derived.WalkKit
import Derived.ProofKit
import Derived.OpenShut
import Derived.ShutString
import Derived.ChangeOld
import Derived.Below
import Derived.Lib.SmallJoins
namespace Go.Proofs.Ythnigldbpikcaaa.fnExactBestIntra
open Go.ChangeShapes Go.WideShapes Go.ChangeAt Go.RowKit
open Go.ChangeMaps (open_string shut_string)
set_option linter.unusedVariables false
set_option linter.unusedSimpArgs false

theorem own : ownKnob Try.prog.godebug = none := by kernel_rfl
theorem laidOut : laidOutB Try.prog = true := by kernel_rfl

attribute [local go_sem] size_addsW cell?_addsW frozen?_addsW setCell_addsW drew_addsW adds_addsW setCell_twice alloc_adds0 size_adds0 adds_adds0 sel2 sel3 sel4 sel5 sel6 sel7 sel8 sel9 lt_more lt_more2 lt_more3 lt_more4 adds_drew adds_drewN drewN_addsW ltA_1_1 ltA_1_2 ltA_1_3 ltA_1_4 ltA_1_5 ltA_1_6 ltA_2_1 ltA_2_2 ltA_2_3 ltA_2_4 ltA_2_5 ltA_2_6 ltA_3_1 ltA_3_2 ltA_3_3 ltA_3_4 ltA_3_5 ltA_3_6 ltA_4_1 ltA_4_2 ltA_4_3 ltA_4_4 ltA_4_5 ltA_4_6 ltA_5_1 ltA_5_2 ltA_5_3 ltA_5_4 ltA_5_5 ltA_5_6 ltA_6_1 ltA_6_2 ltA_6_3 ltA_6_4 ltA_6_5 ltA_6_6 ltA_7_1 ltA_7_2 ltA_7_3 ltA_7_4 ltA_7_5 ltA_7_6 ltA_8_1 ltA_8_2 ltA_8_3 ltA_8_4 ltA_8_5 ltA_8_6 ltA_9_1 ltA_9_2 ltA_9_3 ltA_9_4 ltA_9_5 ltA_9_6 ltA_10_1 ltA_10_2 ltA_10_3 ltA_10_4 ltA_10_5 ltA_10_6 ltA_11_1 ltA_11_2 ltA_11_3 ltA_11_4 ltA_11_5 ltA_11_6 ltA_12_1 ltA_12_2 ltA_12_3 ltA_12_4 ltA_12_5 ltA_12_6
theorem infoLE (f g : Nat → Int) (c : Int) (u l : Bool) : (Try.prog.info? 34).map (·.size) = some (eA f g c u l).size := by kernel_rfl

set_option maxHeartbeats 4000000 in
set_option maxRecDepth 100000 in
theorem walk (xs : List Int) (f g : Nat → Int) (c : Int) (u l : Bool) (w : World) (hx : xs.length = 16) (htriv : True) :
    Calls Try.prog 5 #[.agg (rowI xs), .agg (eA f g c u l)] w fun e w' => e = .returned (.bool true) ∧ Below w.heap.size w w' := by
  have HX := Lib.hid hx
  obtain ⟨n, hn⟩ : ∃ n, n = biV xs f g c u l := ⟨_, rfl⟩
  have CS := Lib.hid (show ∀ W, Calls Try.prog 12 #[.agg (rowI xs), .agg (eA f g c u l)] W fun e w' => e = .returned (.int .i64 n) ∧ Below W.heap.size W w' from fun W => by rw [hn]; exact S_BestIntra xs f g c u l W hx)
  have CI := Lib.hid (show ∀ W, Calls Try.prog 15 #[.agg (rowI xs), .agg (eA f g c u l)] W fun e w' => e = .returned (.int .i64 n) ∧ Below W.heap.size W w' from fun W => by rw [hn]; exact I_BestIntra xs f g c u l W hx)
  clear hn hx htriv
  have HT0 := Lib.hid (⟨(Blk.new w _ _ _ rfl).alloc _, Blk.new _ _ _ _ (by simp)⟩ : Blk ((w.alloc (.cells (rowI xs) 28)).alloc (.cells (eA f g c u l) 34)) w.heap.size (rowI xs) 28 ∧ Blk ((w.alloc (.cells (rowI xs) 28)).alloc (.cells (eA f g c u l) 34)) (w.heap.size + 1) (eA f g c u l) 34)
  have HB0 := Lib.hid (show Below w.heap.size w ((w.alloc (.cells (rowI xs) 28)).alloc (.cells (eA f g c u l) 34)) from (by repeat' (first | (with_reducible exact Below.refl _ _) | (with_reducible refine Below.adds_ ?_ ?_ _ _) | (with_reducible refine Below.alloc ?_ ?_ _) | (with_reducible refine Below.drew ?_) | (with_reducible refine Below.setCell ?_ ?_ _) | (with_reducible assumption) | go_size | (simp only [size_addsW, World.size_alloc, World.size_drew, World.size_setCell]; omega))))
  go_enter Try.func5, Try.ntmps5
  go_upto_region 1 with fail
  refine all_add' ?_
  intro Z hZ
  have HP := Lib.hid (show Blk Z w.heap.size (rowI xs) 28 ∧ Blk Z (w.heap.size + 1) (eA f g c u l) 34 from hZ ▸ HT0.out)
  have HB := Lib.hid (show Below w.heap.size w Z from hZ ▸ HB0.out)
  clear hZ HT0 HB0
  have lz : w.heap.size + 1 < Z.heap.size := HP.out.2.lt
  go_cut [5] (fun s wx => s = .int .i64 n ∧ Below Z.heap.size Z wx)
  case first =>
      refine wp_region_held_drew (S := (fun w' => Blk w' w.heap.size (rowI xs) 28 ∧ Blk w' (w.heap.size + 1) (eA f g c u l) 34)) (by kernel_rfl) ?_ (fun hHeld => ?_)
      · (first | exact HP.out | assumption | exact ⟨Blk.adds (And.left (by assumption)) _ _, Blk.adds (And.right (by assumption)) _ _⟩)
      refine wpAnyH_ready (rs := [0, 2]) (by kernel_rfl) (by simp) ?_
      refine AllReadyH.cons (o := _) rfl (fun K hK => ?_) ?_
      · (try dsimp only [List.getElem_toArray, List.getElem_cons_succ, List.getElem_cons_zero])
        (rw [if_pos (by rfl)]; first | (refine wp_load_row 34 (.tmp 3) (by with_reducible rfl) (w.heap.size + 1) (by rfl) 34 (eA f g c u l) (0, 0) _ hHeld.2 Try.underlying34 rfl (infoLE f g c u l) ?_) | (refine wp_load_row 28 (.tmp 2) (by with_reducible rfl) w.heap.size (by rfl) 28 (rowI xs) (0, 0) _ hHeld.1 Try.underlying28 rfl (by rw [rowI_size, HX.out]; exact infoA16) ?_))
        refine hK.out _ _ ?_ (fun hHeld => ?_)
        · (first | exact HP.out | assumption | exact ⟨Blk.adds (And.left (by assumption)) _ _, Blk.adds (And.right (by assumption)) _ _⟩)
        clear hK K
        try simp only [Act.put, List.setIfInBounds_toArray, List.set_cons_zero, List.set_cons_succ]
        refine wpAnyH_ready (rs := [1, 2]) (by kernel_rfl) (by simp) ?_
        refine AllReadyH.cons (o := _) rfl (fun K hK => ?_) ?_
        · (try dsimp only [List.getElem_toArray, List.getElem_cons_succ, List.getElem_cons_zero]); go_simp
          (first | (go_at_call 13; refine (L_toIntA16 xs _ HX.out).mono ?_; rintro e w' ⟨rfl, hb⟩; obtain ⟨o2, n2, rfl⟩ := below_adds hb; clear hb) | (go_at_call 14; refine (L_toEdges f g c u l _).mono ?_; rintro e w' ⟨rfl, hb⟩; obtain ⟨o2, n2, rfl⟩ := below_adds hb; clear hb) | (go_at_call 12; refine (CS.out _).mono ?_; rintro e w' ⟨rfl, hb⟩; obtain ⟨o2, n2, rfl⟩ := below_adds hb; clear hb))
          try go_wp2_with fail
          refine hK.out _ _ ?_ (fun hHeld => ?_)
          · (first | exact HP.out | assumption | exact ⟨Blk.adds (And.left (by assumption)) _ _, Blk.adds (And.right (by assumption)) _ _⟩)
          clear hK K
          try simp only [Act.put, List.setIfInBounds_toArray, List.set_cons_zero, List.set_cons_succ]
          refine wpAnyH_ready (rs := [2]) (by kernel_rfl) (by simp) ?_
          refine AllReadyH.cons (o := _) rfl (fun K hK => ?_) ?_
          · (try dsimp only [List.getElem_toArray, List.getElem_cons_succ, List.getElem_cons_zero])
            (rw [if_pos (by rfl)]; first | (refine wp_load_row 34 (.tmp 3) (by with_reducible rfl) (w.heap.size + 1) (by rfl) 34 (eA f g c u l) (0, 0) _ hHeld.2 Try.underlying34 rfl (infoLE f g c u l) ?_) | (refine wp_load_row 28 (.tmp 2) (by with_reducible rfl) w.heap.size (by rfl) 28 (rowI xs) (0, 0) _ hHeld.1 Try.underlying28 rfl (by rw [rowI_size, HX.out]; exact infoA16) ?_))
            refine hK.out _ _ ?_ (fun hHeld => ?_)
            · (first | exact HP.out | assumption | exact ⟨Blk.adds (And.left (by assumption)) _ _, Blk.adds (And.right (by assumption)) _ _⟩)
            clear hK K
            try simp only [Act.put, List.setIfInBounds_toArray, List.set_cons_zero, List.set_cons_succ]
            refine wpAnyH_ready (rs := [3]) (by kernel_rfl) (by simp) ?_
            refine AllReadyH.cons (o := _) rfl (fun K hK => ?_) ?_
            · (try dsimp only [List.getElem_toArray, List.getElem_cons_succ, List.getElem_cons_zero]); go_simp
              (first | (go_at_call 13; refine (L_toIntA16 xs _ HX.out).mono ?_; rintro e w' ⟨rfl, hb⟩; obtain ⟨o2, n2, rfl⟩ := below_adds hb; clear hb) | (go_at_call 14; refine (L_toEdges f g c u l _).mono ?_; rintro e w' ⟨rfl, hb⟩; obtain ⟨o2, n2, rfl⟩ := below_adds hb; clear hb) | (go_at_call 12; refine (CS.out _).mono ?_; rintro e w' ⟨rfl, hb⟩; obtain ⟨o2, n2, rfl⟩ := below_adds hb; clear hb))
              try go_wp2_with fail
              refine hK.out _ _ ?_ (fun hHeld => ?_)
              · (first | exact HP.out | assumption | exact ⟨Blk.adds (And.left (by assumption)) _ _, Blk.adds (And.right (by assumption)) _ _⟩)
              clear hK K
              try simp only [Act.put, List.setIfInBounds_toArray, List.set_cons_zero, List.set_cons_succ]
              refine wpAnyH_ready (rs := [4]) (by kernel_rfl) (by simp) ?_
              refine AllReadyH.cons (o := _) rfl (fun K hK => ?_) ?_
              · (try dsimp only [List.getElem_toArray, List.getElem_cons_succ, List.getElem_cons_zero]); go_simp
                (first | (go_at_call 13; refine (L_toIntA16 xs _ HX.out).mono ?_; rintro e w' ⟨rfl, hb⟩; obtain ⟨o2, n2, rfl⟩ := below_adds hb; clear hb) | (go_at_call 14; refine (L_toEdges f g c u l _).mono ?_; rintro e w' ⟨rfl, hb⟩; obtain ⟨o2, n2, rfl⟩ := below_adds hb; clear hb) | (go_at_call 12; refine (CS.out _).mono ?_; rintro e w' ⟨rfl, hb⟩; obtain ⟨o2, n2, rfl⟩ := below_adds hb; clear hb))
                try go_wp2_with fail
                refine hK.out _ _ ?_ (fun hHeld => ?_)
                · (first | exact HP.out | assumption | exact ⟨Blk.adds (And.left (by assumption)) _ _, Blk.adds (And.right (by assumption)) _ _⟩)
                clear hK K
                try simp only [Act.put, List.setIfInBounds_toArray, List.set_cons_zero, List.set_cons_succ]
                refine wpAnyH_take (i := 5) (oi := _) (v := ?_) rfl (by kernel_rfl) (by kernel_rfl) (by kernel_rfl) (fun _ _ _ h => h) (Or.inl ⟨by rfl, ?_⟩) (by assumption) ?_
                rotate_left
                · intro w hSw; (try dsimp only at hSw); go_simp; (try with_reducible rfl)
                try dsimp only [List.getElem_toArray, List.getElem_cons_succ, List.getElem_cons_zero]
                simp only [Act.put, List.setIfInBounds_toArray, List.set_cons_zero, List.set_cons_succ]
                refine wpAnyH_done (by kernel_rfl) ?_ _
                go_wp2_with fail
                go_meet
                exact ⟨rfl, (by repeat' (first | (with_reducible exact Below.refl _ _) | (with_reducible refine Below.adds_ ?_ ?_ _ _) | (with_reducible refine Below.alloc ?_ ?_ _) | (with_reducible refine Below.drew ?_) | (with_reducible refine Below.setCell ?_ ?_ _) | (with_reducible assumption) | go_size | (simp only [size_addsW, World.size_alloc, World.size_drew, World.size_setCell]; omega)))⟩
              exact AllReadyH.nil
            exact AllReadyH.nil
          exact AllReadyH.nil
        refine AllReadyH.cons (o := _) rfl (fun K hK => ?_) ?_
        · (try dsimp only [List.getElem_toArray, List.getElem_cons_succ, List.getElem_cons_zero])
          (rw [if_pos (by rfl)]; first | (refine wp_load_row 34 (.tmp 3) (by with_reducible rfl) (w.heap.size + 1) (by rfl) 34 (eA f g c u l) (0, 0) _ hHeld.2 Try.underlying34 rfl (infoLE f g c u l) ?_) | (refine wp_load_row 28 (.tmp 2) (by with_reducible rfl) w.heap.size (by rfl) 28 (rowI xs) (0, 0) _ hHeld.1 Try.underlying28 rfl (by rw [rowI_size, HX.out]; exact infoA16) ?_))
          refine hK.out _ _ ?_ (fun hHeld => ?_)
          · (first | exact HP.out | assumption | exact ⟨Blk.adds (And.left (by assumption)) _ _, Blk.adds (And.right (by assumption)) _ _⟩)
          clear hK K
          try simp only [Act.put, List.setIfInBounds_toArray, List.set_cons_zero, List.set_cons_succ]
          refine wpAnyH_ready (rs := [1]) (by kernel_rfl) (by simp) ?_
          refine AllReadyH.cons (o := _) rfl (fun K hK => ?_) ?_
          · (try dsimp only [List.getElem_toArray, List.getElem_cons_succ, List.getElem_cons_zero]); go_simp
            (first | (go_at_call 13; refine (L_toIntA16 xs _ HX.out).mono ?_; rintro e w' ⟨rfl, hb⟩; obtain ⟨o2, n2, rfl⟩ := below_adds hb; clear hb) | (go_at_call 14; refine (L_toEdges f g c u l _).mono ?_; rintro e w' ⟨rfl, hb⟩; obtain ⟨o2, n2, rfl⟩ := below_adds hb; clear hb) | (go_at_call 12; refine (CS.out _).mono ?_; rintro e w' ⟨rfl, hb⟩; obtain ⟨o2, n2, rfl⟩ := below_adds hb; clear hb))
            try go_wp2_with fail
            refine hK.out _ _ ?_ (fun hHeld => ?_)
            · (first | exact HP.out | assumption | exact ⟨Blk.adds (And.left (by assumption)) _ _, Blk.adds (And.right (by assumption)) _ _⟩)
            clear hK K
            try simp only [Act.put, List.setIfInBounds_toArray, List.set_cons_zero, List.set_cons_succ]
            refine wpAnyH_ready (rs := [3]) (by kernel_rfl) (by simp) ?_
            refine AllReadyH.cons (o := _) rfl (fun K hK => ?_) ?_
            · (try dsimp only [List.getElem_toArray, List.getElem_cons_succ, List.getElem_cons_zero]); go_simp
              (first | (go_at_call 13; refine (L_toIntA16 xs _ HX.out).mono ?_; rintro e w' ⟨rfl, hb⟩; obtain ⟨o2, n2, rfl⟩ := below_adds hb; clear hb) | (go_at_call 14; refine (L_toEdges f g c u l _).mono ?_; rintro e w' ⟨rfl, hb⟩; obtain ⟨o2, n2, rfl⟩ := below_adds hb; clear hb) | (go_at_call 12; refine (CS.out _).mono ?_; rintro e w' ⟨rfl, hb⟩; obtain ⟨o2, n2, rfl⟩ := below_adds hb; clear hb))
              try go_wp2_with fail
              refine hK.out _ _ ?_ (fun hHeld => ?_)
              · (first | exact HP.out | assumption | exact ⟨Blk.adds (And.left (by assumption)) _ _, Blk.adds (And.right (by assumption)) _ _⟩)
              clear hK K
              try simp only [Act.put, List.setIfInBounds_toArray, List.set_cons_zero, List.set_cons_succ]
              refine wpAnyH_ready (rs := [4]) (by kernel_rfl) (by simp) ?_
              refine AllReadyH.cons (o := _) rfl (fun K hK => ?_) ?_
              · (try dsimp only [List.getElem_toArray, List.getElem_cons_succ, List.getElem_cons_zero]); go_simp
                (first | (go_at_call 13; refine (L_toIntA16 xs _ HX.out).mono ?_; rintro e w' ⟨rfl, hb⟩; obtain ⟨o2, n2, rfl⟩ := below_adds hb; clear hb) | (go_at_call 14; refine (L_toEdges f g c u l _).mono ?_; rintro e w' ⟨rfl, hb⟩; obtain ⟨o2, n2, rfl⟩ := below_adds hb; clear hb) | (go_at_call 12; refine (CS.out _).mono ?_; rintro e w' ⟨rfl, hb⟩; obtain ⟨o2, n2, rfl⟩ := below_adds hb; clear hb))
                try go_wp2_with fail
                refine hK.out _ _ ?_ (fun hHeld => ?_)
                · (first | exact HP.out | assumption | exact ⟨Blk.adds (And.left (by assumption)) _ _, Blk.adds (And.right (by assumption)) _ _⟩)
                clear hK K
                try simp only [Act.put, List.setIfInBounds_toArray, List.set_cons_zero, List.set_cons_succ]
                refine wpAnyH_take (i := 5) (oi := _) (v := ?_) rfl (by kernel_rfl) (by kernel_rfl) (by kernel_rfl) (fun _ _ _ h => h) (Or.inl ⟨by rfl, ?_⟩) (by assumption) ?_
                rotate_left
                · intro w hSw; (try dsimp only at hSw); go_simp; (try with_reducible rfl)
                try dsimp only [List.getElem_toArray, List.getElem_cons_succ, List.getElem_cons_zero]
                simp only [Act.put, List.setIfInBounds_toArray, List.set_cons_zero, List.set_cons_succ]
                refine wpAnyH_done (by kernel_rfl) ?_ _
                go_wp2_with fail
                go_meet
                exact ⟨rfl, (by repeat' (first | (with_reducible exact Below.refl _ _) | (with_reducible refine Below.adds_ ?_ ?_ _ _) | (with_reducible refine Below.alloc ?_ ?_ _) | (with_reducible refine Below.drew ?_) | (with_reducible refine Below.setCell ?_ ?_ _) | (with_reducible assumption) | go_size | (simp only [size_addsW, World.size_alloc, World.size_drew, World.size_setCell]; omega)))⟩
              exact AllReadyH.nil
            exact AllReadyH.nil
          exact AllReadyH.nil
        exact AllReadyH.nil
      refine AllReadyH.cons (o := _) rfl (fun K hK => ?_) ?_
      · (try dsimp only [List.getElem_toArray, List.getElem_cons_succ, List.getElem_cons_zero])
        (rw [if_pos (by rfl)]; first | (refine wp_load_row 34 (.tmp 3) (by with_reducible rfl) (w.heap.size + 1) (by rfl) 34 (eA f g c u l) (0, 0) _ hHeld.2 Try.underlying34 rfl (infoLE f g c u l) ?_) | (refine wp_load_row 28 (.tmp 2) (by with_reducible rfl) w.heap.size (by rfl) 28 (rowI xs) (0, 0) _ hHeld.1 Try.underlying28 rfl (by rw [rowI_size, HX.out]; exact infoA16) ?_))
        refine hK.out _ _ ?_ (fun hHeld => ?_)
        · (first | exact HP.out | assumption | exact ⟨Blk.adds (And.left (by assumption)) _ _, Blk.adds (And.right (by assumption)) _ _⟩)
        clear hK K
        try simp only [Act.put, List.setIfInBounds_toArray, List.set_cons_zero, List.set_cons_succ]
        refine wpAnyH_ready (rs := [0]) (by kernel_rfl) (by simp) ?_
        refine AllReadyH.cons (o := _) rfl (fun K hK => ?_) ?_
        · (try dsimp only [List.getElem_toArray, List.getElem_cons_succ, List.getElem_cons_zero])
          (rw [if_pos (by rfl)]; first | (refine wp_load_row 34 (.tmp 3) (by with_reducible rfl) (w.heap.size + 1) (by rfl) 34 (eA f g c u l) (0, 0) _ hHeld.2 Try.underlying34 rfl (infoLE f g c u l) ?_) | (refine wp_load_row 28 (.tmp 2) (by with_reducible rfl) w.heap.size (by rfl) 28 (rowI xs) (0, 0) _ hHeld.1 Try.underlying28 rfl (by rw [rowI_size, HX.out]; exact infoA16) ?_))
          refine hK.out _ _ ?_ (fun hHeld => ?_)
          · (first | exact HP.out | assumption | exact ⟨Blk.adds (And.left (by assumption)) _ _, Blk.adds (And.right (by assumption)) _ _⟩)
          clear hK K
          try simp only [Act.put, List.setIfInBounds_toArray, List.set_cons_zero, List.set_cons_succ]
          refine wpAnyH_ready (rs := [1]) (by kernel_rfl) (by simp) ?_
          refine AllReadyH.cons (o := _) rfl (fun K hK => ?_) ?_
          · (try dsimp only [List.getElem_toArray, List.getElem_cons_succ, List.getElem_cons_zero]); go_simp
            (first | (go_at_call 13; refine (L_toIntA16 xs _ HX.out).mono ?_; rintro e w' ⟨rfl, hb⟩; obtain ⟨o2, n2, rfl⟩ := below_adds hb; clear hb) | (go_at_call 14; refine (L_toEdges f g c u l _).mono ?_; rintro e w' ⟨rfl, hb⟩; obtain ⟨o2, n2, rfl⟩ := below_adds hb; clear hb) | (go_at_call 12; refine (CS.out _).mono ?_; rintro e w' ⟨rfl, hb⟩; obtain ⟨o2, n2, rfl⟩ := below_adds hb; clear hb))
            try go_wp2_with fail
            refine hK.out _ _ ?_ (fun hHeld => ?_)
            · (first | exact HP.out | assumption | exact ⟨Blk.adds (And.left (by assumption)) _ _, Blk.adds (And.right (by assumption)) _ _⟩)
            clear hK K
            try simp only [Act.put, List.setIfInBounds_toArray, List.set_cons_zero, List.set_cons_succ]
            refine wpAnyH_ready (rs := [3]) (by kernel_rfl) (by simp) ?_
            refine AllReadyH.cons (o := _) rfl (fun K hK => ?_) ?_
            · (try dsimp only [List.getElem_toArray, List.getElem_cons_succ, List.getElem_cons_zero]); go_simp
              (first | (go_at_call 13; refine (L_toIntA16 xs _ HX.out).mono ?_; rintro e w' ⟨rfl, hb⟩; obtain ⟨o2, n2, rfl⟩ := below_adds hb; clear hb) | (go_at_call 14; refine (L_toEdges f g c u l _).mono ?_; rintro e w' ⟨rfl, hb⟩; obtain ⟨o2, n2, rfl⟩ := below_adds hb; clear hb) | (go_at_call 12; refine (CS.out _).mono ?_; rintro e w' ⟨rfl, hb⟩; obtain ⟨o2, n2, rfl⟩ := below_adds hb; clear hb))
              try go_wp2_with fail
              refine hK.out _ _ ?_ (fun hHeld => ?_)
              · (first | exact HP.out | assumption | exact ⟨Blk.adds (And.left (by assumption)) _ _, Blk.adds (And.right (by assumption)) _ _⟩)
              clear hK K
              try simp only [Act.put, List.setIfInBounds_toArray, List.set_cons_zero, List.set_cons_succ]
              refine wpAnyH_ready (rs := [4]) (by kernel_rfl) (by simp) ?_
              refine AllReadyH.cons (o := _) rfl (fun K hK => ?_) ?_
              · (try dsimp only [List.getElem_toArray, List.getElem_cons_succ, List.getElem_cons_zero]); go_simp
                (first | (go_at_call 13; refine (L_toIntA16 xs _ HX.out).mono ?_; rintro e w' ⟨rfl, hb⟩; obtain ⟨o2, n2, rfl⟩ := below_adds hb; clear hb) | (go_at_call 14; refine (L_toEdges f g c u l _).mono ?_; rintro e w' ⟨rfl, hb⟩; obtain ⟨o2, n2, rfl⟩ := below_adds hb; clear hb) | (go_at_call 12; refine (CS.out _).mono ?_; rintro e w' ⟨rfl, hb⟩; obtain ⟨o2, n2, rfl⟩ := below_adds hb; clear hb))
                try go_wp2_with fail
                refine hK.out _ _ ?_ (fun hHeld => ?_)
                · (first | exact HP.out | assumption | exact ⟨Blk.adds (And.left (by assumption)) _ _, Blk.adds (And.right (by assumption)) _ _⟩)
                clear hK K
                try simp only [Act.put, List.setIfInBounds_toArray, List.set_cons_zero, List.set_cons_succ]
                refine wpAnyH_take (i := 5) (oi := _) (v := ?_) rfl (by kernel_rfl) (by kernel_rfl) (by kernel_rfl) (fun _ _ _ h => h) (Or.inl ⟨by rfl, ?_⟩) (by assumption) ?_
                rotate_left
                · intro w hSw; (try dsimp only at hSw); go_simp; (try with_reducible rfl)
                try dsimp only [List.getElem_toArray, List.getElem_cons_succ, List.getElem_cons_zero]
                simp only [Act.put, List.setIfInBounds_toArray, List.set_cons_zero, List.set_cons_succ]
                refine wpAnyH_done (by kernel_rfl) ?_ _
                go_wp2_with fail
                go_meet
                exact ⟨rfl, (by repeat' (first | (with_reducible exact Below.refl _ _) | (with_reducible refine Below.adds_ ?_ ?_ _ _) | (with_reducible refine Below.alloc ?_ ?_ _) | (with_reducible refine Below.drew ?_) | (with_reducible refine Below.setCell ?_ ?_ _) | (with_reducible assumption) | go_size | (simp only [size_addsW, World.size_alloc, World.size_drew, World.size_setCell]; omega)))⟩
              exact AllReadyH.nil
            exact AllReadyH.nil
          exact AllReadyH.nil
        exact AllReadyH.nil
      exact AllReadyH.nil
  case rest =>
      obtain ⟨rfl, hbc⟩ := hcut
      have HP2 := Lib.hid (show Blk wc w.heap.size (rowI xs) 28 ∧ Blk wc (w.heap.size + 1) (eA f g c u l) 34 from ⟨HP.out.1.below hbc (by omega), HP.out.2.below hbc (by omega)⟩)
      have HB2 := Lib.hid (show Below w.heap.size w wc from HB.out.trans (hbc.mono HB.out.size))
      have lc : w.heap.size + 1 < wc.heap.size := HP2.out.2.lt
      clear HP HB hbc lz
      have HP := HP2
      clear HP2
      go_upto_region 2 with fail
      go_cut [6] (fun s wx => s = .int .i64 n ∧ Below wc.heap.size wc wx)
      case first =>
        refine wp_region_held_drew (S := (fun w' => Blk w' w.heap.size (rowI xs) 28 ∧ Blk w' (w.heap.size + 1) (eA f g c u l) 34)) (by kernel_rfl) ?_ (fun hHeld => ?_)
        · (first | exact HP.out | assumption | exact ⟨Blk.adds (And.left (by assumption)) _ _, Blk.adds (And.right (by assumption)) _ _⟩)
        refine wpAnyH_ready (rs := [0, 2]) (by kernel_rfl) (by simp) ?_
        refine AllReadyH.cons (o := _) rfl (fun K hK => ?_) ?_
        · (try dsimp only [List.getElem_toArray, List.getElem_cons_succ, List.getElem_cons_zero])
          (rw [if_pos (by rfl)]; first | (refine wp_load_row 34 (.tmp 3) (by with_reducible rfl) (w.heap.size + 1) (by rfl) 34 (eA f g c u l) (0, 0) _ hHeld.2 Try.underlying34 rfl (infoLE f g c u l) ?_) | (refine wp_load_row 28 (.tmp 2) (by with_reducible rfl) w.heap.size (by rfl) 28 (rowI xs) (0, 0) _ hHeld.1 Try.underlying28 rfl (by rw [rowI_size, HX.out]; exact infoA16) ?_))
          refine hK.out _ _ ?_ (fun hHeld => ?_)
          · (first | exact HP.out | assumption | exact ⟨Blk.adds (And.left (by assumption)) _ _, Blk.adds (And.right (by assumption)) _ _⟩)
          clear hK K
          try simp only [Act.put, List.setIfInBounds_toArray, List.set_cons_zero, List.set_cons_succ]
          refine wpAnyH_ready (rs := [1, 2]) (by kernel_rfl) (by simp) ?_
          refine AllReadyH.cons (o := _) rfl (fun K hK => ?_) ?_
          · (try dsimp only [List.getElem_toArray, List.getElem_cons_succ, List.getElem_cons_zero]); go_simp
            (first | (go_at_call 13; refine (L_toIntA16 xs _ HX.out).mono ?_; rintro e w' ⟨rfl, hb⟩; obtain ⟨o2, n2, rfl⟩ := below_adds hb; clear hb) | (go_at_call 14; refine (L_toEdges f g c u l _).mono ?_; rintro e w' ⟨rfl, hb⟩; obtain ⟨o2, n2, rfl⟩ := below_adds hb; clear hb) | (go_at_call 15; refine (CI.out _).mono ?_; rintro e w' ⟨rfl, hb⟩; obtain ⟨o2, n2, rfl⟩ := below_adds hb; clear hb))
            try go_wp2_with fail
            refine hK.out _ _ ?_ (fun hHeld => ?_)
            · (first | exact HP.out | assumption | exact ⟨Blk.adds (And.left (by assumption)) _ _, Blk.adds (And.right (by assumption)) _ _⟩)
            clear hK K
            try simp only [Act.put, List.setIfInBounds_toArray, List.set_cons_zero, List.set_cons_succ]
            refine wpAnyH_ready (rs := [2]) (by kernel_rfl) (by simp) ?_
            refine AllReadyH.cons (o := _) rfl (fun K hK => ?_) ?_
            · (try dsimp only [List.getElem_toArray, List.getElem_cons_succ, List.getElem_cons_zero])
              (rw [if_pos (by rfl)]; first | (refine wp_load_row 34 (.tmp 3) (by with_reducible rfl) (w.heap.size + 1) (by rfl) 34 (eA f g c u l) (0, 0) _ hHeld.2 Try.underlying34 rfl (infoLE f g c u l) ?_) | (refine wp_load_row 28 (.tmp 2) (by with_reducible rfl) w.heap.size (by rfl) 28 (rowI xs) (0, 0) _ hHeld.1 Try.underlying28 rfl (by rw [rowI_size, HX.out]; exact infoA16) ?_))
              refine hK.out _ _ ?_ (fun hHeld => ?_)
              · (first | exact HP.out | assumption | exact ⟨Blk.adds (And.left (by assumption)) _ _, Blk.adds (And.right (by assumption)) _ _⟩)
              clear hK K
              try simp only [Act.put, List.setIfInBounds_toArray, List.set_cons_zero, List.set_cons_succ]
              refine wpAnyH_ready (rs := [3]) (by kernel_rfl) (by simp) ?_
              refine AllReadyH.cons (o := _) rfl (fun K hK => ?_) ?_
              · (try dsimp only [List.getElem_toArray, List.getElem_cons_succ, List.getElem_cons_zero]); go_simp
                (first | (go_at_call 13; refine (L_toIntA16 xs _ HX.out).mono ?_; rintro e w' ⟨rfl, hb⟩; obtain ⟨o2, n2, rfl⟩ := below_adds hb; clear hb) | (go_at_call 14; refine (L_toEdges f g c u l _).mono ?_; rintro e w' ⟨rfl, hb⟩; obtain ⟨o2, n2, rfl⟩ := below_adds hb; clear hb) | (go_at_call 15; refine (CI.out _).mono ?_; rintro e w' ⟨rfl, hb⟩; obtain ⟨o2, n2, rfl⟩ := below_adds hb; clear hb))
                try go_wp2_with fail
                refine hK.out _ _ ?_ (fun hHeld => ?_)
                · (first | exact HP.out | assumption | exact ⟨Blk.adds (And.left (by assumption)) _ _, Blk.adds (And.right (by assumption)) _ _⟩)
                clear hK K
                try simp only [Act.put, List.setIfInBounds_toArray, List.set_cons_zero, List.set_cons_succ]
                refine wpAnyH_ready (rs := [4]) (by kernel_rfl) (by simp) ?_
                refine AllReadyH.cons (o := _) rfl (fun K hK => ?_) ?_
                · (try dsimp only [List.getElem_toArray, List.getElem_cons_succ, List.getElem_cons_zero]); go_simp
                  (first | (go_at_call 13; refine (L_toIntA16 xs _ HX.out).mono ?_; rintro e w' ⟨rfl, hb⟩; obtain ⟨o2, n2, rfl⟩ := below_adds hb; clear hb) | (go_at_call 14; refine (L_toEdges f g c u l _).mono ?_; rintro e w' ⟨rfl, hb⟩; obtain ⟨o2, n2, rfl⟩ := below_adds hb; clear hb) | (go_at_call 15; refine (CI.out _).mono ?_; rintro e w' ⟨rfl, hb⟩; obtain ⟨o2, n2, rfl⟩ := below_adds hb; clear hb))
                  try go_wp2_with fail
                  refine hK.out _ _ ?_ (fun hHeld => ?_)
                  · (first | exact HP.out | assumption | exact ⟨Blk.adds (And.left (by assumption)) _ _, Blk.adds (And.right (by assumption)) _ _⟩)
                  clear hK K
                  try simp only [Act.put, List.setIfInBounds_toArray, List.set_cons_zero, List.set_cons_succ]
                  refine wpAnyH_take (i := 5) (oi := _) (v := ?_) rfl (by kernel_rfl) (by kernel_rfl) (by kernel_rfl) (fun _ _ _ h => h) (Or.inl ⟨by rfl, ?_⟩) (by assumption) ?_
                  rotate_left
                  · intro w hSw; (try dsimp only at hSw); go_simp; (try with_reducible rfl)
                  try dsimp only [List.getElem_toArray, List.getElem_cons_succ, List.getElem_cons_zero]
                  simp only [Act.put, List.setIfInBounds_toArray, List.set_cons_zero, List.set_cons_succ]
                  refine wpAnyH_done (by kernel_rfl) ?_ _
                  go_wp2_with fail
                  go_meet
                  exact ⟨rfl, (by repeat' (first | (with_reducible exact Below.refl _ _) | (with_reducible refine Below.adds_ ?_ ?_ _ _) | (with_reducible refine Below.alloc ?_ ?_ _) | (with_reducible refine Below.drew ?_) | (with_reducible refine Below.setCell ?_ ?_ _) | (with_reducible assumption) | go_size | (simp only [size_addsW, World.size_alloc, World.size_drew, World.size_setCell]; omega)))⟩
                exact AllReadyH.nil
              exact AllReadyH.nil
            exact AllReadyH.nil
          refine AllReadyH.cons (o := _) rfl (fun K hK => ?_) ?_
          · (try dsimp only [List.getElem_toArray, List.getElem_cons_succ, List.getElem_cons_zero])
            (rw [if_pos (by rfl)]; first | (refine wp_load_row 34 (.tmp 3) (by with_reducible rfl) (w.heap.size + 1) (by rfl) 34 (eA f g c u l) (0, 0) _ hHeld.2 Try.underlying34 rfl (infoLE f g c u l) ?_) | (refine wp_load_row 28 (.tmp 2) (by with_reducible rfl) w.heap.size (by rfl) 28 (rowI xs) (0, 0) _ hHeld.1 Try.underlying28 rfl (by rw [rowI_size, HX.out]; exact infoA16) ?_))
            refine hK.out _ _ ?_ (fun hHeld => ?_)
            · (first | exact HP.out | assumption | exact ⟨Blk.adds (And.left (by assumption)) _ _, Blk.adds (And.right (by assumption)) _ _⟩)
            clear hK K
            try simp only [Act.put, List.setIfInBounds_toArray, List.set_cons_zero, List.set_cons_succ]
            refine wpAnyH_ready (rs := [1]) (by kernel_rfl) (by simp) ?_
            refine AllReadyH.cons (o := _) rfl (fun K hK => ?_) ?_
            · (try dsimp only [List.getElem_toArray, List.getElem_cons_succ, List.getElem_cons_zero]); go_simp
              (first | (go_at_call 13; refine (L_toIntA16 xs _ HX.out).mono ?_; rintro e w' ⟨rfl, hb⟩; obtain ⟨o2, n2, rfl⟩ := below_adds hb; clear hb) | (go_at_call 14; refine (L_toEdges f g c u l _).mono ?_; rintro e w' ⟨rfl, hb⟩; obtain ⟨o2, n2, rfl⟩ := below_adds hb; clear hb) | (go_at_call 15; refine (CI.out _).mono ?_; rintro e w' ⟨rfl, hb⟩; obtain ⟨o2, n2, rfl⟩ := below_adds hb; clear hb))
              try go_wp2_with fail
              refine hK.out _ _ ?_ (fun hHeld => ?_)
              · (first | exact HP.out | assumption | exact ⟨Blk.adds (And.left (by assumption)) _ _, Blk.adds (And.right (by assumption)) _ _⟩)
              clear hK K
              try simp only [Act.put, List.setIfInBounds_toArray, List.set_cons_zero, List.set_cons_succ]
              refine wpAnyH_ready (rs := [3]) (by kernel_rfl) (by simp) ?_
              refine AllReadyH.cons (o := _) rfl (fun K hK => ?_) ?_
              · (try dsimp only [List.getElem_toArray, List.getElem_cons_succ, List.getElem_cons_zero]); go_simp
                (first | (go_at_call 13; refine (L_toIntA16 xs _ HX.out).mono ?_; rintro e w' ⟨rfl, hb⟩; obtain ⟨o2, n2, rfl⟩ := below_adds hb; clear hb) | (go_at_call 14; refine (L_toEdges f g c u l _).mono ?_; rintro e w' ⟨rfl, hb⟩; obtain ⟨o2, n2, rfl⟩ := below_adds hb; clear hb) | (go_at_call 15; refine (CI.out _).mono ?_; rintro e w' ⟨rfl, hb⟩; obtain ⟨o2, n2, rfl⟩ := below_adds hb; clear hb))
                try go_wp2_with fail
                refine hK.out _ _ ?_ (fun hHeld => ?_)
                · (first | exact HP.out | assumption | exact ⟨Blk.adds (And.left (by assumption)) _ _, Blk.adds (And.right (by assumption)) _ _⟩)
                clear hK K
                try simp only [Act.put, List.setIfInBounds_toArray, List.set_cons_zero, List.set_cons_succ]
                refine wpAnyH_ready (rs := [4]) (by kernel_rfl) (by simp) ?_
                refine AllReadyH.cons (o := _) rfl (fun K hK => ?_) ?_
                · (try dsimp only [List.getElem_toArray, List.getElem_cons_succ, List.getElem_cons_zero]); go_simp
                  (first | (go_at_call 13; refine (L_toIntA16 xs _ HX.out).mono ?_; rintro e w' ⟨rfl, hb⟩; obtain ⟨o2, n2, rfl⟩ := below_adds hb; clear hb) | (go_at_call 14; refine (L_toEdges f g c u l _).mono ?_; rintro e w' ⟨rfl, hb⟩; obtain ⟨o2, n2, rfl⟩ := below_adds hb; clear hb) | (go_at_call 15; refine (CI.out _).mono ?_; rintro e w' ⟨rfl, hb⟩; obtain ⟨o2, n2, rfl⟩ := below_adds hb; clear hb))
                  try go_wp2_with fail
                  refine hK.out _ _ ?_ (fun hHeld => ?_)
                  · (first | exact HP.out | assumption | exact ⟨Blk.adds (And.left (by assumption)) _ _, Blk.adds (And.right (by assumption)) _ _⟩)
                  clear hK K
                  try simp only [Act.put, List.setIfInBounds_toArray, List.set_cons_zero, List.set_cons_succ]
                  refine wpAnyH_take (i := 5) (oi := _) (v := ?_) rfl (by kernel_rfl) (by kernel_rfl) (by kernel_rfl) (fun _ _ _ h => h) (Or.inl ⟨by rfl, ?_⟩) (by assumption) ?_
                  rotate_left
                  · intro w hSw; (try dsimp only at hSw); go_simp; (try with_reducible rfl)
                  try dsimp only [List.getElem_toArray, List.getElem_cons_succ, List.getElem_cons_zero]
                  simp only [Act.put, List.setIfInBounds_toArray, List.set_cons_zero, List.set_cons_succ]
                  refine wpAnyH_done (by kernel_rfl) ?_ _
                  go_wp2_with fail
                  go_meet
                  exact ⟨rfl, (by repeat' (first | (with_reducible exact Below.refl _ _) | (with_reducible refine Below.adds_ ?_ ?_ _ _) | (with_reducible refine Below.alloc ?_ ?_ _) | (with_reducible refine Below.drew ?_) | (with_reducible refine Below.setCell ?_ ?_ _) | (with_reducible assumption) | go_size | (simp only [size_addsW, World.size_alloc, World.size_drew, World.size_setCell]; omega)))⟩
                exact AllReadyH.nil
              exact AllReadyH.nil
            exact AllReadyH.nil
          exact AllReadyH.nil
        refine AllReadyH.cons (o := _) rfl (fun K hK => ?_) ?_
        · (try dsimp only [List.getElem_toArray, List.getElem_cons_succ, List.getElem_cons_zero])
          (rw [if_pos (by rfl)]; first | (refine wp_load_row 34 (.tmp 3) (by with_reducible rfl) (w.heap.size + 1) (by rfl) 34 (eA f g c u l) (0, 0) _ hHeld.2 Try.underlying34 rfl (infoLE f g c u l) ?_) | (refine wp_load_row 28 (.tmp 2) (by with_reducible rfl) w.heap.size (by rfl) 28 (rowI xs) (0, 0) _ hHeld.1 Try.underlying28 rfl (by rw [rowI_size, HX.out]; exact infoA16) ?_))
          refine hK.out _ _ ?_ (fun hHeld => ?_)
          · (first | exact HP.out | assumption | exact ⟨Blk.adds (And.left (by assumption)) _ _, Blk.adds (And.right (by assumption)) _ _⟩)
          clear hK K
          try simp only [Act.put, List.setIfInBounds_toArray, List.set_cons_zero, List.set_cons_succ]
          refine wpAnyH_ready (rs := [0]) (by kernel_rfl) (by simp) ?_
          refine AllReadyH.cons (o := _) rfl (fun K hK => ?_) ?_
          · (try dsimp only [List.getElem_toArray, List.getElem_cons_succ, List.getElem_cons_zero])
            (rw [if_pos (by rfl)]; first | (refine wp_load_row 34 (.tmp 3) (by with_reducible rfl) (w.heap.size + 1) (by rfl) 34 (eA f g c u l) (0, 0) _ hHeld.2 Try.underlying34 rfl (infoLE f g c u l) ?_) | (refine wp_load_row 28 (.tmp 2) (by with_reducible rfl) w.heap.size (by rfl) 28 (rowI xs) (0, 0) _ hHeld.1 Try.underlying28 rfl (by rw [rowI_size, HX.out]; exact infoA16) ?_))
            refine hK.out _ _ ?_ (fun hHeld => ?_)
            · (first | exact HP.out | assumption | exact ⟨Blk.adds (And.left (by assumption)) _ _, Blk.adds (And.right (by assumption)) _ _⟩)
            clear hK K
            try simp only [Act.put, List.setIfInBounds_toArray, List.set_cons_zero, List.set_cons_succ]
            refine wpAnyH_ready (rs := [1]) (by kernel_rfl) (by simp) ?_
            refine AllReadyH.cons (o := _) rfl (fun K hK => ?_) ?_
            · (try dsimp only [List.getElem_toArray, List.getElem_cons_succ, List.getElem_cons_zero]); go_simp
              (first | (go_at_call 13; refine (L_toIntA16 xs _ HX.out).mono ?_; rintro e w' ⟨rfl, hb⟩; obtain ⟨o2, n2, rfl⟩ := below_adds hb; clear hb) | (go_at_call 14; refine (L_toEdges f g c u l _).mono ?_; rintro e w' ⟨rfl, hb⟩; obtain ⟨o2, n2, rfl⟩ := below_adds hb; clear hb) | (go_at_call 15; refine (CI.out _).mono ?_; rintro e w' ⟨rfl, hb⟩; obtain ⟨o2, n2, rfl⟩ := below_adds hb; clear hb))
              try go_wp2_with fail
              refine hK.out _ _ ?_ (fun hHeld => ?_)
              · (first | exact HP.out | assumption | exact ⟨Blk.adds (And.left (by assumption)) _ _, Blk.adds (And.right (by assumption)) _ _⟩)
              clear hK K
              try simp only [Act.put, List.setIfInBounds_toArray, List.set_cons_zero, List.set_cons_succ]
              refine wpAnyH_ready (rs := [3]) (by kernel_rfl) (by simp) ?_
              refine AllReadyH.cons (o := _) rfl (fun K hK => ?_) ?_
              · (try dsimp only [List.getElem_toArray, List.getElem_cons_succ, List.getElem_cons_zero]); go_simp
                (first | (go_at_call 13; refine (L_toIntA16 xs _ HX.out).mono ?_; rintro e w' ⟨rfl, hb⟩; obtain ⟨o2, n2, rfl⟩ := below_adds hb; clear hb) | (go_at_call 14; refine (L_toEdges f g c u l _).mono ?_; rintro e w' ⟨rfl, hb⟩; obtain ⟨o2, n2, rfl⟩ := below_adds hb; clear hb) | (go_at_call 15; refine (CI.out _).mono ?_; rintro e w' ⟨rfl, hb⟩; obtain ⟨o2, n2, rfl⟩ := below_adds hb; clear hb))
                try go_wp2_with fail
                refine hK.out _ _ ?_ (fun hHeld => ?_)
                · (first | exact HP.out | assumption | exact ⟨Blk.adds (And.left (by assumption)) _ _, Blk.adds (And.right (by assumption)) _ _⟩)
                clear hK K
                try simp only [Act.put, List.setIfInBounds_toArray, List.set_cons_zero, List.set_cons_succ]
                refine wpAnyH_ready (rs := [4]) (by kernel_rfl) (by simp) ?_
                refine AllReadyH.cons (o := _) rfl (fun K hK => ?_) ?_
                · (try dsimp only [List.getElem_toArray, List.getElem_cons_succ, List.getElem_cons_zero]); go_simp
                  (first | (go_at_call 13; refine (L_toIntA16 xs _ HX.out).mono ?_; rintro e w' ⟨rfl, hb⟩; obtain ⟨o2, n2, rfl⟩ := below_adds hb; clear hb) | (go_at_call 14; refine (L_toEdges f g c u l _).mono ?_; rintro e w' ⟨rfl, hb⟩; obtain ⟨o2, n2, rfl⟩ := below_adds hb; clear hb) | (go_at_call 15; refine (CI.out _).mono ?_; rintro e w' ⟨rfl, hb⟩; obtain ⟨o2, n2, rfl⟩ := below_adds hb; clear hb))
                  try go_wp2_with fail
                  refine hK.out _ _ ?_ (fun hHeld => ?_)
                  · (first | exact HP.out | assumption | exact ⟨Blk.adds (And.left (by assumption)) _ _, Blk.adds (And.right (by assumption)) _ _⟩)
                  clear hK K
                  try simp only [Act.put, List.setIfInBounds_toArray, List.set_cons_zero, List.set_cons_succ]
                  refine wpAnyH_take (i := 5) (oi := _) (v := ?_) rfl (by kernel_rfl) (by kernel_rfl) (by kernel_rfl) (fun _ _ _ h => h) (Or.inl ⟨by rfl, ?_⟩) (by assumption) ?_
                  rotate_left
                  · intro w hSw; (try dsimp only at hSw); go_simp; (try with_reducible rfl)
                  try dsimp only [List.getElem_toArray, List.getElem_cons_succ, List.getElem_cons_zero]
                  simp only [Act.put, List.setIfInBounds_toArray, List.set_cons_zero, List.set_cons_succ]
                  refine wpAnyH_done (by kernel_rfl) ?_ _
                  go_wp2_with fail
                  go_meet
                  exact ⟨rfl, (by repeat' (first | (with_reducible exact Below.refl _ _) | (with_reducible refine Below.adds_ ?_ ?_ _ _) | (with_reducible refine Below.alloc ?_ ?_ _) | (with_reducible refine Below.drew ?_) | (with_reducible refine Below.setCell ?_ ?_ _) | (with_reducible assumption) | go_size | (simp only [size_addsW, World.size_alloc, World.size_drew, World.size_setCell]; omega)))⟩
                exact AllReadyH.nil
              exact AllReadyH.nil
            exact AllReadyH.nil
          exact AllReadyH.nil
        exact AllReadyH.nil
      case rest =>
        obtain ⟨rfl, hbd⟩ := hcut
        have HB3 := HB2.out.trans (hbd.mono HB2.out.size)
        go_wp2_with fail
        go_returns
        exact ⟨rfl, HB3⟩

set_option maxRecDepth 100000 in
theorem lifted (os : Os) (started : os.Started) (H : Type) (enc : TypeId × Value → H) :
    ReturnsInHanded {} Try.checked os 5 .any (Rows.fnExactBestIntraSpec.pre6 enc Try.prog Try.f5 Rows.fnExactBestIntraRow.domain false) (Rows.fnExactBestIntraSpec.post enc Try.prog Try.f5 false true false false) := by
  refine returnsInHanded_of_change (C := Try.checked) own started (by kernel_rfl) Try.func5
    (ChangeSpec.witness6 (enc := enc) (C := Try.checked) false ⟨#[], #[.agg #[.int .i64 0, .int .i64 0, .int .i64 0, .int .i64 0, .int .i64 0, .int .i64 0, .int .i64 0, .int .i64 0, .int .i64 0, .int .i64 0, .int .i64 0, .int .i64 0, .int .i64 0, .int .i64 0, .int .i64 0, .int .i64 0], .agg #[.int .i64 0, .int .i64 0, .int .i64 0, .int .i64 0, .int .i64 0, .int .i64 0, .int .i64 0, .int .i64 0, .int .i64 0, .bool false, .bool false]], []⟩ 8 (by kernel_rfl) (by kernel_rfl) (by kernel_rfl) (by kernel_rfl)) ?_
  intro W base args ds gs before hval0 hW hcnd _
  have hval : ∀ (j : Nat) t v, Try.f5.params[j]? = some t → args[j]? = some v → Value.okWide Try.prog W .any base t v := hval0
  have hW' := hW
  obtain ⟨p, q, hA0, hV, rfl, hfz, hnd⟩ := hW
  have hA : DataW.TrodAll enc Try.prog W 0 (fun _ => true) true Try.f5.params.toList args.toList ds p := hA0
  rw [Try.params5] at hA hval
  obtain ⟨v0, vs0, d0, ds0, p0, q0, hargs, rfl, rfl, h0, r0⟩ := trodAll_cons hA
  obtain ⟨v1, vs1, d1, ds1, p1, q1, rfl, rfl, rfl, h1, r1⟩ := trodAll_cons r0
  obtain ⟨rfl, rfl, rfl⟩ := trodAll_nil r1
  obtain rfl : args = #[v0, v1] := by cases args; simp_all
  obtain ⟨rfl, rfl⟩ := trodVars_none hV
  have k0 := h0
  have lt0 : ∀ x ∈ p0, x.block < W.heap.size := by obtain ⟨m, hm⟩ := k0; exact DataW.trod_lt m _ _ _ hm
  have k1 := h1
  have lt1 : ∀ x ∈ p1, x.block < W.heap.size := by obtain ⟨m, hm⟩ := k1; exact DataW.trod_lt m _ _ _ hm
  obtain ⟨cs0, hcs0, -⟩ := okWide_array Try.underlying28 (hval 0 28 v0 rfl rfl)
  obtain ⟨xs, rfl, hx0', -⟩ := open_flat flatA16 hcs0 h0
  have hx0 : xs.length = 16 := hx0'.trans (by kernel_rfl)
  clear hcs0 hx0'
  obtain ⟨cs1, hcs1, -⟩ := okWide_struct Try.underlying34 (hval 1 34 v1 rfl rfl)
  obtain ⟨f, g, c, u, l, rfl⟩ := open_edges hcs1 h1
  clear hcs1
  clear hA0 hval0
  refine (walk xs f g c u l W hx0 trivial).mono fun e W' ⟨he, bel⟩ => ?_
  subst he
  exact ⟨_, rfl, _, _, _, [], _, [], hW', trodAll_mk1 (shut_bool Try.underlying4 _), (trodAll_cons_mk (Below.trod laidOut (by kernel_rfl) (of_decide_eq_true (by kernel_rfl)) k0 bel lt0) (trodAll_cons_mk (Below.trod laidOut (by kernel_rfl) (of_decide_eq_true (by kernel_rfl)) k1 bel lt1) trodAll_mk0)), rfl, bel.frame _, fun h => by cases h⟩

theorem over : Rows.fnExactBestIntraRow.holds Try.pinned (OpenSpec.ofChange Rows.fnExactBestIntraSpec) :=
  OpenClaim.holds_of_wide 5 Try.f5 rfl rfl rfl rfl rfl rfl rfl ⟨rfl, rfl, rfl, rfl, rfl⟩ rfl rfl rfl rfl rfl (by kernel_rfl) Try.func5 (by kernel_rfl)
    (of_decide_eq_true (by kernel_rfl)) (by unfold Func.isWrapper; first | (rw [if_pos (by decide +kernel)]; kernel_rfl) | (rw [if_neg (by decide +kernel)]; exact ⟨rfl, rfl⟩))
    (fun os started H enc _ => lifted os started H enc)

theorem proved : Rows.FnExactBestIntraSaid := over
#print axioms proved
end Go.Proofs.Ythnigldbpikcaaa.fnExactBestIntra
