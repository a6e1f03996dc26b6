/- The best of five modes, the program's. -/
import Derived.Test.YthnigldbpikcaaaTrfJ
import Derived.Test.YthnigldbpikcaaaPredV
import Derived.Test.YthnigldbpikcaaaPredL
namespace Go.Proofs.Ythnigldbpikcaaa
open Go.RowKit
set_option linter.unusedVariables false
set_option linter.unusedSimpArgs false

attribute [local go_sem] size_addsW cell?_addsW frozen?_addsW setCell_addsW drew_addsW adds_addsW setCell_twice alloc_adds0 size_adds0 adds_adds0 sel2 sel3 sel4 sel5 sel6 sel7 sel8 sel9 lt_more lt_more2 lt_more3 lt_more4 adds_drew adds_drewN drewN_addsW ltA_1_1 ltA_1_2 ltA_1_3 ltA_1_4 ltA_1_5 ltA_1_6 ltA_2_1 ltA_2_2 ltA_2_3 ltA_2_4 ltA_2_5 ltA_2_6 ltA_3_1 ltA_3_2 ltA_3_3 ltA_3_4 ltA_3_5 ltA_3_6 ltA_4_1 ltA_4_2 ltA_4_3 ltA_4_4 ltA_4_5 ltA_4_6 ltA_5_1 ltA_5_2 ltA_5_3 ltA_5_4 ltA_5_5 ltA_5_6 ltA_6_1 ltA_6_2 ltA_6_3 ltA_6_4 ltA_6_5 ltA_6_6 ltA_7_1 ltA_7_2 ltA_7_3 ltA_7_4 ltA_7_5 ltA_7_6 ltA_8_1 ltA_8_2 ltA_8_3 ltA_8_4 ltA_8_5 ltA_8_6 ltA_9_1 ltA_9_2 ltA_9_3 ltA_9_4 ltA_9_5 ltA_9_6 ltA_10_1 ltA_10_2 ltA_10_3 ltA_10_4 ltA_10_5 ltA_10_6 ltA_11_1 ltA_11_2 ltA_11_3 ltA_11_4 ltA_11_5 ltA_11_6 ltA_12_1 ltA_12_2 ltA_12_3 ltA_12_4 ltA_12_5 ltA_12_6

/-- the first least of the costs so far, and its cost -/
def bsG (s : Int × Int) (C : Nat → Int) : Nat → Int × Int
  | 0 => s
  | k + 1 => if k = 0 ∨ C k < (bsG s C k).2 then ((k : Int), C k) else bsG s C k
theorem bsG_same (s s' : Int × Int) (C : Nat → Int) : ∀ k, bsG s C (k + 1) = bsG s' C (k + 1)
  | 0 => by simp [bsG]
  | k + 1 => by
    rw [bsG, bsG_same s s' C k, ← bsG]
theorem bsG_in (s : Int × Int) (C : Nat → Int) : ∀ k, 0 ≤ (bsG s C (k + 1)).1 ∧ (bsG s C (k + 1)).1 ≤ k
  | 0 => by simp [bsG]
  | k + 1 => by
    have ih := bsG_in s C k
    rw [bsG]
    split
    · simp only; omega
    · omega
theorem bsG_val (s : Int × Int) (C : Nat → Int) : ∀ k, (bsG s C (k + 1)).2 = C (bsG s C (k + 1)).1.toNat
  | 0 => by simp [bsG]
  | k + 1 => by
    have ih := bsG_val s C k
    rw [bsG]
    split
    · simp only [Int.toNat_natCast]
    · exact ih
theorem bsG_min (s : Int × Int) (C : Nat → Int) : ∀ k j, j ≤ k → (bsG s C (k + 1)).2 ≤ C j ∧ ((j : Int) < (bsG s C (k + 1)).1 → (bsG s C (k + 1)).2 < C j)
  | 0, j, hj => by
    obtain rfl : j = 0 := by omega
    simp [bsG]
  | k + 1, j, hj => by
    have hi := bsG_in s C k
    rw [bsG]
    split
    · rename_i h
      have h2 : C (k + 1) < (bsG s C (k + 1)).2 := by
        rcases h with h | h
        · omega
        · exact h
      simp only
      by_cases e : j = k + 1
      · subst e; omega
      · have ih := bsG_min s C k j (by omega)
        omega
    · rename_i h
      by_cases e : j = k + 1
      · subst e; omega
      · exact bsG_min s C k j (by omega)
def coV (xs : List Int) (f g : Nat → Int) (c : Int) (u l : Bool) : Nat → Int := fun m => tcV xs (pL m f g c u l)
def biV (xs : List Int) (f g : Nat → Int) (c : Int) (u l : Bool) : Int := if M.samplesB xs = true ∧ evB f g c = true then (bsG (0, 0) (coV xs f g c u l) 5).1 else -1
structure E2 (G : Nat) (xs : List Int) (f g : Nat → Int) (c : Int) (u l : Bool) (w W : World) : Prop where
  a : Blk W G (rowI xs) 28
  e : Blk W (G + 1) (eA f g c u l) 25
  below : Below w.heap.size w W
theorem E2.start (w : World) (xs : List Int) (f g : Nat → Int) (c : Int) (u l : Bool) : E2 w.heap.size xs f g c u l w ((w.alloc (.cells (rowI xs) 28)).alloc (.cells (eA f g c u l) 25)) :=
  ⟨(Blk.new w _ _ _ rfl).alloc _, Blk.new _ _ _ _ (by simp), (by repeat' (first | (with_reducible exact Below.refl _ _) | (with_reducible refine Below.adds_ ?_ ?_ _ _) | (with_reducible refine Below.alloc ?_ ?_ _) | (with_reducible refine Below.drew ?_) | (with_reducible refine Below.setCell ?_ ?_ _) | (with_reducible assumption) | go_size | (simp only [size_addsW, World.size_alloc, World.size_drew, World.size_setCell]; omega)))⟩
theorem E2.adds {G : Nat} {xs : List Int} {f g : Nat → Int} {c : Int} {u l : Bool} {w W : World} (h : E2 G xs f g c u l w W) (os : Array Obj) (n : Nat) : E2 G xs f g c u l w (addsW W os n) :=
  ⟨h.a.adds os n, h.e.adds os n, Below.adds_ h.below h.below.size os n⟩
theorem E2.drew {G : Nat} {xs : List Int} {f g : Nat → Int} {c : Int} {u l : Bool} {w W : World} (h : E2 G xs f g c u l w W) : E2 G xs f g c u l w W.drew := ⟨h.a.drew, h.e.drew, h.below.drew⟩

set_option maxRecDepth 100000 in
set_option maxHeartbeats 4000000 in
theorem I_BestIntra (xs : List Int) (f g : Nat → Int) (c : Int) (u l : Bool) (w : World) (hx : xs.length = 16) :
    Calls Try.prog 15 #[.agg (rowI xs), .agg (eA f g c u l)] w fun e w' => e = .returned (.int .i64 (biV xs f g c u l)) ∧ Below w.heap.size w w' := by
  have HX := Lib.hid hx
  obtain ⟨p, hp⟩ : ∃ p, p = M.samplesB xs := ⟨_, rfl⟩
  obtain ⟨q, hq⟩ : ∃ q, q = evB f g c := ⟨_, rfl⟩
  have C1 : ∀ W, Blk W w.heap.size (rowI xs) 28 → Calls Try.prog 28 #[.slice (some ⟨w.heap.size, 0, none⟩) 16 16] W fun e w' => e = .returned (.bool p) ∧ W = w' := fun W hW => by
    have := I_samplesIn (some ⟨w.heap.size, 0, none⟩) 16 xs W (row16 hW) (by omega)
    rw [hx, ← hp] at this
    exact this
  have S1 := Lib.hid C1
  have C2 := Lib.hid (show ∀ W, Calls Try.prog 21 #[.agg (eA f g c u l)] W fun e w' => e = .returned (.bool q) ∧ Below W.heap.size W w' from fun W => by rw [hq]; exact I_EdgesValid f g c u l W)
  clear C1 hx
  have HPQ := Lib.hid (show biV xs f g c u l = if p = true ∧ q = true then (bsG (0, 0) (coV xs f g c u l) 5).1 else -1 by rw [hp, hq]; rfl)
  have HOK := Lib.hid (show q = true → eOk f g c from fun h => evB_ok (hq.symm.trans h))
  clear hp hq
  have HT0 := Lib.hid (E2.start w xs f g c u l)
  obtain ⟨A, hA⟩ : ∃ A, A = eA f g c u l := ⟨_, rfl⟩
  unfold eA at C2
  unfold eA
  go_enter Try.func15, Try.ntmps15
  go_upto_region 1 with fail
  refine all_add' ?_
  intro Z hZ
  have T1 := Lib.hid (show E2 w.heap.size xs f g c u l w Z from hZ ▸ HT0.out)
  clear hZ HT0
  have hst := T1.out
  have lz : w.heap.size + 1 < Z.heap.size := hst.e.lt
  have e0 : Z.cell? ⟨w.heap.size + 1, 0, none⟩ = some (.int .i64 (f 0)) := hst.e.get rfl
  have e1 : Z.cell? ⟨w.heap.size + 1, 1, none⟩ = some (.int .i64 (f 1)) := hst.e.get rfl
  have e2 : Z.cell? ⟨w.heap.size + 1, 2, none⟩ = some (.int .i64 (f 2)) := hst.e.get rfl
  have e3 : Z.cell? ⟨w.heap.size + 1, 3, none⟩ = some (.int .i64 (f 3)) := hst.e.get rfl
  have e4 : Z.cell? ⟨w.heap.size + 1, 4, none⟩ = some (.int .i64 (g 0)) := hst.e.get rfl
  have e5 : Z.cell? ⟨w.heap.size + 1, 5, none⟩ = some (.int .i64 (g 1)) := hst.e.get rfl
  have e6 : Z.cell? ⟨w.heap.size + 1, 6, none⟩ = some (.int .i64 (g 2)) := hst.e.get rfl
  have e7 : Z.cell? ⟨w.heap.size + 1, 7, none⟩ = some (.int .i64 (g 3)) := hst.e.get rfl
  have e8 : Z.cell? ⟨w.heap.size + 1, 8, none⟩ = some (.int .i64 c) := hst.e.get rfl
  have e9 : Z.cell? ⟨w.heap.size + 1, 9, none⟩ = some (.bool u) := hst.e.get rfl
  have e10 : Z.cell? ⟨w.heap.size + 1, 10, none⟩ = some (.bool l) := hst.e.get rfl
  clear hst hA
  cases p
  · go_wp2_with (first | (go_at_call 28; with_reducible refine (S1.out _ T1.out.a).mono ?_; rintro e w' ⟨rfl, rfl⟩) | (go_at_call 21; refine (C2.out _).mono ?_; rintro e w' ⟨rfl, hb⟩; obtain ⟨o1, n1, rfl⟩ := below_adds hb; clear hb))
    go_returns
    exact ⟨by rw [HPQ.out]; rfl, T1.out.below⟩
  · cases q
    · go_wp2_with (first | (go_at_call 28; with_reducible refine (S1.out _ T1.out.a).mono ?_; rintro e w' ⟨rfl, rfl⟩) | (go_at_call 21; refine (C2.out _).mono ?_; rintro e w' ⟨rfl, hb⟩; obtain ⟨o1, n1, rfl⟩ := below_adds hb; clear hb))
      go_returns
      exact ⟨by rw [HPQ.out]; rfl, (T1.out.adds _ _).below⟩
    · obtain ⟨C, hC⟩ : ∃ C, C = coV xs f g c u l := ⟨_, rfl⟩
      have HV := Lib.hid (show biV xs f g c u l = (bsG (0, 0) C 5).1 by rw [HPQ.out, hC]; rfl)
      have HC := Lib.hid hC
      clear hC
      go_upto_region 4 with (first | (go_at_call 28; with_reducible refine (S1.out _ T1.out.a).mono ?_; rintro e w' ⟨rfl, rfl⟩) | (go_at_call 21; refine (C2.out _).mono ?_; rintro e w' ⟨rfl, hb⟩; obtain ⟨o1, n1, rfl⟩ := below_adds hb; clear hb))
      refine all_add' ?_
      intro Y hY
      have T2 := Lib.hid (show E2 w.heap.size xs f g c u l w Y from hY ▸ T1.out.adds _ _)
      clear hY T1 S1 C2 e0 e1 e2 e3 e4 e5 e6 e7 e8 e9 e10 lz
      go_wp2_with fail
      go_loopw [5, 6, 7] (fun b t v wr => ∃ k : Nat, b = .int .i64 (bsG (0, 0) C k).1 ∧ t = .int .i64 (bsG (0, 0) C k).2 ∧ v = .int .i64 (k : Int) ∧ k ≤ 5 ∧ E2 w.heap.size xs f g c u l w wr) (fun _ _ v _ => 5 - (intOf v).toNat)
      case atStart => exact ⟨0, rfl, rfl, rfl, by omega, T2.out⟩
      case round =>
        clear T2
        obtain ⟨k, rfl, rfl, rfl, hk, hst⟩ := hrel
        have HST := Lib.hid hst
        have lw := hst.e.lt
        clear hst
        by_cases hlt : k < 5
        · have hd1 : (k : Int) ≤ 4 := by omega
          obtain ⟨ys, hys⟩ : ∃ ys, ys = pL k f g c u l := ⟨_, rfl⟩
          obtain ⟨v, hv⟩ : ∃ v, v = C k := ⟨_, rfl⟩
          have CP := Lib.hid (show ∀ W, Calls Try.prog 22 #[.agg (eA f g c u l), .int .i64 (k : Int)] W fun e w' => e = .returned (.agg (rowI ys)) ∧ Below W.heap.size W w' from fun W => by rw [hys]; exact I_predict k (by omega) f g c u l W (HOK.out (by first | rfl | trivial)))
          have CT := Lib.hid (show ∀ W, Calls Try.prog 17 #[.agg (rowI xs), .agg (rowI ys)] W fun e w' => e = .returned (.int .i64 v) ∧ Below W.heap.size W w' from fun W => by rw [hv, HC.out, coV, hys]; exact I_TransformCost xs _ W HX.out (pL_len _ _ _ _ _ _))
          clear hys
          unfold eA at CP
          rcases (show (k = 0) ∨ (k ≠ 0 ∧ C k < (bsG (0, 0) C k).2) ∨ (k ≠ 0 ∧ ¬ C k < (bsG (0, 0) C k).2) by omega) with h0 | ⟨h0, h1⟩ | ⟨h0, h1⟩
          · have hb0 : ((k : Int) == 0) = true := by rw [h0]; rfl
            have HB1 := Lib.hid (show (bsG (0, 0) C (k + 1)).1 = (k : Int) by rw [bsG, if_pos (.inl h0)])
            have HB2 := Lib.hid (show (bsG (0, 0) C (k + 1)).2 = v by rw [bsG, if_pos (.inl h0), hv])
            generalize (bsG (0, 0) C k).1 = b
            generalize (bsG (0, 0) C k).2 = t at *
            clear h0 hv
            go_upto_region 7 with fail
            refine wp_region_held_drew (S := (fun w' => E2 w.heap.size xs f g c u l w w')) (by kernel_rfl) ?_ (fun hHeld => ?_)
            · (first | exact HST.out | assumption | exact E2.adds (by assumption) _ _ | exact E2.drew (by assumption))
            refine wpAnyH_take (i := 2) (oi := _) (v := ?_) rfl (by kernel_rfl) (by kernel_rfl) (by kernel_rfl) (fun _ _ _ h => h) (Or.inl ⟨by rfl, ?_⟩) (by assumption) ?_
            rotate_left
            · intro w hSw; (try dsimp only at hSw); go_simp; (try with_reducible rfl)
            try dsimp only [List.getElem_toArray, List.getElem_cons_succ, List.getElem_cons_zero]
            simp only [Act.put, List.setIfInBounds_toArray, List.set_cons_zero, List.set_cons_succ]
            refine wpAnyH_ready (rs := [0, 1]) (by kernel_rfl) (by simp) ?_
            refine AllReadyH.cons (o := _) rfl (fun K hK => ?_) ?_
            · (try dsimp only [List.getElem_toArray, List.getElem_cons_succ, List.getElem_cons_zero])
              (rw [if_pos (by rfl)]; first | (refine wp_load_row 25 (.tmp 3) (by with_reducible rfl) (w.heap.size + 1) (by rfl) 25 (eA f g c u l) (0, 0) _ hHeld.e Try.underlying25 rfl (infoEd f g c u l) ?_) | (refine wp_load_row 28 (.tmp 2) (by with_reducible rfl) w.heap.size (by rfl) 28 (rowI xs) (0, 0) _ hHeld.a Try.underlying28 rfl (by rw [rowI_size, HX.out]; exact infoA16) ?_))
              refine hK.out _ _ ?_ (fun hHeld => ?_)
              · (first | exact HST.out | assumption | exact E2.adds (by assumption) _ _ | exact E2.drew (by assumption))
              clear hK K
              try simp only [Act.put, List.setIfInBounds_toArray, List.set_cons_zero, List.set_cons_succ]
              refine wpAnyH_ready (rs := [1]) (by kernel_rfl) (by simp) ?_
              refine AllReadyH.cons (o := _) rfl (fun K hK => ?_) ?_
              · (try dsimp only [List.getElem_toArray, List.getElem_cons_succ, List.getElem_cons_zero])
                (rw [if_pos (by rfl)]; first | (refine wp_load_row 25 (.tmp 3) (by with_reducible rfl) (w.heap.size + 1) (by rfl) 25 (eA f g c u l) (0, 0) _ hHeld.e Try.underlying25 rfl (infoEd f g c u l) ?_) | (refine wp_load_row 28 (.tmp 2) (by with_reducible rfl) w.heap.size (by rfl) 28 (rowI xs) (0, 0) _ hHeld.a Try.underlying28 rfl (by rw [rowI_size, HX.out]; exact infoA16) ?_))
                refine hK.out _ _ ?_ (fun hHeld => ?_)
                · (first | exact HST.out | assumption | exact E2.adds (by assumption) _ _ | exact E2.drew (by assumption))
                clear hK K
                try simp only [Act.put, List.setIfInBounds_toArray, List.set_cons_zero, List.set_cons_succ]
                refine wpAnyH_ready (rs := [3]) (by kernel_rfl) (by simp) ?_
                refine AllReadyH.cons (o := _) rfl (fun K hK => ?_) ?_
                · (try dsimp only [List.getElem_toArray, List.getElem_cons_succ, List.getElem_cons_zero]); go_simp
                  (first | (go_at_call 22; refine (CP.out _).mono ?_; rintro e w' ⟨rfl, hb⟩; obtain ⟨o2, n2, rfl⟩ := below_adds hb; clear hb) | (go_at_call 17; refine (CT.out _).mono ?_; rintro e w' ⟨rfl, hb⟩; obtain ⟨o2, n2, rfl⟩ := below_adds hb; clear hb))
                  try go_wp2_with fail
                  refine hK.out _ _ ?_ (fun hHeld => ?_)
                  · (first | exact HST.out | assumption | exact E2.adds (by assumption) _ _ | exact E2.drew (by assumption))
                  clear hK K
                  try simp only [Act.put, List.setIfInBounds_toArray, List.set_cons_zero, List.set_cons_succ]
                  refine wpAnyH_ready (rs := [4]) (by kernel_rfl) (by simp) ?_
                  refine AllReadyH.cons (o := _) rfl (fun K hK => ?_) ?_
                  · (try dsimp only [List.getElem_toArray, List.getElem_cons_succ, List.getElem_cons_zero]); go_simp
                    (first | (go_at_call 22; refine (CP.out _).mono ?_; rintro e w' ⟨rfl, hb⟩; obtain ⟨o2, n2, rfl⟩ := below_adds hb; clear hb) | (go_at_call 17; refine (CT.out _).mono ?_; rintro e w' ⟨rfl, hb⟩; obtain ⟨o2, n2, rfl⟩ := below_adds hb; clear hb))
                    try go_wp2_with fail
                    refine hK.out _ _ ?_ (fun hHeld => ?_)
                    · (first | exact HST.out | assumption | exact E2.adds (by assumption) _ _ | exact E2.drew (by assumption))
                    clear hK K
                    try simp only [Act.put, List.setIfInBounds_toArray, List.set_cons_zero, List.set_cons_succ]
                    refine wpAnyH_take (i := 5) (oi := _) (v := ?_) rfl (by kernel_rfl) (by kernel_rfl) (by kernel_rfl) (fun _ _ _ h => h) (Or.inl ⟨by rfl, ?_⟩) (by assumption) ?_
                    rotate_left
                    · intro w hSw; (try dsimp only at hSw); go_simp; (try with_reducible rfl)
                    try dsimp only [List.getElem_toArray, List.getElem_cons_succ, List.getElem_cons_zero]
                    simp only [Act.put, List.setIfInBounds_toArray, List.set_cons_zero, List.set_cons_succ]
                    refine wpAnyH_done (by kernel_rfl) ?_ _
                    go_wp2_with fail
                    go_roundw
                    case rel => exact ⟨k + 1, by rw [HB1.out], by rw [HB2.out], by go_num, by omega, by repeat (first | exact HST.out | (with_reducible apply E2.adds) | (with_reducible apply E2.drew))⟩
                    case measure => simp [intOf]; omega
                  exact AllReadyH.nil
                exact AllReadyH.nil
              exact AllReadyH.nil
            refine AllReadyH.cons (o := _) rfl (fun K hK => ?_) ?_
            · (try dsimp only [List.getElem_toArray, List.getElem_cons_succ, List.getElem_cons_zero])
              (rw [if_pos (by rfl)]; first | (refine wp_load_row 25 (.tmp 3) (by with_reducible rfl) (w.heap.size + 1) (by rfl) 25 (eA f g c u l) (0, 0) _ hHeld.e Try.underlying25 rfl (infoEd f g c u l) ?_) | (refine wp_load_row 28 (.tmp 2) (by with_reducible rfl) w.heap.size (by rfl) 28 (rowI xs) (0, 0) _ hHeld.a Try.underlying28 rfl (by rw [rowI_size, HX.out]; exact infoA16) ?_))
              refine hK.out _ _ ?_ (fun hHeld => ?_)
              · (first | exact HST.out | assumption | exact E2.adds (by assumption) _ _ | exact E2.drew (by assumption))
              clear hK K
              try simp only [Act.put, List.setIfInBounds_toArray, List.set_cons_zero, List.set_cons_succ]
              refine wpAnyH_ready (rs := [0, 3]) (by kernel_rfl) (by simp) ?_
              refine AllReadyH.cons (o := _) rfl (fun K hK => ?_) ?_
              · (try dsimp only [List.getElem_toArray, List.getElem_cons_succ, List.getElem_cons_zero])
                (rw [if_pos (by rfl)]; first | (refine wp_load_row 25 (.tmp 3) (by with_reducible rfl) (w.heap.size + 1) (by rfl) 25 (eA f g c u l) (0, 0) _ hHeld.e Try.underlying25 rfl (infoEd f g c u l) ?_) | (refine wp_load_row 28 (.tmp 2) (by with_reducible rfl) w.heap.size (by rfl) 28 (rowI xs) (0, 0) _ hHeld.a Try.underlying28 rfl (by rw [rowI_size, HX.out]; exact infoA16) ?_))
                refine hK.out _ _ ?_ (fun hHeld => ?_)
                · (first | exact HST.out | assumption | exact E2.adds (by assumption) _ _ | exact E2.drew (by assumption))
                clear hK K
                try simp only [Act.put, List.setIfInBounds_toArray, List.set_cons_zero, List.set_cons_succ]
                refine wpAnyH_ready (rs := [3]) (by kernel_rfl) (by simp) ?_
                refine AllReadyH.cons (o := _) rfl (fun K hK => ?_) ?_
                · (try dsimp only [List.getElem_toArray, List.getElem_cons_succ, List.getElem_cons_zero]); go_simp
                  (first | (go_at_call 22; refine (CP.out _).mono ?_; rintro e w' ⟨rfl, hb⟩; obtain ⟨o2, n2, rfl⟩ := below_adds hb; clear hb) | (go_at_call 17; refine (CT.out _).mono ?_; rintro e w' ⟨rfl, hb⟩; obtain ⟨o2, n2, rfl⟩ := below_adds hb; clear hb))
                  try go_wp2_with fail
                  refine hK.out _ _ ?_ (fun hHeld => ?_)
                  · (first | exact HST.out | assumption | exact E2.adds (by assumption) _ _ | exact E2.drew (by assumption))
                  clear hK K
                  try simp only [Act.put, List.setIfInBounds_toArray, List.set_cons_zero, List.set_cons_succ]
                  refine wpAnyH_ready (rs := [4]) (by kernel_rfl) (by simp) ?_
                  refine AllReadyH.cons (o := _) rfl (fun K hK => ?_) ?_
                  · (try dsimp only [List.getElem_toArray, List.getElem_cons_succ, List.getElem_cons_zero]); go_simp
                    (first | (go_at_call 22; refine (CP.out _).mono ?_; rintro e w' ⟨rfl, hb⟩; obtain ⟨o2, n2, rfl⟩ := below_adds hb; clear hb) | (go_at_call 17; refine (CT.out _).mono ?_; rintro e w' ⟨rfl, hb⟩; obtain ⟨o2, n2, rfl⟩ := below_adds hb; clear hb))
                    try go_wp2_with fail
                    refine hK.out _ _ ?_ (fun hHeld => ?_)
                    · (first | exact HST.out | assumption | exact E2.adds (by assumption) _ _ | exact E2.drew (by assumption))
                    clear hK K
                    try simp only [Act.put, List.setIfInBounds_toArray, List.set_cons_zero, List.set_cons_succ]
                    refine wpAnyH_take (i := 5) (oi := _) (v := ?_) rfl (by kernel_rfl) (by kernel_rfl) (by kernel_rfl) (fun _ _ _ h => h) (Or.inl ⟨by rfl, ?_⟩) (by assumption) ?_
                    rotate_left
                    · intro w hSw; (try dsimp only at hSw); go_simp; (try with_reducible rfl)
                    try dsimp only [List.getElem_toArray, List.getElem_cons_succ, List.getElem_cons_zero]
                    simp only [Act.put, List.setIfInBounds_toArray, List.set_cons_zero, List.set_cons_succ]
                    refine wpAnyH_done (by kernel_rfl) ?_ _
                    go_wp2_with fail
                    go_roundw
                    case rel => exact ⟨k + 1, by rw [HB1.out], by rw [HB2.out], by go_num, by omega, by repeat (first | exact HST.out | (with_reducible apply E2.adds) | (with_reducible apply E2.drew))⟩
                    case measure => simp [intOf]; omega
                  exact AllReadyH.nil
                exact AllReadyH.nil
              refine AllReadyH.cons (o := _) rfl (fun K hK => ?_) ?_
              · (try dsimp only [List.getElem_toArray, List.getElem_cons_succ, List.getElem_cons_zero]); go_simp
                (first | (go_at_call 22; refine (CP.out _).mono ?_; rintro e w' ⟨rfl, hb⟩; obtain ⟨o2, n2, rfl⟩ := below_adds hb; clear hb) | (go_at_call 17; refine (CT.out _).mono ?_; rintro e w' ⟨rfl, hb⟩; obtain ⟨o2, n2, rfl⟩ := below_adds hb; clear hb))
                try go_wp2_with fail
                refine hK.out _ _ ?_ (fun hHeld => ?_)
                · (first | exact HST.out | assumption | exact E2.adds (by assumption) _ _ | exact E2.drew (by assumption))
                clear hK K
                try simp only [Act.put, List.setIfInBounds_toArray, List.set_cons_zero, List.set_cons_succ]
                refine wpAnyH_ready (rs := [0]) (by kernel_rfl) (by simp) ?_
                refine AllReadyH.cons (o := _) rfl (fun K hK => ?_) ?_
                · (try dsimp only [List.getElem_toArray, List.getElem_cons_succ, List.getElem_cons_zero])
                  (rw [if_pos (by rfl)]; first | (refine wp_load_row 25 (.tmp 3) (by with_reducible rfl) (w.heap.size + 1) (by rfl) 25 (eA f g c u l) (0, 0) _ hHeld.e Try.underlying25 rfl (infoEd f g c u l) ?_) | (refine wp_load_row 28 (.tmp 2) (by with_reducible rfl) w.heap.size (by rfl) 28 (rowI xs) (0, 0) _ hHeld.a Try.underlying28 rfl (by rw [rowI_size, HX.out]; exact infoA16) ?_))
                  refine hK.out _ _ ?_ (fun hHeld => ?_)
                  · (first | exact HST.out | assumption | exact E2.adds (by assumption) _ _ | exact E2.drew (by assumption))
                  clear hK K
                  try simp only [Act.put, List.setIfInBounds_toArray, List.set_cons_zero, List.set_cons_succ]
                  refine wpAnyH_ready (rs := [4]) (by kernel_rfl) (by simp) ?_
                  refine AllReadyH.cons (o := _) rfl (fun K hK => ?_) ?_
                  · (try dsimp only [List.getElem_toArray, List.getElem_cons_succ, List.getElem_cons_zero]); go_simp
                    (first | (go_at_call 22; refine (CP.out _).mono ?_; rintro e w' ⟨rfl, hb⟩; obtain ⟨o2, n2, rfl⟩ := below_adds hb; clear hb) | (go_at_call 17; refine (CT.out _).mono ?_; rintro e w' ⟨rfl, hb⟩; obtain ⟨o2, n2, rfl⟩ := below_adds hb; clear hb))
                    try go_wp2_with fail
                    refine hK.out _ _ ?_ (fun hHeld => ?_)
                    · (first | exact HST.out | assumption | exact E2.adds (by assumption) _ _ | exact E2.drew (by assumption))
                    clear hK K
                    try simp only [Act.put, List.setIfInBounds_toArray, List.set_cons_zero, List.set_cons_succ]
                    refine wpAnyH_take (i := 5) (oi := _) (v := ?_) rfl (by kernel_rfl) (by kernel_rfl) (by kernel_rfl) (fun _ _ _ h => h) (Or.inl ⟨by rfl, ?_⟩) (by assumption) ?_
                    rotate_left
                    · intro w hSw; (try dsimp only at hSw); go_simp; (try with_reducible rfl)
                    try dsimp only [List.getElem_toArray, List.getElem_cons_succ, List.getElem_cons_zero]
                    simp only [Act.put, List.setIfInBounds_toArray, List.set_cons_zero, List.set_cons_succ]
                    refine wpAnyH_done (by kernel_rfl) ?_ _
                    go_wp2_with fail
                    go_roundw
                    case rel => exact ⟨k + 1, by rw [HB1.out], by rw [HB2.out], by go_num, by omega, by repeat (first | exact HST.out | (with_reducible apply E2.adds) | (with_reducible apply E2.drew))⟩
                    case measure => simp [intOf]; omega
                  exact AllReadyH.nil
                exact AllReadyH.nil
              exact AllReadyH.nil
            exact AllReadyH.nil
          · have hb0 : ((k : Int) == 0) = false := by simp; omega
            have HB1 := Lib.hid (show (bsG (0, 0) C (k + 1)).1 = (k : Int) by rw [bsG, if_pos (.inr h1)])
            have HB2 := Lib.hid (show (bsG (0, 0) C (k + 1)).2 = v by rw [bsG, if_pos (.inr h1), hv])
            rw [← hv] at h1
            generalize (bsG (0, 0) C k).1 = b
            generalize (bsG (0, 0) C k).2 = t at *
            clear h0 hv
            go_upto_region 7 with fail
            refine wp_region_held_drew (S := (fun w' => E2 w.heap.size xs f g c u l w w')) (by kernel_rfl) ?_ (fun hHeld => ?_)
            · (first | exact HST.out | assumption | exact E2.adds (by assumption) _ _ | exact E2.drew (by assumption))
            refine wpAnyH_take (i := 2) (oi := _) (v := ?_) rfl (by kernel_rfl) (by kernel_rfl) (by kernel_rfl) (fun _ _ _ h => h) (Or.inl ⟨by rfl, ?_⟩) (by assumption) ?_
            rotate_left
            · intro w hSw; (try dsimp only at hSw); go_simp; (try with_reducible rfl)
            try dsimp only [List.getElem_toArray, List.getElem_cons_succ, List.getElem_cons_zero]
            simp only [Act.put, List.setIfInBounds_toArray, List.set_cons_zero, List.set_cons_succ]
            refine wpAnyH_ready (rs := [0, 1]) (by kernel_rfl) (by simp) ?_
            refine AllReadyH.cons (o := _) rfl (fun K hK => ?_) ?_
            · (try dsimp only [List.getElem_toArray, List.getElem_cons_succ, List.getElem_cons_zero])
              (rw [if_pos (by rfl)]; first | (refine wp_load_row 25 (.tmp 3) (by with_reducible rfl) (w.heap.size + 1) (by rfl) 25 (eA f g c u l) (0, 0) _ hHeld.e Try.underlying25 rfl (infoEd f g c u l) ?_) | (refine wp_load_row 28 (.tmp 2) (by with_reducible rfl) w.heap.size (by rfl) 28 (rowI xs) (0, 0) _ hHeld.a Try.underlying28 rfl (by rw [rowI_size, HX.out]; exact infoA16) ?_))
              refine hK.out _ _ ?_ (fun hHeld => ?_)
              · (first | exact HST.out | assumption | exact E2.adds (by assumption) _ _ | exact E2.drew (by assumption))
              clear hK K
              try simp only [Act.put, List.setIfInBounds_toArray, List.set_cons_zero, List.set_cons_succ]
              refine wpAnyH_ready (rs := [1]) (by kernel_rfl) (by simp) ?_
              refine AllReadyH.cons (o := _) rfl (fun K hK => ?_) ?_
              · (try dsimp only [List.getElem_toArray, List.getElem_cons_succ, List.getElem_cons_zero])
                (rw [if_pos (by rfl)]; first | (refine wp_load_row 25 (.tmp 3) (by with_reducible rfl) (w.heap.size + 1) (by rfl) 25 (eA f g c u l) (0, 0) _ hHeld.e Try.underlying25 rfl (infoEd f g c u l) ?_) | (refine wp_load_row 28 (.tmp 2) (by with_reducible rfl) w.heap.size (by rfl) 28 (rowI xs) (0, 0) _ hHeld.a Try.underlying28 rfl (by rw [rowI_size, HX.out]; exact infoA16) ?_))
                refine hK.out _ _ ?_ (fun hHeld => ?_)
                · (first | exact HST.out | assumption | exact E2.adds (by assumption) _ _ | exact E2.drew (by assumption))
                clear hK K
                try simp only [Act.put, List.setIfInBounds_toArray, List.set_cons_zero, List.set_cons_succ]
                refine wpAnyH_ready (rs := [3]) (by kernel_rfl) (by simp) ?_
                refine AllReadyH.cons (o := _) rfl (fun K hK => ?_) ?_
                · (try dsimp only [List.getElem_toArray, List.getElem_cons_succ, List.getElem_cons_zero]); go_simp
                  (first | (go_at_call 22; refine (CP.out _).mono ?_; rintro e w' ⟨rfl, hb⟩; obtain ⟨o2, n2, rfl⟩ := below_adds hb; clear hb) | (go_at_call 17; refine (CT.out _).mono ?_; rintro e w' ⟨rfl, hb⟩; obtain ⟨o2, n2, rfl⟩ := below_adds hb; clear hb))
                  try go_wp2_with fail
                  refine hK.out _ _ ?_ (fun hHeld => ?_)
                  · (first | exact HST.out | assumption | exact E2.adds (by assumption) _ _ | exact E2.drew (by assumption))
                  clear hK K
                  try simp only [Act.put, List.setIfInBounds_toArray, List.set_cons_zero, List.set_cons_succ]
                  refine wpAnyH_ready (rs := [4]) (by kernel_rfl) (by simp) ?_
                  refine AllReadyH.cons (o := _) rfl (fun K hK => ?_) ?_
                  · (try dsimp only [List.getElem_toArray, List.getElem_cons_succ, List.getElem_cons_zero]); go_simp
                    (first | (go_at_call 22; refine (CP.out _).mono ?_; rintro e w' ⟨rfl, hb⟩; obtain ⟨o2, n2, rfl⟩ := below_adds hb; clear hb) | (go_at_call 17; refine (CT.out _).mono ?_; rintro e w' ⟨rfl, hb⟩; obtain ⟨o2, n2, rfl⟩ := below_adds hb; clear hb))
                    try go_wp2_with fail
                    refine hK.out _ _ ?_ (fun hHeld => ?_)
                    · (first | exact HST.out | assumption | exact E2.adds (by assumption) _ _ | exact E2.drew (by assumption))
                    clear hK K
                    try simp only [Act.put, List.setIfInBounds_toArray, List.set_cons_zero, List.set_cons_succ]
                    refine wpAnyH_take (i := 5) (oi := _) (v := ?_) rfl (by kernel_rfl) (by kernel_rfl) (by kernel_rfl) (fun _ _ _ h => h) (Or.inl ⟨by rfl, ?_⟩) (by assumption) ?_
                    rotate_left
                    · intro w hSw; (try dsimp only at hSw); go_simp; (try with_reducible rfl)
                    try dsimp only [List.getElem_toArray, List.getElem_cons_succ, List.getElem_cons_zero]
                    simp only [Act.put, List.setIfInBounds_toArray, List.set_cons_zero, List.set_cons_succ]
                    refine wpAnyH_done (by kernel_rfl) ?_ _
                    go_wp2_with fail
                    go_roundw
                    case rel => exact ⟨k + 1, by rw [HB1.out], by rw [HB2.out], by go_num, by omega, by repeat (first | exact HST.out | (with_reducible apply E2.adds) | (with_reducible apply E2.drew))⟩
                    case measure => simp [intOf]; omega
                  exact AllReadyH.nil
                exact AllReadyH.nil
              exact AllReadyH.nil
            refine AllReadyH.cons (o := _) rfl (fun K hK => ?_) ?_
            · (try dsimp only [List.getElem_toArray, List.getElem_cons_succ, List.getElem_cons_zero])
              (rw [if_pos (by rfl)]; first | (refine wp_load_row 25 (.tmp 3) (by with_reducible rfl) (w.heap.size + 1) (by rfl) 25 (eA f g c u l) (0, 0) _ hHeld.e Try.underlying25 rfl (infoEd f g c u l) ?_) | (refine wp_load_row 28 (.tmp 2) (by with_reducible rfl) w.heap.size (by rfl) 28 (rowI xs) (0, 0) _ hHeld.a Try.underlying28 rfl (by rw [rowI_size, HX.out]; exact infoA16) ?_))
              refine hK.out _ _ ?_ (fun hHeld => ?_)
              · (first | exact HST.out | assumption | exact E2.adds (by assumption) _ _ | exact E2.drew (by assumption))
              clear hK K
              try simp only [Act.put, List.setIfInBounds_toArray, List.set_cons_zero, List.set_cons_succ]
              refine wpAnyH_ready (rs := [0, 3]) (by kernel_rfl) (by simp) ?_
              refine AllReadyH.cons (o := _) rfl (fun K hK => ?_) ?_
              · (try dsimp only [List.getElem_toArray, List.getElem_cons_succ, List.getElem_cons_zero])
                (rw [if_pos (by rfl)]; first | (refine wp_load_row 25 (.tmp 3) (by with_reducible rfl) (w.heap.size + 1) (by rfl) 25 (eA f g c u l) (0, 0) _ hHeld.e Try.underlying25 rfl (infoEd f g c u l) ?_) | (refine wp_load_row 28 (.tmp 2) (by with_reducible rfl) w.heap.size (by rfl) 28 (rowI xs) (0, 0) _ hHeld.a Try.underlying28 rfl (by rw [rowI_size, HX.out]; exact infoA16) ?_))
                refine hK.out _ _ ?_ (fun hHeld => ?_)
                · (first | exact HST.out | assumption | exact E2.adds (by assumption) _ _ | exact E2.drew (by assumption))
                clear hK K
                try simp only [Act.put, List.setIfInBounds_toArray, List.set_cons_zero, List.set_cons_succ]
                refine wpAnyH_ready (rs := [3]) (by kernel_rfl) (by simp) ?_
                refine AllReadyH.cons (o := _) rfl (fun K hK => ?_) ?_
                · (try dsimp only [List.getElem_toArray, List.getElem_cons_succ, List.getElem_cons_zero]); go_simp
                  (first | (go_at_call 22; refine (CP.out _).mono ?_; rintro e w' ⟨rfl, hb⟩; obtain ⟨o2, n2, rfl⟩ := below_adds hb; clear hb) | (go_at_call 17; refine (CT.out _).mono ?_; rintro e w' ⟨rfl, hb⟩; obtain ⟨o2, n2, rfl⟩ := below_adds hb; clear hb))
                  try go_wp2_with fail
                  refine hK.out _ _ ?_ (fun hHeld => ?_)
                  · (first | exact HST.out | assumption | exact E2.adds (by assumption) _ _ | exact E2.drew (by assumption))
                  clear hK K
                  try simp only [Act.put, List.setIfInBounds_toArray, List.set_cons_zero, List.set_cons_succ]
                  refine wpAnyH_ready (rs := [4]) (by kernel_rfl) (by simp) ?_
                  refine AllReadyH.cons (o := _) rfl (fun K hK => ?_) ?_
                  · (try dsimp only [List.getElem_toArray, List.getElem_cons_succ, List.getElem_cons_zero]); go_simp
                    (first | (go_at_call 22; refine (CP.out _).mono ?_; rintro e w' ⟨rfl, hb⟩; obtain ⟨o2, n2, rfl⟩ := below_adds hb; clear hb) | (go_at_call 17; refine (CT.out _).mono ?_; rintro e w' ⟨rfl, hb⟩; obtain ⟨o2, n2, rfl⟩ := below_adds hb; clear hb))
                    try go_wp2_with fail
                    refine hK.out _ _ ?_ (fun hHeld => ?_)
                    · (first | exact HST.out | assumption | exact E2.adds (by assumption) _ _ | exact E2.drew (by assumption))
                    clear hK K
                    try simp only [Act.put, List.setIfInBounds_toArray, List.set_cons_zero, List.set_cons_succ]
                    refine wpAnyH_take (i := 5) (oi := _) (v := ?_) rfl (by kernel_rfl) (by kernel_rfl) (by kernel_rfl) (fun _ _ _ h => h) (Or.inl ⟨by rfl, ?_⟩) (by assumption) ?_
                    rotate_left
                    · intro w hSw; (try dsimp only at hSw); go_simp; (try with_reducible rfl)
                    try dsimp only [List.getElem_toArray, List.getElem_cons_succ, List.getElem_cons_zero]
                    simp only [Act.put, List.setIfInBounds_toArray, List.set_cons_zero, List.set_cons_succ]
                    refine wpAnyH_done (by kernel_rfl) ?_ _
                    go_wp2_with fail
                    go_roundw
                    case rel => exact ⟨k + 1, by rw [HB1.out], by rw [HB2.out], by go_num, by omega, by repeat (first | exact HST.out | (with_reducible apply E2.adds) | (with_reducible apply E2.drew))⟩
                    case measure => simp [intOf]; omega
                  exact AllReadyH.nil
                exact AllReadyH.nil
              refine AllReadyH.cons (o := _) rfl (fun K hK => ?_) ?_
              · (try dsimp only [List.getElem_toArray, List.getElem_cons_succ, List.getElem_cons_zero]); go_simp
                (first | (go_at_call 22; refine (CP.out _).mono ?_; rintro e w' ⟨rfl, hb⟩; obtain ⟨o2, n2, rfl⟩ := below_adds hb; clear hb) | (go_at_call 17; refine (CT.out _).mono ?_; rintro e w' ⟨rfl, hb⟩; obtain ⟨o2, n2, rfl⟩ := below_adds hb; clear hb))
                try go_wp2_with fail
                refine hK.out _ _ ?_ (fun hHeld => ?_)
                · (first | exact HST.out | assumption | exact E2.adds (by assumption) _ _ | exact E2.drew (by assumption))
                clear hK K
                try simp only [Act.put, List.setIfInBounds_toArray, List.set_cons_zero, List.set_cons_succ]
                refine wpAnyH_ready (rs := [0]) (by kernel_rfl) (by simp) ?_
                refine AllReadyH.cons (o := _) rfl (fun K hK => ?_) ?_
                · (try dsimp only [List.getElem_toArray, List.getElem_cons_succ, List.getElem_cons_zero])
                  (rw [if_pos (by rfl)]; first | (refine wp_load_row 25 (.tmp 3) (by with_reducible rfl) (w.heap.size + 1) (by rfl) 25 (eA f g c u l) (0, 0) _ hHeld.e Try.underlying25 rfl (infoEd f g c u l) ?_) | (refine wp_load_row 28 (.tmp 2) (by with_reducible rfl) w.heap.size (by rfl) 28 (rowI xs) (0, 0) _ hHeld.a Try.underlying28 rfl (by rw [rowI_size, HX.out]; exact infoA16) ?_))
                  refine hK.out _ _ ?_ (fun hHeld => ?_)
                  · (first | exact HST.out | assumption | exact E2.adds (by assumption) _ _ | exact E2.drew (by assumption))
                  clear hK K
                  try simp only [Act.put, List.setIfInBounds_toArray, List.set_cons_zero, List.set_cons_succ]
                  refine wpAnyH_ready (rs := [4]) (by kernel_rfl) (by simp) ?_
                  refine AllReadyH.cons (o := _) rfl (fun K hK => ?_) ?_
                  · (try dsimp only [List.getElem_toArray, List.getElem_cons_succ, List.getElem_cons_zero]); go_simp
                    (first | (go_at_call 22; refine (CP.out _).mono ?_; rintro e w' ⟨rfl, hb⟩; obtain ⟨o2, n2, rfl⟩ := below_adds hb; clear hb) | (go_at_call 17; refine (CT.out _).mono ?_; rintro e w' ⟨rfl, hb⟩; obtain ⟨o2, n2, rfl⟩ := below_adds hb; clear hb))
                    try go_wp2_with fail
                    refine hK.out _ _ ?_ (fun hHeld => ?_)
                    · (first | exact HST.out | assumption | exact E2.adds (by assumption) _ _ | exact E2.drew (by assumption))
                    clear hK K
                    try simp only [Act.put, List.setIfInBounds_toArray, List.set_cons_zero, List.set_cons_succ]
                    refine wpAnyH_take (i := 5) (oi := _) (v := ?_) rfl (by kernel_rfl) (by kernel_rfl) (by kernel_rfl) (fun _ _ _ h => h) (Or.inl ⟨by rfl, ?_⟩) (by assumption) ?_
                    rotate_left
                    · intro w hSw; (try dsimp only at hSw); go_simp; (try with_reducible rfl)
                    try dsimp only [List.getElem_toArray, List.getElem_cons_succ, List.getElem_cons_zero]
                    simp only [Act.put, List.setIfInBounds_toArray, List.set_cons_zero, List.set_cons_succ]
                    refine wpAnyH_done (by kernel_rfl) ?_ _
                    go_wp2_with fail
                    go_roundw
                    case rel => exact ⟨k + 1, by rw [HB1.out], by rw [HB2.out], by go_num, by omega, by repeat (first | exact HST.out | (with_reducible apply E2.adds) | (with_reducible apply E2.drew))⟩
                    case measure => simp [intOf]; omega
                  exact AllReadyH.nil
                exact AllReadyH.nil
              exact AllReadyH.nil
            exact AllReadyH.nil
          · have hb0 : ((k : Int) == 0) = false := by simp; omega
            have HB1 := Lib.hid (show bsG (0, 0) C (k + 1) = bsG (0, 0) C k by rw [bsG, if_neg (fun h => h.elim h0 h1)])
            rw [← hv] at h1
            generalize hgb : bsG (0, 0) C k = bt at h1 HB1 ⊢
            obtain ⟨b, t⟩ := bt
            clear hgb
            simp only at h1 ⊢
            clear h0 hv
            go_upto_region 7 with fail
            refine wp_region_held_drew (S := (fun w' => E2 w.heap.size xs f g c u l w w')) (by kernel_rfl) ?_ (fun hHeld => ?_)
            · (first | exact HST.out | assumption | exact E2.adds (by assumption) _ _ | exact E2.drew (by assumption))
            refine wpAnyH_take (i := 2) (oi := _) (v := ?_) rfl (by kernel_rfl) (by kernel_rfl) (by kernel_rfl) (fun _ _ _ h => h) (Or.inl ⟨by rfl, ?_⟩) (by assumption) ?_
            rotate_left
            · intro w hSw; (try dsimp only at hSw); go_simp; (try with_reducible rfl)
            try dsimp only [List.getElem_toArray, List.getElem_cons_succ, List.getElem_cons_zero]
            simp only [Act.put, List.setIfInBounds_toArray, List.set_cons_zero, List.set_cons_succ]
            refine wpAnyH_ready (rs := [0, 1]) (by kernel_rfl) (by simp) ?_
            refine AllReadyH.cons (o := _) rfl (fun K hK => ?_) ?_
            · (try dsimp only [List.getElem_toArray, List.getElem_cons_succ, List.getElem_cons_zero])
              (rw [if_pos (by rfl)]; first | (refine wp_load_row 25 (.tmp 3) (by with_reducible rfl) (w.heap.size + 1) (by rfl) 25 (eA f g c u l) (0, 0) _ hHeld.e Try.underlying25 rfl (infoEd f g c u l) ?_) | (refine wp_load_row 28 (.tmp 2) (by with_reducible rfl) w.heap.size (by rfl) 28 (rowI xs) (0, 0) _ hHeld.a Try.underlying28 rfl (by rw [rowI_size, HX.out]; exact infoA16) ?_))
              refine hK.out _ _ ?_ (fun hHeld => ?_)
              · (first | exact HST.out | assumption | exact E2.adds (by assumption) _ _ | exact E2.drew (by assumption))
              clear hK K
              try simp only [Act.put, List.setIfInBounds_toArray, List.set_cons_zero, List.set_cons_succ]
              refine wpAnyH_ready (rs := [1]) (by kernel_rfl) (by simp) ?_
              refine AllReadyH.cons (o := _) rfl (fun K hK => ?_) ?_
              · (try dsimp only [List.getElem_toArray, List.getElem_cons_succ, List.getElem_cons_zero])
                (rw [if_pos (by rfl)]; first | (refine wp_load_row 25 (.tmp 3) (by with_reducible rfl) (w.heap.size + 1) (by rfl) 25 (eA f g c u l) (0, 0) _ hHeld.e Try.underlying25 rfl (infoEd f g c u l) ?_) | (refine wp_load_row 28 (.tmp 2) (by with_reducible rfl) w.heap.size (by rfl) 28 (rowI xs) (0, 0) _ hHeld.a Try.underlying28 rfl (by rw [rowI_size, HX.out]; exact infoA16) ?_))
                refine hK.out _ _ ?_ (fun hHeld => ?_)
                · (first | exact HST.out | assumption | exact E2.adds (by assumption) _ _ | exact E2.drew (by assumption))
                clear hK K
                try simp only [Act.put, List.setIfInBounds_toArray, List.set_cons_zero, List.set_cons_succ]
                refine wpAnyH_ready (rs := [3]) (by kernel_rfl) (by simp) ?_
                refine AllReadyH.cons (o := _) rfl (fun K hK => ?_) ?_
                · (try dsimp only [List.getElem_toArray, List.getElem_cons_succ, List.getElem_cons_zero]); go_simp
                  (first | (go_at_call 22; refine (CP.out _).mono ?_; rintro e w' ⟨rfl, hb⟩; obtain ⟨o2, n2, rfl⟩ := below_adds hb; clear hb) | (go_at_call 17; refine (CT.out _).mono ?_; rintro e w' ⟨rfl, hb⟩; obtain ⟨o2, n2, rfl⟩ := below_adds hb; clear hb))
                  try go_wp2_with fail
                  refine hK.out _ _ ?_ (fun hHeld => ?_)
                  · (first | exact HST.out | assumption | exact E2.adds (by assumption) _ _ | exact E2.drew (by assumption))
                  clear hK K
                  try simp only [Act.put, List.setIfInBounds_toArray, List.set_cons_zero, List.set_cons_succ]
                  refine wpAnyH_ready (rs := [4]) (by kernel_rfl) (by simp) ?_
                  refine AllReadyH.cons (o := _) rfl (fun K hK => ?_) ?_
                  · (try dsimp only [List.getElem_toArray, List.getElem_cons_succ, List.getElem_cons_zero]); go_simp
                    (first | (go_at_call 22; refine (CP.out _).mono ?_; rintro e w' ⟨rfl, hb⟩; obtain ⟨o2, n2, rfl⟩ := below_adds hb; clear hb) | (go_at_call 17; refine (CT.out _).mono ?_; rintro e w' ⟨rfl, hb⟩; obtain ⟨o2, n2, rfl⟩ := below_adds hb; clear hb))
                    try go_wp2_with fail
                    refine hK.out _ _ ?_ (fun hHeld => ?_)
                    · (first | exact HST.out | assumption | exact E2.adds (by assumption) _ _ | exact E2.drew (by assumption))
                    clear hK K
                    try simp only [Act.put, List.setIfInBounds_toArray, List.set_cons_zero, List.set_cons_succ]
                    refine wpAnyH_take (i := 5) (oi := _) (v := ?_) rfl (by kernel_rfl) (by kernel_rfl) (by kernel_rfl) (fun _ _ _ h => h) (Or.inl ⟨by rfl, ?_⟩) (by assumption) ?_
                    rotate_left
                    · intro w hSw; (try dsimp only at hSw); go_simp; (try with_reducible rfl)
                    try dsimp only [List.getElem_toArray, List.getElem_cons_succ, List.getElem_cons_zero]
                    simp only [Act.put, List.setIfInBounds_toArray, List.set_cons_zero, List.set_cons_succ]
                    refine wpAnyH_done (by kernel_rfl) ?_ _
                    go_wp2_with fail
                    go_roundw
                    case rel => exact ⟨k + 1, by rw [HB1.out], by rw [HB1.out], by go_num, by omega, by repeat (first | exact HST.out | (with_reducible apply E2.adds) | (with_reducible apply E2.drew))⟩
                    case measure => simp [intOf]; omega
                  exact AllReadyH.nil
                exact AllReadyH.nil
              exact AllReadyH.nil
            refine AllReadyH.cons (o := _) rfl (fun K hK => ?_) ?_
            · (try dsimp only [List.getElem_toArray, List.getElem_cons_succ, List.getElem_cons_zero])
              (rw [if_pos (by rfl)]; first | (refine wp_load_row 25 (.tmp 3) (by with_reducible rfl) (w.heap.size + 1) (by rfl) 25 (eA f g c u l) (0, 0) _ hHeld.e Try.underlying25 rfl (infoEd f g c u l) ?_) | (refine wp_load_row 28 (.tmp 2) (by with_reducible rfl) w.heap.size (by rfl) 28 (rowI xs) (0, 0) _ hHeld.a Try.underlying28 rfl (by rw [rowI_size, HX.out]; exact infoA16) ?_))
              refine hK.out _ _ ?_ (fun hHeld => ?_)
              · (first | exact HST.out | assumption | exact E2.adds (by assumption) _ _ | exact E2.drew (by assumption))
              clear hK K
              try simp only [Act.put, List.setIfInBounds_toArray, List.set_cons_zero, List.set_cons_succ]
              refine wpAnyH_ready (rs := [0, 3]) (by kernel_rfl) (by simp) ?_
              refine AllReadyH.cons (o := _) rfl (fun K hK => ?_) ?_
              · (try dsimp only [List.getElem_toArray, List.getElem_cons_succ, List.getElem_cons_zero])
                (rw [if_pos (by rfl)]; first | (refine wp_load_row 25 (.tmp 3) (by with_reducible rfl) (w.heap.size + 1) (by rfl) 25 (eA f g c u l) (0, 0) _ hHeld.e Try.underlying25 rfl (infoEd f g c u l) ?_) | (refine wp_load_row 28 (.tmp 2) (by with_reducible rfl) w.heap.size (by rfl) 28 (rowI xs) (0, 0) _ hHeld.a Try.underlying28 rfl (by rw [rowI_size, HX.out]; exact infoA16) ?_))
                refine hK.out _ _ ?_ (fun hHeld => ?_)
                · (first | exact HST.out | assumption | exact E2.adds (by assumption) _ _ | exact E2.drew (by assumption))
                clear hK K
                try simp only [Act.put, List.setIfInBounds_toArray, List.set_cons_zero, List.set_cons_succ]
                refine wpAnyH_ready (rs := [3]) (by kernel_rfl) (by simp) ?_
                refine AllReadyH.cons (o := _) rfl (fun K hK => ?_) ?_
                · (try dsimp only [List.getElem_toArray, List.getElem_cons_succ, List.getElem_cons_zero]); go_simp
                  (first | (go_at_call 22; refine (CP.out _).mono ?_; rintro e w' ⟨rfl, hb⟩; obtain ⟨o2, n2, rfl⟩ := below_adds hb; clear hb) | (go_at_call 17; refine (CT.out _).mono ?_; rintro e w' ⟨rfl, hb⟩; obtain ⟨o2, n2, rfl⟩ := below_adds hb; clear hb))
                  try go_wp2_with fail
                  refine hK.out _ _ ?_ (fun hHeld => ?_)
                  · (first | exact HST.out | assumption | exact E2.adds (by assumption) _ _ | exact E2.drew (by assumption))
                  clear hK K
                  try simp only [Act.put, List.setIfInBounds_toArray, List.set_cons_zero, List.set_cons_succ]
                  refine wpAnyH_ready (rs := [4]) (by kernel_rfl) (by simp) ?_
                  refine AllReadyH.cons (o := _) rfl (fun K hK => ?_) ?_
                  · (try dsimp only [List.getElem_toArray, List.getElem_cons_succ, List.getElem_cons_zero]); go_simp
                    (first | (go_at_call 22; refine (CP.out _).mono ?_; rintro e w' ⟨rfl, hb⟩; obtain ⟨o2, n2, rfl⟩ := below_adds hb; clear hb) | (go_at_call 17; refine (CT.out _).mono ?_; rintro e w' ⟨rfl, hb⟩; obtain ⟨o2, n2, rfl⟩ := below_adds hb; clear hb))
                    try go_wp2_with fail
                    refine hK.out _ _ ?_ (fun hHeld => ?_)
                    · (first | exact HST.out | assumption | exact E2.adds (by assumption) _ _ | exact E2.drew (by assumption))
                    clear hK K
                    try simp only [Act.put, List.setIfInBounds_toArray, List.set_cons_zero, List.set_cons_succ]
                    refine wpAnyH_take (i := 5) (oi := _) (v := ?_) rfl (by kernel_rfl) (by kernel_rfl) (by kernel_rfl) (fun _ _ _ h => h) (Or.inl ⟨by rfl, ?_⟩) (by assumption) ?_
                    rotate_left
                    · intro w hSw; (try dsimp only at hSw); go_simp; (try with_reducible rfl)
                    try dsimp only [List.getElem_toArray, List.getElem_cons_succ, List.getElem_cons_zero]
                    simp only [Act.put, List.setIfInBounds_toArray, List.set_cons_zero, List.set_cons_succ]
                    refine wpAnyH_done (by kernel_rfl) ?_ _
                    go_wp2_with fail
                    go_roundw
                    case rel => exact ⟨k + 1, by rw [HB1.out], by rw [HB1.out], by go_num, by omega, by repeat (first | exact HST.out | (with_reducible apply E2.adds) | (with_reducible apply E2.drew))⟩
                    case measure => simp [intOf]; omega
                  exact AllReadyH.nil
                exact AllReadyH.nil
              refine AllReadyH.cons (o := _) rfl (fun K hK => ?_) ?_
              · (try dsimp only [List.getElem_toArray, List.getElem_cons_succ, List.getElem_cons_zero]); go_simp
                (first | (go_at_call 22; refine (CP.out _).mono ?_; rintro e w' ⟨rfl, hb⟩; obtain ⟨o2, n2, rfl⟩ := below_adds hb; clear hb) | (go_at_call 17; refine (CT.out _).mono ?_; rintro e w' ⟨rfl, hb⟩; obtain ⟨o2, n2, rfl⟩ := below_adds hb; clear hb))
                try go_wp2_with fail
                refine hK.out _ _ ?_ (fun hHeld => ?_)
                · (first | exact HST.out | assumption | exact E2.adds (by assumption) _ _ | exact E2.drew (by assumption))
                clear hK K
                try simp only [Act.put, List.setIfInBounds_toArray, List.set_cons_zero, List.set_cons_succ]
                refine wpAnyH_ready (rs := [0]) (by kernel_rfl) (by simp) ?_
                refine AllReadyH.cons (o := _) rfl (fun K hK => ?_) ?_
                · (try dsimp only [List.getElem_toArray, List.getElem_cons_succ, List.getElem_cons_zero])
                  (rw [if_pos (by rfl)]; first | (refine wp_load_row 25 (.tmp 3) (by with_reducible rfl) (w.heap.size + 1) (by rfl) 25 (eA f g c u l) (0, 0) _ hHeld.e Try.underlying25 rfl (infoEd f g c u l) ?_) | (refine wp_load_row 28 (.tmp 2) (by with_reducible rfl) w.heap.size (by rfl) 28 (rowI xs) (0, 0) _ hHeld.a Try.underlying28 rfl (by rw [rowI_size, HX.out]; exact infoA16) ?_))
                  refine hK.out _ _ ?_ (fun hHeld => ?_)
                  · (first | exact HST.out | assumption | exact E2.adds (by assumption) _ _ | exact E2.drew (by assumption))
                  clear hK K
                  try simp only [Act.put, List.setIfInBounds_toArray, List.set_cons_zero, List.set_cons_succ]
                  refine wpAnyH_ready (rs := [4]) (by kernel_rfl) (by simp) ?_
                  refine AllReadyH.cons (o := _) rfl (fun K hK => ?_) ?_
                  · (try dsimp only [List.getElem_toArray, List.getElem_cons_succ, List.getElem_cons_zero]); go_simp
                    (first | (go_at_call 22; refine (CP.out _).mono ?_; rintro e w' ⟨rfl, hb⟩; obtain ⟨o2, n2, rfl⟩ := below_adds hb; clear hb) | (go_at_call 17; refine (CT.out _).mono ?_; rintro e w' ⟨rfl, hb⟩; obtain ⟨o2, n2, rfl⟩ := below_adds hb; clear hb))
                    try go_wp2_with fail
                    refine hK.out _ _ ?_ (fun hHeld => ?_)
                    · (first | exact HST.out | assumption | exact E2.adds (by assumption) _ _ | exact E2.drew (by assumption))
                    clear hK K
                    try simp only [Act.put, List.setIfInBounds_toArray, List.set_cons_zero, List.set_cons_succ]
                    refine wpAnyH_take (i := 5) (oi := _) (v := ?_) rfl (by kernel_rfl) (by kernel_rfl) (by kernel_rfl) (fun _ _ _ h => h) (Or.inl ⟨by rfl, ?_⟩) (by assumption) ?_
                    rotate_left
                    · intro w hSw; (try dsimp only at hSw); go_simp; (try with_reducible rfl)
                    try dsimp only [List.getElem_toArray, List.getElem_cons_succ, List.getElem_cons_zero]
                    simp only [Act.put, List.setIfInBounds_toArray, List.set_cons_zero, List.set_cons_succ]
                    refine wpAnyH_done (by kernel_rfl) ?_ _
                    go_wp2_with fail
                    go_roundw
                    case rel => exact ⟨k + 1, by rw [HB1.out], by rw [HB1.out], by go_num, by omega, by repeat (first | exact HST.out | (with_reducible apply E2.adds) | (with_reducible apply E2.drew))⟩
                    case measure => simp [intOf]; omega
                  exact AllReadyH.nil
                exact AllReadyH.nil
              exact AllReadyH.nil
            exact AllReadyH.nil
        · have hd1 : ¬ (k : Int) ≤ 4 := by omega
          have HK5 := Lib.hid (show k = 5 by omega)
          have HE := Lib.hid (show biV xs f g c u l = (bsG (0, 0) C k).1 by rw [HV.out, HK5.out])
          generalize (bsG (0, 0) C k).1 = b at HE ⊢
          generalize (bsG (0, 0) C k).2 = t
          go_wp2_with fail
          go_returns
          exact ⟨by rw [HE.out]; rfl, HST.out.below⟩

end Go.Proofs.Ythnigldbpikcaaa
