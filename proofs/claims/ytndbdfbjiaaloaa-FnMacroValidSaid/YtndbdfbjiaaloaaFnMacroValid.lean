/- PROVED: the law laws.FnMacroValid returns true for every input: whatever macroblock is drawn from the code, MacroValid answers as the reference does, and a valid one with a vector, a mode or a level put in is valid only if its kind has one; no conditions. -/
import Derived.Test.YtndbdfbjiaaloaaRows
import Derived.Test.YtndbdfbjiaaloaaDrawQ
import Derived.Test.YtndbdfbjiaaloaaMacP
import Derived.Test.YtndbdfbjiaaloaaMacJ
import Derived.Test.YtndbdfbjiaaloaaMacS
import Derived.WalkKit
import Derived.ProofKit
import Derived.OpenShut
import Derived.ShutString
import Derived.ChangeOld
import Derived.Below
import Derived.Lib.SmallJoins
namespace Go.Proofs.Ytndbdfbjiaaloaa.fnMacroValid
open Go.ChangeShapes Go.WideShapes Go.ChangeAt Go.RowKit
open Go.ChangeMaps (open_string shut_string)
set_option linter.unusedVariables false
set_option linter.unusedSimpArgs false

theorem own : ownKnob Try.prog.godebug = none := by kernel_rfl
theorem laidOut : laidOutB Try.prog = true := by kernel_rfl

attribute [local go_sem] size_addsW cell?_addsW frozen?_addsW setCell_addsW drew_addsW adds_addsW setCell_twice alloc_adds0 size_adds0 adds_adds0 sel2 sel3 sel4 sel5 sel6 sel7 sel8 sel9 lt_more lt_more2 lt_more3 lt_more4 adds_drew adds_drewN drewN_addsW ltA_1_1 ltA_1_2 ltA_1_3 ltA_1_4 ltA_1_5 ltA_1_6 ltA_2_1 ltA_2_2 ltA_2_3 ltA_2_4 ltA_2_5 ltA_2_6 ltA_3_1 ltA_3_2 ltA_3_3 ltA_3_4 ltA_3_5 ltA_3_6 ltA_4_1 ltA_4_2 ltA_4_3 ltA_4_4 ltA_4_5 ltA_4_6 ltA_5_1 ltA_5_2 ltA_5_3 ltA_5_4 ltA_5_5 ltA_5_6 ltA_6_1 ltA_6_2 ltA_6_3 ltA_6_4 ltA_6_5 ltA_6_6 ltA_7_1 ltA_7_2 ltA_7_3 ltA_7_4 ltA_7_5 ltA_7_6 ltA_8_1 ltA_8_2 ltA_8_3 ltA_8_4 ltA_8_5 ltA_8_6 ltA_9_1 ltA_9_2 ltA_9_3 ltA_9_4 ltA_9_5 ltA_9_6 ltA_10_1 ltA_10_2 ltA_10_3 ltA_10_4 ltA_10_5 ltA_10_6 ltA_11_1 ltA_11_2 ltA_11_3 ltA_11_4 ltA_11_5 ltA_11_6 ltA_12_1 ltA_12_2 ltA_12_3 ltA_12_4 ltA_12_5 ltA_12_6
theorem heap_alloc_at (X : World) (o : Obj) (g : Nat) (h : g = X.heap.size) : (X.alloc o).heap[g]? = some o := by subst h; exact heap_alloc_new _ _
def MV (g : Nat) (y1 y2 y3 : List Int) (W : World) : Prop :=
  W.heap[g]? = some (.cells (rowI y1) 29 (0, 0)) ∧ W.heap[g + 1]? = some (.cells (rowI y2) 29 (0, 0)) ∧ W.heap[g + 1 + 1]? = some (.cells (rowI y3) 29 (0, 0))
theorem lt_of_get {W : World} {g : Nat} {o : Obj} (h : W.heap[g]? = some o) : g < W.heap.size := by
  rcases Nat.lt_or_ge g W.heap.size with h1 | h1
  · exact h1
  · rw [Array.getElem?_eq_none h1] at h; cases h
theorem MV.pair {W : World} {s g : Nat} {v : Value} {y1 y2 y3 : List Int} (h : W.cell? ⟨s, 0, none⟩ = some v ∧ MV g y1 y2 y3 W) (hs : s < g) (os : Array Obj) (n : Nat) : (addsW W os n).cell? ⟨s, 0, none⟩ = some v ∧ MV g y1 y2 y3 (addsW W os n) := by
  obtain ⟨h0, h1, h2, h3⟩ := h
  have l1 := lt_of_get h1
  exact ⟨(cell?_addsW _ _ _ _ _ (by omega)).trans h0, (heap_addsW _ _ _ _ l1).trans h1, (heap_addsW _ _ _ _ (lt_of_get h2)).trans h2, (heap_addsW _ _ _ _ (lt_of_get h3)).trans h3⟩
theorem MV.new (X : World) (y1 y2 y3 : List Int) : MV X.heap.size y1 y2 y3 (((X.alloc (.cells (rowI y1) 29)).alloc (.cells (rowI y2) 29)).alloc (.cells (rowI y3) 29)) := by
  refine ⟨?_, ?_, heap_alloc_at _ _ _ (by simp)⟩
  · rw [Below.heap_alloc _ _ _ (by simp; omega), Below.heap_alloc _ _ _ (by simp)]; exact heap_alloc_new _ _
  · rw [Below.heap_alloc _ _ _ (by simp)]; exact heap_alloc_at _ _ _ (by simp)
theorem all_add {P : Program} {C : Code} {Q : Exit → Act → World → Prop} {a : Act} {Y : World} {oo : Array Obj} {nn : Nat}
    (H : ∀ (X : World) (oo : Array Obj) (nn : Nat), X = addsW Y oo nn → Code.wp P C Q a X) : Code.wp P C Q a (addsW Y oo nn) := H _ _ _ rfl
theorem cell_row {W : World} {s : Nat} {ys : List Int} {t : TypeId} {k : Int} (h : W.heap[s]? = some (.cells (rowI ys) t (0, 0))) (hc : (rowI ys)[0]? = some (.int .i64 k)) : W.cell? ⟨s, 0, none⟩ = some (.int .i64 k) := by
  simp [World.cell?, h, hc]

set_option maxHeartbeats 4000000 in
set_option maxRecDepth 100000 in
theorem walk (a_zs : Option Addr) (len_zs cap_zs : Nat) (zs : List Int) (w : World) (w_zs : IsRow .u8 w a_zs len_zs cap_zs zs) :
    Calls Try.prog 8 #[.slice a_zs len_zs cap_zs] w fun e w' => e = .returned (.bool true) ∧ Below w.heap.size w w' := by
  have hlm := (RowAt.of_row w_zs).2.2.1
  unfold maxLen at hlm
  have HI := Lib.hid w_zs
  clear w_zs
  by_cases hbig : 1048576 < len_zs
  · go_enter Try.func8, Try.ntmps8
    go_wp2
    go_returns
    exact ⟨rfl, (by repeat' (first | (with_reducible exact Below.refl _ _) | (with_reducible refine Below.adds_ ?_ ?_ _ _) | (with_reducible refine Below.alloc ?_ ?_ _) | (with_reducible refine Below.drew ?_) | (with_reducible refine Below.setCell ?_ ?_ _) | (with_reducible assumption) | go_size | (simp only [size_addsW, World.size_alloc, World.size_drew, World.size_setCell]; omega)))⟩
  · go_enter Try.func8, Try.ntmps8
    go_upto_region 4 with (first
      | (simp only [zcMac])
      | (go_at_call 39; refine (S_DrawMacroValid _ _ _ zs _ (IsRow.keep HI.out (by repeat' (first | (with_reducible exact Below.refl _ _) | (with_reducible refine Below.adds_ ?_ ?_ _ _) | (with_reducible refine Below.alloc ?_ ?_ _) | (with_reducible refine Below.drew ?_) | (with_reducible refine Below.setCell ?_ ?_ _) | (with_reducible assumption) | go_size | (simp only [size_addsW, World.size_alloc, World.size_drew, World.size_setCell]; omega))))).mono ?_; rintro e w' ⟨ys, rfl, hy, hb⟩; have HY := Lib.hid hy; have HB := Lib.hid hb; clear hy hb)
      | (focus ((with_reducible refine wpList_wanted ?_ (fun K hK => ?_)); rotate_left; (refine wp_store_sub 29 (.tmp 3) (.tmp 12) ?ho (w'.heap.size) 0 ys ?hx ?hy 29 (zL 71) ?hg ?hi ?hfit (hK _ _ ?_)); (case ho => with_reducible rfl); (case hx => rfl); (case hy => rfl); (case hg => exact heap_alloc_at _ _ _ (by simp)); (case hi => rw [HY.out]; exact infoMacD); (case hfit => rw [HY.out, zL_len]; exact Nat.le_refl _); rw [spl_full (by rw [HY.out, zL_len]), setRow_alloc _ _ _ _ _ (by simp)]; rotate_left; rfl)))
    have hg3 := heap_alloc_new w' (.cells (rowI ys) 29)
    have hbX : Below w.heap.size w (w'.alloc (.cells (rowI ys) 29)) := HB.out.alloc HB.out.size _
    have hl3 : w'.heap.size < (w'.alloc (.cells (rowI ys) 29)).heap.size := by simp
    generalize w'.alloc (.cells (rowI ys) 29) = Y at hg3 hbX hl3 ⊢
    generalize w'.heap.size = s3 at hg3 hl3 ⊢
    have hYs := hbX.size
    clear HB HI hlm hbig
    have hsub := Lib.hid (show sub ys 0 71 = ys by rw [← HY.out]; exact sub_all ys)
    obtain ⟨b, hb⟩ : ∃ b, b = macB ys := ⟨_, rfl⟩
    have SM := Lib.hid (show ∀ W, Calls Try.prog 17 #[.agg (rowI ys)] W fun e w' => e = .returned (.bool b) ∧ Below W.heap.size W w' from fun W => by rw [hb]; exact S_MacroValid ys W HY.out)
    have IM := Lib.hid (show ∀ W, Calls Try.prog 30 #[.agg (rowI ys)] W fun e w' => e = .returned (.bool b) ∧ Below W.heap.size W w' from fun W => by rw [hb]; exact I_MacroValid ys W HY.out)
    have HM := Lib.hid hb
    clear hb
    cases b
    · go_wp2_with (first | (focus ((with_reducible refine wpList_wanted ?_ (fun K hK => ?_)); rotate_left; (refine wp_load_sub 29 (.tmp 3) ?ho s3 0 71 ?hx 29 ys (0, 0) _ ?hg Try.underlying29 rfl infoMacD ?hs (hK _ _ ?_)); (case ho => with_reducible rfl); (case hx => rfl); (case hg => first | exact hg3 | exact (heap_addsW _ _ _ _ hl3).trans hg3); (case hs => rw [HY.out]; exact Nat.le_refl _); rw [hsub.out]; rotate_left; rfl)) | (go_at_call 17; refine (SM.out _).mono ?_; rintro e w' ⟨rfl, hb⟩; obtain ⟨o1, n1, rfl⟩ := below_adds hb; clear hb) | (go_at_call 30; refine (IM.out _).mono ?_; rintro e w' ⟨rfl, hb⟩; obtain ⟨o1, n1, rfl⟩ := below_adds hb; clear hb) | (go_at_call 18; refine (L_alive _).mono ?_; rintro e w' ⟨rfl, hb⟩; obtain ⟨o1, n1, rfl⟩ := below_adds hb; clear hb))
      go_returns
      exact ⟨rfl, (by repeat' (first | (with_reducible exact Below.refl _ _) | (with_reducible refine Below.adds_ ?_ ?_ _ _) | (with_reducible refine Below.alloc ?_ ?_ _) | (with_reducible refine Below.drew ?_) | (with_reducible refine Below.setCell ?_ ?_ _) | (with_reducible assumption) | go_size | (simp only [size_addsW, World.size_alloc, World.size_drew, World.size_setCell]; omega)))⟩
    · go_upto_region 9 with (first | (focus ((with_reducible refine wpList_wanted ?_ (fun K hK => ?_)); rotate_left; (refine wp_load_sub 29 (.tmp 3) ?ho s3 0 71 ?hx 29 ys (0, 0) _ ?hg Try.underlying29 rfl infoMacD ?hs (hK _ _ ?_)); (case ho => with_reducible rfl); (case hx => rfl); (case hg => first | exact hg3 | exact (heap_addsW _ _ _ _ hl3).trans hg3); (case hs => rw [HY.out]; exact Nat.le_refl _); rw [hsub.out]; rotate_left; rfl)) | (go_at_call 17; refine (SM.out _).mono ?_; rintro e w' ⟨rfl, hb⟩; obtain ⟨o1, n1, rfl⟩ := below_adds hb; clear hb) | (go_at_call 30; refine (IM.out _).mono ?_; rintro e w' ⟨rfl, hb⟩; obtain ⟨o1, n1, rfl⟩ := below_adds hb; clear hb))
      clear SM IM
      refine all_add ?_
      intro X o1 n1 hXe
      have hgX := (heap_addsW _ o1 n1 _ hl3).trans hg3
      have hX := Below.adds_ hbX hbX.size o1 n1
      rw [← hXe] at hgX hX
      clear hXe o1 n1
      have hXs := hX.size
      clear hg3 hl3 hbX
      have hlX := lt_of_get hgX
      have hs1 : 1 < (rowI ys).size := by rw [rowI_size, HY.out]; decide
      have hs2 : 2 < (rowI ys).size := by rw [rowI_size, HY.out]; decide
      have hs5 : 5 < (rowI ys).size := by rw [rowI_size, HY.out]; decide
      have hs26 : 26 < (rowI ys).size := by rw [rowI_size, HY.out]; decide
      go_upto_region 15 with (first
        | (simp only [zcMac, rowI_set])
        | (focus ((with_reducible refine wpList_wanted ?_ (fun K hK => ?_)); rotate_left; (refine wp_load_sub 29 (.tmp 3) ?ho s3 0 71 ?hx 29 ys (0, 0) _ ?hg Try.underlying29 rfl infoMacD ?hs (hK _ _ ?_)); (case ho => with_reducible rfl); (case hx => rfl); (case hg => first | exact hgX | exact (Below.heap_alloc _ _ _ hlX).trans hgX | exact (Below.heap_alloc _ _ _ (by simp; omega)).trans ((Below.heap_alloc _ _ _ hlX).trans hgX)); (case hs => rw [HY.out]; exact Nat.le_refl _); rw [hsub.out]; rotate_left; rfl))
        | (focus ((with_reducible refine wpList_wanted ?_ (fun K hK => ?_)); rotate_left; (refine wp_store_sub 29 (.tmp 5) (.tmp 22) ?ho (X.heap.size) 0 ys ?hx ?hy 29 (zL 71) ?hg ?hi ?hfit (hK _ _ ?_)); (case ho => with_reducible rfl); (case hx => rfl); (case hy => rfl); (case hg => exact heap_alloc_at _ _ _ (by simp)); (case hi => rw [HY.out]; exact infoMacD); (case hfit => rw [HY.out, zL_len]; exact Nat.le_refl _); rw [spl_full (by rw [HY.out, zL_len]), setRow_alloc _ _ _ _ _ (by simp)]; rotate_left; rfl)) | (focus ((with_reducible refine wpList_wanted ?_ (fun K hK => ?_)); rotate_left; (refine wp_store_sub 29 (.tmp 6) (.tmp 25) ?ho (X.heap.size + 1) 0 ys ?hx ?hy 29 (zL 71) ?hg ?hi ?hfit (hK _ _ ?_)); (case ho => with_reducible rfl); (case hx => rfl); (case hy => rfl); (case hg => exact heap_alloc_at _ _ _ (by simp)); (case hi => rw [HY.out]; exact infoMacD); (case hfit => rw [HY.out, zL_len]; exact Nat.le_refl _); rw [spl_full (by rw [HY.out, zL_len]), setRow_alloc _ _ _ _ _ (by simp)]; rotate_left; rfl)) | (focus ((with_reducible refine wpList_wanted ?_ (fun K hK => ?_)); rotate_left; (refine wp_store_sub 29 (.tmp 7) (.tmp 28) ?ho (X.heap.size + 1 + 1) 0 ys ?hx ?hy 29 (zL 71) ?hg ?hi ?hfit (hK _ _ ?_)); (case ho => with_reducible rfl); (case hx => rfl); (case hy => rfl); (case hg => exact heap_alloc_at _ _ _ (by simp)); (case hi => rw [HY.out]; exact infoMacD); (case hfit => rw [HY.out, zL_len]; exact Nat.le_refl _); rw [spl_full (by rw [HY.out, zL_len]), setRow_alloc _ _ _ _ _ (by simp)]; rotate_left; rfl)))
      have hl1' : ((ys.set 1 1).set 2 0).length = 71 := by simp [HY.out]
      have hl2' : (ys.set 5 1).length = 71 := by simp [HY.out]
      have hl3' : (ys.set 26 5).length = 71 := by simp [HY.out]
      have ev := macB_vec HY.out HM.out.symm
      have em := macB_mode HY.out HM.out.symm
      have el := macB_level HY.out HM.out.symm
      generalize (ys.set 1 1).set 2 0 = y1 at hl1' ev ⊢
      generalize ys.set 5 1 = y2 at hl2' em ⊢
      generalize ys.set 26 5 = y3 at hl3' el ⊢
      have hl1 := Lib.hid hl1'
      have hl2 := Lib.hid hl2'
      have hl3 := Lib.hid hl3'
      clear hl1' hl2' hl3'
      have hsub1 := Lib.hid (show sub y1 0 71 = y1 by rw [← hl1.out]; exact sub_all _)
      have hsub2 := Lib.hid (show sub y2 0 71 = y2 by rw [← hl2.out]; exact sub_all _)
      have hsub3 := Lib.hid (show sub y3 0 71 = y3 by rw [← hl3.out]; exact sub_all _)
      have hc0 := rowI_get (zs := ys) (j := 0) (by rw [HY.out]; decide)
      have hMV := Lib.hid (MV.new X y1 y2 y3)
      have hkk := (macB_parts HM.out.symm).1
      have e0 : mkK ys = ys.getD 0 0 := rfl
      rw [e0] at hkk ev em el
      generalize ys.getD 0 0 = k at hc0 hkk ev em el
      clear e0 hs1 hs2 hs5 hs26
      have hk3 : k = 0 ∨ k = 1 ∨ k = 2 := by
        simp only [M.inB, Bool.and_eq_true, decide_eq_true_eq] at hkk
        omega
      clear hkk
      have hck0 := cell_row hgX hc0
      obtain ⟨b1, hb1⟩ : ∃ b1, b1 = (k == 1) := ⟨_, rfl⟩
      obtain ⟨b2, hb2⟩ : ∃ b2, b2 = (k == 2) := ⟨_, rfl⟩
      obtain ⟨b3, hb3⟩ : ∃ b3, b3 = (k != 0) := ⟨_, rfl⟩
      rw [← hb1] at ev
      rw [← hb2] at em
      rw [← hb3] at el
      have C1 := Lib.hid (show ∀ W, Calls Try.prog 30 #[.agg (rowI y1)] W fun e w' => e = .returned (.bool b1) ∧ Below W.heap.size W w' from fun W => by rw [← ev]; exact I_MacroValid _ W hl1.out)
      have C2 := Lib.hid (show ∀ W, Calls Try.prog 30 #[.agg (rowI y2)] W fun e w' => e = .returned (.bool b2) ∧ Below W.heap.size W w' from fun W => by rw [← em]; exact I_MacroValid _ W hl2.out)
      have C3 := Lib.hid (show ∀ W, Calls Try.prog 30 #[.agg (rowI y3)] W fun e w' => e = .returned (.bool b3) ∧ Below W.heap.size W w' from fun W => by rw [← el]; exact I_MacroValid _ W hl3.out)
      have hck := Lib.hid (show (((X.alloc (.cells (rowI y1) 29)).alloc (.cells (rowI y2) 29)).alloc (.cells (rowI y3) 29)).cell? ⟨s3, 0, none⟩ = some (.int .i64 k) by rw [World.cell?_alloc_lt _ _ _ (by simp; omega), World.cell?_alloc_lt _ _ _ (by simp; omega), World.cell?_alloc_lt _ _ _ hlX]; exact hck0)
      clear ev em el hc0 hgX hck0
      rcases hk3 with rfl | rfl | rfl
      · obtain rfl : b1 = false := hb1.trans (by decide)
        obtain rfl : b2 = false := hb2.trans (by decide)
        obtain rfl : b3 = false := hb3.trans (by decide)
        clear hb1 hb2 hb3
        refine wp_region_held_drew (S := (fun w' => w'.cell? ⟨s3, 0, none⟩ = some (.int .i64 0) ∧ MV X.heap.size y1 y2 y3 w')) (by kernel_rfl) ?_ (fun hHeld => ?_)
        · (first | exact ⟨hck.out, hMV.out⟩ | assumption | exact MV.pair (by assumption) hlX _ _)
        refine wpAnyH_take (i := 2) (oi := _) (v := ?_) rfl (by kernel_rfl) (by kernel_rfl) (by kernel_rfl) (fun _ _ _ h => h) (Or.inl ⟨by rfl, ?_⟩) (by assumption) ?_
        rotate_left
        · intro w hSw; (try dsimp only at hSw); go_simp; (try with_reducible rfl)
        try dsimp only [List.getElem_toArray, List.getElem_cons_succ, List.getElem_cons_zero]
        simp only [Act.put, List.setIfInBounds_toArray, List.set_cons_zero, List.set_cons_succ]
        refine wpAnyH_take (i := 3) (oi := _) (v := ?_) rfl (by kernel_rfl) (by kernel_rfl) (by kernel_rfl) (fun _ _ _ h => h) (Or.inl ⟨by rfl, ?_⟩) (by assumption) ?_
        rotate_left
        · intro w hSw; (try dsimp only at hSw); go_simp; (try with_reducible rfl)
        try dsimp only [List.getElem_toArray, List.getElem_cons_succ, List.getElem_cons_zero]
        simp only [Act.put, List.setIfInBounds_toArray, List.set_cons_zero, List.set_cons_succ]
        refine wpAnyH_take (i := 4) (oi := _) (v := ?_) rfl (by kernel_rfl) (by kernel_rfl) (by kernel_rfl) (fun _ _ _ h => h) (Or.inl ⟨by rfl, ?_⟩) (by assumption) ?_
        rotate_left
        · intro w hSw; (try dsimp only at hSw); go_simp; (try with_reducible rfl)
        try dsimp only [List.getElem_toArray, List.getElem_cons_succ, List.getElem_cons_zero]
        simp only [Act.put, List.setIfInBounds_toArray, List.set_cons_zero, List.set_cons_succ]
        refine wpAnyH_ready (rs := [0]) (by kernel_rfl) (by simp) ?_
        refine AllReadyH.cons (o := _) rfl (fun K hK => ?_) ?_
        · (try dsimp only [List.getElem_toArray, List.getElem_cons_succ, List.getElem_cons_zero])
          (rw [if_pos (by rfl)]; first | (refine wp_load_sub 29 (.tmp 5) (by with_reducible rfl) X.heap.size 0 71 (by rfl) 29 y1 (0, 0) _ hHeld.2.1 Try.underlying29 rfl infoMacD (by rw [hl1.out]; exact Nat.le_refl _) ?_; rw [hsub1.out]) | (refine wp_load_sub 29 (.tmp 6) (by with_reducible rfl) (X.heap.size + 1) 0 71 (by rfl) 29 y2 (0, 0) _ hHeld.2.2.1 Try.underlying29 rfl infoMacD (by rw [hl2.out]; exact Nat.le_refl _) ?_; rw [hsub2.out]) | (refine wp_load_sub 29 (.tmp 7) (by with_reducible rfl) (X.heap.size + 1 + 1) 0 71 (by rfl) 29 y3 (0, 0) _ hHeld.2.2.2 Try.underlying29 rfl infoMacD (by rw [hl3.out]; exact Nat.le_refl _) ?_; rw [hsub3.out]))
          refine hK.out _ _ ?_ (fun hHeld => ?_)
          · (first | exact ⟨hck.out, hMV.out⟩ | assumption | exact MV.pair (by assumption) hlX _ _)
          clear hK K
          try simp only [Act.put, List.setIfInBounds_toArray, List.set_cons_zero, List.set_cons_succ]
          refine wpAnyH_ready (rs := [1]) (by kernel_rfl) (by simp) ?_
          refine AllReadyH.cons (o := _) rfl (fun K hK => ?_) ?_
          · (try dsimp only [List.getElem_toArray, List.getElem_cons_succ, List.getElem_cons_zero]); go_simp
            (go_at_call 30; (first | with_reducible refine (C1.out _).mono ?_ | with_reducible refine (C2.out _).mono ?_ | with_reducible refine (C3.out _).mono ?_); rintro e w' ⟨rfl, hb⟩; obtain ⟨o1, n1, rfl⟩ := below_adds hb; clear hb)
            try go_wp2_with fail
            refine hK.out _ _ ?_ (fun hHeld => ?_)
            · (first | exact ⟨hck.out, hMV.out⟩ | assumption | exact MV.pair (by assumption) hlX _ _)
            clear hK K
            try simp only [Act.put, List.setIfInBounds_toArray, List.set_cons_zero, List.set_cons_succ]
            refine wpAnyH_take (i := 5) (oi := _) (v := ?_) rfl (by kernel_rfl) (by kernel_rfl) (by kernel_rfl) (fun _ _ _ h => h) (Or.inl ⟨by rfl, ?_⟩) (by assumption) ?_
            rotate_left
            · intro w hSw; (try dsimp only at hSw); go_simp; (try with_reducible rfl)
            try dsimp only [List.getElem_toArray, List.getElem_cons_succ, List.getElem_cons_zero]
            simp only [Act.put, List.setIfInBounds_toArray, List.set_cons_zero, List.set_cons_succ]
            refine wpAnyH_take (i := 6) (oi := _) (v := ?_) rfl (by kernel_rfl) (by kernel_rfl) (by kernel_rfl) (fun _ _ _ h => h) (Or.inl ⟨by rfl, ?_⟩) (by assumption) ?_
            rotate_left
            · intro w hSw; (try dsimp only at hSw); go_simp; (try with_reducible rfl)
            try dsimp only [List.getElem_toArray, List.getElem_cons_succ, List.getElem_cons_zero]
            simp only [Act.put, List.setIfInBounds_toArray, List.set_cons_zero, List.set_cons_succ]
            refine wpAnyH_take (i := 9) (oi := _) (v := ?_) rfl (by kernel_rfl) (by kernel_rfl) (by kernel_rfl) (fun _ _ _ h => h) (Or.inl ⟨by rfl, ?_⟩) (by assumption) ?_
            rotate_left
            · intro w hSw; (try dsimp only at hSw); go_simp; (try with_reducible rfl)
            try dsimp only [List.getElem_toArray, List.getElem_cons_succ, List.getElem_cons_zero]
            simp only [Act.put, List.setIfInBounds_toArray, List.set_cons_zero, List.set_cons_succ]
            refine wpAnyH_take (i := 10) (oi := _) (v := ?_) rfl (by kernel_rfl) (by kernel_rfl) (by kernel_rfl) (fun _ _ _ h => h) (Or.inl ⟨by rfl, ?_⟩) (by assumption) ?_
            rotate_left
            · intro w hSw; (try dsimp only at hSw); go_simp; (try with_reducible rfl)
            try dsimp only [List.getElem_toArray, List.getElem_cons_succ, List.getElem_cons_zero]
            simp only [Act.put, List.setIfInBounds_toArray, List.set_cons_zero, List.set_cons_succ]
            refine wpAnyH_take (i := 11) (oi := _) (v := ?_) rfl (by kernel_rfl) (by kernel_rfl) (by kernel_rfl) (fun _ _ _ h => h) (Or.inl ⟨by rfl, ?_⟩) (by assumption) ?_
            rotate_left
            · intro w hSw; (try dsimp only at hSw); go_simp; (try with_reducible rfl)
            try dsimp only [List.getElem_toArray, List.getElem_cons_succ, List.getElem_cons_zero]
            simp only [Act.put, List.setIfInBounds_toArray, List.set_cons_zero, List.set_cons_succ]
            refine wpAnyH_ready (rs := [7]) (by kernel_rfl) (by simp) ?_
            refine AllReadyH.cons (o := _) rfl (fun K hK => ?_) ?_
            · (try dsimp only [List.getElem_toArray, List.getElem_cons_succ, List.getElem_cons_zero])
              (rw [if_pos (by rfl)]; first | (refine wp_load_sub 29 (.tmp 5) (by with_reducible rfl) X.heap.size 0 71 (by rfl) 29 y1 (0, 0) _ hHeld.2.1 Try.underlying29 rfl infoMacD (by rw [hl1.out]; exact Nat.le_refl _) ?_; rw [hsub1.out]) | (refine wp_load_sub 29 (.tmp 6) (by with_reducible rfl) (X.heap.size + 1) 0 71 (by rfl) 29 y2 (0, 0) _ hHeld.2.2.1 Try.underlying29 rfl infoMacD (by rw [hl2.out]; exact Nat.le_refl _) ?_; rw [hsub2.out]) | (refine wp_load_sub 29 (.tmp 7) (by with_reducible rfl) (X.heap.size + 1 + 1) 0 71 (by rfl) 29 y3 (0, 0) _ hHeld.2.2.2 Try.underlying29 rfl infoMacD (by rw [hl3.out]; exact Nat.le_refl _) ?_; rw [hsub3.out]))
              refine hK.out _ _ ?_ (fun hHeld => ?_)
              · (first | exact ⟨hck.out, hMV.out⟩ | assumption | exact MV.pair (by assumption) hlX _ _)
              clear hK K
              try simp only [Act.put, List.setIfInBounds_toArray, List.set_cons_zero, List.set_cons_succ]
              refine wpAnyH_ready (rs := [8]) (by kernel_rfl) (by simp) ?_
              refine AllReadyH.cons (o := _) rfl (fun K hK => ?_) ?_
              · (try dsimp only [List.getElem_toArray, List.getElem_cons_succ, List.getElem_cons_zero]); go_simp
                (go_at_call 30; (first | with_reducible refine (C1.out _).mono ?_ | with_reducible refine (C2.out _).mono ?_ | with_reducible refine (C3.out _).mono ?_); rintro e w' ⟨rfl, hb⟩; obtain ⟨o1, n1, rfl⟩ := below_adds hb; clear hb)
                try go_wp2_with fail
                refine hK.out _ _ ?_ (fun hHeld => ?_)
                · (first | exact ⟨hck.out, hMV.out⟩ | assumption | exact MV.pair (by assumption) hlX _ _)
                clear hK K
                try simp only [Act.put, List.setIfInBounds_toArray, List.set_cons_zero, List.set_cons_succ]
                refine wpAnyH_take (i := 12) (oi := _) (v := ?_) rfl (by kernel_rfl) (by kernel_rfl) (by kernel_rfl) (fun _ _ _ h => h) (Or.inl ⟨by rfl, ?_⟩) (by assumption) ?_
                rotate_left
                · intro w hSw; (try dsimp only at hSw); go_simp; (try with_reducible rfl)
                try dsimp only [List.getElem_toArray, List.getElem_cons_succ, List.getElem_cons_zero]
                simp only [Act.put, List.setIfInBounds_toArray, List.set_cons_zero, List.set_cons_succ]
                refine wpAnyH_take (i := 13) (oi := _) (v := ?_) rfl (by kernel_rfl) (by kernel_rfl) (by kernel_rfl) (fun _ _ _ h => h) (Or.inl ⟨by rfl, ?_⟩) (by assumption) ?_
                rotate_left
                · intro w hSw; (try dsimp only at hSw); go_simp; (try with_reducible rfl)
                try dsimp only [List.getElem_toArray, List.getElem_cons_succ, List.getElem_cons_zero]
                simp only [Act.put, List.setIfInBounds_toArray, List.set_cons_zero, List.set_cons_succ]
                refine wpAnyH_take (i := 14) (oi := _) (v := ?_) rfl (by kernel_rfl) (by kernel_rfl) (by kernel_rfl) (fun _ _ _ h => h) (Or.inl ⟨by rfl, ?_⟩) (by assumption) ?_
                rotate_left
                · intro w hSw; (try dsimp only at hSw); go_simp; (try with_reducible rfl)
                try dsimp only [List.getElem_toArray, List.getElem_cons_succ, List.getElem_cons_zero]
                simp only [Act.put, List.setIfInBounds_toArray, List.set_cons_zero, List.set_cons_succ]
                refine wpAnyH_take (i := 17) (oi := _) (v := ?_) rfl (by kernel_rfl) (by kernel_rfl) (by kernel_rfl) (fun _ _ _ h => h) (Or.inl ⟨by rfl, ?_⟩) (by assumption) ?_
                rotate_left
                · intro w hSw; (try dsimp only at hSw); go_simp; (try with_reducible rfl)
                try dsimp only [List.getElem_toArray, List.getElem_cons_succ, List.getElem_cons_zero]
                simp only [Act.put, List.setIfInBounds_toArray, List.set_cons_zero, List.set_cons_succ]
                refine wpAnyH_take (i := 18) (oi := _) (v := ?_) rfl (by kernel_rfl) (by kernel_rfl) (by kernel_rfl) (fun _ _ _ h => h) (Or.inl ⟨by rfl, ?_⟩) (by assumption) ?_
                rotate_left
                · intro w hSw; (try dsimp only at hSw); go_simp; (try with_reducible rfl)
                try dsimp only [List.getElem_toArray, List.getElem_cons_succ, List.getElem_cons_zero]
                simp only [Act.put, List.setIfInBounds_toArray, List.set_cons_zero, List.set_cons_succ]
                refine wpAnyH_take (i := 19) (oi := _) (v := ?_) rfl (by kernel_rfl) (by kernel_rfl) (by kernel_rfl) (fun _ _ _ h => h) (Or.inl ⟨by rfl, ?_⟩) (by assumption) ?_
                rotate_left
                · intro w hSw; (try dsimp only at hSw); go_simp; (try with_reducible rfl)
                try dsimp only [List.getElem_toArray, List.getElem_cons_succ, List.getElem_cons_zero]
                simp only [Act.put, List.setIfInBounds_toArray, List.set_cons_zero, List.set_cons_succ]
                refine wpAnyH_ready (rs := [15]) (by kernel_rfl) (by simp) ?_
                refine AllReadyH.cons (o := _) rfl (fun K hK => ?_) ?_
                · (try dsimp only [List.getElem_toArray, List.getElem_cons_succ, List.getElem_cons_zero])
                  (rw [if_pos (by rfl)]; first | (refine wp_load_sub 29 (.tmp 5) (by with_reducible rfl) X.heap.size 0 71 (by rfl) 29 y1 (0, 0) _ hHeld.2.1 Try.underlying29 rfl infoMacD (by rw [hl1.out]; exact Nat.le_refl _) ?_; rw [hsub1.out]) | (refine wp_load_sub 29 (.tmp 6) (by with_reducible rfl) (X.heap.size + 1) 0 71 (by rfl) 29 y2 (0, 0) _ hHeld.2.2.1 Try.underlying29 rfl infoMacD (by rw [hl2.out]; exact Nat.le_refl _) ?_; rw [hsub2.out]) | (refine wp_load_sub 29 (.tmp 7) (by with_reducible rfl) (X.heap.size + 1 + 1) 0 71 (by rfl) 29 y3 (0, 0) _ hHeld.2.2.2 Try.underlying29 rfl infoMacD (by rw [hl3.out]; exact Nat.le_refl _) ?_; rw [hsub3.out]))
                  refine hK.out _ _ ?_ (fun hHeld => ?_)
                  · (first | exact ⟨hck.out, hMV.out⟩ | assumption | exact MV.pair (by assumption) hlX _ _)
                  clear hK K
                  try simp only [Act.put, List.setIfInBounds_toArray, List.set_cons_zero, List.set_cons_succ]
                  refine wpAnyH_ready (rs := [16]) (by kernel_rfl) (by simp) ?_
                  refine AllReadyH.cons (o := _) rfl (fun K hK => ?_) ?_
                  · (try dsimp only [List.getElem_toArray, List.getElem_cons_succ, List.getElem_cons_zero]); go_simp
                    (go_at_call 30; (first | with_reducible refine (C1.out _).mono ?_ | with_reducible refine (C2.out _).mono ?_ | with_reducible refine (C3.out _).mono ?_); rintro e w' ⟨rfl, hb⟩; obtain ⟨o1, n1, rfl⟩ := below_adds hb; clear hb)
                    try go_wp2_with fail
                    refine hK.out _ _ ?_ (fun hHeld => ?_)
                    · (first | exact ⟨hck.out, hMV.out⟩ | assumption | exact MV.pair (by assumption) hlX _ _)
                    clear hK K
                    try simp only [Act.put, List.setIfInBounds_toArray, List.set_cons_zero, List.set_cons_succ]
                    refine wpAnyH_take (i := 20) (oi := _) (v := ?_) rfl (by kernel_rfl) (by kernel_rfl) (by kernel_rfl) (fun _ _ _ h => h) (Or.inl ⟨by rfl, ?_⟩) (by assumption) ?_
                    rotate_left
                    · intro w hSw; (try dsimp only at hSw); go_simp; (try with_reducible rfl)
                    try dsimp only [List.getElem_toArray, List.getElem_cons_succ, List.getElem_cons_zero]
                    simp only [Act.put, List.setIfInBounds_toArray, List.set_cons_zero, List.set_cons_succ]
                    refine wpAnyH_take (i := 21) (oi := _) (v := ?_) rfl (by kernel_rfl) (by kernel_rfl) (by kernel_rfl) (fun _ _ _ h => h) (Or.inl ⟨by rfl, ?_⟩) (by assumption) ?_
                    rotate_left
                    · intro w hSw; (try dsimp only at hSw); go_simp; (try with_reducible rfl)
                    try dsimp only [List.getElem_toArray, List.getElem_cons_succ, List.getElem_cons_zero]
                    simp only [Act.put, List.setIfInBounds_toArray, List.set_cons_zero, List.set_cons_succ]
                    refine wpAnyH_take (i := 22) (oi := _) (v := ?_) rfl (by kernel_rfl) (by kernel_rfl) (by kernel_rfl) (fun _ _ _ h => h) (Or.inl ⟨by rfl, ?_⟩) (by assumption) ?_
                    rotate_left
                    · intro w hSw; (try dsimp only at hSw); go_simp; (try with_reducible rfl)
                    try dsimp only [List.getElem_toArray, List.getElem_cons_succ, List.getElem_cons_zero]
                    simp only [Act.put, List.setIfInBounds_toArray, List.set_cons_zero, List.set_cons_succ]
                    refine wpAnyH_done (by kernel_rfl) ?_ _
                    go_wp2_with fail
                    go_returns
                    exact ⟨rfl, (by repeat' (first | (with_reducible exact Below.refl _ _) | (with_reducible refine Below.adds_ ?_ ?_ _ _) | (with_reducible refine Below.alloc ?_ ?_ _) | (with_reducible refine Below.drew ?_) | (with_reducible refine Below.setCell ?_ ?_ _) | (with_reducible assumption) | go_size | (simp only [size_addsW, World.size_alloc, World.size_drew, World.size_setCell]; omega)))⟩
                  exact AllReadyH.nil
                exact AllReadyH.nil
              exact AllReadyH.nil
            exact AllReadyH.nil
          exact AllReadyH.nil
        exact AllReadyH.nil
      · obtain rfl : b1 = true := hb1.trans (by decide)
        obtain rfl : b2 = false := hb2.trans (by decide)
        obtain rfl : b3 = true := hb3.trans (by decide)
        clear hb1 hb2 hb3
        refine wp_region_held_drew (S := (fun w' => w'.cell? ⟨s3, 0, none⟩ = some (.int .i64 1) ∧ MV X.heap.size y1 y2 y3 w')) (by kernel_rfl) ?_ (fun hHeld => ?_)
        · (first | exact ⟨hck.out, hMV.out⟩ | assumption | exact MV.pair (by assumption) hlX _ _)
        refine wpAnyH_take (i := 2) (oi := _) (v := ?_) rfl (by kernel_rfl) (by kernel_rfl) (by kernel_rfl) (fun _ _ _ h => h) (Or.inl ⟨by rfl, ?_⟩) (by assumption) ?_
        rotate_left
        · intro w hSw; (try dsimp only at hSw); go_simp; (try with_reducible rfl)
        try dsimp only [List.getElem_toArray, List.getElem_cons_succ, List.getElem_cons_zero]
        simp only [Act.put, List.setIfInBounds_toArray, List.set_cons_zero, List.set_cons_succ]
        refine wpAnyH_take (i := 3) (oi := _) (v := ?_) rfl (by kernel_rfl) (by kernel_rfl) (by kernel_rfl) (fun _ _ _ h => h) (Or.inl ⟨by rfl, ?_⟩) (by assumption) ?_
        rotate_left
        · intro w hSw; (try dsimp only at hSw); go_simp; (try with_reducible rfl)
        try dsimp only [List.getElem_toArray, List.getElem_cons_succ, List.getElem_cons_zero]
        simp only [Act.put, List.setIfInBounds_toArray, List.set_cons_zero, List.set_cons_succ]
        refine wpAnyH_take (i := 4) (oi := _) (v := ?_) rfl (by kernel_rfl) (by kernel_rfl) (by kernel_rfl) (fun _ _ _ h => h) (Or.inl ⟨by rfl, ?_⟩) (by assumption) ?_
        rotate_left
        · intro w hSw; (try dsimp only at hSw); go_simp; (try with_reducible rfl)
        try dsimp only [List.getElem_toArray, List.getElem_cons_succ, List.getElem_cons_zero]
        simp only [Act.put, List.setIfInBounds_toArray, List.set_cons_zero, List.set_cons_succ]
        refine wpAnyH_ready (rs := [0]) (by kernel_rfl) (by simp) ?_
        refine AllReadyH.cons (o := _) rfl (fun K hK => ?_) ?_
        · (try dsimp only [List.getElem_toArray, List.getElem_cons_succ, List.getElem_cons_zero])
          (rw [if_pos (by rfl)]; first | (refine wp_load_sub 29 (.tmp 5) (by with_reducible rfl) X.heap.size 0 71 (by rfl) 29 y1 (0, 0) _ hHeld.2.1 Try.underlying29 rfl infoMacD (by rw [hl1.out]; exact Nat.le_refl _) ?_; rw [hsub1.out]) | (refine wp_load_sub 29 (.tmp 6) (by with_reducible rfl) (X.heap.size + 1) 0 71 (by rfl) 29 y2 (0, 0) _ hHeld.2.2.1 Try.underlying29 rfl infoMacD (by rw [hl2.out]; exact Nat.le_refl _) ?_; rw [hsub2.out]) | (refine wp_load_sub 29 (.tmp 7) (by with_reducible rfl) (X.heap.size + 1 + 1) 0 71 (by rfl) 29 y3 (0, 0) _ hHeld.2.2.2 Try.underlying29 rfl infoMacD (by rw [hl3.out]; exact Nat.le_refl _) ?_; rw [hsub3.out]))
          refine hK.out _ _ ?_ (fun hHeld => ?_)
          · (first | exact ⟨hck.out, hMV.out⟩ | assumption | exact MV.pair (by assumption) hlX _ _)
          clear hK K
          try simp only [Act.put, List.setIfInBounds_toArray, List.set_cons_zero, List.set_cons_succ]
          refine wpAnyH_ready (rs := [1]) (by kernel_rfl) (by simp) ?_
          refine AllReadyH.cons (o := _) rfl (fun K hK => ?_) ?_
          · (try dsimp only [List.getElem_toArray, List.getElem_cons_succ, List.getElem_cons_zero]); go_simp
            (go_at_call 30; (first | with_reducible refine (C1.out _).mono ?_ | with_reducible refine (C2.out _).mono ?_ | with_reducible refine (C3.out _).mono ?_); rintro e w' ⟨rfl, hb⟩; obtain ⟨o1, n1, rfl⟩ := below_adds hb; clear hb)
            try go_wp2_with fail
            refine hK.out _ _ ?_ (fun hHeld => ?_)
            · (first | exact ⟨hck.out, hMV.out⟩ | assumption | exact MV.pair (by assumption) hlX _ _)
            clear hK K
            try simp only [Act.put, List.setIfInBounds_toArray, List.set_cons_zero, List.set_cons_succ]
            refine wpAnyH_take (i := 5) (oi := _) (v := ?_) rfl (by kernel_rfl) (by kernel_rfl) (by kernel_rfl) (fun _ _ _ h => h) (Or.inl ⟨by rfl, ?_⟩) (by assumption) ?_
            rotate_left
            · intro w hSw; (try dsimp only at hSw); go_simp; (try with_reducible rfl)
            try dsimp only [List.getElem_toArray, List.getElem_cons_succ, List.getElem_cons_zero]
            simp only [Act.put, List.setIfInBounds_toArray, List.set_cons_zero, List.set_cons_succ]
            refine wpAnyH_take (i := 6) (oi := _) (v := ?_) rfl (by kernel_rfl) (by kernel_rfl) (by kernel_rfl) (fun _ _ _ h => h) (Or.inl ⟨by rfl, ?_⟩) (by assumption) ?_
            rotate_left
            · intro w hSw; (try dsimp only at hSw); go_simp; (try with_reducible rfl)
            try dsimp only [List.getElem_toArray, List.getElem_cons_succ, List.getElem_cons_zero]
            simp only [Act.put, List.setIfInBounds_toArray, List.set_cons_zero, List.set_cons_succ]
            refine wpAnyH_take (i := 9) (oi := _) (v := ?_) rfl (by kernel_rfl) (by kernel_rfl) (by kernel_rfl) (fun _ _ _ h => h) (Or.inl ⟨by rfl, ?_⟩) (by assumption) ?_
            rotate_left
            · intro w hSw; (try dsimp only at hSw); go_simp; (try with_reducible rfl)
            try dsimp only [List.getElem_toArray, List.getElem_cons_succ, List.getElem_cons_zero]
            simp only [Act.put, List.setIfInBounds_toArray, List.set_cons_zero, List.set_cons_succ]
            refine wpAnyH_take (i := 10) (oi := _) (v := ?_) rfl (by kernel_rfl) (by kernel_rfl) (by kernel_rfl) (fun _ _ _ h => h) (Or.inl ⟨by rfl, ?_⟩) (by assumption) ?_
            rotate_left
            · intro w hSw; (try dsimp only at hSw); go_simp; (try with_reducible rfl)
            try dsimp only [List.getElem_toArray, List.getElem_cons_succ, List.getElem_cons_zero]
            simp only [Act.put, List.setIfInBounds_toArray, List.set_cons_zero, List.set_cons_succ]
            refine wpAnyH_take (i := 11) (oi := _) (v := ?_) rfl (by kernel_rfl) (by kernel_rfl) (by kernel_rfl) (fun _ _ _ h => h) (Or.inl ⟨by rfl, ?_⟩) (by assumption) ?_
            rotate_left
            · intro w hSw; (try dsimp only at hSw); go_simp; (try with_reducible rfl)
            try dsimp only [List.getElem_toArray, List.getElem_cons_succ, List.getElem_cons_zero]
            simp only [Act.put, List.setIfInBounds_toArray, List.set_cons_zero, List.set_cons_succ]
            refine wpAnyH_ready (rs := [7]) (by kernel_rfl) (by simp) ?_
            refine AllReadyH.cons (o := _) rfl (fun K hK => ?_) ?_
            · (try dsimp only [List.getElem_toArray, List.getElem_cons_succ, List.getElem_cons_zero])
              (rw [if_pos (by rfl)]; first | (refine wp_load_sub 29 (.tmp 5) (by with_reducible rfl) X.heap.size 0 71 (by rfl) 29 y1 (0, 0) _ hHeld.2.1 Try.underlying29 rfl infoMacD (by rw [hl1.out]; exact Nat.le_refl _) ?_; rw [hsub1.out]) | (refine wp_load_sub 29 (.tmp 6) (by with_reducible rfl) (X.heap.size + 1) 0 71 (by rfl) 29 y2 (0, 0) _ hHeld.2.2.1 Try.underlying29 rfl infoMacD (by rw [hl2.out]; exact Nat.le_refl _) ?_; rw [hsub2.out]) | (refine wp_load_sub 29 (.tmp 7) (by with_reducible rfl) (X.heap.size + 1 + 1) 0 71 (by rfl) 29 y3 (0, 0) _ hHeld.2.2.2 Try.underlying29 rfl infoMacD (by rw [hl3.out]; exact Nat.le_refl _) ?_; rw [hsub3.out]))
              refine hK.out _ _ ?_ (fun hHeld => ?_)
              · (first | exact ⟨hck.out, hMV.out⟩ | assumption | exact MV.pair (by assumption) hlX _ _)
              clear hK K
              try simp only [Act.put, List.setIfInBounds_toArray, List.set_cons_zero, List.set_cons_succ]
              refine wpAnyH_ready (rs := [8]) (by kernel_rfl) (by simp) ?_
              refine AllReadyH.cons (o := _) rfl (fun K hK => ?_) ?_
              · (try dsimp only [List.getElem_toArray, List.getElem_cons_succ, List.getElem_cons_zero]); go_simp
                (go_at_call 30; (first | with_reducible refine (C1.out _).mono ?_ | with_reducible refine (C2.out _).mono ?_ | with_reducible refine (C3.out _).mono ?_); rintro e w' ⟨rfl, hb⟩; obtain ⟨o1, n1, rfl⟩ := below_adds hb; clear hb)
                try go_wp2_with fail
                refine hK.out _ _ ?_ (fun hHeld => ?_)
                · (first | exact ⟨hck.out, hMV.out⟩ | assumption | exact MV.pair (by assumption) hlX _ _)
                clear hK K
                try simp only [Act.put, List.setIfInBounds_toArray, List.set_cons_zero, List.set_cons_succ]
                refine wpAnyH_take (i := 12) (oi := _) (v := ?_) rfl (by kernel_rfl) (by kernel_rfl) (by kernel_rfl) (fun _ _ _ h => h) (Or.inl ⟨by rfl, ?_⟩) (by assumption) ?_
                rotate_left
                · intro w hSw; (try dsimp only at hSw); go_simp; (try with_reducible rfl)
                try dsimp only [List.getElem_toArray, List.getElem_cons_succ, List.getElem_cons_zero]
                simp only [Act.put, List.setIfInBounds_toArray, List.set_cons_zero, List.set_cons_succ]
                refine wpAnyH_take (i := 13) (oi := _) (v := ?_) rfl (by kernel_rfl) (by kernel_rfl) (by kernel_rfl) (fun _ _ _ h => h) (Or.inl ⟨by rfl, ?_⟩) (by assumption) ?_
                rotate_left
                · intro w hSw; (try dsimp only at hSw); go_simp; (try with_reducible rfl)
                try dsimp only [List.getElem_toArray, List.getElem_cons_succ, List.getElem_cons_zero]
                simp only [Act.put, List.setIfInBounds_toArray, List.set_cons_zero, List.set_cons_succ]
                refine wpAnyH_take (i := 14) (oi := _) (v := ?_) rfl (by kernel_rfl) (by kernel_rfl) (by kernel_rfl) (fun _ _ _ h => h) (Or.inl ⟨by rfl, ?_⟩) (by assumption) ?_
                rotate_left
                · intro w hSw; (try dsimp only at hSw); go_simp; (try with_reducible rfl)
                try dsimp only [List.getElem_toArray, List.getElem_cons_succ, List.getElem_cons_zero]
                simp only [Act.put, List.setIfInBounds_toArray, List.set_cons_zero, List.set_cons_succ]
                refine wpAnyH_take (i := 17) (oi := _) (v := ?_) rfl (by kernel_rfl) (by kernel_rfl) (by kernel_rfl) (fun _ _ _ h => h) (Or.inl ⟨by rfl, ?_⟩) (by assumption) ?_
                rotate_left
                · intro w hSw; (try dsimp only at hSw); go_simp; (try with_reducible rfl)
                try dsimp only [List.getElem_toArray, List.getElem_cons_succ, List.getElem_cons_zero]
                simp only [Act.put, List.setIfInBounds_toArray, List.set_cons_zero, List.set_cons_succ]
                refine wpAnyH_take (i := 18) (oi := _) (v := ?_) rfl (by kernel_rfl) (by kernel_rfl) (by kernel_rfl) (fun _ _ _ h => h) (Or.inl ⟨by rfl, ?_⟩) (by assumption) ?_
                rotate_left
                · intro w hSw; (try dsimp only at hSw); go_simp; (try with_reducible rfl)
                try dsimp only [List.getElem_toArray, List.getElem_cons_succ, List.getElem_cons_zero]
                simp only [Act.put, List.setIfInBounds_toArray, List.set_cons_zero, List.set_cons_succ]
                refine wpAnyH_take (i := 19) (oi := _) (v := ?_) rfl (by kernel_rfl) (by kernel_rfl) (by kernel_rfl) (fun _ _ _ h => h) (Or.inl ⟨by rfl, ?_⟩) (by assumption) ?_
                rotate_left
                · intro w hSw; (try dsimp only at hSw); go_simp; (try with_reducible rfl)
                try dsimp only [List.getElem_toArray, List.getElem_cons_succ, List.getElem_cons_zero]
                simp only [Act.put, List.setIfInBounds_toArray, List.set_cons_zero, List.set_cons_succ]
                refine wpAnyH_ready (rs := [15]) (by kernel_rfl) (by simp) ?_
                refine AllReadyH.cons (o := _) rfl (fun K hK => ?_) ?_
                · (try dsimp only [List.getElem_toArray, List.getElem_cons_succ, List.getElem_cons_zero])
                  (rw [if_pos (by rfl)]; first | (refine wp_load_sub 29 (.tmp 5) (by with_reducible rfl) X.heap.size 0 71 (by rfl) 29 y1 (0, 0) _ hHeld.2.1 Try.underlying29 rfl infoMacD (by rw [hl1.out]; exact Nat.le_refl _) ?_; rw [hsub1.out]) | (refine wp_load_sub 29 (.tmp 6) (by with_reducible rfl) (X.heap.size + 1) 0 71 (by rfl) 29 y2 (0, 0) _ hHeld.2.2.1 Try.underlying29 rfl infoMacD (by rw [hl2.out]; exact Nat.le_refl _) ?_; rw [hsub2.out]) | (refine wp_load_sub 29 (.tmp 7) (by with_reducible rfl) (X.heap.size + 1 + 1) 0 71 (by rfl) 29 y3 (0, 0) _ hHeld.2.2.2 Try.underlying29 rfl infoMacD (by rw [hl3.out]; exact Nat.le_refl _) ?_; rw [hsub3.out]))
                  refine hK.out _ _ ?_ (fun hHeld => ?_)
                  · (first | exact ⟨hck.out, hMV.out⟩ | assumption | exact MV.pair (by assumption) hlX _ _)
                  clear hK K
                  try simp only [Act.put, List.setIfInBounds_toArray, List.set_cons_zero, List.set_cons_succ]
                  refine wpAnyH_ready (rs := [16]) (by kernel_rfl) (by simp) ?_
                  refine AllReadyH.cons (o := _) rfl (fun K hK => ?_) ?_
                  · (try dsimp only [List.getElem_toArray, List.getElem_cons_succ, List.getElem_cons_zero]); go_simp
                    (go_at_call 30; (first | with_reducible refine (C1.out _).mono ?_ | with_reducible refine (C2.out _).mono ?_ | with_reducible refine (C3.out _).mono ?_); rintro e w' ⟨rfl, hb⟩; obtain ⟨o1, n1, rfl⟩ := below_adds hb; clear hb)
                    try go_wp2_with fail
                    refine hK.out _ _ ?_ (fun hHeld => ?_)
                    · (first | exact ⟨hck.out, hMV.out⟩ | assumption | exact MV.pair (by assumption) hlX _ _)
                    clear hK K
                    try simp only [Act.put, List.setIfInBounds_toArray, List.set_cons_zero, List.set_cons_succ]
                    refine wpAnyH_take (i := 20) (oi := _) (v := ?_) rfl (by kernel_rfl) (by kernel_rfl) (by kernel_rfl) (fun _ _ _ h => h) (Or.inl ⟨by rfl, ?_⟩) (by assumption) ?_
                    rotate_left
                    · intro w hSw; (try dsimp only at hSw); go_simp; (try with_reducible rfl)
                    try dsimp only [List.getElem_toArray, List.getElem_cons_succ, List.getElem_cons_zero]
                    simp only [Act.put, List.setIfInBounds_toArray, List.set_cons_zero, List.set_cons_succ]
                    refine wpAnyH_take (i := 21) (oi := _) (v := ?_) rfl (by kernel_rfl) (by kernel_rfl) (by kernel_rfl) (fun _ _ _ h => h) (Or.inl ⟨by rfl, ?_⟩) (by assumption) ?_
                    rotate_left
                    · intro w hSw; (try dsimp only at hSw); go_simp; (try with_reducible rfl)
                    try dsimp only [List.getElem_toArray, List.getElem_cons_succ, List.getElem_cons_zero]
                    simp only [Act.put, List.setIfInBounds_toArray, List.set_cons_zero, List.set_cons_succ]
                    refine wpAnyH_take (i := 22) (oi := _) (v := ?_) rfl (by kernel_rfl) (by kernel_rfl) (by kernel_rfl) (fun _ _ _ h => h) (Or.inl ⟨by rfl, ?_⟩) (by assumption) ?_
                    rotate_left
                    · intro w hSw; (try dsimp only at hSw); go_simp; (try with_reducible rfl)
                    try dsimp only [List.getElem_toArray, List.getElem_cons_succ, List.getElem_cons_zero]
                    simp only [Act.put, List.setIfInBounds_toArray, List.set_cons_zero, List.set_cons_succ]
                    refine wpAnyH_done (by kernel_rfl) ?_ _
                    go_wp2_with fail
                    go_returns
                    exact ⟨rfl, (by repeat' (first | (with_reducible exact Below.refl _ _) | (with_reducible refine Below.adds_ ?_ ?_ _ _) | (with_reducible refine Below.alloc ?_ ?_ _) | (with_reducible refine Below.drew ?_) | (with_reducible refine Below.setCell ?_ ?_ _) | (with_reducible assumption) | go_size | (simp only [size_addsW, World.size_alloc, World.size_drew, World.size_setCell]; omega)))⟩
                  exact AllReadyH.nil
                exact AllReadyH.nil
              exact AllReadyH.nil
            exact AllReadyH.nil
          exact AllReadyH.nil
        exact AllReadyH.nil
      · obtain rfl : b1 = false := hb1.trans (by decide)
        obtain rfl : b2 = true := hb2.trans (by decide)
        obtain rfl : b3 = true := hb3.trans (by decide)
        clear hb1 hb2 hb3
        refine wp_region_held_drew (S := (fun w' => w'.cell? ⟨s3, 0, none⟩ = some (.int .i64 2) ∧ MV X.heap.size y1 y2 y3 w')) (by kernel_rfl) ?_ (fun hHeld => ?_)
        · (first | exact ⟨hck.out, hMV.out⟩ | assumption | exact MV.pair (by assumption) hlX _ _)
        refine wpAnyH_take (i := 2) (oi := _) (v := ?_) rfl (by kernel_rfl) (by kernel_rfl) (by kernel_rfl) (fun _ _ _ h => h) (Or.inl ⟨by rfl, ?_⟩) (by assumption) ?_
        rotate_left
        · intro w hSw; (try dsimp only at hSw); go_simp; (try with_reducible rfl)
        try dsimp only [List.getElem_toArray, List.getElem_cons_succ, List.getElem_cons_zero]
        simp only [Act.put, List.setIfInBounds_toArray, List.set_cons_zero, List.set_cons_succ]
        refine wpAnyH_take (i := 3) (oi := _) (v := ?_) rfl (by kernel_rfl) (by kernel_rfl) (by kernel_rfl) (fun _ _ _ h => h) (Or.inl ⟨by rfl, ?_⟩) (by assumption) ?_
        rotate_left
        · intro w hSw; (try dsimp only at hSw); go_simp; (try with_reducible rfl)
        try dsimp only [List.getElem_toArray, List.getElem_cons_succ, List.getElem_cons_zero]
        simp only [Act.put, List.setIfInBounds_toArray, List.set_cons_zero, List.set_cons_succ]
        refine wpAnyH_take (i := 4) (oi := _) (v := ?_) rfl (by kernel_rfl) (by kernel_rfl) (by kernel_rfl) (fun _ _ _ h => h) (Or.inl ⟨by rfl, ?_⟩) (by assumption) ?_
        rotate_left
        · intro w hSw; (try dsimp only at hSw); go_simp; (try with_reducible rfl)
        try dsimp only [List.getElem_toArray, List.getElem_cons_succ, List.getElem_cons_zero]
        simp only [Act.put, List.setIfInBounds_toArray, List.set_cons_zero, List.set_cons_succ]
        refine wpAnyH_ready (rs := [0]) (by kernel_rfl) (by simp) ?_
        refine AllReadyH.cons (o := _) rfl (fun K hK => ?_) ?_
        · (try dsimp only [List.getElem_toArray, List.getElem_cons_succ, List.getElem_cons_zero])
          (rw [if_pos (by rfl)]; first | (refine wp_load_sub 29 (.tmp 5) (by with_reducible rfl) X.heap.size 0 71 (by rfl) 29 y1 (0, 0) _ hHeld.2.1 Try.underlying29 rfl infoMacD (by rw [hl1.out]; exact Nat.le_refl _) ?_; rw [hsub1.out]) | (refine wp_load_sub 29 (.tmp 6) (by with_reducible rfl) (X.heap.size + 1) 0 71 (by rfl) 29 y2 (0, 0) _ hHeld.2.2.1 Try.underlying29 rfl infoMacD (by rw [hl2.out]; exact Nat.le_refl _) ?_; rw [hsub2.out]) | (refine wp_load_sub 29 (.tmp 7) (by with_reducible rfl) (X.heap.size + 1 + 1) 0 71 (by rfl) 29 y3 (0, 0) _ hHeld.2.2.2 Try.underlying29 rfl infoMacD (by rw [hl3.out]; exact Nat.le_refl _) ?_; rw [hsub3.out]))
          refine hK.out _ _ ?_ (fun hHeld => ?_)
          · (first | exact ⟨hck.out, hMV.out⟩ | assumption | exact MV.pair (by assumption) hlX _ _)
          clear hK K
          try simp only [Act.put, List.setIfInBounds_toArray, List.set_cons_zero, List.set_cons_succ]
          refine wpAnyH_ready (rs := [1]) (by kernel_rfl) (by simp) ?_
          refine AllReadyH.cons (o := _) rfl (fun K hK => ?_) ?_
          · (try dsimp only [List.getElem_toArray, List.getElem_cons_succ, List.getElem_cons_zero]); go_simp
            (go_at_call 30; (first | with_reducible refine (C1.out _).mono ?_ | with_reducible refine (C2.out _).mono ?_ | with_reducible refine (C3.out _).mono ?_); rintro e w' ⟨rfl, hb⟩; obtain ⟨o1, n1, rfl⟩ := below_adds hb; clear hb)
            try go_wp2_with fail
            refine hK.out _ _ ?_ (fun hHeld => ?_)
            · (first | exact ⟨hck.out, hMV.out⟩ | assumption | exact MV.pair (by assumption) hlX _ _)
            clear hK K
            try simp only [Act.put, List.setIfInBounds_toArray, List.set_cons_zero, List.set_cons_succ]
            refine wpAnyH_take (i := 5) (oi := _) (v := ?_) rfl (by kernel_rfl) (by kernel_rfl) (by kernel_rfl) (fun _ _ _ h => h) (Or.inl ⟨by rfl, ?_⟩) (by assumption) ?_
            rotate_left
            · intro w hSw; (try dsimp only at hSw); go_simp; (try with_reducible rfl)
            try dsimp only [List.getElem_toArray, List.getElem_cons_succ, List.getElem_cons_zero]
            simp only [Act.put, List.setIfInBounds_toArray, List.set_cons_zero, List.set_cons_succ]
            refine wpAnyH_take (i := 6) (oi := _) (v := ?_) rfl (by kernel_rfl) (by kernel_rfl) (by kernel_rfl) (fun _ _ _ h => h) (Or.inl ⟨by rfl, ?_⟩) (by assumption) ?_
            rotate_left
            · intro w hSw; (try dsimp only at hSw); go_simp; (try with_reducible rfl)
            try dsimp only [List.getElem_toArray, List.getElem_cons_succ, List.getElem_cons_zero]
            simp only [Act.put, List.setIfInBounds_toArray, List.set_cons_zero, List.set_cons_succ]
            refine wpAnyH_take (i := 9) (oi := _) (v := ?_) rfl (by kernel_rfl) (by kernel_rfl) (by kernel_rfl) (fun _ _ _ h => h) (Or.inl ⟨by rfl, ?_⟩) (by assumption) ?_
            rotate_left
            · intro w hSw; (try dsimp only at hSw); go_simp; (try with_reducible rfl)
            try dsimp only [List.getElem_toArray, List.getElem_cons_succ, List.getElem_cons_zero]
            simp only [Act.put, List.setIfInBounds_toArray, List.set_cons_zero, List.set_cons_succ]
            refine wpAnyH_take (i := 10) (oi := _) (v := ?_) rfl (by kernel_rfl) (by kernel_rfl) (by kernel_rfl) (fun _ _ _ h => h) (Or.inl ⟨by rfl, ?_⟩) (by assumption) ?_
            rotate_left
            · intro w hSw; (try dsimp only at hSw); go_simp; (try with_reducible rfl)
            try dsimp only [List.getElem_toArray, List.getElem_cons_succ, List.getElem_cons_zero]
            simp only [Act.put, List.setIfInBounds_toArray, List.set_cons_zero, List.set_cons_succ]
            refine wpAnyH_take (i := 11) (oi := _) (v := ?_) rfl (by kernel_rfl) (by kernel_rfl) (by kernel_rfl) (fun _ _ _ h => h) (Or.inl ⟨by rfl, ?_⟩) (by assumption) ?_
            rotate_left
            · intro w hSw; (try dsimp only at hSw); go_simp; (try with_reducible rfl)
            try dsimp only [List.getElem_toArray, List.getElem_cons_succ, List.getElem_cons_zero]
            simp only [Act.put, List.setIfInBounds_toArray, List.set_cons_zero, List.set_cons_succ]
            refine wpAnyH_ready (rs := [7]) (by kernel_rfl) (by simp) ?_
            refine AllReadyH.cons (o := _) rfl (fun K hK => ?_) ?_
            · (try dsimp only [List.getElem_toArray, List.getElem_cons_succ, List.getElem_cons_zero])
              (rw [if_pos (by rfl)]; first | (refine wp_load_sub 29 (.tmp 5) (by with_reducible rfl) X.heap.size 0 71 (by rfl) 29 y1 (0, 0) _ hHeld.2.1 Try.underlying29 rfl infoMacD (by rw [hl1.out]; exact Nat.le_refl _) ?_; rw [hsub1.out]) | (refine wp_load_sub 29 (.tmp 6) (by with_reducible rfl) (X.heap.size + 1) 0 71 (by rfl) 29 y2 (0, 0) _ hHeld.2.2.1 Try.underlying29 rfl infoMacD (by rw [hl2.out]; exact Nat.le_refl _) ?_; rw [hsub2.out]) | (refine wp_load_sub 29 (.tmp 7) (by with_reducible rfl) (X.heap.size + 1 + 1) 0 71 (by rfl) 29 y3 (0, 0) _ hHeld.2.2.2 Try.underlying29 rfl infoMacD (by rw [hl3.out]; exact Nat.le_refl _) ?_; rw [hsub3.out]))
              refine hK.out _ _ ?_ (fun hHeld => ?_)
              · (first | exact ⟨hck.out, hMV.out⟩ | assumption | exact MV.pair (by assumption) hlX _ _)
              clear hK K
              try simp only [Act.put, List.setIfInBounds_toArray, List.set_cons_zero, List.set_cons_succ]
              refine wpAnyH_ready (rs := [8]) (by kernel_rfl) (by simp) ?_
              refine AllReadyH.cons (o := _) rfl (fun K hK => ?_) ?_
              · (try dsimp only [List.getElem_toArray, List.getElem_cons_succ, List.getElem_cons_zero]); go_simp
                (go_at_call 30; (first | with_reducible refine (C1.out _).mono ?_ | with_reducible refine (C2.out _).mono ?_ | with_reducible refine (C3.out _).mono ?_); rintro e w' ⟨rfl, hb⟩; obtain ⟨o1, n1, rfl⟩ := below_adds hb; clear hb)
                try go_wp2_with fail
                refine hK.out _ _ ?_ (fun hHeld => ?_)
                · (first | exact ⟨hck.out, hMV.out⟩ | assumption | exact MV.pair (by assumption) hlX _ _)
                clear hK K
                try simp only [Act.put, List.setIfInBounds_toArray, List.set_cons_zero, List.set_cons_succ]
                refine wpAnyH_take (i := 12) (oi := _) (v := ?_) rfl (by kernel_rfl) (by kernel_rfl) (by kernel_rfl) (fun _ _ _ h => h) (Or.inl ⟨by rfl, ?_⟩) (by assumption) ?_
                rotate_left
                · intro w hSw; (try dsimp only at hSw); go_simp; (try with_reducible rfl)
                try dsimp only [List.getElem_toArray, List.getElem_cons_succ, List.getElem_cons_zero]
                simp only [Act.put, List.setIfInBounds_toArray, List.set_cons_zero, List.set_cons_succ]
                refine wpAnyH_take (i := 13) (oi := _) (v := ?_) rfl (by kernel_rfl) (by kernel_rfl) (by kernel_rfl) (fun _ _ _ h => h) (Or.inl ⟨by rfl, ?_⟩) (by assumption) ?_
                rotate_left
                · intro w hSw; (try dsimp only at hSw); go_simp; (try with_reducible rfl)
                try dsimp only [List.getElem_toArray, List.getElem_cons_succ, List.getElem_cons_zero]
                simp only [Act.put, List.setIfInBounds_toArray, List.set_cons_zero, List.set_cons_succ]
                refine wpAnyH_take (i := 14) (oi := _) (v := ?_) rfl (by kernel_rfl) (by kernel_rfl) (by kernel_rfl) (fun _ _ _ h => h) (Or.inl ⟨by rfl, ?_⟩) (by assumption) ?_
                rotate_left
                · intro w hSw; (try dsimp only at hSw); go_simp; (try with_reducible rfl)
                try dsimp only [List.getElem_toArray, List.getElem_cons_succ, List.getElem_cons_zero]
                simp only [Act.put, List.setIfInBounds_toArray, List.set_cons_zero, List.set_cons_succ]
                refine wpAnyH_take (i := 17) (oi := _) (v := ?_) rfl (by kernel_rfl) (by kernel_rfl) (by kernel_rfl) (fun _ _ _ h => h) (Or.inl ⟨by rfl, ?_⟩) (by assumption) ?_
                rotate_left
                · intro w hSw; (try dsimp only at hSw); go_simp; (try with_reducible rfl)
                try dsimp only [List.getElem_toArray, List.getElem_cons_succ, List.getElem_cons_zero]
                simp only [Act.put, List.setIfInBounds_toArray, List.set_cons_zero, List.set_cons_succ]
                refine wpAnyH_take (i := 18) (oi := _) (v := ?_) rfl (by kernel_rfl) (by kernel_rfl) (by kernel_rfl) (fun _ _ _ h => h) (Or.inl ⟨by rfl, ?_⟩) (by assumption) ?_
                rotate_left
                · intro w hSw; (try dsimp only at hSw); go_simp; (try with_reducible rfl)
                try dsimp only [List.getElem_toArray, List.getElem_cons_succ, List.getElem_cons_zero]
                simp only [Act.put, List.setIfInBounds_toArray, List.set_cons_zero, List.set_cons_succ]
                refine wpAnyH_take (i := 19) (oi := _) (v := ?_) rfl (by kernel_rfl) (by kernel_rfl) (by kernel_rfl) (fun _ _ _ h => h) (Or.inl ⟨by rfl, ?_⟩) (by assumption) ?_
                rotate_left
                · intro w hSw; (try dsimp only at hSw); go_simp; (try with_reducible rfl)
                try dsimp only [List.getElem_toArray, List.getElem_cons_succ, List.getElem_cons_zero]
                simp only [Act.put, List.setIfInBounds_toArray, List.set_cons_zero, List.set_cons_succ]
                refine wpAnyH_ready (rs := [15]) (by kernel_rfl) (by simp) ?_
                refine AllReadyH.cons (o := _) rfl (fun K hK => ?_) ?_
                · (try dsimp only [List.getElem_toArray, List.getElem_cons_succ, List.getElem_cons_zero])
                  (rw [if_pos (by rfl)]; first | (refine wp_load_sub 29 (.tmp 5) (by with_reducible rfl) X.heap.size 0 71 (by rfl) 29 y1 (0, 0) _ hHeld.2.1 Try.underlying29 rfl infoMacD (by rw [hl1.out]; exact Nat.le_refl _) ?_; rw [hsub1.out]) | (refine wp_load_sub 29 (.tmp 6) (by with_reducible rfl) (X.heap.size + 1) 0 71 (by rfl) 29 y2 (0, 0) _ hHeld.2.2.1 Try.underlying29 rfl infoMacD (by rw [hl2.out]; exact Nat.le_refl _) ?_; rw [hsub2.out]) | (refine wp_load_sub 29 (.tmp 7) (by with_reducible rfl) (X.heap.size + 1 + 1) 0 71 (by rfl) 29 y3 (0, 0) _ hHeld.2.2.2 Try.underlying29 rfl infoMacD (by rw [hl3.out]; exact Nat.le_refl _) ?_; rw [hsub3.out]))
                  refine hK.out _ _ ?_ (fun hHeld => ?_)
                  · (first | exact ⟨hck.out, hMV.out⟩ | assumption | exact MV.pair (by assumption) hlX _ _)
                  clear hK K
                  try simp only [Act.put, List.setIfInBounds_toArray, List.set_cons_zero, List.set_cons_succ]
                  refine wpAnyH_ready (rs := [16]) (by kernel_rfl) (by simp) ?_
                  refine AllReadyH.cons (o := _) rfl (fun K hK => ?_) ?_
                  · (try dsimp only [List.getElem_toArray, List.getElem_cons_succ, List.getElem_cons_zero]); go_simp
                    (go_at_call 30; (first | with_reducible refine (C1.out _).mono ?_ | with_reducible refine (C2.out _).mono ?_ | with_reducible refine (C3.out _).mono ?_); rintro e w' ⟨rfl, hb⟩; obtain ⟨o1, n1, rfl⟩ := below_adds hb; clear hb)
                    try go_wp2_with fail
                    refine hK.out _ _ ?_ (fun hHeld => ?_)
                    · (first | exact ⟨hck.out, hMV.out⟩ | assumption | exact MV.pair (by assumption) hlX _ _)
                    clear hK K
                    try simp only [Act.put, List.setIfInBounds_toArray, List.set_cons_zero, List.set_cons_succ]
                    refine wpAnyH_take (i := 20) (oi := _) (v := ?_) rfl (by kernel_rfl) (by kernel_rfl) (by kernel_rfl) (fun _ _ _ h => h) (Or.inl ⟨by rfl, ?_⟩) (by assumption) ?_
                    rotate_left
                    · intro w hSw; (try dsimp only at hSw); go_simp; (try with_reducible rfl)
                    try dsimp only [List.getElem_toArray, List.getElem_cons_succ, List.getElem_cons_zero]
                    simp only [Act.put, List.setIfInBounds_toArray, List.set_cons_zero, List.set_cons_succ]
                    refine wpAnyH_take (i := 21) (oi := _) (v := ?_) rfl (by kernel_rfl) (by kernel_rfl) (by kernel_rfl) (fun _ _ _ h => h) (Or.inl ⟨by rfl, ?_⟩) (by assumption) ?_
                    rotate_left
                    · intro w hSw; (try dsimp only at hSw); go_simp; (try with_reducible rfl)
                    try dsimp only [List.getElem_toArray, List.getElem_cons_succ, List.getElem_cons_zero]
                    simp only [Act.put, List.setIfInBounds_toArray, List.set_cons_zero, List.set_cons_succ]
                    refine wpAnyH_take (i := 22) (oi := _) (v := ?_) rfl (by kernel_rfl) (by kernel_rfl) (by kernel_rfl) (fun _ _ _ h => h) (Or.inl ⟨by rfl, ?_⟩) (by assumption) ?_
                    rotate_left
                    · intro w hSw; (try dsimp only at hSw); go_simp; (try with_reducible rfl)
                    try dsimp only [List.getElem_toArray, List.getElem_cons_succ, List.getElem_cons_zero]
                    simp only [Act.put, List.setIfInBounds_toArray, List.set_cons_zero, List.set_cons_succ]
                    refine wpAnyH_done (by kernel_rfl) ?_ _
                    go_wp2_with fail
                    go_returns
                    exact ⟨rfl, (by repeat' (first | (with_reducible exact Below.refl _ _) | (with_reducible refine Below.adds_ ?_ ?_ _ _) | (with_reducible refine Below.alloc ?_ ?_ _) | (with_reducible refine Below.drew ?_) | (with_reducible refine Below.setCell ?_ ?_ _) | (with_reducible assumption) | go_size | (simp only [size_addsW, World.size_alloc, World.size_drew, World.size_setCell]; omega)))⟩
                  exact AllReadyH.nil
                exact AllReadyH.nil
              exact AllReadyH.nil
            exact AllReadyH.nil
          exact AllReadyH.nil
        exact AllReadyH.nil

set_option maxRecDepth 100000 in
theorem lifted (os : Os) (started : os.Started) (H : Type) (enc : TypeId × Value → H) :
    ReturnsInHanded {} Try.checked os 8 .any (Rows.fnMacroValidSpec.pre6 enc Try.prog Try.f8 Rows.fnMacroValidRow.domain false) (Rows.fnMacroValidSpec.post enc Try.prog Try.f8 false true false false) := by
  refine returnsInHanded_of_change (C := Try.checked) own started (by kernel_rfl) Try.func8
    (ChangeSpec.witness6 (enc := enc) (C := Try.checked) false ⟨#[], #[.slice none 0 0], []⟩ 8 (by kernel_rfl) (by kernel_rfl) (by kernel_rfl) (by kernel_rfl)) ?_
  intro W base args ds gs before hval0 hW hcnd _
  have hval : ∀ (j : Nat) t v, Try.f8.params[j]? = some t → args[j]? = some v → Value.okWide Try.prog W .any base t v := hval0
  have hW' := hW
  obtain ⟨p, q, hA0, hV, rfl, hfz, hnd⟩ := hW
  have hA : DataW.TrodAll enc Try.prog W 0 (fun _ => true) true Try.f8.params.toList args.toList ds p := hA0
  rw [Try.params8] at hA hval
  obtain ⟨v0, vs0, d0, ds0, p0, q0, hargs, rfl, rfl, h0, r0⟩ := trodAll_cons hA
  obtain ⟨rfl, rfl, rfl⟩ := trodAll_nil r0
  obtain rfl : args = #[v0] := by cases args; simp_all
  obtain ⟨rfl, rfl⟩ := trodVars_none hV
  have k0 := h0
  have lt0 : ∀ x ∈ p0, x.block < W.heap.size := by obtain ⟨m, hm⟩ := k0; exact DataW.trod_lt m _ _ _ hm
  obtain ⟨aa0, ll0, cc0, rfl⟩ := okWide_slice Try.underlying22 (hval 0 22 v0 rfl rfl)
  obtain ⟨f0, hf0⟩ := h0
  simp only [Value.cells] at hf0
  obtain ⟨a_zs, len_zs, cap_zs, zs, e_zs, w_zs⟩ : ∃ a l c zs, (.slice aa0 ll0 cc0 : Value) = .slice a l c ∧ IsRow .u8 W a l c zs := by
    rcases open_ints Try.underlying22 Try.underlying5 (by kernel_rfl) hf0 with ⟨hcs, _⟩ | ⟨x, l, c, zs, hcs, _, hl, hm, hz, _, hcell, hwz⟩
    · simp only [List.cons.injEq, and_true] at hcs; exact ⟨none, 0, 0, [], hcs, .inl ⟨rfl, rfl, rfl, rfl⟩⟩
    · simp only [List.cons.injEq, and_true] at hcs; exact ⟨some x, l, c, zs, hcs, .inr ⟨x, rfl, hl, hm, by simpa using hz, hcell, hwz⟩⟩
  simp only [Value.slice.injEq] at e_zs
  obtain ⟨rfl, rfl, rfl⟩ := e_zs
  clear hA0 hval0
  refine (walk _ _ _ zs W w_zs).mono fun e W' ⟨he, bel⟩ => ?_
  subst he
  exact ⟨_, rfl, _, _, _, [], _, [], hW', trodAll_mk1 (shut_bool Try.underlying4 _), (trodAll_cons_mk (Below.trod laidOut (by kernel_rfl) (of_decide_eq_true (by kernel_rfl)) k0 bel lt0) trodAll_mk0), rfl, bel.frame _, fun h => by cases h⟩

theorem over : Rows.fnMacroValidRow.holds Try.pinned (OpenSpec.ofChange Rows.fnMacroValidSpec) :=
  OpenClaim.holds_of_wide 8 Try.f8 rfl rfl rfl rfl rfl rfl rfl ⟨rfl, rfl, rfl, rfl, rfl⟩ rfl rfl rfl rfl rfl (by kernel_rfl) Try.func8 (by kernel_rfl)
    (of_decide_eq_true (by kernel_rfl)) (by unfold Func.isWrapper; first | (rw [if_pos (by decide +kernel)]; kernel_rfl) | (rw [if_neg (by decide +kernel)]; exact ⟨rfl, rfl⟩))
    (fun os started H enc _ => lifted os started H enc)

theorem proved : Rows.FnMacroValidSaid := over
#print axioms proved
end Go.Proofs.Ytndbdfbjiaaloaa.fnMacroValid
