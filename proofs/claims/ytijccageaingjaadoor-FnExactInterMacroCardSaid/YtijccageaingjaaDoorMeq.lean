/- Macroblocks are equal to themselves. -/
import Derived.Test.YtijccageaingjaaDoorMacE
import Derived.Test.YtijccageaingjaaDoorRange
import Derived.Deep.RegionHeld3
namespace Go.Proofs.YtijccageaingjaaDoor
open Go.RowKit
set_option linter.unusedVariables false
set_option linter.unusedSimpArgs false

attribute [local go_sem] size_addsW cell?_addsW frozen?_addsW setCell_addsW drew_addsW adds_addsW setCell_twice alloc_adds0 size_adds0 adds_adds0 sel2 sel3 sel4 sel5 sel6 sel7 sel8 sel9 lt_more lt_more2 lt_more3 lt_more4 adds_drew adds_drewN drewN_addsW ltA_1_1 ltA_1_2 ltA_1_3 ltA_1_4 ltA_1_5 ltA_1_6 ltA_2_1 ltA_2_2 ltA_2_3 ltA_2_4 ltA_2_5 ltA_2_6 ltA_3_1 ltA_3_2 ltA_3_3 ltA_3_4 ltA_3_5 ltA_3_6 ltA_4_1 ltA_4_2 ltA_4_3 ltA_4_4 ltA_4_5 ltA_4_6 ltA_5_1 ltA_5_2 ltA_5_3 ltA_5_4 ltA_5_5 ltA_5_6 ltA_6_1 ltA_6_2 ltA_6_3 ltA_6_4 ltA_6_5 ltA_6_6 ltA_7_1 ltA_7_2 ltA_7_3 ltA_7_4 ltA_7_5 ltA_7_6 ltA_8_1 ltA_8_2 ltA_8_3 ltA_8_4 ltA_8_5 ltA_8_6 ltA_9_1 ltA_9_2 ltA_9_3 ltA_9_4 ltA_9_5 ltA_9_6 ltA_10_1 ltA_10_2 ltA_10_3 ltA_10_4 ltA_10_5 ltA_10_6 ltA_11_1 ltA_11_2 ltA_11_3 ltA_11_4 ltA_11_5 ltA_11_6 ltA_12_1 ltA_12_2 ltA_12_3 ltA_12_4 ltA_12_5 ltA_12_6

set_option maxRecDepth 100000 in
set_option maxHeartbeats 1000000 in
theorem L_eqIntA4 (zs : List Int) (w : World) (hz : zs.length = 4) :
    Calls Tryd.prog 29 #[.agg (rowI zs), .agg (rowI zs)] w fun e w' => e = .returned (.bool true) ∧ Below w.heap.size w w' := by
  have HZ := Lib.hid hz
  clear hz
  go_enter Tryd.func29, Tryd.ntmps29
  go_wp2_with fail
  go_loopw [5] (fun i wr => ∃ k m : Nat, i = .int .i64 (k : Int) ∧ k ≤ 4 ∧ wr = ((w.alloc (.cells (rowI zs) 29)).alloc (.cells (rowI zs) 29)).drewN m) (fun i _ => 4 - (intOf i).toNat)
  case atStart => exact ⟨0, 0, rfl, Nat.zero_le _, rfl⟩
  case round =>
    obtain ⟨k, m, rfl, hk, rfl⟩ := hrel
    by_cases hlt : k < 4
    · have hd1 : decide ((k : Int) < 4) = true := by simp; omega
      have hc := rowI_get (zs := zs) (j := k) (by rw [HZ.out]; exact hlt)
      generalize zs.getD k 0 = z at hc
      go_upto_region 4 with fail
      go_region
      go_wp2_with fail
      exact ⟨⟨k + 1, m + 1, by go_num, by omega, rfl⟩, by simp [intOf]; omega⟩
    · obtain rfl : k = 4 := by omega
      go_wp2_with fail
      go_returns
      exact ⟨rfl, Below.trans (b := (w.alloc (.cells (rowI zs) 29)).alloc (.cells (rowI zs) 29)) (by repeat' (first | (with_reducible exact Below.refl _ _) | (with_reducible refine Below.adds_ ?_ ?_ _ _) | (with_reducible refine Below.alloc ?_ ?_ _) | (with_reducible refine Below.drew ?_) | (with_reducible refine Below.setCell ?_ ?_ _) | (with_reducible assumption) | go_size | (simp only [size_addsW, World.size_alloc, World.size_drew, World.size_setCell]; omega))) ((drewN_below _ m).mono (by simp; omega))⟩

set_option maxRecDepth 100000 in
set_option maxHeartbeats 1000000 in
theorem L_eqIntA16 (zs : List Int) (w : World) (hz : zs.length = 16) :
    Calls Tryd.prog 43 #[.agg (rowI zs), .agg (rowI zs)] w fun e w' => e = .returned (.bool true) ∧ Below w.heap.size w w' := by
  have HZ := Lib.hid hz
  clear hz
  go_enter Tryd.func43, Tryd.ntmps43
  go_wp2_with fail
  go_loopw [5] (fun i wr => ∃ k m : Nat, i = .int .i64 (k : Int) ∧ k ≤ 16 ∧ wr = ((w.alloc (.cells (rowI zs) 30)).alloc (.cells (rowI zs) 30)).drewN m) (fun i _ => 16 - (intOf i).toNat)
  case atStart => exact ⟨0, 0, rfl, Nat.zero_le _, rfl⟩
  case round =>
    obtain ⟨k, m, rfl, hk, rfl⟩ := hrel
    by_cases hlt : k < 16
    · have hd1 : decide ((k : Int) < 16) = true := by simp; omega
      have hc := rowI_get (zs := zs) (j := k) (by rw [HZ.out]; exact hlt)
      generalize zs.getD k 0 = z at hc
      go_upto_region 4 with fail
      go_region
      go_wp2_with fail
      exact ⟨⟨k + 1, m + 1, by go_num, by omega, rfl⟩, by simp [intOf]; omega⟩
    · obtain rfl : k = 16 := by omega
      go_wp2_with fail
      go_returns
      exact ⟨rfl, Below.trans (b := (w.alloc (.cells (rowI zs) 30)).alloc (.cells (rowI zs) 30)) (by repeat' (first | (with_reducible exact Below.refl _ _) | (with_reducible refine Below.adds_ ?_ ?_ _ _) | (with_reducible refine Below.alloc ?_ ?_ _) | (with_reducible refine Below.drew ?_) | (with_reducible refine Below.setCell ?_ ?_ _) | (with_reducible assumption) | go_size | (simp only [size_addsW, World.size_alloc, World.size_drew, World.size_setCell]; omega))) ((drewN_below _ m).mono (by simp; omega))⟩

/-- two boxes with the same cells -/
def Tw (g : Nat) (zs : List Int) (t : TypeId) (w wr : World) : Prop := Blk wr g (rowI zs) t ∧ Blk wr (g + 1) (rowI zs) t ∧ Below w.heap.size w wr
theorem Tw.next {g : Nat} {zs : List Int} {t : TypeId} {w wr w' : World} (h : Tw g zs t w wr) (hb : Below wr.heap.size wr w') : Tw g zs t w w' := ⟨h.1.below hb h.1.lt, h.2.1.below hb h.2.1.lt, h.2.2.trans (hb.mono h.2.2.size)⟩
theorem Tw.start (w : World) (zs : List Int) (t : TypeId) : Tw w.heap.size zs t w ((w.alloc (.cells (rowI zs) t)).alloc (.cells (rowI zs) t)) :=
  ⟨(Blk.new w _ _ _ rfl).alloc _, Blk.new _ _ _ _ (by simp), Below.alloc (Below.alloc (Below.refl _ _) (Nat.le_refl _) _) (by simp) _⟩
theorem Tw.drew {g : Nat} {zs : List Int} {t : TypeId} {w wr : World} (h : Tw g zs t w wr) : Tw g zs t w wr.drew := h.next ((Below.refl _ _).drew)

set_option maxRecDepth 100000 in
set_option maxHeartbeats 2000000 in
theorem L_eqIntA16A4 (zs : List Int) (w : World) (hz : zs.length = 64) :
    Calls Tryd.prog 30 #[.agg (rowI zs), .agg (rowI zs)] w fun e w' => e = .returned (.bool true) ∧ Below w.heap.size w w' := by
  have HZ := Lib.hid hz
  clear hz
  go_enter Tryd.func30, Tryd.ntmps30
  go_wp2_with fail
  go_loopw [5] (fun i wr => ∃ k : Nat, i = .int .i64 (k : Int) ∧ k ≤ 4 ∧ Tw w.heap.size zs 31 w wr) (fun i _ => 4 - (intOf i).toNat)
  case atStart => exact ⟨0, rfl, Nat.zero_le _, Tw.start w zs _⟩
  case round =>
    obtain ⟨k, rfl, hk, hT⟩ := hrel
    have HT := Lib.hid hT
    clear hT
    by_cases hlt : k < 4
    · have hd1 : decide ((k : Int) < 4) = true := by simp; omega
      have hl : (sub zs (k * 16) 16).length = 16 := sub_len (by rw [HZ.out]; omega)
      have HC := Lib.hid (show ∀ W, Calls Tryd.prog 43 #[.agg (rowI (sub zs (k * 16) 16)), .agg (rowI (sub zs (k * 16) 16))] W fun e w' => e = .returned (.bool true) ∧ Below W.heap.size W w' from fun W => L_eqIntA16 _ W hl)
      have hk4 : (k : Int) < 4 := by omega
      have HS := Lib.hid (show k * 16 + 16 ≤ zs.length by rw [HZ.out]; omega)
      clear hl
      go_upto_region 4 with fail
      refine wp_region_held_drew (S := (fun w' => Tw w.heap.size zs 31 w w')) (by kernel_rfl) ?_ (fun hHeld => ?_)
      · (first | exact HT.out.drew | assumption | exact Tw.next (by assumption) (addsW_below _ _ _))
      refine wpAnyH_take (i := 0) (oi := _) (v := ?_) rfl (by kernel_rfl) (by kernel_rfl) (by kernel_rfl) (fun _ _ _ h => h) (Or.inl ⟨by rfl, ?_⟩) (by assumption) ?_
      rotate_left
      · intro w hSw; (try dsimp only at hSw); go_simp; (try with_reducible rfl)
      try dsimp only [List.getElem_toArray, List.getElem_cons_succ, List.getElem_cons_zero]
      simp only [Act.put, List.setIfInBounds_toArray, List.set_cons_zero, List.set_cons_succ]
      refine wpAnyH_take (i := 1) (oi := _) (v := ?_) rfl (by kernel_rfl) (by kernel_rfl) (by kernel_rfl) (fun _ _ _ h => h) (Or.inl ⟨by rfl, ?_⟩) (by assumption) ?_
      rotate_left
      · intro w hSw; (try dsimp only at hSw); go_simp; (try with_reducible rfl)
      try dsimp only [List.getElem_toArray, List.getElem_cons_succ, List.getElem_cons_zero]
      simp only [Act.put, List.setIfInBounds_toArray, List.set_cons_zero, List.set_cons_succ]
      refine wpAnyH_take (i := 3) (oi := _) (v := ?_) rfl (by kernel_rfl) (by kernel_rfl) (by kernel_rfl) (fun _ _ _ h => h) (Or.inl ⟨by rfl, ?_⟩) (by assumption) ?_
      rotate_left
      · intro w hSw; (try dsimp only at hSw); go_simp; (try with_reducible rfl)
      try dsimp only [List.getElem_toArray, List.getElem_cons_succ, List.getElem_cons_zero]
      simp only [Act.put, List.setIfInBounds_toArray, List.set_cons_zero, List.set_cons_succ]
      refine wpAnyH_take (i := 4) (oi := _) (v := ?_) rfl (by kernel_rfl) (by kernel_rfl) (by kernel_rfl) (fun _ _ _ h => h) (Or.inl ⟨by rfl, ?_⟩) (by assumption) ?_
      rotate_left
      · intro w hSw; (try dsimp only at hSw); go_simp; (try with_reducible rfl)
      try dsimp only [List.getElem_toArray, List.getElem_cons_succ, List.getElem_cons_zero]
      simp only [Act.put, List.setIfInBounds_toArray, List.set_cons_zero, List.set_cons_succ]
      refine wpAnyH_ready (rs := [2, 5]) (by kernel_rfl) (by simp) ?_
      refine AllReadyH.cons (o := _) rfl (fun K hK => ?_) ?_
      · (try dsimp only [List.getElem_toArray, List.getElem_cons_succ, List.getElem_cons_zero])
        (rw [if_pos (by rfl)]; first | (refine wp_load_sub 30 (.tmp 11) (by with_reducible rfl) w.heap.size (k * 16) 16 (by rfl) 31 zs (0, 0) _ hHeld.1 Tryd.underlying30 rfl infoA16 HS.out ?_) | (refine wp_load_sub 30 (.tmp 14) (by with_reducible rfl) (w.heap.size + 1) (k * 16) 16 (by rfl) 31 zs (0, 0) _ hHeld.2.1 Tryd.underlying30 rfl infoA16 HS.out ?_))
        refine hK.out _ _ ?_ (fun hHeld => ?_)
        · (first | exact HT.out.drew | assumption | exact Tw.next (by assumption) (addsW_below _ _ _))
        clear hK K
        try simp only [Act.put, List.setIfInBounds_toArray, List.set_cons_zero, List.set_cons_succ]
        refine wpAnyH_ready (rs := [5]) (by kernel_rfl) (by simp) ?_
        refine AllReadyH.cons (o := _) rfl (fun K hK => ?_) ?_
        · (try dsimp only [List.getElem_toArray, List.getElem_cons_succ, List.getElem_cons_zero])
          (rw [if_pos (by rfl)]; first | (refine wp_load_sub 30 (.tmp 11) (by with_reducible rfl) w.heap.size (k * 16) 16 (by rfl) 31 zs (0, 0) _ hHeld.1 Tryd.underlying30 rfl infoA16 HS.out ?_) | (refine wp_load_sub 30 (.tmp 14) (by with_reducible rfl) (w.heap.size + 1) (k * 16) 16 (by rfl) 31 zs (0, 0) _ hHeld.2.1 Tryd.underlying30 rfl infoA16 HS.out ?_))
          refine hK.out _ _ ?_ (fun hHeld => ?_)
          · (first | exact HT.out.drew | assumption | exact Tw.next (by assumption) (addsW_below _ _ _))
          clear hK K
          try simp only [Act.put, List.setIfInBounds_toArray, List.set_cons_zero, List.set_cons_succ]
          refine wpAnyH_ready (rs := [6]) (by kernel_rfl) (by simp) ?_
          refine AllReadyH.cons (o := _) rfl (fun K hK => ?_) ?_
          · (try dsimp only [List.getElem_toArray, List.getElem_cons_succ, List.getElem_cons_zero]); go_simp
            (go_at_call 43; refine (HC.out _).mono ?_; rintro e w' ⟨rfl, hb⟩; obtain ⟨o1, n1, rfl⟩ := below_adds hb; clear hb)
            try go_wp2_with fail
            refine hK.out _ _ ?_ (fun hHeld => ?_)
            · (first | exact HT.out.drew | assumption | exact Tw.next (by assumption) (addsW_below _ _ _))
            clear hK K
            try simp only [Act.put, List.setIfInBounds_toArray, List.set_cons_zero, List.set_cons_succ]
            refine wpAnyH_take (i := 7) (oi := _) (v := ?_) rfl (by kernel_rfl) (by kernel_rfl) (by kernel_rfl) (fun _ _ _ h => h) (Or.inl ⟨by rfl, ?_⟩) (by assumption) ?_
            rotate_left
            · intro w hSw; (try dsimp only at hSw); go_simp; (try with_reducible rfl)
            try dsimp only [List.getElem_toArray, List.getElem_cons_succ, List.getElem_cons_zero]
            simp only [Act.put, List.setIfInBounds_toArray, List.set_cons_zero, List.set_cons_succ]
            refine wpAnyH_done (by kernel_rfl) ?_ _
            go_wp2_with fail
            go_roundw
            case rel => exact ⟨k + 1, by go_num, by omega, by assumption⟩
            case measure => simp [intOf]; omega
          exact AllReadyH.nil
        exact AllReadyH.nil
      refine AllReadyH.cons (o := _) rfl (fun K hK => ?_) ?_
      · (try dsimp only [List.getElem_toArray, List.getElem_cons_succ, List.getElem_cons_zero])
        (rw [if_pos (by rfl)]; first | (refine wp_load_sub 30 (.tmp 11) (by with_reducible rfl) w.heap.size (k * 16) 16 (by rfl) 31 zs (0, 0) _ hHeld.1 Tryd.underlying30 rfl infoA16 HS.out ?_) | (refine wp_load_sub 30 (.tmp 14) (by with_reducible rfl) (w.heap.size + 1) (k * 16) 16 (by rfl) 31 zs (0, 0) _ hHeld.2.1 Tryd.underlying30 rfl infoA16 HS.out ?_))
        refine hK.out _ _ ?_ (fun hHeld => ?_)
        · (first | exact HT.out.drew | assumption | exact Tw.next (by assumption) (addsW_below _ _ _))
        clear hK K
        try simp only [Act.put, List.setIfInBounds_toArray, List.set_cons_zero, List.set_cons_succ]
        refine wpAnyH_ready (rs := [2]) (by kernel_rfl) (by simp) ?_
        refine AllReadyH.cons (o := _) rfl (fun K hK => ?_) ?_
        · (try dsimp only [List.getElem_toArray, List.getElem_cons_succ, List.getElem_cons_zero])
          (rw [if_pos (by rfl)]; first | (refine wp_load_sub 30 (.tmp 11) (by with_reducible rfl) w.heap.size (k * 16) 16 (by rfl) 31 zs (0, 0) _ hHeld.1 Tryd.underlying30 rfl infoA16 HS.out ?_) | (refine wp_load_sub 30 (.tmp 14) (by with_reducible rfl) (w.heap.size + 1) (k * 16) 16 (by rfl) 31 zs (0, 0) _ hHeld.2.1 Tryd.underlying30 rfl infoA16 HS.out ?_))
          refine hK.out _ _ ?_ (fun hHeld => ?_)
          · (first | exact HT.out.drew | assumption | exact Tw.next (by assumption) (addsW_below _ _ _))
          clear hK K
          try simp only [Act.put, List.setIfInBounds_toArray, List.set_cons_zero, List.set_cons_succ]
          refine wpAnyH_ready (rs := [6]) (by kernel_rfl) (by simp) ?_
          refine AllReadyH.cons (o := _) rfl (fun K hK => ?_) ?_
          · (try dsimp only [List.getElem_toArray, List.getElem_cons_succ, List.getElem_cons_zero]); go_simp
            (go_at_call 43; refine (HC.out _).mono ?_; rintro e w' ⟨rfl, hb⟩; obtain ⟨o1, n1, rfl⟩ := below_adds hb; clear hb)
            try go_wp2_with fail
            refine hK.out _ _ ?_ (fun hHeld => ?_)
            · (first | exact HT.out.drew | assumption | exact Tw.next (by assumption) (addsW_below _ _ _))
            clear hK K
            try simp only [Act.put, List.setIfInBounds_toArray, List.set_cons_zero, List.set_cons_succ]
            refine wpAnyH_take (i := 7) (oi := _) (v := ?_) rfl (by kernel_rfl) (by kernel_rfl) (by kernel_rfl) (fun _ _ _ h => h) (Or.inl ⟨by rfl, ?_⟩) (by assumption) ?_
            rotate_left
            · intro w hSw; (try dsimp only at hSw); go_simp; (try with_reducible rfl)
            try dsimp only [List.getElem_toArray, List.getElem_cons_succ, List.getElem_cons_zero]
            simp only [Act.put, List.setIfInBounds_toArray, List.set_cons_zero, List.set_cons_succ]
            refine wpAnyH_done (by kernel_rfl) ?_ _
            go_wp2_with fail
            go_roundw
            case rel => exact ⟨k + 1, by go_num, by omega, by assumption⟩
            case measure => simp [intOf]; omega
          exact AllReadyH.nil
        exact AllReadyH.nil
      exact AllReadyH.nil
    · obtain rfl : k = 4 := by omega
      go_wp2_with fail
      go_returns
      exact ⟨rfl, HT.out.2.2⟩

theorem L_eqVectorS (x y : Int) (w : World) : Calls Tryd.prog 28 #[.agg #[.int .i64 x, .int .i64 y], .agg #[.int .i64 x, .int .i64 y]] w fun e w' => e = .returned (.bool true) ∧ Below w.heap.size w w' := by
  go_enter Tryd.func28, Tryd.ntmps28
  go_wp2
  go_returns
  exact ⟨rfl, (by repeat' (first | (with_reducible exact Below.refl _ _) | (with_reducible refine Below.adds_ ?_ ?_ _ _) | (with_reducible refine Below.alloc ?_ ?_ _) | (with_reducible refine Below.drew ?_) | (with_reducible refine Below.setCell ?_ ?_ _) | (with_reducible assumption) | go_size | (simp only [size_addsW, World.size_alloc, World.size_drew, World.size_setCell]; omega)))⟩

theorem Blk.addsE {W : World} {g : Nat} {cs : Array Value} {t : TypeId} (h : Blk W g cs t) (os : Array Obj) (n : Nat) : (addsW W os n).heap[g]? = some (.cells cs t (0, 0)) := (heap_addsW _ _ _ _ h.lt).trans h

set_option maxRecDepth 100000 in
set_option maxHeartbeats 2000000 in
theorem L_eqMacro (zs : List Int) (w : World) (hz : zs.length = 71) :
    Calls Tryd.prog 9 #[.agg (rowI zs), .agg (rowI zs)] w fun e w' => e = .returned (.bool true) ∧ Below w.heap.size w w' := by
  have HZ := Lib.hid hz
  have h0 := rowI_get (zs := zs) (j := 0) (by omega)
  have h1 := rowI_get (zs := zs) (j := 1) (by omega)
  have h2 := rowI_get (zs := zs) (j := 2) (by omega)
  generalize zs.getD 0 0 = z0 at h0
  generalize zs.getD 1 0 = z1 at h1
  generalize zs.getD 2 0 = z2 at h2
  have lm : (sub zs 3 4).length = 4 := sub_len (by omega)
  have ll : (sub zs 7 64).length = 64 := sub_len (by omega)
  have C4 := Lib.hid (show ∀ W, Calls Tryd.prog 29 #[.agg (rowI (sub zs 3 4)), .agg (rowI (sub zs 3 4))] W fun e w' => e = .returned (.bool true) ∧ Below W.heap.size W w' from fun W => L_eqIntA4 _ W lm)
  have C64 := Lib.hid (show ∀ W, Calls Tryd.prog 30 #[.agg (rowI (sub zs 7 64)), .agg (rowI (sub zs 7 64))] W fun e w' => e = .returned (.bool true) ∧ Below W.heap.size W w' from fun W => L_eqIntA16A4 _ W ll)
  clear hz lm ll
  have HT := Lib.hid (Tw.start w zs 33)
  go_enter Tryd.func9, Tryd.ntmps9
  go_upto_region 1 with fail
  have c0 := HT.out.1.get h0
  have c1 := HT.out.1.get h1
  have c2 := HT.out.1.get h2
  have d0 := HT.out.2.1.get h0
  have d1 := HT.out.2.1.get h1
  have d2 := HT.out.2.1.get h2
  have l1 := HT.out.1.lt
  have l2 := HT.out.2.1.lt
  have hB := Lib.hid HT.out.2.2
  clear h0 h1 h2
  generalize (w.alloc (.cells (rowI zs) 33)).alloc (.cells (rowI zs) 33) = W at *
  go_wp2_with (first | (focus ((with_reducible refine wpList_wanted ?_ (fun K hK => ?_)); rotate_left; (refine wp_load_sub 29 (.tmp 16) ?ho w.heap.size 3 4 ?hx 33 zs (0, 0) _ ?hg Tryd.underlying29 rfl infoA4 ?hs (hK _ _ ?_)); (case ho => with_reducible rfl); (case hx => rfl); (case hg => exact HT.out.1.addsE _ _); (case hs => rw [HZ.out]; omega); rotate_left; rfl)) | (focus ((with_reducible refine wpList_wanted ?_ (fun K hK => ?_)); rotate_left; (refine wp_load_sub 29 (.tmp 18) ?ho (w.heap.size + 1) 3 4 ?hx 33 zs (0, 0) _ ?hg Tryd.underlying29 rfl infoA4 ?hs (hK _ _ ?_)); (case ho => with_reducible rfl); (case hx => rfl); (case hg => exact HT.out.2.1.addsE _ _); (case hs => rw [HZ.out]; omega); rotate_left; rfl)) | (focus ((with_reducible refine wpList_wanted ?_ (fun K hK => ?_)); rotate_left; (refine wp_load_sub 31 (.tmp 22) ?ho w.heap.size 7 64 ?hx 33 zs (0, 0) _ ?hg Tryd.underlying31 rfl infoA64 ?hs (hK _ _ ?_)); (case ho => with_reducible rfl); (case hx => rfl); (case hg => exact HT.out.1.addsE _ _); (case hs => rw [HZ.out]; omega); rotate_left; rfl)) | (focus ((with_reducible refine wpList_wanted ?_ (fun K hK => ?_)); rotate_left; (refine wp_load_sub 31 (.tmp 24) ?ho (w.heap.size + 1) 7 64 ?hx 33 zs (0, 0) _ ?hg Tryd.underlying31 rfl infoA64 ?hs (hK _ _ ?_)); (case ho => with_reducible rfl); (case hx => rfl); (case hg => exact HT.out.2.1.addsE _ _); (case hs => rw [HZ.out]; omega); rotate_left; rfl)) | (go_at_call 28; refine (L_eqVectorS _ _ _).mono ?_; rintro e w' ⟨rfl, hb⟩; obtain ⟨o1, n1, rfl⟩ := below_adds hb; clear hb) | (go_at_call 29; refine (C4.out _).mono ?_; rintro e w' ⟨rfl, hb⟩; obtain ⟨o1, n1, rfl⟩ := below_adds hb; clear hb) | (go_at_call 30; refine (C64.out _).mono ?_; rintro e w' ⟨rfl, hb⟩; obtain ⟨o1, n1, rfl⟩ := below_adds hb; clear hb))
  go_returns
  exact ⟨rfl, Below.adds_ hB.out hB.out.size _ _⟩

end Go.Proofs.YtijccageaingjaaDoor
