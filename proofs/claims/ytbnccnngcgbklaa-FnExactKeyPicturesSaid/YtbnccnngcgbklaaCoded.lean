/- Coded pictures: compared, copied, sized. -/
import Derived.Test.YtbnccnngcgbklaaSsT
import Derived.Test.YtbnccnngcgbklaaArm
import Derived.Deep.DeepCutAuto
namespace Go.Proofs.Ytbnccnngcgbklaa
open Go.RowKit
set_option linter.unusedVariables false
set_option linter.unusedSimpArgs false

attribute [local go_sem] size_addsW cell?_addsW frozen?_addsW setCell_addsW drew_addsW adds_addsW setCell_twice alloc_adds0 size_adds0 adds_adds0 sel2 sel3 sel4 sel5 sel6 sel7 sel8 sel9 lt_more lt_more2 lt_more3 lt_more4 adds_drew adds_drewN drewN_addsW ltA_1_1 ltA_1_2 ltA_1_3 ltA_1_4 ltA_1_5 ltA_1_6 ltA_2_1 ltA_2_2 ltA_2_3 ltA_2_4 ltA_2_5 ltA_2_6 ltA_3_1 ltA_3_2 ltA_3_3 ltA_3_4 ltA_3_5 ltA_3_6 ltA_4_1 ltA_4_2 ltA_4_3 ltA_4_4 ltA_4_5 ltA_4_6 ltA_5_1 ltA_5_2 ltA_5_3 ltA_5_4 ltA_5_5 ltA_5_6 ltA_6_1 ltA_6_2 ltA_6_3 ltA_6_4 ltA_6_5 ltA_6_6 ltA_7_1 ltA_7_2 ltA_7_3 ltA_7_4 ltA_7_5 ltA_7_6 ltA_8_1 ltA_8_2 ltA_8_3 ltA_8_4 ltA_8_5 ltA_8_6 ltA_9_1 ltA_9_2 ltA_9_3 ltA_9_4 ltA_9_5 ltA_9_6 ltA_10_1 ltA_10_2 ltA_10_3 ltA_10_4 ltA_10_5 ltA_10_6 ltA_11_1 ltA_11_2 ltA_11_3 ltA_11_4 ltA_11_5 ltA_11_6 ltA_12_1 ltA_12_2 ltA_12_3 ltA_12_4 ltA_12_5 ltA_12_6

set_option maxRecDepth 100000 in
set_option maxHeartbeats 1000000 in
theorem L_eqByteSS (A A' : Option Addr) (n cap cap' : Nat) (a a' : Nat → Option Addr) (l c c' : Nat → Nat) (z : Nat → List Int) (w : World) (h : SSAt w A n a l c z) (h' : SSAt w A' n a' l c' z) (hn : n + sm l n ≤ 1048576) :
    Calls Try.prog 25 #[.slice A n cap, .slice A' n cap'] w fun e w' => e = .returned (.bool true) ∧ Below w.heap.size w w' := by
  have HS := Lib.hid h
  have HS' := Lib.hid h'
  have HN := Lib.hid hn
  have hn1 : n ≤ 1048576 := by omega
  clear h h' hn
  go_enter Try.func25, Try.ntmps25
  go_wp2_with fail
  go_loopw [5] (fun v wr => ∃ k : Nat, k ≤ n ∧ v = .int .i64 (k : Int) ∧ Below w.heap.size w wr) (fun v _ => n - (intOf v).toNat)
  case atStart => exact ⟨0, by omega, rfl, Below.refl _ _⟩
  case round =>
    obtain ⟨k, hk, rfl, hb⟩ := hrel
    have HB := Lib.hid hb
    by_cases hlt : k < n
    · have hd1 : (k : Int) < (n : Int) := by omega
      obtain ⟨b, off, rfl, hbl, hc⟩ := HS.out.at_ hlt
      obtain ⟨b', off', rfl, hbl', hc'⟩ := HS'.out.at_ hlt
      have hck : wr.cell? ⟨b, off + k, none⟩ = some (.slice (a k) (l k) (c k)) := (hb.cell (p := ⟨b, off + k, none⟩) hbl).trans hc
      have hck' : wr.cell? ⟨b', off' + k, none⟩ = some (.slice (a' k) (l k) (c' k)) := (hb.cell (p := ⟨b', off' + k, none⟩) hbl').trans hc'
      have hsz := hb.size
      have hbw : b < wr.heap.size := by omega
      have hbw' : b' < wr.heap.size := by omega
      have CE := Lib.hid (show ∀ W, Below wr.heap.size wr W → Calls Try.prog 32 #[.slice (a k) (l k) (c k), .slice (a' k) (l k) (c' k)] W fun e w' => e = .returned (.bool true) ∧ Below W.heap.size W w' from fun W hW => by
        have hr := (((HS.out.2 k hlt).1).keep hb).keep hW
        have hr' := (((HS'.out.2 k hlt).1).keep hb).keep hW
        have hlm := sm_at l hlt
        have := HN.out
        have := L_eqByteS (a k) (a' k) (c k) (c' k) (z k) W hr hr' (by have := (HS.out.2 k hlt).2.1; omega)
        rw [(HS.out.2 k hlt).2.1] at this
        exact this)
      clear hc hc' hb
      generalize a k = ak at hck CE
      generalize c k = ck at hck CE
      generalize a' k = ak' at hck' CE
      generalize c' k = ck' at hck' CE
      generalize l k = lk at hck hck' CE
      go_upto_region 6 with fail
      refine wp_region_held_drew (S := (fun w' => w'.cell? ⟨b, off + k, none⟩ = some (.slice ak lk ck) ∧ w'.cell? ⟨b', off' + k, none⟩ = some (.slice ak' lk ck'))) (by kernel_rfl) ?_ (fun hHeld => ?_)
      · (first | (go_simp; done) | (go_keep; done))
      refine wpAnyH_take (i := 0) (oi := _) (v := ?_) rfl (by kernel_rfl) (by kernel_rfl) (by kernel_rfl) (fun _ _ _ h => h) (Or.inl ⟨by rfl, ?_⟩) (by assumption) ?_
      rotate_left
      · intro w hSw; (try dsimp only at hSw); go_simp; (try with_reducible rfl)
      try dsimp only [List.getElem_toArray, List.getElem_cons_succ, List.getElem_cons_zero]
      simp only [Act.put, List.setIfInBounds_toArray, List.set_cons_zero, List.set_cons_succ]
      refine wpAnyH_take (i := 1) (oi := _) (v := ?_) rfl (by kernel_rfl) (by kernel_rfl) (by kernel_rfl) (fun _ _ _ h => h) (Or.inl ⟨by rfl, ?_⟩) (by assumption) ?_
      rotate_left
      · intro w hSw; (try dsimp only at hSw); go_simp; (try with_reducible rfl)
      try dsimp only [List.getElem_toArray, List.getElem_cons_succ, List.getElem_cons_zero]
      simp only [Act.put, List.setIfInBounds_toArray, List.set_cons_zero, List.set_cons_succ]
      refine wpAnyH_take (i := 2) (oi := _) (v := ?_) rfl (by kernel_rfl) (by kernel_rfl) (by kernel_rfl) (fun _ _ _ h => h) (Or.inl ⟨by rfl, ?_⟩) (by assumption) ?_
      rotate_left
      · intro w hSw; (try dsimp only at hSw); go_simp; (try with_reducible rfl)
      try dsimp only [List.getElem_toArray, List.getElem_cons_succ, List.getElem_cons_zero]
      simp only [Act.put, List.setIfInBounds_toArray, List.set_cons_zero, List.set_cons_succ]
      refine wpAnyH_take (i := 3) (oi := _) (v := ?_) rfl (by kernel_rfl) (by kernel_rfl) (by kernel_rfl) (fun _ _ _ h => h) (Or.inl ⟨by rfl, ?_⟩) (by assumption) ?_
      rotate_left
      · intro w hSw; (try dsimp only at hSw); go_simp; (try with_reducible rfl)
      try dsimp only [List.getElem_toArray, List.getElem_cons_succ, List.getElem_cons_zero]
      simp only [Act.put, List.setIfInBounds_toArray, List.set_cons_zero, List.set_cons_succ]
      refine wpAnyH_take (i := 4) (oi := _) (v := ?_) rfl (by kernel_rfl) (by kernel_rfl) (by kernel_rfl) (fun _ _ _ h => h) (Or.inl ⟨by rfl, ?_⟩) (by assumption) ?_
      rotate_left
      · intro w hSw; (try dsimp only at hSw); go_simp; (try with_reducible rfl)
      try dsimp only [List.getElem_toArray, List.getElem_cons_succ, List.getElem_cons_zero]
      simp only [Act.put, List.setIfInBounds_toArray, List.set_cons_zero, List.set_cons_succ]
      refine wpAnyH_take (i := 5) (oi := _) (v := ?_) rfl (by kernel_rfl) (by kernel_rfl) (by kernel_rfl) (fun _ _ _ h => h) (Or.inl ⟨by rfl, ?_⟩) (by assumption) ?_
      rotate_left
      · intro w hSw; (try dsimp only at hSw); go_simp; (try with_reducible rfl)
      try dsimp only [List.getElem_toArray, List.getElem_cons_succ, List.getElem_cons_zero]
      simp only [Act.put, List.setIfInBounds_toArray, List.set_cons_zero, List.set_cons_succ]
      refine wpAnyH_take (i := 6) (oi := _) (v := ?_) rfl (by kernel_rfl) (by kernel_rfl) (by kernel_rfl) (fun _ _ _ h => h) (Or.inl ⟨by rfl, ?_⟩) (by assumption) ?_
      rotate_left
      · intro w hSw; (try dsimp only at hSw); go_simp; (try with_reducible rfl)
      try dsimp only [List.getElem_toArray, List.getElem_cons_succ, List.getElem_cons_zero]
      simp only [Act.put, List.setIfInBounds_toArray, List.set_cons_zero, List.set_cons_succ]
      refine wpAnyH_take (i := 7) (oi := _) (v := ?_) rfl (by kernel_rfl) (by kernel_rfl) (by kernel_rfl) (fun _ _ _ h => h) (Or.inl ⟨by rfl, ?_⟩) (by assumption) ?_
      rotate_left
      · intro w hSw; (try dsimp only at hSw); go_simp; (try with_reducible rfl)
      try dsimp only [List.getElem_toArray, List.getElem_cons_succ, List.getElem_cons_zero]
      simp only [Act.put, List.setIfInBounds_toArray, List.set_cons_zero, List.set_cons_succ]
      refine wpAnyH_ready (rs := [8]) (by kernel_rfl) (by simp) ?_
      refine AllReadyH.cons (o := _) rfl (fun K hK => ?_) ?_
      · (try dsimp only [List.getElem_toArray, List.getElem_cons_succ, List.getElem_cons_zero]); go_simp
        (go_at_call 32; refine (CE.out _ (by repeat' (first | (with_reducible exact Below.refl _ _) | (with_reducible refine Below.adds_ ?_ ?_ _ _) | (with_reducible refine Below.alloc ?_ ?_ _) | (with_reducible refine Below.drew ?_) | (with_reducible refine Below.setCell ?_ ?_ _) | (with_reducible assumption) | go_size | (simp only [size_addsW, World.size_alloc, World.size_drew, World.size_setCell]; omega)))).mono ?_; rintro e w' ⟨rfl, hb⟩; obtain ⟨o2, n2, rfl⟩ := below_adds hb; clear hb)
        try go_wp2_with fail
        refine hK.out _ _ ?_ (fun hHeld => ?_)
        · (first | (go_simp; done) | (go_keep; done))
        clear hK K
        try simp only [Act.put, List.setIfInBounds_toArray, List.set_cons_zero, List.set_cons_succ]
        refine wpAnyH_take (i := 9) (oi := _) (v := ?_) rfl (by kernel_rfl) (by kernel_rfl) (by kernel_rfl) (fun _ _ _ h => h) (Or.inl ⟨by rfl, ?_⟩) (by assumption) ?_
        rotate_left
        · intro w hSw; (try dsimp only at hSw); go_simp; (try with_reducible rfl)
        try dsimp only [List.getElem_toArray, List.getElem_cons_succ, List.getElem_cons_zero]
        simp only [Act.put, List.setIfInBounds_toArray, List.set_cons_zero, List.set_cons_succ]
        refine wpAnyH_done (by kernel_rfl) ?_ _
        go_wp2_with fail
        go_roundw
        case rel => exact ⟨k + 1, by omega, by go_num, HB.out.trans ((show Below wr.heap.size wr _ from (by repeat' (first | (with_reducible exact Below.refl _ _) | (with_reducible refine Below.adds_ ?_ ?_ _ _) | (with_reducible refine Below.alloc ?_ ?_ _) | (with_reducible refine Below.drew ?_) | (with_reducible refine Below.setCell ?_ ?_ _) | (with_reducible assumption) | go_size | (simp only [size_addsW, World.size_alloc, World.size_drew, World.size_setCell]; omega)))).mono hsz)⟩
        case measure => simp [intOf]; omega
      exact AllReadyH.nil
    · obtain rfl : k = n := by omega
      clear hb
      go_wp2_with fail
      go_returns
      exact ⟨rfl, HB.out⟩

def cdA (x y : Int) (i : Bool) (q : Int) (A : Option Addr) (n cap : Nat) : Array Value := #[.int .i64 x, .int .i64 y, .bool i, .int .i64 q, .slice A n cap]

theorem L_szCoded (x y : Int) (i : Bool) (q : Int) (A : Option Addr) (n cap : Nat) (a : Nat → Option Addr) (l c : Nat → Nat) (z : Nat → List Int) (left : Int) (w : World) (h : SSAt w A n a l c z) (hn : n ≤ 9223372036854775807) (hl : 0 ≤ left ∧ left ≤ 1048576) :
    Calls Try.prog 6 #[.agg (cdA x y i q A n cap), .int .i64 left] w fun e w' => e = .returned (.int .i64 (if left < (n : Int) + (sm l n : Nat) then -1 else left - ((n : Int) + (sm l n : Nat)))) ∧ Below w.heap.size w w' := by
  have HS := Lib.hid h
  clear h
  have CZ := Lib.hid (show ∀ W, Below w.heap.size w W → Calls Try.prog 23 #[.slice A n cap, .int .i64 left] W fun e w' => e = .returned (.int .i64 (if left < (n : Int) + (sm l n : Nat) then -1 else left - ((n : Int) + (sm l n : Nat)))) ∧ W = w' from fun W hW => L_szByteSS A n cap a l c z left W (HS.out.keep hW) hn hl)
  unfold cdA
  by_cases hc : left < (n : Int) + (sm l n : Nat)
  · rw [if_pos hc] at CZ ⊢
    go_enter Try.func6, Try.ntmps6
    go_wp2_with (go_at_call 23; refine (CZ.out _ (by repeat' (first | (with_reducible exact Below.refl _ _) | (with_reducible refine Below.adds_ ?_ ?_ _ _) | (with_reducible refine Below.alloc ?_ ?_ _) | (with_reducible refine Below.drew ?_) | (with_reducible refine Below.setCell ?_ ?_ _) | (with_reducible assumption) | go_size | (simp only [size_addsW, World.size_alloc, World.size_drew, World.size_setCell]; omega)))).mono ?_; rintro e w' ⟨rfl, rfl⟩)
    go_returns
    exact ⟨rfl, (by repeat' (first | (with_reducible exact Below.refl _ _) | (with_reducible refine Below.adds_ ?_ ?_ _ _) | (with_reducible refine Below.alloc ?_ ?_ _) | (with_reducible refine Below.drew ?_) | (with_reducible refine Below.setCell ?_ ?_ _) | (with_reducible assumption) | go_size | (simp only [size_addsW, World.size_alloc, World.size_drew, World.size_setCell]; omega)))⟩
  · rw [if_neg hc] at CZ ⊢
    have hr0 : 0 ≤ left - ((n : Int) + (sm l n : Nat)) := by omega
    generalize left - ((n : Int) + (sm l n : Nat)) = r at CZ hr0 ⊢
    go_enter Try.func6, Try.ntmps6
    go_wp2_with (go_at_call 23; refine (CZ.out _ (by repeat' (first | (with_reducible exact Below.refl _ _) | (with_reducible refine Below.adds_ ?_ ?_ _ _) | (with_reducible refine Below.alloc ?_ ?_ _) | (with_reducible refine Below.drew ?_) | (with_reducible refine Below.setCell ?_ ?_ _) | (with_reducible assumption) | go_size | (simp only [size_addsW, World.size_alloc, World.size_drew, World.size_setCell]; omega)))).mono ?_; rintro e w' ⟨rfl, rfl⟩)
    go_returns
    exact ⟨rfl, (by repeat' (first | (with_reducible exact Below.refl _ _) | (with_reducible refine Below.adds_ ?_ ?_ _ _) | (with_reducible refine Below.alloc ?_ ?_ _) | (with_reducible refine Below.drew ?_) | (with_reducible refine Below.setCell ?_ ?_ _) | (with_reducible assumption) | go_size | (simp only [size_addsW, World.size_alloc, World.size_drew, World.size_setCell]; omega)))⟩

theorem L_eqCoded (x y : Int) (i : Bool) (q : Int) (A A' : Option Addr) (n cap cap' : Nat) (a a' : Nat → Option Addr) (l c c' : Nat → Nat) (z : Nat → List Int) (w : World) (h : SSAt w A n a l c z) (h' : SSAt w A' n a' l c' z) (hn : n + sm l n ≤ 1048576) :
    Calls Try.prog 10 #[.agg (cdA x y i q A n cap), .agg (cdA x y i q A' n cap')] w fun e w' => e = .returned (.bool true) ∧ Below w.heap.size w w' := by
  have HS := Lib.hid h
  have HS' := Lib.hid h'
  clear h h'
  have CE := Lib.hid (show ∀ W, Below w.heap.size w W → Calls Try.prog 25 #[.slice A n cap, .slice A' n cap'] W fun e w' => e = .returned (.bool true) ∧ Below W.heap.size W w' from fun W hW => L_eqByteSS A A' n cap cap' a a' l c c' z W (HS.out.keep hW) (HS'.out.keep hW) hn)
  unfold cdA
  cases i
  all_goals
    go_enter Try.func10, Try.ntmps10
    go_wp2_with (go_at_call 25; refine (CE.out _ (by repeat' (first | (with_reducible exact Below.refl _ _) | (with_reducible refine Below.adds_ ?_ ?_ _ _) | (with_reducible refine Below.alloc ?_ ?_ _) | (with_reducible refine Below.drew ?_) | (with_reducible refine Below.setCell ?_ ?_ _) | (with_reducible assumption) | go_size | (simp only [size_addsW, World.size_alloc, World.size_drew, World.size_setCell]; omega)))).mono ?_; rintro e w' ⟨rfl, hb⟩; obtain ⟨o1, n1, rfl⟩ := below_adds hb; clear hb)
    go_returns
    exact ⟨rfl, (by repeat' (first | (with_reducible exact Below.refl _ _) | (with_reducible refine Below.adds_ ?_ ?_ _ _) | (with_reducible refine Below.alloc ?_ ?_ _) | (with_reducible refine Below.drew ?_) | (with_reducible refine Below.setCell ?_ ?_ _) | (with_reducible assumption) | go_size | (simp only [size_addsW, World.size_alloc, World.size_drew, World.size_setCell]; omega)))⟩

set_option maxRecDepth 100000 in
theorem I_CodedSize (x y : Int) (i : Bool) (q : Int) (A : Option Addr) (n cap : Nat) (a : Nat → Option Addr) (l c : Nat → Nat) (z : Nat → List Int) (w : World) (h : SSAt w A n a l c z) (hn : n + sm l n ≤ 1048576) :
    Calls Try.prog 9 #[.agg (cdA x y i q A n cap)] w fun e w' => e = .returned (.int .i64 (sm l n : Nat)) ∧ Below w.heap.size w w' := by
  have HS := Lib.hid h
  have hn1 : n ≤ 1048576 := by omega
  have HN := Lib.hid hn
  clear h hn
  unfold cdA
  go_enter Try.func9, Try.ntmps9
  go_wp2_with fail
  go_loop [3, 9] (fun t v => ∃ k : Nat, k ≤ n ∧ t = .int .i64 (sm l k : Nat) ∧ v = .int .i64 (k : Int)) (fun _ v => n - (intOf v).toNat)
  case atStart => exact ⟨0, by omega, rfl, rfl⟩
  case round =>
    obtain ⟨k, hk, rfl, rfl⟩ := hrel
    by_cases hlt : k < n
    · have hd1 : (k : Int) < (n : Int) := by omega
      obtain ⟨b, off, rfl, hbl, hc⟩ := HS.out.at_ hlt
      have hlm := sm_le l (show k + 1 ≤ n by omega)
      have hs1 : sm l (k + 1) = sm l k + l k := rfl
      have hnn := HN.out
      have hb1 : sm l k + l k ≤ 1048576 := by omega
      have HQ := Lib.hid (show ((sm l k : Nat) : Int) + (l k : Nat) = (sm l (k + 1) : Nat) by rw [hs1]; omega)
      clear hlm hs1 hnn
      generalize a k = ak at hc
      generalize c k = ck at hc
      generalize l k = lk at hc hb1 HQ
      generalize sm l k = s at hb1 HQ
      go_wp2_with fail
      go_round
      case rel => exact ⟨k + 1, by omega, by rw [HQ.out], by go_num⟩
      case measure => simp [intOf]; omega
    · obtain rfl : k = n := by omega
      go_wp2_with fail
      go_returns
      exact ⟨rfl, (by repeat' (first | (with_reducible exact Below.refl _ _) | (with_reducible refine Below.adds_ ?_ ?_ _ _) | (with_reducible refine Below.alloc ?_ ?_ _) | (with_reducible refine Below.drew ?_) | (with_reducible refine Below.setCell ?_ ?_ _) | (with_reducible assumption) | go_size | (simp only [size_addsW, World.size_alloc, World.size_drew, World.size_setCell]; omega)))⟩

set_option maxRecDepth 100000 in
theorem S_CodedSize (x y : Int) (i : Bool) (q : Int) (A : Option Addr) (n cap : Nat) (a : Nat → Option Addr) (l c : Nat → Nat) (z : Nat → List Int) (w : World) (h : SSAt w A n a l c z) (hn : n + sm l n ≤ 1048576) :
    Calls Try.prog 7 #[.agg (cdA x y i q A n cap)] w fun e w' => e = .returned (.int .i64 (sm l n : Nat)) ∧ Below w.heap.size w w' := by
  have HS := Lib.hid h
  have hn1 : n ≤ 1048576 := by omega
  have HN := Lib.hid hn
  clear h hn
  unfold cdA
  go_enter Try.func7, Try.ntmps7
  go_wp2_with fail
  go_loop [3, 4] (fun t v => ∃ k : Nat, k ≤ n ∧ t = .int .i64 (sm l k : Nat) ∧ v = .int .i64 (k : Int)) (fun _ v => n - (intOf v).toNat)
  case atStart => exact ⟨0, by omega, rfl, rfl⟩
  case round =>
    obtain ⟨k, hk, rfl, rfl⟩ := hrel
    by_cases hlt : k < n
    · have hd1 : (k : Int) < (n : Int) := by omega
      obtain ⟨b, off, rfl, hbl, hc⟩ := HS.out.at_ hlt
      have hlm := sm_le l (show k + 1 ≤ n by omega)
      have hs1 : sm l (k + 1) = sm l k + l k := rfl
      have hnn := HN.out
      have hb1 : sm l k + l k ≤ 1048576 := by omega
      have HQ := Lib.hid (show ((sm l k : Nat) : Int) + (l k : Nat) = (sm l (k + 1) : Nat) by rw [hs1]; omega)
      clear hlm hs1 hnn
      generalize a k = ak at hc
      generalize c k = ck at hc
      generalize l k = lk at hc hb1 HQ
      generalize sm l k = s at hb1 HQ
      go_wp2_with fail
      go_round
      case rel => exact ⟨k + 1, by omega, by rw [HQ.out], by go_num⟩
      case measure => simp [intOf]; omega
    · obtain rfl : k = n := by omega
      go_wp2_with fail
      go_returns
      exact ⟨rfl, (by repeat' (first | (with_reducible exact Below.refl _ _) | (with_reducible refine Below.adds_ ?_ ?_ _ _) | (with_reducible refine Below.alloc ?_ ?_ _) | (with_reducible refine Below.drew ?_) | (with_reducible refine Below.setCell ?_ ?_ _) | (with_reducible assumption) | go_size | (simp only [size_addsW, World.size_alloc, World.size_drew, World.size_setCell]; omega)))⟩

end Go.Proofs.Ytbnccnngcgbklaa
