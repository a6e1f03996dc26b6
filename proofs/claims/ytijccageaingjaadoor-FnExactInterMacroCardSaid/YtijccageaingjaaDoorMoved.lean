/- The block that a vector predicts: sixty-four half samples. -/
import Derived.Test.YtijccageaingjaaDoorPicS
import Derived.Test.YtijccageaingjaaDoorApp
import Derived.Test.YtijccageaingjaaDoorMark
import Derived.LoopTactic
namespace Go.Proofs.YtijccageaingjaaDoor
open Go.RowKit
set_option linter.unusedVariables false
set_option linter.unusedSimpArgs false

attribute [local go_sem] size_addsW cell?_addsW frozen?_addsW setCell_addsW drew_addsW adds_addsW setCell_twice alloc_adds0 size_adds0 adds_adds0 sel2 sel3 sel4 sel5 sel6 sel7 sel8 sel9 lt_more lt_more2 lt_more3 lt_more4 adds_drew adds_drewN drewN_addsW ltA_1_1 ltA_1_2 ltA_1_3 ltA_1_4 ltA_1_5 ltA_1_6 ltA_2_1 ltA_2_2 ltA_2_3 ltA_2_4 ltA_2_5 ltA_2_6 ltA_3_1 ltA_3_2 ltA_3_3 ltA_3_4 ltA_3_5 ltA_3_6 ltA_4_1 ltA_4_2 ltA_4_3 ltA_4_4 ltA_4_5 ltA_4_6 ltA_5_1 ltA_5_2 ltA_5_3 ltA_5_4 ltA_5_5 ltA_5_6 ltA_6_1 ltA_6_2 ltA_6_3 ltA_6_4 ltA_6_5 ltA_6_6 ltA_7_1 ltA_7_2 ltA_7_3 ltA_7_4 ltA_7_5 ltA_7_6 ltA_8_1 ltA_8_2 ltA_8_3 ltA_8_4 ltA_8_5 ltA_8_6 ltA_9_1 ltA_9_2 ltA_9_3 ltA_9_4 ltA_9_5 ltA_9_6 ltA_10_1 ltA_10_2 ltA_10_3 ltA_10_4 ltA_10_5 ltA_10_6 ltA_11_1 ltA_11_2 ltA_11_3 ltA_11_4 ltA_11_5 ltA_11_6 ltA_12_1 ltA_12_2 ltA_12_3 ltA_12_4 ltA_12_5 ltA_12_6

/-- sample k of the block -/
def mvF (a b : Int) (zs : List Int) (x y u v : Int) (k : Nat) : Int := halfV a b zs (2 * (x + (k % 8 : Nat)) + u) (2 * (y + (k / 8 : Nat)) + v)
def mvL (a b : Int) (zs : List Int) (x y u v : Int) (n : Nat) : List Int := (List.range n).map (mvF a b zs x y u v)
theorem mvL_len (a b : Int) (zs : List Int) (x y u v : Int) (n : Nat) : (mvL a b zs x y u v n).length = n := by simp [mvL]
theorem mvL_succ (a b : Int) (zs : List Int) (x y u v : Int) (n : Nat) : mvL a b zs x y u v (n + 1) = mvL a b zs x y u v n ++ [mvF a b zs x y u v n] := by simp [mvL, List.range_succ]
theorem mvF_at (a b : Int) (zs : List Int) (x y u v : Int) (i j : Nat) (hi : i < 8) : mvF a b zs x y u v (8 * j + i) = halfV a b zs (2 * (x + (i : Int)) + u) (2 * (y + (j : Int)) + v) := by
  unfold mvF
  rw [show (8 * j + i) % 8 = i by omega, show (8 * j + i) / 8 = j by omega]

/-- the list so far, behind the boxes W0 -/
def MvInv (W0 : World) (l : List Int) (v : Value) (wr : World) : Prop :=
  ∃ (oo : Array Obj) (nn : Nat), wr = addsW W0 oo nn ∧ wr.ownsRow W0.heap.size 3 1 v l.length (l.map (Value.int .i64))
def MvOut (W0 : World) (L : Nat → List Int) (v j : Value) (wr : World) : Prop := ∃ k : Nat, k ≤ 8 ∧ j = .int .i64 (k : Int) ∧ MvInv W0 (L (8 * k)) v wr
def MvIn (W0 : World) (L : Nat → List Int) (k : Nat) (v i : Value) (wr : World) : Prop := ∃ m : Nat, m ≤ 8 ∧ i = .int .i64 (m : Int) ∧ MvInv W0 (L (8 * k + m)) v wr

theorem own_made_g (W : World) (cur : Array Value) (e : TypeId) (cap g : Nat) (hg : g = W.heap.size) (hm : cap ≤ maxLen) (hs : cur.size = cap * 1) : (W.alloc (.cells cur e)).ownsRow W.heap.size e 1 (.slice (some ⟨g, 0, none⟩) 0 cap) 0 [] := by
  subst hg; exact World.ownsRow_made (base := W.heap.size) (e := e) (size := 1) W cur cap (Nat.le_refl _) hm hs
theorem app_go {W0 W' w1 : World} {base E n s : Nat} {row : Option Nat} {v' : Value} {xs : List Value} (hown : w1.ownsRow base E s v' n xs) (hg : W'.grownBy w1 row) (hb : Below W0.heap.size W0 W') (hr : ∀ k, row = some k → W0.heap.size ≤ k) :
    ∃ (A : Option Addr) (c : Nat) (oo : Array Obj) (nn : Nat), v' = .slice A n c ∧ w1 = addsW W0 oo nn ∧ (addsW W0 oo nn).ownsRow base E s (.slice A n c) n xs := by
  obtain ⟨oo, nn, h⟩ := below_adds (hb.grown hg hb.size hr)
  obtain ⟨A, c, e, _⟩ := own_shape hown
  subst e
  subst h
  exact ⟨A, c, oo, nn, rfl, rfl, hown⟩

theorem Soft.of_own {w : World} {base E s n : Nat} {A : Option Addr} {m c : Nat} {xs : List Value} (h : w.ownsRow base E s (.slice A m c) n xs) : Soft w A := fun d hd => by
  obtain ⟨hl, h⟩ := h
  rcases h with ⟨h, _⟩ | ⟨g, cap, cur, h, hb, hg, _⟩
  · injection h with h; rw [h] at hd; cases hd
  · injection h with h; rw [h] at hd; cases hd; exact ⟨cur, E, hg⟩
theorem Soft.new_ {w : World} (cur : Array Value) (t g : Nat) (hg : g = w.heap.size) : Soft (w.alloc (.cells cur t)) (some ⟨g, 0, none⟩) := fun d hd => by
  subst hg; cases hd; exact ⟨cur, t, heap_alloc_new w _⟩

theorem below_more (w : World) (os os' : Array Obj) (n n' : Nat) : Below (addsW w os n).heap.size (addsW w os n) (addsW w (os ++ os') n') := by
  rw [← adds_addsW]; exact addsW_below _ _ _
theorem own_lit_g (W : World) (e : TypeId) (g : Nat) (hg : g = W.heap.size) : (W.alloc (.cells #[] e)).ownsRow W.heap.size e 1 (.slice (some ⟨g, 0, none⟩) 0 0) 0 [] := by
  subst hg; exact World.ownsRow_lit (base := W.heap.size) (e := e) (size := 1) W #[] 0 (Nat.le_refl _) (by decide) rfl
theorem alloc_as (w : World) (o : Obj) : w.alloc o = addsW w #[o] w.drawn := by
  show (⟨w.heap.push o, w.tape, w.drawn, w.os, w.output⟩ : World) = ⟨w.heap ++ #[o], w.tape, w.drawn, w.os, w.output⟩
  rw [Array.push_eq_append]

/-- a list of numbers in new memory -/
def ListGot (l : List Int) (w : World) (e : Ending) (w' : World) : Prop :=
  ∃ (A : Option Addr) (c : Nat), e = .returned (.slice A l.length c) ∧ RowAt .i64 w' A l ∧ (∀ d, A = some d → w.heap.size ≤ d.block) ∧ Soft w' A ∧ Below w.heap.size w w'

theorem infoIntM : (Tryd.prog.info? 3).map (fun i => (i.zero, i.size, i.bytes)) = some (some (.int .i64 0), 1, 8) := by kernel_rfl

set_option maxRecDepth 100000 in
set_option maxHeartbeats 2000000 in
theorem S_l7Block (a b x y u v : Int) (A : Option Addr) (c : Nat) (zs : List Int) (w : World) (hr : RowAt .i64 w A zs) (hv : picB a b zs = true) (hx : -1000 ≤ x ∧ x ≤ 1000) (hy : -1000 ≤ y ∧ y ≤ 1000) (hu : -1000 ≤ u ∧ u ≤ 1000) (hw : -1000 ≤ v ∧ v ≤ 1000) :
    Calls Tryd.prog 33 #[.agg #[.int .i64 a, .int .i64 b, .slice A zs.length c], .int .i64 x, .int .i64 y, .agg #[.int .i64 u, .int .i64 v]] w (ListGot (mvL a b zs x y u v 64) w) := by
  have HR := Lib.hid hr
  have HV := Lib.hid hv
  clear hr hv
  obtain ⟨i0, hi, hz0, hz1, hz2⟩ := info_parts infoIntM
  skip
  go_enter Tryd.func33, Tryd.ntmps33
  go_wp2_with fail
  go_loopw [9, 10, 11] (fun s9 j s11 wr => MvOut ((w.alloc (.cells #[.int .i64 a, .int .i64 b, .slice A zs.length c] 35)).alloc (.cells #[.int .i64 u, .int .i64 v] 28)) (mvL a b zs x y u v) s9 j wr) (fun _ i _ _ => 8 - (intOf i).toNat)
  case atStart =>
    refine ⟨0, by omega, rfl, ?_⟩
    exact ⟨#[.cells #[] 3], _, alloc_as _ _, own_lit_g _ _ _ (by simp)⟩
  case round =>
    obtain ⟨k, hk, rfl, oo, nn, rfl, hown⟩ := hrel
    have HO := Lib.hid hown
    clear hown
    by_cases hlt : k < 8
    · have hd1 : decide ((k : Int) < 8) = true := by simp; omega
      go_wp2_with fail
      go_loopw [9, 11] (fun s9 i wr => MvIn ((w.alloc (.cells #[.int .i64 a, .int .i64 b, .slice A zs.length c] 35)).alloc (.cells #[.int .i64 u, .int .i64 v] 28)) (mvL a b zs x y u v) k s9 i wr) (fun _ i _ => 8 - (intOf i).toNat)
      case atStart => exact ⟨0, by omega, rfl, oo, nn, rfl, HO.out⟩
      case round =>
        obtain ⟨m, hm, rfl, oo2, nn2, rfl, hown2⟩ := hrel
        have HO2 := Lib.hid hown2
        clear hown2
        by_cases hlt2 : m < 8
        · have HF := Lib.hid (mvF_at a b zs x y u v m k hlt2)
          have HS := Lib.hid (mvL_succ a b zs x y u v (8 * k + m))
          have hln : (mvL a b zs x y u v (8 * k + m)).length ≤ 64 := by rw [mvL_len]; omega
          go_wp2_with (first | (go_at_call 44; refine (S_l7Half a b _ _ _ _ zs _ (HR.out.keep (by repeat' (first | (with_reducible exact Below.refl _ _) | (with_reducible refine Below.adds_ ?_ ?_ _ _) | (with_reducible refine Below.alloc ?_ ?_ _) | (with_reducible refine Below.drew ?_) | (with_reducible refine Below.setCell ?_ ?_ _) | (with_reducible assumption) | go_size | (simp only [size_addsW, World.size_alloc, World.size_drew, World.size_setCell]; omega)))) HV.out (by omega) (by omega)).mono ?_; rintro e w' ⟨rfl, hb⟩; obtain ⟨o1, n1, rfl⟩ := below_adds hb; clear hb) | (at_builtin; refine wpList_append_own _ rfl _ _ 22 rfl ((w.alloc (.cells #[.int .i64 a, .int .i64 b, .slice A zs.length c] 35)).alloc (.cells #[.int .i64 u, .int .i64 v] 28)).heap.size 3 i0 (.int .i64 0) 1 8 Tryd.underlying22 hi hz0 hz1 hz2 rfl (by decide) _ _ _ rfl ((ownsRow_below HO2.out (below_more _ _ _ _ _)).alloc _) ⟨_, 0, none⟩ 1 1 [.int .i64 (halfV a b zs (2 * (x + (m : Int)) + u) (2 * (y + (k : Int)) + v))] rfl rfl (news1 (by go_simp; done)) (one1 rfl) (by unfold maxLen; omega) (by omega) (by simp only [size_addsW, World.size_alloc]; omega) ?_; intro v' w1 hown1 hgrow1 _; obtain ⟨A1, c1, oo3, nn3, rfl, rfl, ho3⟩ := app_go (W0 := ((w.alloc (.cells #[.int .i64 a, .int .i64 b, .slice A zs.length c] 35)).alloc (.cells #[.int .i64 u, .int .i64 v] 28))) hown1 hgrow1 (by repeat' (first | (with_reducible exact Below.refl _ _) | (with_reducible refine Below.adds_ ?_ ?_ _ _) | (with_reducible refine Below.alloc ?_ ?_ _) | (with_reducible refine Below.drew ?_) | (with_reducible refine Below.setCell ?_ ?_ _) | (with_reducible assumption) | go_size | (simp only [size_addsW, World.size_alloc, World.size_drew, World.size_setCell]; omega))) (fun q e => (HO2.out.lt q e).1); clear hown1 hgrow1))
          go_roundw
          case rel =>
            first | refine ⟨m + 1, by omega, by go_num, oo3, nn3, rfl, ?_⟩ | (repeat (refine Exists.intro _ ?_); refine ⟨⟨m + 1, by omega, by go_num, oo3, nn3, rfl, ?_⟩, rfl⟩)
            rw [show 8 * k + (m + 1) = 8 * k + m + 1 from rfl, HS.out, HF.out, List.map_append, List.length_append]
            exact ho3
          case measure => simp [intOf]; omega
        · obtain rfl : m = 8 := by omega
          go_wp2_with fail
          go_roundw
          case rel => exact ⟨k + 1, by omega, by go_num, oo2, nn2, rfl, HO2.out⟩
          case measure => simp [intOf]; omega
    · obtain rfl : k = 8 := by omega
      have hfin := RowAt.of_ownS HO.out
      obtain ⟨A1, c1, e1, -, -, -, hr1, hA1⟩ := hfin
      have hsf := Soft.of_own (e1 ▸ HO.out)
      have hA2 : ∀ d, A1 = some d → w.heap.size ≤ d.block := by
        intro d hd
        have hlt1 := HO.out.lt
        rw [e1, hd] at hlt1
        have := (hlt1 d.block rfl).1
        simp at this
        omega
      subst e1
      have HR1 := Lib.hid hr1
      have HA2 := Lib.hid hA2
      have HSF := Lib.hid hsf
      clear hr1 hA1 hA2 HO hsf
      go_wp2_with fail
      go_ret
      exact ⟨A1, c1, rfl, HR1.out, HA2.out, HSF.out, (by repeat' (first | (with_reducible exact Below.refl _ _) | (with_reducible refine Below.adds_ ?_ ?_ _ _) | (with_reducible refine Below.alloc ?_ ?_ _) | (with_reducible refine Below.drew ?_) | (with_reducible refine Below.setCell ?_ ?_ _) | (with_reducible assumption) | go_size | (simp only [size_addsW, World.size_alloc, World.size_drew, World.size_setCell]; omega)))⟩

set_option maxRecDepth 100000 in
set_option maxHeartbeats 2000000 in
theorem I_moved (a b x y u v : Int) (A : Option Addr) (c : Nat) (zs : List Int) (w : World) (hr : RowAt .i64 w A zs) (hv : picB a b zs = true) (hx : -1000 ≤ x ∧ x ≤ 1000) (hy : -1000 ≤ y ∧ y ≤ 1000) (hu : -1000 ≤ u ∧ u ≤ 1000) (hw : -1000 ≤ v ∧ v ≤ 1000) :
    Calls Tryd.prog 22 #[.agg #[.int .i64 a, .int .i64 b, .slice A zs.length c], .int .i64 x, .int .i64 y, .agg #[.int .i64 u, .int .i64 v]] w (ListGot (mvL a b zs x y u v 64) w) := by
  have HR := Lib.hid hr
  have HV := Lib.hid hv
  clear hr hv
  obtain ⟨i0, hi, hz0, hz1, hz2⟩ := info_parts infoIntM
  have hmk : ∀ W : World, (Instr.makeSlice 22 (.int .i64 0) (.int .i64 64)).run Tryd.prog W = .ok (.slice (some ⟨W.heap.size, 0, none⟩) 0 64) (W.alloc (.cells (madeCells #[.int .i64 0] 64) 3)) := by
    intro W
    have hh := run_make (P := Tryd.prog) W 22 3 i0 (.int .i64 0) Tryd.underlying22 hi hz0 .i64 .i64 0 64 (by omega) (by omega) (by rw [hz2]; omega) (by omega)
    simpa [hz1, Value.cells] using hh
  go_enter Tryd.func22, Tryd.ntmps22
  go_wp2_with fail
  go_loopw [9, 13, 10, 16, 11] (fun s9 j s10 s16 s11 wr => MvOut ((w.alloc (.cells #[.int .i64 a, .int .i64 b, .slice A zs.length c] 35)).alloc (.cells #[.int .i64 u, .int .i64 v] 28)) (mvL a b zs x y u v) s9 j wr) (fun _ i _ _ _ _ => 8 - (intOf i).toNat)
  case atStart =>
    refine ⟨0, by omega, rfl, ?_⟩
    exact ⟨#[.cells (madeCells #[.int .i64 0] 64) 3], _, alloc_as _ _, own_made_g _ _ _ 64 _ (by simp) (by decide) (by rw [size_madeCells])⟩
  case round =>
    obtain ⟨k, hk, rfl, oo, nn, rfl, hown⟩ := hrel
    have HO := Lib.hid hown
    clear hown
    by_cases hlt : k < 8
    · have hd1 : decide ((k : Int) < 8) = true := by simp; omega
      go_wp2_with fail
      go_loopw [9, 16, 11] (fun s9 i s11 wr => MvIn ((w.alloc (.cells #[.int .i64 a, .int .i64 b, .slice A zs.length c] 35)).alloc (.cells #[.int .i64 u, .int .i64 v] 28)) (mvL a b zs x y u v) k s9 i wr) (fun _ i _ _ => 8 - (intOf i).toNat)
      case atStart => exact ⟨0, by omega, rfl, oo, nn, rfl, HO.out⟩
      case round =>
        obtain ⟨m, hm, rfl, oo2, nn2, rfl, hown2⟩ := hrel
        have HO2 := Lib.hid hown2
        clear hown2
        by_cases hlt2 : m < 8
        · have HF := Lib.hid (mvF_at a b zs x y u v m k hlt2)
          have HS := Lib.hid (mvL_succ a b zs x y u v (8 * k + m))
          have hln : (mvL a b zs x y u v (8 * k + m)).length ≤ 64 := by rw [mvL_len]; omega
          go_wp2_with (first | (go_at_call 38; refine (I_half a b _ _ _ _ zs _ (HR.out.keep (by repeat' (first | (with_reducible exact Below.refl _ _) | (with_reducible refine Below.adds_ ?_ ?_ _ _) | (with_reducible refine Below.alloc ?_ ?_ _) | (with_reducible refine Below.drew ?_) | (with_reducible refine Below.setCell ?_ ?_ _) | (with_reducible assumption) | go_size | (simp only [size_addsW, World.size_alloc, World.size_drew, World.size_setCell]; omega)))) HV.out (by omega) (by omega)).mono ?_; rintro e w' ⟨rfl, hb⟩; obtain ⟨o1, n1, rfl⟩ := below_adds hb; clear hb) | (at_builtin; refine wpList_append_own _ rfl _ _ 22 rfl ((w.alloc (.cells #[.int .i64 a, .int .i64 b, .slice A zs.length c] 35)).alloc (.cells #[.int .i64 u, .int .i64 v] 28)).heap.size 3 i0 (.int .i64 0) 1 8 Tryd.underlying22 hi hz0 hz1 hz2 rfl (by decide) _ _ _ rfl ((ownsRow_below HO2.out (below_more _ _ _ _ _)).alloc _) ⟨_, 0, none⟩ 1 1 [.int .i64 (halfV a b zs (2 * (x + (m : Int)) + u) (2 * (y + (k : Int)) + v))] rfl rfl (news1 (by go_simp; done)) (one1 rfl) (by unfold maxLen; omega) (by omega) (by simp only [size_addsW, World.size_alloc]; omega) ?_; intro v' w1 hown1 hgrow1 _; obtain ⟨A1, c1, oo3, nn3, rfl, rfl, ho3⟩ := app_go (W0 := ((w.alloc (.cells #[.int .i64 a, .int .i64 b, .slice A zs.length c] 35)).alloc (.cells #[.int .i64 u, .int .i64 v] 28))) hown1 hgrow1 (by repeat' (first | (with_reducible exact Below.refl _ _) | (with_reducible refine Below.adds_ ?_ ?_ _ _) | (with_reducible refine Below.alloc ?_ ?_ _) | (with_reducible refine Below.drew ?_) | (with_reducible refine Below.setCell ?_ ?_ _) | (with_reducible assumption) | go_size | (simp only [size_addsW, World.size_alloc, World.size_drew, World.size_setCell]; omega))) (fun q e => (HO2.out.lt q e).1); clear hown1 hgrow1))
          go_roundw
          case rel =>
            first | refine ⟨m + 1, by omega, by go_num, oo3, nn3, rfl, ?_⟩ | (repeat (refine Exists.intro _ ?_); refine ⟨⟨m + 1, by omega, by go_num, oo3, nn3, rfl, ?_⟩, rfl⟩)
            rw [show 8 * k + (m + 1) = 8 * k + m + 1 from rfl, HS.out, HF.out, List.map_append, List.length_append]
            exact ho3
          case measure => simp [intOf]; omega
        · obtain rfl : m = 8 := by omega
          go_wp2_with fail
          go_roundw
          case rel => exact ⟨k + 1, by omega, by go_num, oo2, nn2, rfl, HO2.out⟩
          case measure => simp [intOf]; omega
    · obtain rfl : k = 8 := by omega
      have hfin := RowAt.of_ownS HO.out
      obtain ⟨A1, c1, e1, -, -, -, hr1, hA1⟩ := hfin
      have hsf := Soft.of_own (e1 ▸ HO.out)
      have hA2 : ∀ d, A1 = some d → w.heap.size ≤ d.block := by
        intro d hd
        have hlt1 := HO.out.lt
        rw [e1, hd] at hlt1
        have := (hlt1 d.block rfl).1
        simp at this
        omega
      subst e1
      have HR1 := Lib.hid hr1
      have HA2 := Lib.hid hA2
      have HSF := Lib.hid hsf
      clear hr1 hA1 hA2 HO hsf
      go_wp2_with fail
      go_ret
      exact ⟨A1, c1, rfl, HR1.out, HA2.out, HSF.out, (by repeat' (first | (with_reducible exact Below.refl _ _) | (with_reducible refine Below.adds_ ?_ ?_ _ _) | (with_reducible refine Below.alloc ?_ ?_ _) | (with_reducible refine Below.drew ?_) | (with_reducible refine Below.setCell ?_ ?_ _) | (with_reducible assumption) | go_size | (simp only [size_addsW, World.size_alloc, World.size_drew, World.size_setCell]; omega)))⟩

end Go.Proofs.YtijccageaingjaaDoor
