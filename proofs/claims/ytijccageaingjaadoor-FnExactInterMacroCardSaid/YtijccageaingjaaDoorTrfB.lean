/- The transform, the program's: four numbers at a time. -/
import Derived.Test.YtijccageaingjaaDoorTrf
import Derived.Test.YtijccageaingjaaDoorPredM
import Derived.Deep.QuietTactic
import Derived.BigQuiet
namespace Go.Proofs.YtijccageaingjaaDoor
open Go.RowKit
set_option linter.unusedVariables false
set_option linter.unusedSimpArgs false

attribute [local go_sem] size_addsW cell?_addsW frozen?_addsW setCell_addsW drew_addsW adds_addsW setCell_twice alloc_adds0 size_adds0 adds_adds0 sel2 sel3 sel4 sel5 sel6 sel7 sel8 sel9 lt_more lt_more2 lt_more3 lt_more4 adds_drew adds_drewN drewN_addsW ltA_1_1 ltA_1_2 ltA_1_3 ltA_1_4 ltA_1_5 ltA_1_6 ltA_2_1 ltA_2_2 ltA_2_3 ltA_2_4 ltA_2_5 ltA_2_6 ltA_3_1 ltA_3_2 ltA_3_3 ltA_3_4 ltA_3_5 ltA_3_6 ltA_4_1 ltA_4_2 ltA_4_3 ltA_4_4 ltA_4_5 ltA_4_6 ltA_5_1 ltA_5_2 ltA_5_3 ltA_5_4 ltA_5_5 ltA_5_6 ltA_6_1 ltA_6_2 ltA_6_3 ltA_6_4 ltA_6_5 ltA_6_6 ltA_7_1 ltA_7_2 ltA_7_3 ltA_7_4 ltA_7_5 ltA_7_6 ltA_8_1 ltA_8_2 ltA_8_3 ltA_8_4 ltA_8_5 ltA_8_6 ltA_9_1 ltA_9_2 ltA_9_3 ltA_9_4 ltA_9_5 ltA_9_6 ltA_10_1 ltA_10_2 ltA_10_3 ltA_10_4 ltA_10_5 ltA_10_6 ltA_11_1 ltA_11_2 ltA_11_3 ltA_11_4 ltA_11_5 ltA_11_6 ltA_12_1 ltA_12_2 ltA_12_3 ltA_12_4 ltA_12_5 ltA_12_6

theorem Blk.setRow {W : World} {k : Nat} {cs : Array Value} {t : TypeId} (h : Blk W k cs t) (i : Nat) (v : Value) : W.setCell ⟨k, i, none⟩ v = W.setRow k (cs.setIfInBounds i v) := setCell_eq_setRow W k i cs t (0, 0) v h
theorem btf_row {W : World} {k : Nat} {zs : List Int} {t : TypeId} (h : Blk W k (rowI zs) t) (i0 i1 i2 i3 : Nat) (v0 v1 v2 v3 : Int) :
    (((W.setCell ⟨k, i0, none⟩ (.int .i64 v0)).setCell ⟨k, i1, none⟩ (.int .i64 v1)).setCell ⟨k, i2, none⟩ (.int .i64 v2)).setCell ⟨k, i3, none⟩ (.int .i64 v3) = W.setRow k (rowI ((((zs.set i0 v0).set i1 v1).set i2 v2).set i3 v3)) := by
  rw [h.setRow, rowI_set, (h.row _).setRow, setRow_setRow, rowI_set, (h.row _).setRow, setRow_setRow, rowI_set, (h.row _).setRow, setRow_setRow, rowI_set]

theorem btf_end {W : World} {k : Nat} {zs : List Int} {t : TypeId} (h : Blk W k (rowI zs) t) (n i0 i1 i2 i3 : Nat) (v0 v1 v2 v3 : Int) :
    (((((W.drewN n).setCell ⟨k, i0, none⟩ (.int .i64 v0)).setCell ⟨k, i1, none⟩ (.int .i64 v1)).setCell ⟨k, i2, none⟩ (.int .i64 v2)).setCell ⟨k, i3, none⟩ (.int .i64 v3)).drew = (W.setRow k (rowI ((((zs.set i0 v0).set i1 v1).set i2 v2).set i3 v3))).drewN (n + 1) := by
  rw [← btf_row h]; rfl

set_option maxRecDepth 100000 in
set_option maxHeartbeats 4000000 in
theorem I_butterflies (k a s : Nat) (zs : List Int) (w : World) (has : (a = 0 ∨ a = 4 ∨ a = 8 ∨ a = 12) ∧ s = 1 ∨ (a = 0 ∨ a = 1 ∨ a = 2 ∨ a = 3) ∧ s = 4) (hl : zs.length = 16) (hb : bdL 100000000 zs) (hw : Blk w k (rowI zs) 30) :
    Calls Tryd.prog 50 #[.pointer (some ⟨k, 0, none⟩), .int .i64 (a : Int), .int .i64 (s : Int)] w fun e w' => e = .returned (.tuple #[]) ∧ ∃ m, w' = (w.setRow k (rowI (btf zs a s))).drewN m := by
  obtain ⟨i, hi⟩ : ∃ i : Int, i = (a : Int) := ⟨_, rfl⟩
  obtain ⟨j, hj⟩ : ∃ j : Int, j = (s : Int) := ⟨_, rfl⟩
  rw [← hi, ← hj]
  rcases has with ⟨rfl | rfl | rfl | rfl, rfl⟩ | ⟨rfl | rfl | rfl | rfl, rfl⟩
  · simp only [Int.natCast_zero, Int.natCast_one, Int.cast_ofNat_Int] at hi hj
    subst hi hj
    have p0 := hb 0
    have q0 := hb (0 + 1)
    have r0 := hb (0 + 2 * 1)
    have t0 := hb (0 + 3 * 1)
    have c0 := hw.get (rowI_get (zs := zs) (j := 0) (by omega))
    have c1 := hw.get (rowI_get (zs := zs) (j := 0 + 1) (by omega))
    have c2 := hw.get (rowI_get (zs := zs) (j := 0 + 2 * 1) (by omega))
    have c3 := hw.get (rowI_get (zs := zs) (j := 0 + 3 * 1) (by omega))
    have s0 := hw.hot 0
    have s1 := hw.hot (0 + 1)
    have s2 := hw.hot (0 + 2 * 1)
    have s3 := hw.hot (0 + 3 * 1)
    have lw := hw.lt
    have HR := Lib.hid (btf_end hw)
    unfold btf
    generalize zs.getD 0 0 = p at *
    generalize zs.getD (0 + 1) 0 = q at *
    generalize zs.getD (0 + 2 * 1) 0 = r at *
    generalize zs.getD (0 + 3 * 1) 0 = t at *
    simp only [Nat.zero_add, Nat.reduceAdd, Nat.reduceMul] at c0 c1 c2 c3 s0 s1 s2 s3 ⊢
    clear hb hw hl
    go_enter Tryd.func50, Tryd.ntmps50
    go_wp2_with fail
    go_quiet (fail)
    go_wp2_with fail
    go_region
    go_wp2_with fail
    go_region
    go_wp2_with fail
    go_returns
    exact ⟨rfl, _, HR.out _ _ _ _ _ _ _ _ _⟩
  · simp only [Int.natCast_zero, Int.natCast_one, Int.cast_ofNat_Int] at hi hj
    subst hi hj
    have p0 := hb 4
    have q0 := hb (4 + 1)
    have r0 := hb (4 + 2 * 1)
    have t0 := hb (4 + 3 * 1)
    have c0 := hw.get (rowI_get (zs := zs) (j := 4) (by omega))
    have c1 := hw.get (rowI_get (zs := zs) (j := 4 + 1) (by omega))
    have c2 := hw.get (rowI_get (zs := zs) (j := 4 + 2 * 1) (by omega))
    have c3 := hw.get (rowI_get (zs := zs) (j := 4 + 3 * 1) (by omega))
    have s0 := hw.hot 4
    have s1 := hw.hot (4 + 1)
    have s2 := hw.hot (4 + 2 * 1)
    have s3 := hw.hot (4 + 3 * 1)
    have lw := hw.lt
    have HR := Lib.hid (btf_end hw)
    unfold btf
    generalize zs.getD 4 0 = p at *
    generalize zs.getD (4 + 1) 0 = q at *
    generalize zs.getD (4 + 2 * 1) 0 = r at *
    generalize zs.getD (4 + 3 * 1) 0 = t at *
    simp only [Nat.zero_add, Nat.reduceAdd, Nat.reduceMul] at c0 c1 c2 c3 s0 s1 s2 s3 ⊢
    clear hb hw hl
    go_enter Tryd.func50, Tryd.ntmps50
    go_wp2_with fail
    go_quiet (fail)
    go_wp2_with fail
    go_region
    go_wp2_with fail
    go_region
    go_wp2_with fail
    go_returns
    exact ⟨rfl, _, HR.out _ _ _ _ _ _ _ _ _⟩
  · simp only [Int.natCast_zero, Int.natCast_one, Int.cast_ofNat_Int] at hi hj
    subst hi hj
    have p0 := hb 8
    have q0 := hb (8 + 1)
    have r0 := hb (8 + 2 * 1)
    have t0 := hb (8 + 3 * 1)
    have c0 := hw.get (rowI_get (zs := zs) (j := 8) (by omega))
    have c1 := hw.get (rowI_get (zs := zs) (j := 8 + 1) (by omega))
    have c2 := hw.get (rowI_get (zs := zs) (j := 8 + 2 * 1) (by omega))
    have c3 := hw.get (rowI_get (zs := zs) (j := 8 + 3 * 1) (by omega))
    have s0 := hw.hot 8
    have s1 := hw.hot (8 + 1)
    have s2 := hw.hot (8 + 2 * 1)
    have s3 := hw.hot (8 + 3 * 1)
    have lw := hw.lt
    have HR := Lib.hid (btf_end hw)
    unfold btf
    generalize zs.getD 8 0 = p at *
    generalize zs.getD (8 + 1) 0 = q at *
    generalize zs.getD (8 + 2 * 1) 0 = r at *
    generalize zs.getD (8 + 3 * 1) 0 = t at *
    simp only [Nat.zero_add, Nat.reduceAdd, Nat.reduceMul] at c0 c1 c2 c3 s0 s1 s2 s3 ⊢
    clear hb hw hl
    go_enter Tryd.func50, Tryd.ntmps50
    go_wp2_with fail
    go_quiet (fail)
    go_wp2_with fail
    go_region
    go_wp2_with fail
    go_region
    go_wp2_with fail
    go_returns
    exact ⟨rfl, _, HR.out _ _ _ _ _ _ _ _ _⟩
  · simp only [Int.natCast_zero, Int.natCast_one, Int.cast_ofNat_Int] at hi hj
    subst hi hj
    have p0 := hb 12
    have q0 := hb (12 + 1)
    have r0 := hb (12 + 2 * 1)
    have t0 := hb (12 + 3 * 1)
    have c0 := hw.get (rowI_get (zs := zs) (j := 12) (by omega))
    have c1 := hw.get (rowI_get (zs := zs) (j := 12 + 1) (by omega))
    have c2 := hw.get (rowI_get (zs := zs) (j := 12 + 2 * 1) (by omega))
    have c3 := hw.get (rowI_get (zs := zs) (j := 12 + 3 * 1) (by omega))
    have s0 := hw.hot 12
    have s1 := hw.hot (12 + 1)
    have s2 := hw.hot (12 + 2 * 1)
    have s3 := hw.hot (12 + 3 * 1)
    have lw := hw.lt
    have HR := Lib.hid (btf_end hw)
    unfold btf
    generalize zs.getD 12 0 = p at *
    generalize zs.getD (12 + 1) 0 = q at *
    generalize zs.getD (12 + 2 * 1) 0 = r at *
    generalize zs.getD (12 + 3 * 1) 0 = t at *
    simp only [Nat.zero_add, Nat.reduceAdd, Nat.reduceMul] at c0 c1 c2 c3 s0 s1 s2 s3 ⊢
    clear hb hw hl
    go_enter Tryd.func50, Tryd.ntmps50
    go_wp2_with fail
    go_quiet (fail)
    go_wp2_with fail
    go_region
    go_wp2_with fail
    go_region
    go_wp2_with fail
    go_returns
    exact ⟨rfl, _, HR.out _ _ _ _ _ _ _ _ _⟩
  · simp only [Int.natCast_zero, Int.natCast_one, Int.cast_ofNat_Int] at hi hj
    subst hi hj
    have p0 := hb 0
    have q0 := hb (0 + 4)
    have r0 := hb (0 + 2 * 4)
    have t0 := hb (0 + 3 * 4)
    have c0 := hw.get (rowI_get (zs := zs) (j := 0) (by omega))
    have c1 := hw.get (rowI_get (zs := zs) (j := 0 + 4) (by omega))
    have c2 := hw.get (rowI_get (zs := zs) (j := 0 + 2 * 4) (by omega))
    have c3 := hw.get (rowI_get (zs := zs) (j := 0 + 3 * 4) (by omega))
    have s0 := hw.hot 0
    have s1 := hw.hot (0 + 4)
    have s2 := hw.hot (0 + 2 * 4)
    have s3 := hw.hot (0 + 3 * 4)
    have lw := hw.lt
    have HR := Lib.hid (btf_end hw)
    unfold btf
    generalize zs.getD 0 0 = p at *
    generalize zs.getD (0 + 4) 0 = q at *
    generalize zs.getD (0 + 2 * 4) 0 = r at *
    generalize zs.getD (0 + 3 * 4) 0 = t at *
    simp only [Nat.zero_add, Nat.reduceAdd, Nat.reduceMul] at c0 c1 c2 c3 s0 s1 s2 s3 ⊢
    clear hb hw hl
    go_enter Tryd.func50, Tryd.ntmps50
    go_wp2_with fail
    go_quiet (fail)
    go_wp2_with fail
    go_region
    go_wp2_with fail
    go_region
    go_wp2_with fail
    go_returns
    exact ⟨rfl, _, HR.out _ _ _ _ _ _ _ _ _⟩
  · simp only [Int.natCast_zero, Int.natCast_one, Int.cast_ofNat_Int] at hi hj
    subst hi hj
    have p0 := hb 1
    have q0 := hb (1 + 4)
    have r0 := hb (1 + 2 * 4)
    have t0 := hb (1 + 3 * 4)
    have c0 := hw.get (rowI_get (zs := zs) (j := 1) (by omega))
    have c1 := hw.get (rowI_get (zs := zs) (j := 1 + 4) (by omega))
    have c2 := hw.get (rowI_get (zs := zs) (j := 1 + 2 * 4) (by omega))
    have c3 := hw.get (rowI_get (zs := zs) (j := 1 + 3 * 4) (by omega))
    have s0 := hw.hot 1
    have s1 := hw.hot (1 + 4)
    have s2 := hw.hot (1 + 2 * 4)
    have s3 := hw.hot (1 + 3 * 4)
    have lw := hw.lt
    have HR := Lib.hid (btf_end hw)
    unfold btf
    generalize zs.getD 1 0 = p at *
    generalize zs.getD (1 + 4) 0 = q at *
    generalize zs.getD (1 + 2 * 4) 0 = r at *
    generalize zs.getD (1 + 3 * 4) 0 = t at *
    simp only [Nat.zero_add, Nat.reduceAdd, Nat.reduceMul] at c0 c1 c2 c3 s0 s1 s2 s3 ⊢
    clear hb hw hl
    go_enter Tryd.func50, Tryd.ntmps50
    go_wp2_with fail
    go_quiet (fail)
    go_wp2_with fail
    go_region
    go_wp2_with fail
    go_region
    go_wp2_with fail
    go_returns
    exact ⟨rfl, _, HR.out _ _ _ _ _ _ _ _ _⟩
  · simp only [Int.natCast_zero, Int.natCast_one, Int.cast_ofNat_Int] at hi hj
    subst hi hj
    have p0 := hb 2
    have q0 := hb (2 + 4)
    have r0 := hb (2 + 2 * 4)
    have t0 := hb (2 + 3 * 4)
    have c0 := hw.get (rowI_get (zs := zs) (j := 2) (by omega))
    have c1 := hw.get (rowI_get (zs := zs) (j := 2 + 4) (by omega))
    have c2 := hw.get (rowI_get (zs := zs) (j := 2 + 2 * 4) (by omega))
    have c3 := hw.get (rowI_get (zs := zs) (j := 2 + 3 * 4) (by omega))
    have s0 := hw.hot 2
    have s1 := hw.hot (2 + 4)
    have s2 := hw.hot (2 + 2 * 4)
    have s3 := hw.hot (2 + 3 * 4)
    have lw := hw.lt
    have HR := Lib.hid (btf_end hw)
    unfold btf
    generalize zs.getD 2 0 = p at *
    generalize zs.getD (2 + 4) 0 = q at *
    generalize zs.getD (2 + 2 * 4) 0 = r at *
    generalize zs.getD (2 + 3 * 4) 0 = t at *
    simp only [Nat.zero_add, Nat.reduceAdd, Nat.reduceMul] at c0 c1 c2 c3 s0 s1 s2 s3 ⊢
    clear hb hw hl
    go_enter Tryd.func50, Tryd.ntmps50
    go_wp2_with fail
    go_quiet (fail)
    go_wp2_with fail
    go_region
    go_wp2_with fail
    go_region
    go_wp2_with fail
    go_returns
    exact ⟨rfl, _, HR.out _ _ _ _ _ _ _ _ _⟩
  · simp only [Int.natCast_zero, Int.natCast_one, Int.cast_ofNat_Int] at hi hj
    subst hi hj
    have p0 := hb 3
    have q0 := hb (3 + 4)
    have r0 := hb (3 + 2 * 4)
    have t0 := hb (3 + 3 * 4)
    have c0 := hw.get (rowI_get (zs := zs) (j := 3) (by omega))
    have c1 := hw.get (rowI_get (zs := zs) (j := 3 + 4) (by omega))
    have c2 := hw.get (rowI_get (zs := zs) (j := 3 + 2 * 4) (by omega))
    have c3 := hw.get (rowI_get (zs := zs) (j := 3 + 3 * 4) (by omega))
    have s0 := hw.hot 3
    have s1 := hw.hot (3 + 4)
    have s2 := hw.hot (3 + 2 * 4)
    have s3 := hw.hot (3 + 3 * 4)
    have lw := hw.lt
    have HR := Lib.hid (btf_end hw)
    unfold btf
    generalize zs.getD 3 0 = p at *
    generalize zs.getD (3 + 4) 0 = q at *
    generalize zs.getD (3 + 2 * 4) 0 = r at *
    generalize zs.getD (3 + 3 * 4) 0 = t at *
    simp only [Nat.zero_add, Nat.reduceAdd, Nat.reduceMul] at c0 c1 c2 c3 s0 s1 s2 s3 ⊢
    clear hb hw hl
    go_enter Tryd.func50, Tryd.ntmps50
    go_wp2_with fail
    go_quiet (fail)
    go_wp2_with fail
    go_region
    go_wp2_with fail
    go_region
    go_wp2_with fail
    go_returns
    exact ⟨rfl, _, HR.out _ _ _ _ _ _ _ _ _⟩

end Go.Proofs.YtijccageaingjaaDoor
