/- What the draws of pictures answer. -/
import Derived.Test.YtobphddjoebfjaaMoved
import Derived.Test.YtobphddjoebfjaaMore
import Derived.Test.YtobphddjoebfjaaDrawA
import Derived.LoopTactic
import Derived.Deep.DeepCutAuto
import Derived.Deep.RegionHeld3
namespace Go.Proofs.Ytobphddjoebfjaa
open Go.RowKit
set_option linter.unusedVariables false
set_option linter.unusedSimpArgs false

attribute [local go_sem] size_addsW cell?_addsW frozen?_addsW setCell_addsW drew_addsW adds_addsW setCell_twice alloc_adds0 size_adds0 adds_adds0 sel2 sel3 sel4 sel5 sel6 sel7 sel8 sel9 lt_more lt_more2 lt_more3 lt_more4 adds_drew adds_drewN drewN_addsW ltA_1_1 ltA_1_2 ltA_1_3 ltA_1_4 ltA_1_5 ltA_1_6 ltA_2_1 ltA_2_2 ltA_2_3 ltA_2_4 ltA_2_5 ltA_2_6 ltA_3_1 ltA_3_2 ltA_3_3 ltA_3_4 ltA_3_5 ltA_3_6 ltA_4_1 ltA_4_2 ltA_4_3 ltA_4_4 ltA_4_5 ltA_4_6 ltA_5_1 ltA_5_2 ltA_5_3 ltA_5_4 ltA_5_5 ltA_5_6 ltA_6_1 ltA_6_2 ltA_6_3 ltA_6_4 ltA_6_5 ltA_6_6 ltA_7_1 ltA_7_2 ltA_7_3 ltA_7_4 ltA_7_5 ltA_7_6 ltA_8_1 ltA_8_2 ltA_8_3 ltA_8_4 ltA_8_5 ltA_8_6 ltA_9_1 ltA_9_2 ltA_9_3 ltA_9_4 ltA_9_5 ltA_9_6 ltA_10_1 ltA_10_2 ltA_10_3 ltA_10_4 ltA_10_5 ltA_10_6 ltA_11_1 ltA_11_2 ltA_11_3 ltA_11_4 ltA_11_5 ltA_11_6 ltA_12_1 ltA_12_2 ltA_12_3 ltA_12_4 ltA_12_5 ltA_12_6

theorem own_swap {W W' : World} {oo : Array Obj} {nn nn' B E s n : Nat} {v : Value} {xs : List Value} (hs : W'.heap.size = W.heap.size) (hB : W.heap.size ≤ B) (h : (addsW W oo nn).ownsRow B E s v n xs) : (addsW W' oo nn').ownsRow B E s v n xs := by
  obtain ⟨hl, h⟩ := h
  refine ⟨hl, ?_⟩
  rcases h with h | ⟨g, cap, cur, h1, h2, h3, h4⟩
  · exact .inl h
  · refine .inr ⟨g, cap, cur, h1, h2, ?_, h4⟩
    simp only [addsW, Array.getElem?_append] at h3 ⊢
    rw [if_neg (by omega)] at h3 ⊢
    rw [hs]; exact h3

theorem heap_swap {W W' : World} {oo : Array Obj} {nn nn' g : Nat} (hs : W'.heap.size = W.heap.size) (hg : W.heap.size ≤ g) : (addsW W' oo nn').heap[g]? = (addsW W oo nn).heap[g]? := by
  simp only [addsW, Array.getElem?_append]
  rw [if_neg (by omega), if_neg (by omega), hs]
theorem cell_swap {W W' : World} {oo : Array Obj} {nn nn' g i : Nat} (hs : W'.heap.size = W.heap.size) (hg : W.heap.size ≤ g) : (addsW W' oo nn').cell? ⟨g, i, none⟩ = (addsW W oo nn).cell? ⟨g, i, none⟩ :=
  World.cell?_of_block (w := addsW W oo nn) (heap_swap hs hg)
theorem row_more {W W' : World} {oo : Array Obj} {nn nn' B E k : Nat} {v : Value} {zs : List Int} {z : Int} (hz : zs.length = k) (hs : W'.heap.size = W.heap.size) (hB : W.heap.size ≤ B) (h : (addsW W oo nn).ownsRow B E 1 v (k + 1) (zs.map (Value.int .i64) ++ [Value.int .i64 z])) : ∃ ys : List Int, ys.length = k + 1 ∧ (addsW W' oo nn').ownsRow B E 1 v (k + 1) (ys.map (Value.int .i64)) :=
  ⟨zs ++ [z], by rw [List.length_append, hz]; rfl, by rw [List.map_append]; exact own_swap hs hB h⟩

/-- the side of a picture, drawn -/
def SizeDrawn (K : Nat) (W : World) (B p : Nat) (e : Ending) (w' : World) : Prop :=
  ∃ n : Nat, e = .returned (.int .i64 (n : Int)) ∧ 8 ≤ n ∧ n ≤ 32 ∧ Moved W B p K w'

theorem S_l20Size (B p : Nat) (w : World) (h : RdAt w B p) (hp : p ≤ 900000000) :
    Calls Try.prog 87 #[.pointer (some ⟨B, 0, none⟩)] w (SizeDrawn 1 w B p) := by
  have hB := h.lt
  have hR := Lib.hid h
  clear h
  go_enter Try.func87, Try.ntmps87
  go_wp2_with fail
  (refine (S_pick B _ _ _ (by repeat (first | (with_reducible exact hR.out) | (with_reducible apply RdAt.adds) | (with_reducible apply RdAt.alloc) | (with_reducible exact RdAt.set hR.out _) | (with_reducible apply RdAt.drew))) (by omega)).mono ?_; rintro e w' ⟨v1, p1, k1, rfl, hv, hp1, rfl⟩; have hv1 := hv.1 (by omega); clear hv)
  rcases (show v1 = 0 ∨ v1 = 1 ∨ v1 = 2 ∨ v1 = 3 ∨ v1 = 4 ∨ v1 = 5 ∨ v1 = 6 by omega) with rfl | rfl | rfl | rfl | rfl | rfl | rfl
  all_goals
    clear hv1
    go_wp2_with fail
    go_returns
  · exact ⟨8, rfl, by omega, by omega, (by repeat (first | (with_reducible apply Moved.adds) | (with_reducible apply Moved.alloc) | (with_reducible apply Moved.drew) | (exact Moved.base (by omega))))⟩
  · exact ⟨8, rfl, by omega, by omega, (by repeat (first | (with_reducible apply Moved.adds) | (with_reducible apply Moved.alloc) | (with_reducible apply Moved.drew) | (exact Moved.base (by omega))))⟩
  · exact ⟨8, rfl, by omega, by omega, (by repeat (first | (with_reducible apply Moved.adds) | (with_reducible apply Moved.alloc) | (with_reducible apply Moved.drew) | (exact Moved.base (by omega))))⟩
  · exact ⟨16, rfl, by omega, by omega, (by repeat (first | (with_reducible apply Moved.adds) | (with_reducible apply Moved.alloc) | (with_reducible apply Moved.drew) | (exact Moved.base (by omega))))⟩
  · exact ⟨16, rfl, by omega, by omega, (by repeat (first | (with_reducible apply Moved.adds) | (with_reducible apply Moved.alloc) | (with_reducible apply Moved.drew) | (exact Moved.base (by omega))))⟩
  · exact ⟨24, rfl, by omega, by omega, (by repeat (first | (with_reducible apply Moved.adds) | (with_reducible apply Moved.alloc) | (with_reducible apply Moved.drew) | (exact Moved.base (by omega))))⟩
  · exact ⟨32, rfl, by omega, by omega, (by repeat (first | (with_reducible apply Moved.adds) | (with_reducible apply Moved.alloc) | (with_reducible apply Moved.drew) | (exact Moved.base (by omega))))⟩

/-- a picture drawn whole: its samples lie in new memory -/
def PicDrawn (a b K : Nat) (W : World) (B p : Nat) (e : Ending) (w' : World) : Prop :=
  ∃ (g c : Nat) (zs : List Int), e = .returned (.agg #[.int .i64 (a : Int), .int .i64 (b : Int), .slice (some ⟨g, 0, none⟩) zs.length c]) ∧ zs.length = a * b ∧ zs.length ≤ c ∧ c ≤ maxLen ∧ RowAt .i64 w' (some ⟨g, 0, none⟩) zs ∧ Soft w' (some ⟨g, 0, none⟩) ∧ W.heap.size ≤ g ∧ g < w'.heap.size ∧ Moved W B p K w'

/-- the samples so far -/
def PicInv (w : World) (B p a b k : Nat) (wr : World) : Prop :=
  ∃ (q nn c : Nat) (oo : Array Obj) (A : Option Addr), q ≤ p + 5 + k ∧ wr = addsW ((((w.setCell ⟨B, 1, none⟩ (.int .i64 (q : Int))).alloc (.cells #[.int .i64 0, .int .i64 0, .slice none 0 0] 27)).alloc (.cells #[.int .i64 (a : Int), .int .i64 (b : Int), .slice A k c] 27)).alloc (.cells #[.int .i64 0, .int .i64 1, .int .i64 4, .int .i64 30, .int .i64 256] 3)) oo nn ∧ ∃ zs : List Int, zs.length = k ∧ wr.ownsRow (w.heap.size + 1 + 1 + 1) 3 1 (.slice A k c) k (zs.map (Value.int .i64))
def PicOut (w : World) (B p a b : Nat) (j : Value) (wr : World) : Prop := ∃ y : Nat, y ≤ b ∧ j = .int .i64 (y : Int) ∧ PicInv w B p a b (y * a) wr
def PicRow (w : World) (B p a b y : Nat) (i : Value) (wr : World) : Prop := ∃ x : Nat, x ≤ a ∧ i = .int .i64 (x : Int) ∧ PicInv w B p a b (y * a + x) wr

theorem infoIntG : (Try.prog.info? 3).map (fun i => (i.zero, i.size, i.bytes)) = some (some (.int .i64 0), 1, 8) := by kernel_rfl

set_option maxRecDepth 100000 in
set_option maxHeartbeats 4000000 in
theorem S_l20Pic (B p a b : Nat) (w : World) (h : RdAt w B p) (hp : p ≤ 900000000) (ha : 8 ≤ a ∧ a ≤ 32) (hb : 8 ≤ b ∧ b ≤ 32) :
    Calls Try.prog 88 #[.pointer (some ⟨B, 0, none⟩), .int .i64 (a : Int), .int .i64 (b : Int)] w (PicDrawn a b 1029 w B p) := by
  have hB := h.lt
  have hR := Lib.hid h
  clear h
  obtain ⟨i0, hi, hz0, hz1, hz2⟩ := info_parts infoIntG
  go_enter Try.func88, Try.ntmps88
  go_wp2_with fail
  (refine (S_pick B _ _ _ (by repeat (first | (with_reducible exact hR.out) | (with_reducible apply RdAt.adds) | (with_reducible apply RdAt.alloc) | (with_reducible exact RdAt.set hR.out _) | (with_reducible apply RdAt.drew))) (by omega)).mono ?_; rintro e w' ⟨v1, p1, k1, rfl, hv, hp1, rfl⟩; have hv1 := hv.1 (by omega); clear hv)
  go_wp2_with fail
  (refine (S_pick B _ _ _ (by repeat (first | (with_reducible exact hR.out) | (with_reducible apply RdAt.adds) | (with_reducible apply RdAt.alloc) | (with_reducible exact RdAt.set hR.out _) | (with_reducible apply RdAt.drew))) (by omega)).mono ?_; rintro e w' ⟨v2, p2, k2, rfl, hv, hp2, rfl⟩; have hv2 := hv.1 (by omega); clear hv)
  go_wp2_with fail
  (refine (S_pick B _ _ _ (by repeat (first | (with_reducible exact hR.out) | (with_reducible apply RdAt.adds) | (with_reducible apply RdAt.alloc) | (with_reducible exact RdAt.set hR.out _) | (with_reducible apply RdAt.drew))) (by omega)).mono ?_; rintro e w' ⟨v3, p3, k3, rfl, hv, hp3, rfl⟩; have hv3 := hv.1 (by omega); clear hv)
  go_wp2_with fail
  (refine (S_pick B _ _ _ (by repeat (first | (with_reducible exact hR.out) | (with_reducible apply RdAt.adds) | (with_reducible apply RdAt.alloc) | (with_reducible exact RdAt.set hR.out _) | (with_reducible apply RdAt.drew))) (by omega)).mono ?_; rintro e w' ⟨v4, p4, k4, rfl, hv, hp4, rfl⟩; have hv4 := hv.1 (by omega); clear hv)
  obtain ⟨ns, hns⟩ : ∃ ns : Int, ns = [0, 1, 4, 30, 256][v4.toNat]'(by simp; omega) := ⟨_, rfl⟩
  have hns0 : 0 ≤ ns ∧ ns ≤ 256 := by rw [hns]; exact selB _ 0 256 (by decide)
  go_wp2_with fail
  (refine (S_pick B _ _ _ (by repeat (first | (with_reducible exact hR.out) | (with_reducible apply RdAt.adds) | (with_reducible apply RdAt.alloc) | (with_reducible exact RdAt.set hR.out _) | (with_reducible apply RdAt.drew))) (by omega)).mono ?_; rintro e w' ⟨v5, p5, k5, rfl, hv, hp5, rfl⟩; have hv5 := hv.1 (by omega); clear hv)
  simp only [← hns]
  clear hns
  go_wp2_with fail
  go_loopw [13, 14, 15] (fun j s14 s15 wr => PicOut w B p a b j wr) (fun i _ _ _ => b - (intOf i).toNat)
  case atStart =>
    refine ⟨0, by omega, rfl, ?_⟩
    rw [Nat.zero_mul]
    refine ⟨p5, k5, 0, #[], none, by omega, ?_, [], rfl, World.ownsRow_nil _ _ _ _⟩
    go_simp
  case round =>
    obtain ⟨y, hy, rfl, q, nn, c, oo, A, hq, rfl, zs, hz, hown⟩ := hrel
    have HO := Lib.hid hown
    have HZ := Lib.hid hz
    clear hown hz
    have hky : y * a ≤ 1024 := by have := Nat.mul_le_mul hy ha.2; have := Nat.mul_le_mul hb.2 (Nat.le_refl 32); omega
    by_cases hlt : y < b
    · have hd1 : decide ((y : Int) < (b : Int)) = true := by simp; omega
      go_wp2_with fail
      go_loopw [14, 15] (fun i s15 wr => PicRow w B p a b y i wr) (fun i _ _ => a - (intOf i).toNat)
      case atStart => exact ⟨0, by omega, rfl, q, nn, c, oo, A, hq, rfl, zs, HZ.out, HO.out⟩
      case round =>
        clear HO HZ hq
        obtain ⟨x, hx, rfl, q, nn, c, oo, A, hq, rfl, zs, hz, hown⟩ := hrel
        have HO := Lib.hid hown
        have HZ := Lib.hid hz
        clear hown hz
        by_cases hlt2 : x < a
        · have hd2 : decide ((x : Int) < (a : Int)) = true := by simp; omega
          have hkx : y * a + x < 1024 := by have := Nat.mul_le_mul (show y ≤ 31 by omega) ha.2; omega
          have HK := Lib.hid (show y * a + (x + 1) = y * a + x + 1 from rfl)
          generalize y * a + x = k at hq hkx HO HZ HK ⊢
          by_cases hn : 0 < ns
          · go_wp2_with fail
            (refine (S_pick B _ _ _ (by repeat (first | (with_reducible exact hR.out) | (with_reducible apply RdAt.adds) | (with_reducible apply RdAt.alloc) | (with_reducible exact RdAt.set hR.out _) | (with_reducible apply RdAt.drew))) (by omega)).mono ?_; rintro e w' ⟨v6, p6, k6, rfl, hv, hp6, rfl⟩; have hv6 := hv.1 (by omega); clear hv)
            go_wp2_with (at_builtin; refine wpList_append_own _ rfl _ _ 22 rfl (w.heap.size + 1 + 1 + 1) 3 i0 (.int .i64 0) 1 8 Try.underlying22 hi hz0 hz1 hz2 rfl (by decide) _ _ _ rfl ((own_swap (by simp) (by simp) HO.out).alloc _) ⟨_, 0, none⟩ 1 1 [_] rfl rfl (news1 (by first | (go_simp; done) | (go_simp; rfl))) (one1 rfl) (by unfold maxLen; omega) (by omega) (by simp only [size_addsW, World.size_alloc, World.size_setCell]; omega) ?_; intro v' w1 hown1 hgrow1 _; obtain ⟨A1, c1, oo3, nn3, rfl, rfl, ho3⟩ := app_go (W0 := ((((w.setCell ⟨B, 1, none⟩ (.int .i64 (p6 : Int))).alloc (.cells #[.int .i64 0, .int .i64 0, .slice none 0 0] 27)).alloc (.cells #[.int .i64 (a : Int), .int .i64 (b : Int), .slice A k c] 27)).alloc (.cells #[.int .i64 0, .int .i64 1, .int .i64 4, .int .i64 30, .int .i64 256] 3))) hown1 hgrow1 (by repeat' (first | (with_reducible exact Below.refl _ _) | (with_reducible refine Below.adds_ ?_ ?_ _ _) | (with_reducible refine Below.alloc ?_ ?_ _) | (with_reducible refine Below.drew ?_) | (with_reducible refine Below.setCell ?_ ?_ _) | (with_reducible assumption) | go_size | (simp only [size_addsW, World.size_alloc, World.size_drew, World.size_setCell]; omega))) (fun r e => (by have := (HO.out.lt r e).1; simp only [World.size_alloc, World.size_setCell]; omega)); clear hown1 hgrow1)
            all_goals
              go_roundw
              case rel =>
                first | refine ⟨x + 1, by omega, by go_num, ?_⟩ | (repeat (refine Exists.intro _ ?_); refine ⟨⟨x + 1, by omega, by go_num, ?_⟩, rfl⟩)
                rw [HK.out]
                refine ⟨p6, nn3, c1, oo3, A1, by omega, rfl, row_more HZ.out ?_ ?_ ho3⟩
                all_goals simp
              case measure => simp [intOf]; omega
          · go_wp2_with (at_builtin; refine wpList_append_own _ rfl _ _ 22 rfl (w.heap.size + 1 + 1 + 1) 3 i0 (.int .i64 0) 1 8 Try.underlying22 hi hz0 hz1 hz2 rfl (by decide) _ _ _ rfl ((own_swap (by simp) (by simp) HO.out).alloc _) ⟨_, 0, none⟩ 1 1 [_] rfl rfl (news1 (by first | (go_simp; done) | (go_simp; rfl))) (one1 rfl) (by unfold maxLen; omega) (by omega) (by simp only [size_addsW, World.size_alloc, World.size_setCell]; omega) ?_; intro v' w1 hown1 hgrow1 _; obtain ⟨A1, c1, oo3, nn3, rfl, rfl, ho3⟩ := app_go (W0 := ((((w.setCell ⟨B, 1, none⟩ (.int .i64 (q : Int))).alloc (.cells #[.int .i64 0, .int .i64 0, .slice none 0 0] 27)).alloc (.cells #[.int .i64 (a : Int), .int .i64 (b : Int), .slice A k c] 27)).alloc (.cells #[.int .i64 0, .int .i64 1, .int .i64 4, .int .i64 30, .int .i64 256] 3))) hown1 hgrow1 (by repeat' (first | (with_reducible exact Below.refl _ _) | (with_reducible refine Below.adds_ ?_ ?_ _ _) | (with_reducible refine Below.alloc ?_ ?_ _) | (with_reducible refine Below.drew ?_) | (with_reducible refine Below.setCell ?_ ?_ _) | (with_reducible assumption) | go_size | (simp only [size_addsW, World.size_alloc, World.size_drew, World.size_setCell]; omega))) (fun r e => (by have := (HO.out.lt r e).1; simp only [World.size_alloc, World.size_setCell]; omega)); clear hown1 hgrow1)
            all_goals
              go_roundw
              case rel =>
                first | refine ⟨x + 1, by omega, by go_num, ?_⟩ | (repeat (refine Exists.intro _ ?_); refine ⟨⟨x + 1, by omega, by go_num, ?_⟩, rfl⟩)
                rw [HK.out]
                refine ⟨q, nn3, c1, oo3, A1, by omega, rfl, row_more HZ.out ?_ ?_ ho3⟩
                all_goals simp
              case measure => simp [intOf]; omega
        · obtain rfl : x = a := by omega
          have hm : y * x + x = (y + 1) * x := by rw [Nat.succ_mul]
          go_wp2_with fail
          go_roundw
          case rel => exact ⟨y + 1, by omega, by go_num, q, nn, c, oo, A, by rw [← hm]; exact hq, by rw [← hm], zs, by rw [← hm]; exact HZ.out, by rw [← hm]; exact HO.out⟩
          case measure => simp [intOf]; omega
    · obtain rfl : y = b := by omega
      have hpos : 64 ≤ y * a := by have := Nat.mul_le_mul hb.1 ha.1; omega
      obtain ⟨A1, c1, e1, -, hc1, hc2, hr1, hA1⟩ := RowAt.of_ownS HO.out
      have hsf := Soft.of_own (e1 ▸ HO.out)
      rcases hA1 with ⟨_, h0⟩ | ⟨g, rfl⟩
      · omega
      · have hg := (HO.out.lt g (by rw [e1]; rfl))
        injection e1 with e2 e3 e4
        subst e2 e4
        clear e3
        have HC := Lib.hid hc2
        have HR1 := Lib.hid hr1
        have HSF := Lib.hid hsf
        have HG := Lib.hid hg
        have HM := Lib.hid (Nat.mul_comm y a)
        clear hr1 hsf hg hc2
        generalize y * a = k at HO HZ HR1 HSF HG HM hpos hky hq hc1 ⊢
        go_wp2_with fail
        go_returns
        refine ⟨g, c, zs, by rw [HZ.out], by rw [HZ.out]; exact HM.out, by rw [HZ.out]; exact hc1, HC.out, ?_, ?_, ?_, ?_, ?_⟩
        · exact fun hne => by
            obtain ⟨b', off, e, hlt, hc⟩ := HR1.out hne
            injection e with e; injection e with e1 e2; subst e1 e2
            exact ⟨g, 0, rfl, by simpa only [size_addsW, World.size_alloc, World.size_setCell] using hlt, fun i hi => (cell_swap (by simp) (by simp only [World.size_alloc, World.size_setCell]; exact HG.out.1)).trans (hc i hi)⟩
        · exact fun d hd => by
            cases hd
            obtain ⟨cur, t, hc⟩ := HSF.out _ rfl
            exact ⟨cur, t, (heap_swap (by simp) (by simp only [World.size_alloc, World.size_setCell]; exact HG.out.1)).trans hc⟩
        · have := HG.out.1; omega
        · simpa only [size_addsW, World.size_alloc, World.size_setCell] using HG.out.2
        · exact (Moved.base (p' := q) (by omega)).alloc _ |>.alloc _ |>.alloc _ |>.adds _ _

end Go.Proofs.Ytobphddjoebfjaa
