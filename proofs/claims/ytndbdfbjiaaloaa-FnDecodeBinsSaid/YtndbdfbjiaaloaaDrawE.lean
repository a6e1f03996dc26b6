/- What the draws of decisions answer. -/
import Derived.Test.YtndbdfbjiaaloaaApp
import Derived.Test.YtndbdfbjiaaloaaDrawC
import Derived.LoopTactic
import Derived.Deep.DeepCutAuto
namespace Go.Proofs.Ytndbdfbjiaaloaa
open Go.RowKit
set_option linter.unusedVariables false
set_option linter.unusedSimpArgs false

attribute [local go_sem] size_addsW cell?_addsW frozen?_addsW setCell_addsW drew_addsW adds_addsW setCell_twice alloc_adds0 size_adds0 adds_adds0 sel2 sel3 sel4 sel5 sel6 sel7 sel8 sel9 lt_more lt_more2 lt_more3 lt_more4 adds_drew adds_drewN drewN_addsW ltA_1_1 ltA_1_2 ltA_1_3 ltA_1_4 ltA_1_5 ltA_1_6 ltA_2_1 ltA_2_2 ltA_2_3 ltA_2_4 ltA_2_5 ltA_2_6 ltA_3_1 ltA_3_2 ltA_3_3 ltA_3_4 ltA_3_5 ltA_3_6 ltA_4_1 ltA_4_2 ltA_4_3 ltA_4_4 ltA_4_5 ltA_4_6 ltA_5_1 ltA_5_2 ltA_5_3 ltA_5_4 ltA_5_5 ltA_5_6 ltA_6_1 ltA_6_2 ltA_6_3 ltA_6_4 ltA_6_5 ltA_6_6 ltA_7_1 ltA_7_2 ltA_7_3 ltA_7_4 ltA_7_5 ltA_7_6 ltA_8_1 ltA_8_2 ltA_8_3 ltA_8_4 ltA_8_5 ltA_8_6 ltA_9_1 ltA_9_2 ltA_9_3 ltA_9_4 ltA_9_5 ltA_9_6 ltA_10_1 ltA_10_2 ltA_10_3 ltA_10_4 ltA_10_5 ltA_10_6 ltA_11_1 ltA_11_2 ltA_11_3 ltA_11_4 ltA_11_5 ltA_11_6 ltA_12_1 ltA_12_2 ltA_12_3 ltA_12_4 ltA_12_5 ltA_12_6

theorem infoBinD : (Try.prog.info? 35).map (fun i => (i.zero, i.size, i.bytes)) = some (some (.agg #[.int .i64 0, .int .i64 0]), 2, 16) := by kernel_rfl

/-- the list in v holds n decisions, told by their numbers -/
def BinsInv (most K : Nat) (W : World) (B p : Nat) (v : Value) (w' : World) : Prop :=
  ∃ (n : Nat) (zs : List Int), zs.length = n * 2 ∧ n ≤ most ∧ AppInv W B p K 35 2 v n (zs.map (Value.int .i64)) w'
def BinsDrawn (most K : Nat) (W : World) (B p : Nat) (e : Ending) (w' : World) : Prop := ∃ v, e = .returned v ∧ BinsInv most K W B p v w'

def BinsRel1 (w : World) (B p : Nat) (v i : Value) (wr : World) : Prop :=
  ∃ (k n : Nat) (zs : List Int), i = .int .i64 (k : Int) ∧ zs.length = n * 2 ∧ n + k ≤ 89 ∧ AppInv w B p (2 + 3 * n) 35 2 v n (zs.map (Value.int .i64)) wr
def BinsRel2 (w : World) (B p : Nat) (v : Value) (n : Nat) (i : Value) (wr : World) : Prop :=
  ∃ (k : Nat) (zs : List Int), i = .int .i64 (k : Int) ∧ k ≤ n ∧ zs.length = n * 2 ∧ AppInv w B p 300 35 2 v n (zs.map (Value.int .i64)) wr

set_option maxHeartbeats 1000000 in
theorem S_l20Bins (B p : Nat) (n0 : Int) (w : World) (h : RdAt w B p) (hp : p ≤ 800000000) (hn : -1000000 ≤ n0) :
    Calls Try.prog 71 #[.pointer (some ⟨B, 0, none⟩), .int .i64 n0] w (BinsDrawn 90 310 w B p) := by
  have hB := h.lt
  have hR := Lib.hid h
  clear h
  obtain ⟨i0, hi, hz0, hz1, hz2⟩ := info_parts infoBinD
  go_enter Try.func71, Try.ntmps71
  go_wp2_with fail
  (refine (S_pick B _ _ _ (by repeat (first | (with_reducible exact hR.out) | (with_reducible apply RdAt.adds) | (with_reducible apply RdAt.alloc) | (with_reducible exact RdAt.set hR.out _) | (with_reducible apply RdAt.drew))) (by omega)).mono ?_; rintro e w' ⟨v1, p1, k1, rfl, hv, hp1, rfl⟩; have hv1 := hv.1 (by omega); clear hv)
  go_wp2_with fail
  (refine (S_pick B _ _ _ (by repeat (first | (with_reducible exact hR.out) | (with_reducible apply RdAt.adds) | (with_reducible apply RdAt.alloc) | (with_reducible exact RdAt.set hR.out _) | (with_reducible apply RdAt.drew))) (by omega)).mono ?_; rintro e w' ⟨v2, p2, k2, rfl, hv, hp2, rfl⟩; have hv2 := hv.1 (by omega); clear hv)
  obtain ⟨k0, rfl⟩ := Int.eq_ofNat_of_zero_le hv2.1
  go_wp2_with fail
  go_loopw [5, 7] (fun v i wr => BinsRel1 w B p v i wr) (fun _ i _ => (intOf i).toNat)
  case atStart =>
    refine ⟨_, 0, [], rfl, rfl, by omega, AppInv.mk0 (by repeat (first | (with_reducible exact hR.out) | (with_reducible apply RdAt.adds) | (with_reducible apply RdAt.alloc) | (with_reducible exact RdAt.set hR.out _) | (with_reducible apply RdAt.drew))) (by omega) (by repeat (first | (with_reducible apply Moved.adds) | (with_reducible apply Moved.alloc) | (with_reducible apply Moved.drew) | (exact Moved.base (by omega)))) ?_⟩
    have ho := World.ownsRow_lit (base := w.heap.size) (e := 35) (size := 2) (w.setCell ⟨B, 1, none⟩ (.int .i64 (p2 : Int))) #[] 0 (by simp) (by decide) rfl
    rw [World.size_setCell] at ho
    exact ownsRow_below ho (addsW_below _ _ _)
  case round =>
    obtain ⟨k, n, zs, rfl, hlen, hk, hinv⟩ := hrel
    have HV := Lib.hid hinv
    have HL := Lib.hid hlen
    obtain ⟨⟨q, hq, hRq⟩, hM0, hown0⟩ := hinv
    have hsz := hM0.size
    have hBr : B < wr.heap.size := by omega
    have hR := Lib.hid hRq
    have HO := Lib.hid hown0
    clear hRq hM0 hown0 hlen
    by_cases hlt : 0 < k
    · have hd : (1 + v1 == 0) = false := by simp; omega
      go_wp2_with fail
      (refine (S_pick B _ _ _ (by repeat (first | (with_reducible exact hR.out) | (with_reducible apply RdAt.adds) | (with_reducible apply RdAt.alloc) | (with_reducible exact RdAt.set hR.out _) | (with_reducible apply RdAt.drew))) (by omega)).mono ?_; rintro e w' ⟨v3, p3, k3, rfl, hv, hp3, rfl⟩; have hv3 := hv.1 (by omega); clear hv)
      go_wp2_with fail
      (refine (S_pick B _ _ _ (by repeat (first | (with_reducible exact hR.out) | (with_reducible apply RdAt.adds) | (with_reducible apply RdAt.alloc) | (with_reducible exact RdAt.set hR.out _) | (with_reducible apply RdAt.drew))) (by omega)).mono ?_; rintro e w' ⟨v4, p4, k4, rfl, hv, hp4, rfl⟩; have hv4 := hv.1 (by omega); clear hv)
      go_wp2_with fail
      (refine (S_pick B _ _ _ (by repeat (first | (with_reducible exact hR.out) | (with_reducible apply RdAt.adds) | (with_reducible apply RdAt.alloc) | (with_reducible exact RdAt.set hR.out _) | (with_reducible apply RdAt.drew))) (by omega)).mono ?_; rintro e w' ⟨v5, p5, k5, rfl, hv, hp5, rfl⟩; have hv5 := hv.1 (by omega); clear hv)
      go_wp2_with (at_builtin; refine wpList_append_own _ rfl _ _ 32 rfl w.heap.size 35 i0 (.agg #[.int .i64 0, .int .i64 0]) 2 16 Try.underlying32 hi hz0 hz1 hz2 rfl (by decide) _ _ _ rfl (ownsRow_moved HO.out (by repeat (first | (with_reducible apply Moved.adds) | (with_reducible apply Moved.alloc) | (with_reducible apply Moved.drew) | (exact Moved.base (by omega)))) hB) ⟨wr.heap.size, 0, none⟩ 1 1 [.int .i64 (wrap64 (v3 * v4)), .int .i64 (v5 / (1 + v1))] rfl rfl (news2 (by go_simp; done) (by go_simp; done)) (one2 rfl rfl) (by unfold maxLen; omega) (by omega) (by simp only [size_adds0, size_addsW, World.size_alloc, World.size_setCell]; omega) ?_; intro v' w1 hown1 hgrow1 _)
      go_roundw
      case rel =>
        refine ⟨k - 1, n + 1, zs ++ [wrap64 (v3 * v4), v5 / (1 + v1)], by go_num, by simp [HL.out]; omega, by omega, ?_⟩
        have hst := HV.out.step (J := 3) hB hR.out hq (by repeat (first | (with_reducible apply Moved.adds) | (with_reducible apply Moved.alloc) | (with_reducible apply Moved.drew) | (exact Moved.base (by omega)))) hgrow1 hown1
        rw [List.map_append]
        exact hst.weak (by omega)
      case measure => simp [intOf]; omega
    · obtain rfl : k = 0 := by omega
      obtain ⟨A, c, e, hnc, hA⟩ := own_shape HO.out
      subst e
      clear hR
      obtain ⟨wo, rfl⟩ : ∃ wo : World, wo = wr := ⟨_, rfl⟩
      go_wp2_with fail
      go_loopw [8] (fun i wr => BinsRel2 w B p (.slice A n c) n i wr) (fun i _ => n - (intOf i).toNat)
      case atStart => exact ⟨0, zs, rfl, Nat.zero_le _, HL.out, HV.out.weak (by omega)⟩
      case round =>
        obtain ⟨k, zs2, rfl, hk2, hlen2, hinv2⟩ := hrel
        have HV2 := Lib.hid hinv2
        have HL2 := Lib.hid hlen2
        obtain ⟨⟨q2, hq2, hRq2⟩, hM2, hown2⟩ := hinv2
        have hsz2 := hM2.size
        have hBr2 : B < wr.heap.size := by omega
        have hR := Lib.hid hRq2
        have HO2 := Lib.hid hown2
        clear hRq2 hM2 hown2 hlen2
        by_cases hlt : k < n
        · obtain ⟨g, rfl, hg, hg2⟩ : ∃ g, A = some ⟨g, 0, none⟩ ∧ w.heap.size ≤ g ∧ g < wo.heap.size := by
            rcases hA with ⟨_, h⟩ | ⟨g, h⟩
            · omega
            · exact ⟨g, h⟩
          have hc := HO2.out.cellAt (k * 2) (by omega)
          have hf := HO2.out.frozenAt (k * 2)
          obtain ⟨x, hx⟩ : ∃ x : Int, (zs2.map (Value.int .i64))[k * 2]? = some (.int .i64 x) := ⟨zs2[k * 2]'(by rw [HL2.out]; omega), by rw [List.getElem?_map, List.getElem?_eq_getElem (by rw [HL2.out]; omega)]; rfl⟩
          rw [hx] at hc
          clear hx
          go_wp2_with fail
          go_roundw
          case rel =>
            refine ⟨k + 1, zs2.set (k * 2) (if 39 < x then 39 else x), by go_num, by omega, by simp [HL2.out], ?_⟩
            obtain ⟨⟨q3, hq3, hR3⟩, hM3, hO3⟩ := HV2.out
            refine ⟨⟨q3, hq3, hR3.far (q := ⟨g, k * 2, none⟩) (show B < g by omega) _⟩, hM3.own hB (a := ⟨g, k * 2, none⟩) hg _, ?_⟩
            rw [List.map_set]
            exact (hO3.stored (k * 2) _).1
          case measure => simp [intOf]; omega
        · obtain rfl : k = n := by omega
          clear hA
          go_wp2_with fail
          refine (S_odd B _ _ _ hR.out (by omega) (by omega)).mono ?_
          rintro e w' ⟨bo, p6, k6, rfl, hp6, rfl⟩
          cases bo
          · go_wp2_with fail
            go_ret
            exact ⟨_, rfl, k, zs2, HL2.out, by omega, (HV2.out.move (J := 1) hB hR.out hq2 (by repeat (first | (with_reducible apply Moved.adds) | (with_reducible apply Moved.alloc) | (with_reducible apply Moved.drew) | (exact Moved.base (by omega))))).weak (by omega)⟩
          · go_wp2_with fail
            (refine (S_pick B _ _ _ (by repeat (first | (with_reducible exact hR.out) | (with_reducible apply RdAt.adds) | (with_reducible apply RdAt.alloc) | (with_reducible exact RdAt.set hR.out _) | (with_reducible apply RdAt.drew))) (by omega)).mono ?_; rintro e w' ⟨v7, p7, k7, rfl, hv, hp7, rfl⟩; have hv7 := hv.1 (by omega); clear hv)
            rcases (show v7 = 0 ∨ v7 = 1 ∨ v7 = 2 by omega) with rfl | rfl | rfl
            · go_wp2_with (at_builtin; refine wpList_append_own _ rfl _ _ 32 rfl w.heap.size 35 i0 (.agg #[.int .i64 0, .int .i64 0]) 2 16 Try.underlying32 hi hz0 hz1 hz2 rfl (by decide) _ _ _ rfl (ownsRow_moved HO2.out (by repeat (first | (with_reducible apply Moved.adds) | (with_reducible apply Moved.alloc) | (with_reducible apply Moved.drew) | (exact Moved.base (by omega)))) hB) ⟨wr.heap.size + 1, 0, none⟩ 1 1 [.int .i64 40, .int .i64 0] rfl rfl (news2 (by go_simp; done) (by go_simp; done)) (one2 rfl rfl) (by unfold maxLen; omega) (by omega) (by simp only [size_adds0, size_addsW, World.size_alloc, World.size_setCell]; omega) ?_; intro v' w1 hown1 hgrow1 _)
              go_ret
              exact ⟨_, rfl, k + 1, zs2 ++ [40, 0], by simp [HL2.out]; omega, by omega, by rw [List.map_append]; exact (HV2.out.step (J := 2) hB hR.out hq2 (by repeat (first | (with_reducible apply Moved.adds) | (with_reducible apply Moved.alloc) | (with_reducible apply Moved.drew) | (exact Moved.base (by omega)))) hgrow1 hown1).weak (by omega)⟩
            · go_wp2_with (at_builtin; refine wpList_append_own _ rfl _ _ 32 rfl w.heap.size 35 i0 (.agg #[.int .i64 0, .int .i64 0]) 2 16 Try.underlying32 hi hz0 hz1 hz2 rfl (by decide) _ _ _ rfl (ownsRow_moved HO2.out (by repeat (first | (with_reducible apply Moved.adds) | (with_reducible apply Moved.alloc) | (with_reducible apply Moved.drew) | (exact Moved.base (by omega)))) hB) ⟨wr.heap.size + 1, 0, none⟩ 1 1 [.int .i64 (-1), .int .i64 0] rfl rfl (news2 (by go_simp; done) (by go_simp; done)) (one2 rfl rfl) (by unfold maxLen; omega) (by omega) (by simp only [size_adds0, size_addsW, World.size_alloc, World.size_setCell]; omega) ?_; intro v' w1 hown1 hgrow1 _)
              go_ret
              exact ⟨_, rfl, k + 1, zs2 ++ [-1, 0], by simp [HL2.out]; omega, by omega, by rw [List.map_append]; exact (HV2.out.step (J := 2) hB hR.out hq2 (by repeat (first | (with_reducible apply Moved.adds) | (with_reducible apply Moved.alloc) | (with_reducible apply Moved.drew) | (exact Moved.base (by omega)))) hgrow1 hown1).weak (by omega)⟩
            · go_wp2_with (at_builtin; refine wpList_append_own _ rfl _ _ 32 rfl w.heap.size 35 i0 (.agg #[.int .i64 0, .int .i64 0]) 2 16 Try.underlying32 hi hz0 hz1 hz2 rfl (by decide) _ _ _ rfl (ownsRow_moved HO2.out (by repeat (first | (with_reducible apply Moved.adds) | (with_reducible apply Moved.alloc) | (with_reducible apply Moved.drew) | (exact Moved.base (by omega)))) hB) ⟨wr.heap.size + 1, 0, none⟩ 1 1 [.int .i64 0, .int .i64 2] rfl rfl (news2 (by go_simp; done) (by go_simp; done)) (one2 rfl rfl) (by unfold maxLen; omega) (by omega) (by simp only [size_adds0, size_addsW, World.size_alloc, World.size_setCell]; omega) ?_; intro v' w1 hown1 hgrow1 _)
              go_ret
              exact ⟨_, rfl, k + 1, zs2 ++ [0, 2], by simp [HL2.out]; omega, by omega, by rw [List.map_append]; exact (HV2.out.step (J := 2) hB hR.out hq2 (by repeat (first | (with_reducible apply Moved.adds) | (with_reducible apply Moved.alloc) | (with_reducible apply Moved.drew) | (exact Moved.base (by omega)))) hgrow1 hown1).weak (by omega)⟩

/-- the decisions of a whole code: in new memory -/
def BinsGotD (W : World) (e : Ending) (w' : World) : Prop :=
  ∃ (A : Option Addr) (n c : Nat) (zs : List Int), e = .returned (.slice A n c) ∧ n ≤ c ∧ c ≤ maxLen ∧ zs.length = n * 2 ∧ n ≤ 90 ∧ RowAt .i64 w' A zs ∧ ((A = none ∧ n = 0) ∨ ∃ g, A = some ⟨g, 0, none⟩) ∧ Below W.heap.size W w'

end Go.Proofs.Ytndbdfbjiaaloaa
