/- What the draws of bytes, of packets and of edges answer. -/
import Derived.Test.YtggkelehjdepkaaApp
import Derived.Test.YtggkelehjdepkaaDrawC
import Derived.LoopTactic
import Derived.Deep.DeepCutAuto
import Derived.Deep.RegionHeld3
namespace Go.Proofs.Ytggkelehjdepkaa
open Go.RowKit
set_option linter.unusedVariables false
set_option linter.unusedSimpArgs false

attribute [local go_sem] size_addsW cell?_addsW frozen?_addsW setCell_addsW drew_addsW adds_addsW setCell_twice alloc_adds0 size_adds0 adds_adds0 sel2 sel3 sel4 sel5 sel6 sel7 sel8 sel9 lt_more lt_more2 lt_more3 lt_more4 adds_drew adds_drewN drewN_addsW ltA_1_1 ltA_1_2 ltA_1_3 ltA_1_4 ltA_1_5 ltA_1_6 ltA_2_1 ltA_2_2 ltA_2_3 ltA_2_4 ltA_2_5 ltA_2_6 ltA_3_1 ltA_3_2 ltA_3_3 ltA_3_4 ltA_3_5 ltA_3_6 ltA_4_1 ltA_4_2 ltA_4_3 ltA_4_4 ltA_4_5 ltA_4_6 ltA_5_1 ltA_5_2 ltA_5_3 ltA_5_4 ltA_5_5 ltA_5_6 ltA_6_1 ltA_6_2 ltA_6_3 ltA_6_4 ltA_6_5 ltA_6_6 ltA_7_1 ltA_7_2 ltA_7_3 ltA_7_4 ltA_7_5 ltA_7_6 ltA_8_1 ltA_8_2 ltA_8_3 ltA_8_4 ltA_8_5 ltA_8_6 ltA_9_1 ltA_9_2 ltA_9_3 ltA_9_4 ltA_9_5 ltA_9_6 ltA_10_1 ltA_10_2 ltA_10_3 ltA_10_4 ltA_10_5 ltA_10_6 ltA_11_1 ltA_11_2 ltA_11_3 ltA_11_4 ltA_11_5 ltA_11_6 ltA_12_1 ltA_12_2 ltA_12_3 ltA_12_4 ltA_12_5 ltA_12_6

theorem infoU8 : (Try.prog.info? 5).map (fun i => (i.zero, i.size, i.bytes)) = some (some (.int .u8 0), 1, 1) := by kernel_rfl

/-- the bytes that are drawn -/
def BytesDrawn (most K : Nat) (W : World) (B p : Nat) (e : Ending) (w' : World) : Prop :=
  ∃ (v : Value) (zs : List Int), e = .returned v ∧ zs.length ≤ most ∧ (∀ z ∈ zs, 0 ≤ z ∧ z ≤ 255) ∧ AppInv W B p K 5 1 v zs.length (zs.map (Value.int .u8)) w'

def BytesRel (w : World) (B p most : Nat) (v i : Value) (wr : World) : Prop :=
  ∃ (k : Nat) (zs : List Int), i = .int .i64 (k : Int) ∧ zs.length + k ≤ most ∧ (∀ z ∈ zs, 0 ≤ z ∧ z ≤ 255) ∧ AppInv w B p (1 + 3 * zs.length) 5 1 v zs.length (zs.map (Value.int .u8)) wr

theorem byte_sel {x : Int} (l : List Int) (i : Nat) (h : i < l.length) : 0 ≤ IntKind.u8.wrap l[i] ∧ IntKind.u8.wrap l[i] ≤ 255 := by
  simp only [IntKind.wrap_u8]; omega

set_option maxHeartbeats 1000000 in
theorem S_l20Bytes (B p most : Nat) (w : World) (h : RdAt w B p) (hp : p ≤ 900000000) (hn : most ≤ 1000) :
    Calls Try.prog 86 #[.pointer (some ⟨B, 0, none⟩), .int .i64 (most : Int)] w (BytesDrawn most (1 + 3 * most) w B p) := by
  have hB := h.lt
  have hR := Lib.hid h
  clear h
  obtain ⟨i0, hi, hz0, hz1, hz2⟩ := info_parts infoU8
  go_enter Try.func86, Try.ntmps86
  go_wp2_with (go_at_call 31; refine (S_pick B _ _ _ (by repeat (first | (with_reducible exact hR.out) | (with_reducible apply RdAt.adds) | (with_reducible apply RdAt.alloc) | (with_reducible exact RdAt.set hR.out _) | (with_reducible apply RdAt.drew))) (by omega)).mono ?_; rintro e w' ⟨v, p1, k1, rfl, hv, hp1, rfl⟩; have hv' := hv.1 (by omega); clear hv)
  obtain ⟨k0, rfl⟩ := Int.eq_ofNat_of_zero_le hv'.1
  go_loopw [5, 6] (fun v i wr => BytesRel w B p most v i wr) (fun _ i _ => (intOf i).toNat)
  case atStart =>
    refine ⟨_, [], rfl, by simp; omega, by simp, AppInv.mk0 (by repeat (first | (with_reducible exact hR.out) | (with_reducible apply RdAt.adds) | (with_reducible apply RdAt.alloc) | (with_reducible exact RdAt.set hR.out _) | (with_reducible apply RdAt.drew))) (by simp; omega) (by simpa using (by repeat (first | (with_reducible apply Moved.adds) | (with_reducible apply Moved.alloc) | (with_reducible apply Moved.drew) | (exact Moved.base (by omega))))) ?_⟩
    have ho := World.ownsRow_lit (base := w.heap.size) (e := 5) (size := 1) (w.setCell ⟨B, 1, none⟩ (.int .i64 (p1 : Int))) #[] 0 (by simp) (by decide) rfl
    rw [World.size_setCell] at ho
    exact ownsRow_below ho (addsW_below _ _ _)
  case round =>
    obtain ⟨k, zs, rfl, hk, hzs, hinv⟩ := hrel
    have HZ := Lib.hid hzs
    have HV := Lib.hid hinv
    obtain ⟨⟨q, hq, hRq⟩, hM0, hown0⟩ := hinv
    have hsz := hM0.size
    have hBr : B < wr.heap.size := by omega
    have hR := Lib.hid hRq
    have HO := Lib.hid hown0
    clear hzs hRq hM0 hown0
    by_cases hlt : 0 < k
    · go_wp2_with fail
      (refine (S_pick B _ _ _ (by repeat (first | (with_reducible exact hR.out) | (with_reducible apply RdAt.adds) | (with_reducible apply RdAt.alloc) | (with_reducible exact RdAt.set hR.out _) | (with_reducible apply RdAt.drew))) (by omega)).mono ?_; rintro e w' ⟨v1, p1, k1, rfl, hv, hp1, rfl⟩; have hv1 := hv.1 (by omega); clear hv)
      go_wp2_with fail
      (refine (S_pick B _ _ _ (by repeat (first | (with_reducible exact hR.out) | (with_reducible apply RdAt.adds) | (with_reducible apply RdAt.alloc) | (with_reducible exact RdAt.set hR.out _) | (with_reducible apply RdAt.drew))) (by omega)).mono ?_; rintro e w' ⟨v2, p2, k2, rfl, hv, hp2, rfl⟩; have hv2 := hv.1 (by omega); clear hv)
      go_wp2_with fail
      (refine (S_pick B _ _ _ (by repeat (first | (with_reducible exact hR.out) | (with_reducible apply RdAt.adds) | (with_reducible apply RdAt.alloc) | (with_reducible exact RdAt.set hR.out _) | (with_reducible apply RdAt.drew))) (by omega)).mono ?_; rintro e w' ⟨v3, p3, k3, rfl, hv, hp3, rfl⟩; have hv3 := hv.1 (by omega); clear hv)
      go_wp2_with (at_builtin; refine wpList_append_own _ rfl _ _ 22 rfl w.heap.size 5 i0 (.int .u8 0) 1 1 Try.underlying22 hi hz0 hz1 hz2 rfl (by decide) _ _ _ rfl (ownsRow_moved HO.out (by repeat (first | (with_reducible apply Moved.adds) | (with_reducible apply Moved.alloc) | (with_reducible apply Moved.drew) | (exact Moved.base (by omega)))) hB) ⟨wr.heap.size + 1, 0, none⟩ 1 1 [.int .u8 (([0, 255, v1, v2][v3.toNat]'(by simp; omega)) % 256)] rfl rfl (news1 (by go_simp; done)) (one1 rfl) (by unfold maxLen; omega) (by omega) (by simp only [size_adds0, size_addsW, World.size_alloc, World.size_setCell]; omega) ?_; intro v' w1 hown1 hgrow1 _)
      go_roundw
      case rel =>
        refine ⟨k - 1, zs ++ [([0, 255, v1, v2][v3.toNat]'(by simp; omega)) % 256], by go_num, by simp; omega, ?_, ?_⟩
        · intro z hz
          rw [List.mem_append] at hz
          rcases hz with hz | hz
          · exact HZ.out z hz
          · simp only [List.mem_cons, List.not_mem_nil, or_false] at hz; omega
        · have hst := HV.out.step (J := 3) hB hR.out hq (by repeat (first | (with_reducible apply Moved.adds) | (with_reducible apply Moved.alloc) | (with_reducible apply Moved.drew) | (exact Moved.base (by omega)))) hgrow1 hown1
          rw [List.map_append, List.length_append]
          exact hst.weak (by simp; omega)
      case measure => simp [intOf]; omega
    · go_wp2
      go_ret
      exact ⟨_, zs, rfl, by omega, HZ.out, HV.out.weak (by omega)⟩

def FECut (w1 : World) (B : Nat) (s10 : Value) (wx : World) : Prop :=
  ∃ (x0 x1 x2 x3 : Int) (q k : Nat), s10 = .slice (some ⟨w1.heap.size, 0, none⟩) 4 4 ∧ wx = addsW ((w1.setCell ⟨B, 1, none⟩ (.int .i64 (q : Int))).alloc (.cells #[.int .i64 x0, .int .i64 x1, .int .i64 x2, .int .i64 x3] 3)) #[] k ∧ q ≤ 10 ∧ -32 ≤ x0 ∧ x0 ≤ 400 ∧ -32 ≤ x1 ∧ x1 ≤ 400 ∧ -32 ≤ x2 ∧ x2 ≤ 400 ∧ -32 ≤ x3 ∧ x3 ≤ 400

def FEGot (W : World) (e : Ending) (w' : World) : Prop :=
  ∃ a b c d l : Int, e = .returned (.tuple #[.int .i64 a, .int .i64 b, .int .i64 c, .int .i64 d, .int .i64 l]) ∧ -32 ≤ a ∧ a ≤ 400 ∧ -32 ≤ b ∧ b ≤ 400 ∧ -32 ≤ c ∧ c ≤ 400 ∧ -32 ≤ d ∧ d ≤ 400 ∧ -1 ≤ l ∧ l ≤ 14 ∧ Below W.heap.size W w'

end Go.Proofs.Ytggkelehjdepkaa
