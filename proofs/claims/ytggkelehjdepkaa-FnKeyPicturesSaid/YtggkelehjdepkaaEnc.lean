/- EncodeBins: the bytes that the coder by numbers tells; nothing where a decision is invalid. -/
import Derived.Test.YtggkelehjdepkaaCodIP
namespace Go.Proofs.Ytggkelehjdepkaa
open Go.RowKit
set_option linter.unusedVariables false
set_option linter.unusedSimpArgs false

attribute [local go_sem] size_addsW cell?_addsW frozen?_addsW setCell_addsW drew_addsW adds_addsW setCell_twice alloc_adds0 size_adds0 adds_adds0 sel2 sel3 sel4 sel5 sel6 sel7 sel8 sel9 lt_more lt_more2 lt_more3 lt_more4 adds_drew adds_drewN drewN_addsW ltA_1_1 ltA_1_2 ltA_1_3 ltA_1_4 ltA_1_5 ltA_1_6 ltA_2_1 ltA_2_2 ltA_2_3 ltA_2_4 ltA_2_5 ltA_2_6 ltA_3_1 ltA_3_2 ltA_3_3 ltA_3_4 ltA_3_5 ltA_3_6 ltA_4_1 ltA_4_2 ltA_4_3 ltA_4_4 ltA_4_5 ltA_4_6 ltA_5_1 ltA_5_2 ltA_5_3 ltA_5_4 ltA_5_5 ltA_5_6 ltA_6_1 ltA_6_2 ltA_6_3 ltA_6_4 ltA_6_5 ltA_6_6 ltA_7_1 ltA_7_2 ltA_7_3 ltA_7_4 ltA_7_5 ltA_7_6 ltA_8_1 ltA_8_2 ltA_8_3 ltA_8_4 ltA_8_5 ltA_8_6 ltA_9_1 ltA_9_2 ltA_9_3 ltA_9_4 ltA_9_5 ltA_9_6 ltA_10_1 ltA_10_2 ltA_10_3 ltA_10_4 ltA_10_5 ltA_10_6 ltA_11_1 ltA_11_2 ltA_11_3 ltA_11_4 ltA_11_5 ltA_11_6 ltA_12_1 ltA_12_2 ltA_12_3 ltA_12_4 ltA_12_5 ltA_12_6

/-- decision i of a flat list -/
def bnC (zs : List Int) (i : Nat) : Int := zs.getD (i * 2) 0
def bnB (zs : List Int) (i : Nat) : Int := zs.getD (i * 2 + 1) 0
/-- what EncodeBins hands back -/
def encL (zs : List Int) (n : Nat) : List Int := if binsB zs n then M.encBytes (bnC zs) (bnB zs) n else []
theorem binsB_ok {zs : List Int} {n : Nat} (h : binsB zs n = true) : n ≤ 20000 ∧ ∀ i, i < n → (0 ≤ bnC zs i ∧ bnC zs i < 40) ∧ (bnB zs i = 0 ∨ bnB zs i = 1) := by
  simp only [binsB, binsUp, Bool.and_eq_true, decide_eq_true_eq, List.all_eq_true, List.mem_range] at h
  refine ⟨h.1, fun i hi => ?_⟩
  have h1 := h.2 i hi
  simp only [binOk, Bool.and_eq_true] at h1
  have a1 := M.inB_iff.1 h1.1
  have a2 := M.inB_iff.1 h1.2
  unfold bnC bnB
  omega
theorem encL_len (zs : List Int) (n : Nat) (h : n ≤ 20000) : (encL zs n).length ≤ 40004 := by
  unfold encL
  split
  · rw [M.encBytes, M.dig_len]; have := M.encK_len (bnC zs) (bnB zs) n; omega
  · simp
/-- bytes in new memory -/
def BytesGot (l : List Int) (w : World) (e : Ending) (w' : World) : Prop :=
  ∃ (A : Option Addr) (c : Nat), e = .returned (.slice A l.length c) ∧ RowAt .u8 w' A l ∧ (∀ d, A = some d → w.heap.size ≤ d.block) ∧ (Soft w' A ∧ l.length ≤ c) ∧ Below w.heap.size w w'

theorem infoIntE : (Try.prog.info? 3).map (fun i => (i.zero, i.size, i.bytes)) = some (some (.int .i64 0), 1, 8) := by kernel_rfl

def ChRel (w : World) (v j : Value) (wr : World) : Prop := ∃ (k : Nat) (oo : Array Obj) (nn : Nat), k ≤ 40 ∧ j = .int .i64 (k : Int) ∧ wr = addsW w oo nn ∧ wr.ownsRow w.heap.size 3 1 v k ((List.replicate k 2048).map (Value.int .i64))

set_option maxRecDepth 100000 in
theorem S_l9Chances (w : World) : Calls Try.prog 64 #[] w fun e w' => ∃ (g c : Nat), e = .returned (.slice (some ⟨g, 0, none⟩) 40 c) ∧ RowAt .i64 w' (some ⟨g, 0, none⟩) (List.replicate 40 2048) ∧ Soft w' (some ⟨g, 0, none⟩) ∧ w.heap.size ≤ g ∧ g < w'.heap.size ∧ Below w.heap.size w w' := by
  obtain ⟨i0, hi, hz0, hz1, hz2⟩ := info_parts infoIntE
  go_enter Try.func64, Try.ntmps64
  go_wp2_with fail
  go_loopw [1, 2] (fun v j wr => ChRel w v j wr) (fun _ i _ => 40 - (intOf i).toNat)
  case atStart => exact ⟨0, #[.cells #[] 3], _, by omega, rfl, alloc_as _ _, own_lit_g _ _ _ rfl⟩
  case round =>
    obtain ⟨k, oo, nn, hk, rfl, rfl, hown⟩ := hrel
    have HO := Lib.hid hown
    clear hown
    by_cases hlt : k < 40
    · have hd1 : decide ((k : Int) < 40) = true := by simp; omega
      have HS := Lib.hid (List.replicate_succ' (n := k) (a := (2048 : Int)))
      go_wp2_with (at_builtin; refine wpList_append_own _ rfl _ _ 59 rfl w.heap.size 3 i0 (.int .i64 0) 1 8 Try.underlying59 hi hz0 hz1 hz2 rfl (by decide) _ _ _ rfl (HO.out.alloc _) ⟨_, 0, none⟩ 1 1 [.int .i64 2048] rfl rfl (news1 (by go_simp; done)) (one1 rfl) (by unfold maxLen; omega) (by omega) (by simp only [size_addsW, World.size_alloc]; omega) ?_; intro v' w1 hown1 hgrow1 _; obtain ⟨A1, c1, oo3, nn3, rfl, rfl, ho3⟩ := app_go (W0 := w) hown1 hgrow1 (by repeat' (first | (with_reducible exact Below.refl _ _) | (with_reducible refine Below.adds_ ?_ ?_ _ _) | (with_reducible refine Below.alloc ?_ ?_ _) | (with_reducible refine Below.drew ?_) | (with_reducible refine Below.setCell ?_ ?_ _) | (with_reducible assumption) | go_size | (simp only [size_addsW, World.size_alloc, World.size_drew, World.size_setCell]; omega))) (fun q e => (HO.out.lt q e).1); clear hown1 hgrow1)
      go_roundw
      case rel =>
        refine ⟨k + 1, oo3, nn3, by omega, by go_num, rfl, ?_⟩
        rw [HS.out, List.map_append]
        exact ho3
      case measure => simp [intOf]; omega
    · obtain rfl : k = 40 := by omega
      obtain ⟨A1, c1, e1, -, -, -, hr1, hA1⟩ := RowAt.of_ownS HO.out
      have hsf := Soft.of_own (e1 ▸ HO.out)
      rcases hA1 with ⟨_, h0⟩ | ⟨g, rfl⟩
      · omega
      · have hg := HO.out.lt g (by rw [e1]; rfl)
        subst e1
        have HR := Lib.hid hr1
        have HS := Lib.hid hsf
        clear hr1 hsf HO
        go_wp2_with fail
        go_returns
        exact ⟨g, c1, rfl, HR.out, HS.out, hg.1, hg.2, (by repeat' (first | (with_reducible exact Below.refl _ _) | (with_reducible refine Below.adds_ ?_ ?_ _ _) | (with_reducible refine Below.alloc ?_ ?_ _) | (with_reducible refine Below.drew ?_) | (with_reducible refine Below.setCell ?_ ?_ _) | (with_reducible assumption) | go_size | (simp only [size_addsW, World.size_alloc, World.size_drew, World.size_setCell]; omega)))⟩

end Go.Proofs.Ytggkelehjdepkaa
