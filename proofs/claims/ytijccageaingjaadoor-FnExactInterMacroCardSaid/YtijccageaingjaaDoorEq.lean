/- Copies, comparisons and sizes of slices of numbers. -/
import Derived.Test.YtijccageaingjaaDoorSmall
import Derived.LoopTactic
import Derived.Deep.OwnRows
import Derived.Deep.QuietTactic
import Derived.BigQuiet
namespace Go.Proofs.YtijccageaingjaaDoor
open Go.RowKit
set_option linter.unusedVariables false
set_option linter.unusedSimpArgs false

attribute [local go_sem] size_addsW cell?_addsW frozen?_addsW setCell_addsW drew_addsW adds_addsW setCell_twice alloc_adds0 size_adds0 adds_adds0 sel2 sel3 sel4 sel5 sel6 sel7 sel8 sel9 lt_more lt_more2 lt_more3 lt_more4 adds_drew adds_drewN drewN_addsW ltA_1_1 ltA_1_2 ltA_1_3 ltA_1_4 ltA_1_5 ltA_1_6 ltA_2_1 ltA_2_2 ltA_2_3 ltA_2_4 ltA_2_5 ltA_2_6 ltA_3_1 ltA_3_2 ltA_3_3 ltA_3_4 ltA_3_5 ltA_3_6 ltA_4_1 ltA_4_2 ltA_4_3 ltA_4_4 ltA_4_5 ltA_4_6 ltA_5_1 ltA_5_2 ltA_5_3 ltA_5_4 ltA_5_5 ltA_5_6 ltA_6_1 ltA_6_2 ltA_6_3 ltA_6_4 ltA_6_5 ltA_6_6 ltA_7_1 ltA_7_2 ltA_7_3 ltA_7_4 ltA_7_5 ltA_7_6 ltA_8_1 ltA_8_2 ltA_8_3 ltA_8_4 ltA_8_5 ltA_8_6 ltA_9_1 ltA_9_2 ltA_9_3 ltA_9_4 ltA_9_5 ltA_9_6 ltA_10_1 ltA_10_2 ltA_10_3 ltA_10_4 ltA_10_5 ltA_10_6 ltA_11_1 ltA_11_2 ltA_11_3 ltA_11_4 ltA_11_5 ltA_11_6 ltA_12_1 ltA_12_2 ltA_12_3 ltA_12_4 ltA_12_5 ltA_12_6

theorem drewN_below (w : World) (m : Nat) : Below w.heap.size w (w.drewN m) := ⟨rfl, rfl, rfl, Nat.le_refl _, fun _ _ => rfl⟩

/-- n cells of which the first k are zs's, the others 0 -/
def copyA (kd : IntKind) (n k : Nat) (zs : List Int) : Array Value := ((zs.take k ++ List.replicate (n - k) 0).map (Value.int kd)).toArray
theorem copyA_at {kd : IntKind} {n k : Nat} {zs : List Int} (hz : zs.length = n) (h : k < n) : (copyA kd n k zs)[k]? = some (.int kd 0) := by
  simp only [copyA, List.getElem?_toArray, List.getElem?_map]
  rw [List.getElem?_append_right (by simp; omega), List.getElem?_replicate]
  simp; omega
theorem copyA_set {kd : IntKind} {n k : Nat} {zs : List Int} (hz : zs.length = n) (h : k < n) : (copyA kd n k zs).setIfInBounds k (.int kd (zs.getD k 0)) = copyA kd n (k + 1) zs := by
  apply Array.ext_getElem?
  intro i
  simp only [copyA, Array.getElem?_setIfInBounds, List.getElem?_toArray, List.getElem?_map, List.size_toArray, List.length_map, List.length_append, List.length_replicate, List.getElem?_append, List.getElem?_replicate, List.length_take, List.getElem?_take]
  have e1 : min k zs.length = k := by omega
  have e2 : min (k + 1) zs.length = k + 1 := by omega
  rw [e1, e2]
  by_cases h1 : k = i
  · subst h1
    have : k < zs.length := by omega
    simp [List.getD_eq_getElem?_getD, this]; omega
  · by_cases h2 : i < k
    · have h3 : i < k + 1 := by omega
      simp [h1, h2, h3]
    · have h3 : ¬ i < k + 1 := by omega
      simp only [h1, if_false, h2, h3]
      by_cases h4 : i - k < n - k
      · have h5 : i - (k + 1) < n - (k + 1) := by omega
        simp [h4, h5]
      · have h5 : ¬ i - (k + 1) < n - (k + 1) := by omega
        simp [h4, h5]
theorem copyA_at1 {kd : IntKind} {n k : Nat} {zs : List Int} (hz : zs.length = n) (h : k + 1 < n) : (copyA kd n k zs)[k + 1]? = some (.int kd 0) := by
  simp only [copyA, List.getElem?_toArray, List.getElem?_map]
  rw [List.getElem?_append_right (by simp; omega), List.getElem?_replicate]
  simp; omega
theorem copyA_set2 {kd : IntKind} {n k : Nat} {zs : List Int} (hz : zs.length = n) (h : k + 1 < n) : ((copyA kd n k zs).setIfInBounds k (.int kd (zs.getD k 0))).setIfInBounds (k + 1) (.int kd (zs.getD (k + 1) 0)) = copyA kd n (k + 2) zs := by
  rw [copyA_set hz (by omega), copyA_set hz h]
theorem made_copyA (kd : IntKind) (n : Nat) (zs : List Int) : madeCells #[.int kd 0] n = copyA kd n 0 zs := by
  apply Array.ext_getElem?
  intro i
  simp only [madeCells, copyA, Array.getElem?_map, List.getElem?_toArray, List.getElem?_map, List.take_zero, List.nil_append, Nat.sub_zero, List.getElem?_replicate, Array.getElem?_range]
  by_cases h : i < n <;> simp [h, Nat.mod_one]
theorem copyA_full {kd : IntKind} {n : Nat} {zs : List Int} (hz : zs.length = n) : copyA kd n n zs = (zs.map (Value.int kd)).toArray := by simp [copyA, List.take_of_length_le (show zs.length ≤ n by omega)]

theorem infoIntS : (Tryd.prog.info? 3).map (fun i => (i.zero, i.size, i.bytes)) = some (some (.int .i64 0), 1, 8) := by kernel_rfl

theorem L_szIntS (A : Option Addr) (n c : Nat) (left : Int) (w : World) (hn : n ≤ 9223372036854775807) (hl : 0 ≤ left ∧ left ≤ 1048576) :
    Calls Tryd.prog 11 #[.slice A n c, .int .i64 left] w fun e w' => e = .returned (.int .i64 (if left < n then -1 else left - n)) ∧ w = w' := by
  by_cases hc : left < n
  all_goals
    rw [show (if left < (n : Int) then (-1 : Int) else left - n) = _ from by first | rw [if_pos hc] | rw [if_neg hc]]
    go_enter Tryd.func11, Tryd.ntmps11
    go_wp2
    go_returns
    exact ⟨rfl, rfl⟩

theorem L_toIntS (A : Option Addr) (c : Nat) (zs : List Int) (w : World) (hr : RowAt .i64 w A zs) (hl : zs.length ≤ 1048576) :
    Calls Tryd.prog 17 #[.slice A zs.length c] w fun e w' => e = .returned (.slice (some ⟨w.heap.size, 0, none⟩) zs.length zs.length) ∧ ∃ o : Obj, o = .cells (zs.map (Value.int .i64)).toArray 3 ∧ w' = w.alloc o := by
  obtain ⟨N, hYtijccageaingjaaDoor⟩ : ∃ N, N = zs.length := ⟨_, rfl⟩
  rw [← hYtijccageaingjaaDoor] at hl ⊢
  have HN := Lib.hid hYtijccageaingjaaDoor.symm
  clear hYtijccageaingjaaDoor
  have hmk : ∀ W : World, (Instr.makeSlice 22 (.int .i64 (N : Int)) (.int .i64 (N : Int))).run Tryd.prog W = .ok (.slice (some ⟨W.heap.size, 0, none⟩) N N) (W.alloc (.cells (copyA .i64 N 0 zs) 3)) := by
    intro W
    have := run_make_row' (P := Tryd.prog) 22 3 (.int .i64 0) 8 Tryd.underlying22 infoIntS rfl .i64 .i64 N (by omega) (by omega) W
    rw [made_copyA .i64 N zs] at this
    exact this
  have HR := Lib.hid hr
  clear hr
  go_enter Tryd.func17, Tryd.ntmps17
  go_wp2
  go_loopw [4] (fun i wr => ∃ k : Nat, k ≤ N ∧ i = .int .i64 (k : Int) ∧ wr = w.alloc (.cells (copyA .i64 N k zs) 3)) (fun i _ => N - (intOf i).toNat)
  case atStart => exact ⟨0, Nat.zero_le _, rfl, rfl⟩
  case round =>
    obtain ⟨k, hk, rfl, rfl⟩ := hrel
    by_cases hlt : k < N
    · obtain ⟨b, off, z, rfl, hb, hz, hc⟩ := HR.out.at_ (i := k) (by rw [HN.out]; exact hlt)
      have HZ := Lib.hid hz
      clear hz
      have hF := copyA_at (kd := .i64) (zs := zs) HN.out hlt
      have HS := Lib.hid (copyA_set (kd := .i64) HN.out hlt)
      go_wp2
      go_roundw
      case rel => exact ⟨k + 1, by omega, by go_num, by rw [← HS.out, ← HZ.out]⟩
      case measure => simp [intOf]; omega
    · obtain rfl : k = N := by omega
      go_wp2
      go_returns
      exact ⟨rfl, _, rfl, by rw [copyA_full HN.out]⟩

theorem L_eqIntS (A A' : Option Addr) (c c' : Nat) (zs : List Int) (w : World) (hr : RowAt .i64 w A zs) (hr' : RowAt .i64 w A' zs) (hl : zs.length ≤ 1000000000000) :
    Calls Tryd.prog 31 #[.slice A zs.length c, .slice A' zs.length c'] w fun e w' => e = .returned (.bool true) ∧ Below w.heap.size w w' := by
  have HR := Lib.hid hr
  have HR' := Lib.hid hr'
  clear hr hr'
  go_enter Tryd.func31, Tryd.ntmps31
  go_wp2
  go_loopw [5] (fun i wr => ∃ k m : Nat, k ≤ zs.length ∧ i = .int .i64 k ∧ wr = w.drewN m) (fun i _ => zs.length - (intOf i).toNat)
  case atStart => exact ⟨0, 0, Nat.zero_le _, rfl, rfl⟩
  case round =>
    obtain ⟨k, m, hk, rfl, rfl⟩ := hrel
    by_cases hlt : k < zs.length
    · obtain ⟨b, off, z, rfl, hb, hz, hc⟩ := HR.out.at_ hlt
      obtain ⟨b', off', z', rfl, hb', hz', hc'⟩ := HR'.out.at_ hlt
      obtain rfl : z = z' := hz.trans hz'.symm
      clear hz hz'
      have hk0 : (0 : Int) ≤ (k : Int) := by omega
      have hk1 : (k : Int) < (zs.length : Int) := by omega
      go_wp2
      go_quiet (fail)
      go_wp2
      go_roundw
      case rel => exact ⟨k + 1, _, by omega, by go_num, rfl⟩
      case measure => simp [intOf]; omega
    · go_wp2
      go_ret
      exact ⟨rfl, drewN_below w m⟩

theorem infoByteS : (Tryd.prog.info? 5).map (fun i => (i.zero, i.size, i.bytes)) = some (some (.int .u8 0), 1, 1) := by kernel_rfl

end Go.Proofs.YtijccageaingjaaDoor
