/- Slices of slices of bytes: sizes, copies, comparisons. -/
import Derived.Test.YtbnccnngcgbklaaEq
import Derived.Test.YtbnccnngcgbklaaRange
import Derived.Test.YtbnccnngcgbklaaAgg
import Derived.Deep.RegionHeld3
namespace Go.Proofs.Ytbnccnngcgbklaa
open Go.RowKit
set_option linter.unusedVariables false
set_option linter.unusedSimpArgs false

attribute [local go_sem] size_addsW cell?_addsW frozen?_addsW setCell_addsW drew_addsW adds_addsW setCell_twice alloc_adds0 size_adds0 adds_adds0 sel2 sel3 sel4 sel5 sel6 sel7 sel8 sel9 lt_more lt_more2 lt_more3 lt_more4 adds_drew adds_drewN drewN_addsW ltA_1_1 ltA_1_2 ltA_1_3 ltA_1_4 ltA_1_5 ltA_1_6 ltA_2_1 ltA_2_2 ltA_2_3 ltA_2_4 ltA_2_5 ltA_2_6 ltA_3_1 ltA_3_2 ltA_3_3 ltA_3_4 ltA_3_5 ltA_3_6 ltA_4_1 ltA_4_2 ltA_4_3 ltA_4_4 ltA_4_5 ltA_4_6 ltA_5_1 ltA_5_2 ltA_5_3 ltA_5_4 ltA_5_5 ltA_5_6 ltA_6_1 ltA_6_2 ltA_6_3 ltA_6_4 ltA_6_5 ltA_6_6 ltA_7_1 ltA_7_2 ltA_7_3 ltA_7_4 ltA_7_5 ltA_7_6 ltA_8_1 ltA_8_2 ltA_8_3 ltA_8_4 ltA_8_5 ltA_8_6 ltA_9_1 ltA_9_2 ltA_9_3 ltA_9_4 ltA_9_5 ltA_9_6 ltA_10_1 ltA_10_2 ltA_10_3 ltA_10_4 ltA_10_5 ltA_10_6 ltA_11_1 ltA_11_2 ltA_11_3 ltA_11_4 ltA_11_5 ltA_11_6 ltA_12_1 ltA_12_2 ltA_12_3 ltA_12_4 ltA_12_5 ltA_12_6

/-- the sum of the first k numbers -/
def sm (l : Nat → Nat) : Nat → Nat
  | 0 => 0
  | k + 1 => sm l k + l k
theorem sm_le (l : Nat → Nat) {k n : Nat} (h : k ≤ n) : sm l k ≤ sm l n := by
  induction n with
  | zero => obtain rfl : k = 0 := by omega
            exact Nat.le_refl _
  | succ n ih =>
    by_cases e : k = n + 1
    · subst e; exact Nat.le_refl _
    · have := ih (by omega)
      rw [sm]; omega
/-- n slices of bytes lie from A on: their addresses a, lengths l, capacities c, bytes z -/
def SSAt (W : World) (A : Option Addr) (n : Nat) (a : Nat → Option Addr) (l c : Nat → Nat) (z : Nat → List Int) : Prop :=
  (n ≠ 0 → ∃ b off, A = some ⟨b, off, none⟩ ∧ b < W.heap.size ∧ ∀ i, i < n → W.cell? ⟨b, off + i, none⟩ = some (.slice (a i) (l i) (c i))) ∧
  ∀ i, i < n → RowAt .u8 W (a i) (z i) ∧ (z i).length = l i ∧ l i ≤ 9223372036854775807
theorem SSAt.keep {W W' : World} {A : Option Addr} {n : Nat} {a : Nat → Option Addr} {l c : Nat → Nat} {z : Nat → List Int} (h : SSAt W A n a l c z) (hb : Below W.heap.size W W') : SSAt W' A n a l c z := by
  refine ⟨fun hn => ?_, fun i hi => ⟨(h.2 i hi).1.keep hb, (h.2 i hi).2⟩⟩
  obtain ⟨b, off, rfl, hlt, hc⟩ := h.1 hn
  exact ⟨b, off, rfl, by have := hb.size; omega, fun i hi => (hb.cell (p := ⟨b, off + i, none⟩) hlt).trans (hc i hi)⟩
theorem SSAt.at_ {W : World} {A : Option Addr} {n : Nat} {a : Nat → Option Addr} {l c : Nat → Nat} {z : Nat → List Int} (h : SSAt W A n a l c z) {i : Nat} (hi : i < n) :
    ∃ b off, A = some ⟨b, off, none⟩ ∧ b < W.heap.size ∧ W.cell? ⟨b, off + i, none⟩ = some (.slice (a i) (l i) (c i)) := by
  obtain ⟨b, off, rfl, hlt, hc⟩ := h.1 (by omega)
  exact ⟨b, off, rfl, hlt, hc i hi⟩

theorem L_szByteSS (A : Option Addr) (n cap : Nat) (a : Nat → Option Addr) (l c : Nat → Nat) (z : Nat → List Int) (left : Int) (w : World) (h : SSAt w A n a l c z) (hn : n ≤ 9223372036854775807) (hl : 0 ≤ left ∧ left ≤ 1048576) :
    Calls Try.prog 23 #[.slice A n cap, .int .i64 left] w fun e w' => e = .returned (.int .i64 (if left < (n : Int) + (sm l n : Nat) then -1 else left - ((n : Int) + (sm l n : Nat)))) ∧ w = w' := by
  have HS := Lib.hid h
  clear h
  by_cases h0 : left < (n : Int)
  · rw [if_pos (by omega)]
    go_enter Try.func23, Try.ntmps23
    go_wp2
    go_returns
    exact ⟨rfl, rfl⟩
  · obtain ⟨r, hr⟩ : ∃ r : Int, r = if left < (n : Int) + (sm l n : Nat) then -1 else left - ((n : Int) + (sm l n : Nat)) := ⟨_, rfl⟩
    rw [← hr]
    have HR := Lib.hid hr
    clear hr
    go_enter Try.func23, Try.ntmps23
    go_wp2
    go_loop [1, 5] (fun x i => ∃ k : Nat, k ≤ n ∧ x = .int .i64 (left - (n : Int) - (sm l k : Nat)) ∧ i = .int .i64 (k : Int) ∧ 0 ≤ left - (n : Int) - (sm l k : Nat)) (fun _ i => n - (intOf i).toNat)
    case atStart => exact ⟨0, by omega, by simp [sm], rfl, by simp [sm]; omega⟩
    case round =>
      obtain ⟨k, hk, rfl, rfl, h1⟩ := hrel
      by_cases hlt : k < n
      · obtain ⟨b, off, rfl, hb, hc⟩ := HS.out.at_ hlt
        have hlk := (HS.out.2 k hlt).2.2
        have HK := Lib.hid (show (if left < (n : Int) + (sm l n : Nat) then (-1 : Int) else left - ((n : Int) + (sm l n : Nat))) = r from HR.out.symm)
        have hmono := sm_le l (show k + 1 ≤ n by omega)
        have hmono2 : sm l (k + 1) = sm l k + l k := rfl
        generalize a k = ak at hc
        generalize c k = ck at hc
        have HM := Lib.hid (show (sm l (k + 1) : Int) = (sm l k : Nat) + (l k : Nat) by rw [hmono2]; omega)
        by_cases hd : left - (n : Int) - (sm l k : Nat) < (l k : Nat)
        · have hr1 : r = -1 := by rw [← HK.out, if_pos (by omega)]
          have HR1 := Lib.hid hr1
          clear hr1 hmono hmono2
          generalize l k = lk at *
          generalize hx : left - (n : Int) - (sm l k : Nat) = x at *
          have CZ := Lib.hid (show ∀ W, Calls Try.prog 30 #[.slice ak lk ck, .int .i64 x] W fun e w' => e = .returned (.int .i64 (-1)) ∧ W = w' from fun W => by have := L_szByteS ak lk ck x W (by omega) (by omega); rwa [if_pos hd] at this)
          clear hx
          go_wp2_with (go_at_call 30; refine (CZ.out _).mono ?_; rintro e w' ⟨rfl, rfl⟩)
          go_returns
          exact ⟨by rw [HR1.out]; rfl, rfl⟩
        · clear hmono hmono2
          have HX := Lib.hid (show left - (n : Int) - (sm l (k + 1) : Nat) = left - (n : Int) - (sm l k : Nat) - (l k : Nat) by have := HM.out; omega)
          generalize l k = lk at *
          generalize hx : left - (n : Int) - (sm l k : Nat) = x at *
          have CZ := Lib.hid (show ∀ W, Calls Try.prog 30 #[.slice ak lk ck, .int .i64 x] W fun e w' => e = .returned (.int .i64 (x - lk)) ∧ W = w' from fun W => by have := L_szByteS ak lk ck x W (by omega) (by omega); rwa [if_neg hd] at this)
          have hx0 : 0 ≤ x - (lk : Int) := by omega
          clear hx
          go_wp2_with (go_at_call 30; refine (CZ.out _).mono ?_; rintro e w' ⟨rfl, rfl⟩)
          go_round
          case rel => exact ⟨k + 1, by omega, by rw [HX.out], by go_num, by rw [HX.out]; exact hx0⟩
          case measure => simp [intOf]; omega
      · obtain rfl : k = n := by omega
        have HR1 := Lib.hid (show r = left - (k : Int) - (sm l k : Nat) by rw [HR.out, if_neg (by omega)]; omega)
        generalize left - (k : Int) - (sm l k : Nat) = x at *
        go_wp2
        go_returns
        exact ⟨by rw [HR1.out]; rfl, rfl⟩

end Go.Proofs.Ytbnccnngcgbklaa
