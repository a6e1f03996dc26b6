/- Lists of decisions marked and looked at; NumberBins. -/
import Derived.Test.YtggkelehjdepkaaNumI
import Derived.Test.YtggkelehjdepkaaMarkB
namespace Go.Proofs.Ytggkelehjdepkaa
open Go.RowKit
set_option linter.unusedVariables false
set_option linter.unusedSimpArgs false

attribute [local go_sem] size_addsW cell?_addsW frozen?_addsW setCell_addsW drew_addsW adds_addsW setCell_twice alloc_adds0 size_adds0 adds_adds0 sel2 sel3 sel4 sel5 sel6 sel7 sel8 sel9 lt_more lt_more2 lt_more3 lt_more4 adds_drew adds_drewN drewN_addsW ltA_1_1 ltA_1_2 ltA_1_3 ltA_1_4 ltA_1_5 ltA_1_6 ltA_2_1 ltA_2_2 ltA_2_3 ltA_2_4 ltA_2_5 ltA_2_6 ltA_3_1 ltA_3_2 ltA_3_3 ltA_3_4 ltA_3_5 ltA_3_6 ltA_4_1 ltA_4_2 ltA_4_3 ltA_4_4 ltA_4_5 ltA_4_6 ltA_5_1 ltA_5_2 ltA_5_3 ltA_5_4 ltA_5_5 ltA_5_6 ltA_6_1 ltA_6_2 ltA_6_3 ltA_6_4 ltA_6_5 ltA_6_6 ltA_7_1 ltA_7_2 ltA_7_3 ltA_7_4 ltA_7_5 ltA_7_6 ltA_8_1 ltA_8_2 ltA_8_3 ltA_8_4 ltA_8_5 ltA_8_6 ltA_9_1 ltA_9_2 ltA_9_3 ltA_9_4 ltA_9_5 ltA_9_6 ltA_10_1 ltA_10_2 ltA_10_3 ltA_10_4 ltA_10_5 ltA_10_6 ltA_11_1 ltA_11_2 ltA_11_3 ltA_11_4 ltA_11_5 ltA_11_6 ltA_12_1 ltA_12_2 ltA_12_3 ltA_12_4 ltA_12_5 ltA_12_6

theorem L_markBinA (A : Option Addr) (c n : Nat) (zs : List Int) (k0 : Int) (w : World) (hr : RowAt .i64 w A zs) (hs : Soft w A) (hz : zs.length = n * 2) (hl : n ≤ 1048576) (hk0 : 0 ≤ k0 ∧ k0 ≤ 1000000000000) :
    Calls Try.prog 24 #[.slice A n c, .int .i64 k0] w fun e w' => e = .returned (.int .i64 (k0 + 2 * n)) ∧ Marked w A w' ∧ RowAt .i64 w' A (marks k0 (n * 2)) ∧ Soft w' A := by
  have HZ := Lib.hid hz
  have HR := Lib.hid hr
  have HS := Lib.hid hs
  clear hr hs hz
  go_enter Try.func24, Try.ntmps24
  go_wp2
  go_loopw [1, 5] (fun kk i wr => ∃ k : Nat, k ≤ n ∧ i = .int .i64 (k : Int) ∧ kk = .int .i64 (k0 + 2 * k) ∧ Marked w A wr ∧ RowAt .i64 wr A (markL k0 zs (k * 2)) ∧ Soft wr A) (fun _ i _ => n - (intOf i).toNat)
  case atStart => exact ⟨0, Nat.zero_le _, rfl, by simp, Marked.refl _ _, by rw [Nat.zero_mul, markL_zero]; exact HR.out, HS.out⟩
  case round =>
    obtain ⟨k, hk, rfl, rfl, hm, hr, hs⟩ := hrel
    have HM := Lib.hid hm
    have HR1 := Lib.hid hr
    have HS1 := Lib.hid hs
    clear hm hr hs HR HS
    by_cases hlt : k < n
    · obtain ⟨b, off, x, y, rfl, hb, -, -, hc, hc2⟩ := HR1.out.two (n := n) (i := k) (by rw [markL_len _ _ _ (by rw [HZ.out]; omega), HZ.out]) hlt
      have hf1 := HS1.out.hot rfl (off + k * 2)
      have hf2 := HS1.out.hot rfl (off + k * 2 + 1)
      go_wp2
      go_roundw
      case rel =>
        have h1 := HR1.out.mark (k := k * 2) (by rw [HZ.out]; omega)
        have h2 := h1.mark (k := k * 2 + 1) (by rw [HZ.out]; omega)
        have e1 : k0 + ((k * 2 : Nat) : Int) = k0 + 2 * (k : Int) := by omega
        have e2 : k0 + ((k * 2 + 1 : Nat) : Int) = k0 + 2 * (k : Int) + 1 := by omega
        rw [e1, e2] at h2
        exact ⟨k + 1, by omega, by go_num, by rw [show k0 + 2 * ((k + 1 : Nat) : Int) = k0 + 2 * (k : Int) + 1 + 1 by omega], (HM.out.set _ _).set _ _, by rw [show (k + 1) * 2 = k * 2 + 1 + 1 by omega]; exact h2, (HS1.out.set _ _).set _ _⟩
      case measure => simp [intOf]; omega
    · obtain rfl : k = n := by omega
      go_wp2
      go_returns
      exact ⟨rfl, HM.out, by have := HR1.out; rw [← HZ.out, markL_full, HZ.out] at this; exact this, HS1.out⟩

theorem L_heldBinA (A : Option Addr) (c n : Nat) (k0 : Int) (w : World) (hr : RowAt .i64 w A (marks k0 (n * 2))) (hl : n ≤ 1048576) (hk0 : 0 ≤ k0 ∧ k0 ≤ 1000000000000) :
    Calls Try.prog 25 #[.slice A n c, .int .i64 k0] w fun e w' => e = .returned (.int .i64 (k0 + 2 * n)) ∧ Below w.heap.size w w' := by
  have HR := Lib.hid hr
  clear hr
  go_enter Try.func25, Try.ntmps25
  go_wp2
  go_loopw [1, 5] (fun kk i wr => ∃ k m : Nat, k ≤ n ∧ i = .int .i64 (k : Int) ∧ kk = .int .i64 (k0 + 2 * k) ∧ wr = w.drewN m) (fun _ i _ => n - (intOf i).toNat)
  case atStart => exact ⟨0, 0, Nat.zero_le _, rfl, by simp, rfl⟩
  case round =>
    obtain ⟨k, m, hk, rfl, rfl, rfl⟩ := hrel
    by_cases hlt : k < n
    · obtain ⟨b, off, x, y, rfl, hb, hx, hy, hc, hc2⟩ := HR.out.two (n := n) (i := k) (by rw [marks_len]) hlt
      rw [marks_at _ (by omega), show k0 + ((k * 2 : Nat) : Int) = k0 + 2 * (k : Int) by omega] at hx
      rw [marks_at _ (by omega), show k0 + ((k * 2 + 1 : Nat) : Int) = k0 + 2 * (k : Int) + 1 by omega] at hy
      subst hx hy
      go_wp2
      go_roundw
      case rel => exact ⟨k + 1, _, by omega, by go_num, by rw [show k0 + 2 * ((k + 1 : Nat) : Int) = k0 + 2 * (k : Int) + 1 + 1 by omega], rfl⟩
      case measure => simp [intOf]; omega
    · obtain rfl : k = n := by omega
      go_wp2
      go_ret
      exact ⟨rfl, drewN_below w m⟩

/-- a list of m decisions in new memory -/
def BinsOut (m : Nat) (zs : List Int) (w : World) (e : Ending) (w' : World) : Prop :=
  ∃ (A : Option Addr) (c : Nat), e = .returned (.slice A m c) ∧ m ≤ c ∧ RowAt .i64 w' A zs ∧ (∀ d, A = some d → w.heap.size ≤ d.block) ∧ Soft w' A ∧ Below w.heap.size w w'
theorem BinsOut.own {m : Nat} {zs : List Int} {w w' : World} {v : Value} (h : w'.ownsRow w.heap.size 35 2 v m (zs.map (Value.int .i64))) (hb : Below w.heap.size w w') : BinsOut m zs w (.returned v) w' := by
  obtain ⟨A, c, rfl, -, hc, -, hr, -⟩ := RowAt.of_ownS h
  exact ⟨A, c, rfl, hc, hr, fun d hd => (h.lt d.block (by rw [hd]; rfl)).1, Soft.of_own h, hb⟩
theorem BinsOut.nil (w w' : World) (hb : Below w.heap.size w w') : BinsOut 0 [] w (.returned (.slice none 0 0)) w' := ⟨none, 0, rfl, Nat.le_refl _, fun h => absurd rfl h, fun d hd => by (cases hd), fun d hd => by (cases hd), hb⟩
theorem below_of_grown {w w' : World} (h : w.grownBy w' none) : Below w.heap.size w w' := ⟨h.os, h.tape, h.output, h.size, fun k hk => h.block k hk (by simp)⟩

def numOK (n b : Int) : Bool := M.inB n 0 65534 && M.inB b 0 33
def nbL (n b : Int) : List Int := if numOK n b then numL n.toNat b else []
def nbN (n b : Int) : Nat := if numOK n b then numN n.toNat else 0
theorem nbL_len (n b : Int) : (nbL n b).length = nbN n b * 2 := by
  unfold nbL nbN
  split
  · exact numL_len _ _
  · rfl
theorem nbN_le (n b : Int) : nbN n b ≤ 33 := by
  unfold nbN
  split
  · rename_i h
    have h1 := lgN_le (n := n.toNat) (by simp [numOK, M.inB] at h; omega)
    unfold numN; omega
  · omega

end Go.Proofs.Ytggkelehjdepkaa
