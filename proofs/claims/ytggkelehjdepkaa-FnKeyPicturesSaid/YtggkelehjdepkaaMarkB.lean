/- Marks in lists of bytes and of decisions. -/
import Derived.Test.YtggkelehjdepkaaEncS
import Derived.Test.YtggkelehjdepkaaMarkU
namespace Go.Proofs.Ytggkelehjdepkaa
open Go.RowKit
set_option linter.unusedVariables false
set_option linter.unusedSimpArgs false

attribute [local go_sem] size_addsW cell?_addsW frozen?_addsW setCell_addsW drew_addsW adds_addsW setCell_twice alloc_adds0 size_adds0 adds_adds0 sel2 sel3 sel4 sel5 sel6 sel7 sel8 sel9 lt_more lt_more2 lt_more3 lt_more4 adds_drew adds_drewN drewN_addsW ltA_1_1 ltA_1_2 ltA_1_3 ltA_1_4 ltA_1_5 ltA_1_6 ltA_2_1 ltA_2_2 ltA_2_3 ltA_2_4 ltA_2_5 ltA_2_6 ltA_3_1 ltA_3_2 ltA_3_3 ltA_3_4 ltA_3_5 ltA_3_6 ltA_4_1 ltA_4_2 ltA_4_3 ltA_4_4 ltA_4_5 ltA_4_6 ltA_5_1 ltA_5_2 ltA_5_3 ltA_5_4 ltA_5_5 ltA_5_6 ltA_6_1 ltA_6_2 ltA_6_3 ltA_6_4 ltA_6_5 ltA_6_6 ltA_7_1 ltA_7_2 ltA_7_3 ltA_7_4 ltA_7_5 ltA_7_6 ltA_8_1 ltA_8_2 ltA_8_3 ltA_8_4 ltA_8_5 ltA_8_6 ltA_9_1 ltA_9_2 ltA_9_3 ltA_9_4 ltA_9_5 ltA_9_6 ltA_10_1 ltA_10_2 ltA_10_3 ltA_10_4 ltA_10_5 ltA_10_6 ltA_11_1 ltA_11_2 ltA_11_3 ltA_11_4 ltA_11_5 ltA_11_6 ltA_12_1 ltA_12_2 ltA_12_3 ltA_12_4 ltA_12_5 ltA_12_6

/-- a copy of a list of decisions in new memory that may be written -/
def BinsGotS (n : Nat) (zs : List Int) (w : World) (e : Ending) (w' : World) : Prop :=
  ∃ g : Nat, e = .returned (.slice (some ⟨g, 0, none⟩) n n) ∧ RowAt .i64 w' (some ⟨g, 0, none⟩) zs ∧ Soft w' (some ⟨g, 0, none⟩) ∧ w.heap.size ≤ g ∧ Below w.heap.size w w'

theorem L_markBinS (g c n : Nat) (zs : List Int) (k0 : Int) (w : World) (hr : RowAt .i64 w (some ⟨g, 0, none⟩) zs) (hs : Soft w (some ⟨g, 0, none⟩)) (hz : zs.length = n * 2) (hl : n ≤ 1048576) (hk0 : 0 ≤ k0 ∧ k0 ≤ 1000000000000) :
    Calls Try.prog 24 #[.slice (some ⟨g, 0, none⟩) n c, .int .i64 k0] w fun e w' => e = .returned (.int .i64 (k0 + 2 * n)) ∧ Marked w (some ⟨g, 0, none⟩) w' := by
  have HR := Lib.hid hr
  have HS := Lib.hid hs
  have HZ := Lib.hid hz
  clear hr hs hz
  go_enter Try.func24, Try.ntmps24
  go_wp2
  go_loopw [1, 5] (fun kk i wr => ∃ (k : Nat) (ys : List Int), k ≤ n ∧ i = .int .i64 (k : Int) ∧ kk = .int .i64 (k0 + 2 * k) ∧ Marked w (some ⟨g, 0, none⟩) wr ∧ ys.length = n * 2 ∧ RowAt .i64 wr (some ⟨g, 0, none⟩) ys ∧ Soft wr (some ⟨g, 0, none⟩)) (fun _ i _ => n - (intOf i).toNat)
  case atStart => exact ⟨0, zs, Nat.zero_le _, rfl, by simp, Marked.refl _ _, HZ.out, HR.out, HS.out⟩
  case round =>
    obtain ⟨k, ys, hk, rfl, rfl, hm, hy, hr, hs⟩ := hrel
    have HM := Lib.hid hm
    have HR1 := Lib.hid hr
    have HS1 := Lib.hid hs
    have HY := Lib.hid hy
    clear hm hr hs hy HR HS HZ
    by_cases hlt : k < n
    · obtain ⟨b, off, x, y, e, hb, -, -, hc, hc2⟩ := HR1.out.two HY.out hlt
      injection e with e; injection e with e1 e2; subst e1 e2
      rw [Nat.zero_add] at hc hc2
      have hf1 := HS1.out.hot rfl (k * 2)
      have hf2 := HS1.out.hot rfl (k * 2 + 1)
      go_wp2
      go_roundw
      case rel =>
        refine ⟨k + 1, (ys.set (k * 2) _).set (k * 2 + 1) _, by omega, by go_num, by go_num, (HM.out.set _ _).set _ _, by rw [List.length_set, List.length_set]; exact HY.out, (HR1.out.put0 (by rw [HY.out]; omega)).put0 (by rw [List.length_set, HY.out]; omega), (HS1.out.set _ _).set _ _⟩
      case measure => simp [intOf]; omega
    · obtain rfl : k = n := by omega
      go_wp2
      go_returns
      exact ⟨rfl, HM.out⟩

end Go.Proofs.Ytggkelehjdepkaa
