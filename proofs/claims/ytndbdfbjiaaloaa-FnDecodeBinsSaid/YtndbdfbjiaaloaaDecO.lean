/- The reference's decoder is opened. -/
import Derived.Test.YtndbdfbjiaaloaaDecG
namespace Go.Proofs.Ytndbdfbjiaaloaa
open Go.RowKit
set_option linter.unusedVariables false
set_option linter.unusedSimpArgs false

attribute [local go_sem] size_addsW cell?_addsW frozen?_addsW setCell_addsW drew_addsW adds_addsW setCell_twice alloc_adds0 size_adds0 adds_adds0 sel2 sel3 sel4 sel5 sel6 sel7 sel8 sel9 lt_more lt_more2 lt_more3 lt_more4 adds_drew adds_drewN drewN_addsW ltA_1_1 ltA_1_2 ltA_1_3 ltA_1_4 ltA_1_5 ltA_1_6 ltA_2_1 ltA_2_2 ltA_2_3 ltA_2_4 ltA_2_5 ltA_2_6 ltA_3_1 ltA_3_2 ltA_3_3 ltA_3_4 ltA_3_5 ltA_3_6 ltA_4_1 ltA_4_2 ltA_4_3 ltA_4_4 ltA_4_5 ltA_4_6 ltA_5_1 ltA_5_2 ltA_5_3 ltA_5_4 ltA_5_5 ltA_5_6 ltA_6_1 ltA_6_2 ltA_6_3 ltA_6_4 ltA_6_5 ltA_6_6 ltA_7_1 ltA_7_2 ltA_7_3 ltA_7_4 ltA_7_5 ltA_7_6 ltA_8_1 ltA_8_2 ltA_8_3 ltA_8_4 ltA_8_5 ltA_8_6 ltA_9_1 ltA_9_2 ltA_9_3 ltA_9_4 ltA_9_5 ltA_9_6 ltA_10_1 ltA_10_2 ltA_10_3 ltA_10_4 ltA_10_5 ltA_10_6 ltA_11_1 ltA_11_2 ltA_11_3 ltA_11_4 ltA_11_5 ltA_11_6 ltA_12_1 ltA_12_2 ltA_12_3 ltA_12_4 ltA_12_5 ltA_12_6

/-- the first four bytes -/
def OpRel (w : World) (C D c : Nat) (A : Option Addr) (n ca : Nat) (d : Nat → Int) (i : Value) (wr : World) : Prop :=
  ∃ j : Nat, j ≤ 4 ∧ i = .int .i64 (j : Int) ∧ DecS wr C D c A n ca ⟨M.takeR d 0 0 j, 4294967295, j, List.replicate 40 2048⟩ ∧ Below w.heap.size w wr

set_option maxRecDepth 100000 in
set_option maxHeartbeats 1000000 in
theorem S_l9Open (A : Option Addr) (ca : Nat) (ds : List Int) (w : World) (hd : RowAt .u8 w A ds) (hA : ∀ d, A = some d → d.block < w.heap.size) (hby : ∀ i, 0 ≤ ds.getD i 0 ∧ ds.getD i 0 ≤ 255) (hln : ds.length ≤ 1000000000000) :
    Calls Try.prog 75 #[.slice A ds.length ca] w fun e w' => ∃ C D c, e = .returned (.pointer (some ⟨C, 0, none⟩)) ∧ DecS w' C D c A ds.length ca (M.dec0 (byD ds)) ∧ w.heap.size ≤ D ∧ Below w.heap.size w w' := by
  have HD := Lib.hid hd
  have HA := Lib.hid hA
  have HBY := Lib.hid hby
  clear hd hA hby
  go_enter Try.func75, Try.ntmps75
  go_wp2_with (go_at_call 79; refine (S_l9Chances _).mono ?_; rintro e w' ⟨D, cc, rfl, hrow, hsoft, hD0, hD1, hb⟩; obtain ⟨o2, n2, rfl⟩ := below_adds hb; clear hb; have HRW := Lib.hid hrow; have HSF := Lib.hid hsoft; clear hrow hsoft)
  simp only [size_addsW] at hD1
  have hW : Below w.heap.size w ((addsW w o2 n2).alloc (.cells #[.int .i64 0, .int .i64 4294967295, .slice A ds.length ca, .int .i64 0, .slice (some ⟨D, 0, none⟩) 40 cc] 140)) := (by repeat' (first | (with_reducible exact Below.refl _ _) | (with_reducible refine Below.adds_ ?_ ?_ _ _) | (with_reducible refine Below.alloc ?_ ?_ _) | (with_reducible refine Below.drew ?_) | (with_reducible refine Below.setCell ?_ ?_ _) | (with_reducible assumption) | go_size | (simp only [size_addsW, World.size_alloc, World.size_drew, World.size_setCell]; omega)))
  have hcd : DecS ((addsW w o2 n2).alloc (.cells #[.int .i64 0, .int .i64 4294967295, .slice A ds.length ca, .int .i64 0, .slice (some ⟨D, 0, none⟩) 40 cc] 140)) (w.heap.size + o2.size) D cc A ds.length ca ⟨0, 4294967295, 0, List.replicate 40 2048⟩ :=
    ⟨heap_new_gI _ _ _ (size_addsW _ _ _).symm, hD1, HRW.out.keep (by rw [alloc_as]; exact addsW_below _ _ _), HSF.out.keep (by rw [alloc_as]; exact addsW_below _ _ _)⟩
  have hCge : w.heap.size ≤ w.heap.size + o2.size := by omega
  clear hD1 HRW HSF
  generalize w.heap.size + o2.size = C at hcd hCge ⊢
  generalize (addsW w o2 n2).alloc (.cells #[.int .i64 0, .int .i64 4294967295, .slice A ds.length ca, .int .i64 0, .slice (some ⟨D, 0, none⟩) 40 cc] 140) = W0 at hW hcd ⊢
  go_loopw [4] (fun i wr => OpRel w C D cc A ds.length ca (byD ds) i wr) (fun i _ => 4 - (intOf i).toNat)
  case atStart => exact ⟨0, Nat.zero_le _, rfl, hcd, hW⟩
  case round =>
    clear hcd hW
    obtain ⟨j, hj, rfl, hcod, hbel⟩ := hrel
    have H := Lib.hid hcod
    have HB := Lib.hid hbel
    clear hcod hbel
    by_cases hlt : j < 4
    · have htb := M.takeR_bd (d := byD ds) HBY.out (code := 0) 0 j (by omega)
      have HTB := Lib.hid htb
      clear htb
      go_wp2_with (go_at_call 101; refine (S_next C D cc A ca ds _ _ H.out (HD.out.keep HB.out) (fun d e => by have := HA.out d e; omega) HBY.out HTB.out (by simp only; omega) hln).mono ?_; rintro e w' ⟨⟨v, rfl⟩, hcod2, hfrm2⟩; have H2 := Lib.hid hcod2; have HF2 := Lib.hid hfrm2; clear hcod2 hfrm2)
      go_roundw
      case rel =>
        refine ⟨j + 1, by omega, by go_num, ?_, HB.out.trans (HF2.out.below hCge hD0 HB.out.size)⟩
        have h2 := H2.out
        rw [show M.takeR (byD ds) 0 0 (j + 1) = M.take1 (byD ds) (M.takeR (byD ds) 0 0 j) j by rw [M.takeR, Nat.zero_add]]
        exact h2
      case measure => simp [intOf]; omega
    · obtain rfl : j = 4 := by omega
      go_wp2_with fail
      go_returns
      exact ⟨C, D, cc, rfl, H.out, hD0, HB.out⟩

end Go.Proofs.Ytndbdfbjiaaloaa
