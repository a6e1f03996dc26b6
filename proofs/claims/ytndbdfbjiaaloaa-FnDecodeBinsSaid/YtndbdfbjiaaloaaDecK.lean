/- The program's decoder is begun; DecodeBins. -/
import Derived.Test.YtndbdfbjiaaloaaDecJ
namespace Go.Proofs.Ytndbdfbjiaaloaa
open Go.RowKit
set_option linter.unusedVariables false
set_option linter.unusedSimpArgs false

attribute [local go_sem] size_addsW cell?_addsW frozen?_addsW setCell_addsW drew_addsW adds_addsW setCell_twice alloc_adds0 size_adds0 adds_adds0 sel2 sel3 sel4 sel5 sel6 sel7 sel8 sel9 lt_more lt_more2 lt_more3 lt_more4 adds_drew adds_drewN drewN_addsW ltA_1_1 ltA_1_2 ltA_1_3 ltA_1_4 ltA_1_5 ltA_1_6 ltA_2_1 ltA_2_2 ltA_2_3 ltA_2_4 ltA_2_5 ltA_2_6 ltA_3_1 ltA_3_2 ltA_3_3 ltA_3_4 ltA_3_5 ltA_3_6 ltA_4_1 ltA_4_2 ltA_4_3 ltA_4_4 ltA_4_5 ltA_4_6 ltA_5_1 ltA_5_2 ltA_5_3 ltA_5_4 ltA_5_5 ltA_5_6 ltA_6_1 ltA_6_2 ltA_6_3 ltA_6_4 ltA_6_5 ltA_6_6 ltA_7_1 ltA_7_2 ltA_7_3 ltA_7_4 ltA_7_5 ltA_7_6 ltA_8_1 ltA_8_2 ltA_8_3 ltA_8_4 ltA_8_5 ltA_8_6 ltA_9_1 ltA_9_2 ltA_9_3 ltA_9_4 ltA_9_5 ltA_9_6 ltA_10_1 ltA_10_2 ltA_10_3 ltA_10_4 ltA_10_5 ltA_10_6 ltA_11_1 ltA_11_2 ltA_11_3 ltA_11_4 ltA_11_5 ltA_11_6 ltA_12_1 ltA_12_2 ltA_12_3 ltA_12_4 ltA_12_5 ltA_12_6

/-- the decoder's cells at the start -/
def decA (v : Value) : Array Value := (Value.int .u64 0 :: Value.int .u64 4294967295 :: ((List.replicate 40 (2048 : Int)).map (Value.int .i64) ++ [v])).toArray

theorem decA_set (v : Value) : encA.setIfInBounds 42 v = decA v := by
  unfold encA decA
  rw [List.setIfInBounds_toArray, List.set_cons_succ, List.set_cons_succ, List.set_append_right _ _ (by simp)]
  simp

/-- the first four bytes -/
def OpRelI (w : World) (C : Nat) (ds : List Int) (i : Value) (wr : World) : Prop :=
  ∃ j : Nat, j ≤ 4 ∧ i = .int .i64 (j : Int) ∧ DecF wr C ds ⟨M.takeR (byD ds) 0 0 j, 4294967295, j, List.replicate 40 2048⟩ ∧ Below w.heap.size w wr

set_option maxRecDepth 100000 in
set_option maxHeartbeats 1000000 in
theorem I_newBinDecoder (A : Option Addr) (ca : Nat) (ds : List Int) (w : World) (hd : RowAt .u8 w A ds) (hA : ∀ d, A = some d → d.block < w.heap.size) (hca : ds.length ≤ ca) (hby : ∀ i, 0 ≤ ds.getD i 0 ∧ ds.getD i 0 ≤ 255) (hln : ds.length ≤ 1000000000000) :
    Calls Try.prog 77 #[.slice A ds.length ca] w fun e w' => ∃ C, e = .returned (.pointer (some ⟨C, 0, none⟩)) ∧ DecF w' C ds (M.dec0 (byD ds)) ∧ w.heap.size ≤ C ∧ Below w.heap.size w w' := by
  have HD := Lib.hid hd
  have HA := Lib.hid hA
  have HBY := Lib.hid hby
  clear hd hA hby
  go_enter Try.func77, Try.ntmps77
  go_wp2_with (go_at_call 72; refine (I_newChances _).mono ?_; rintro e w' ⟨rfl, hb⟩; obtain ⟨o2, n2, rfl⟩ := below_adds hb; clear hb)
  rw [encA_fold, decA_set]
  have hW : Below w.heap.size w ((addsW w o2 n2).alloc (.cells (decA (.slice A ds.length ca)) 143)) := (by repeat' (first | (with_reducible exact Below.refl _ _) | (with_reducible refine Below.adds_ ?_ ?_ _ _) | (with_reducible refine Below.alloc ?_ ?_ _) | (with_reducible refine Below.drew ?_) | (with_reducible refine Below.setCell ?_ ?_ _) | (with_reducible assumption) | go_size | (simp only [size_addsW, World.size_alloc, World.size_drew, World.size_setCell]; omega)))
  have hcd : DecF ((addsW w o2 n2).alloc (.cells (decA (.slice A ds.length ca)) 143)) (w.heap.size + o2.size) ds ⟨0, 4294967295, 0, List.replicate 40 2048⟩ :=
    ⟨A, ca, ⟨heap_new_gI _ _ _ (size_addsW _ _ _).symm, HD.out.keep hW, fun d e => by have := HA.out d e; omega, hca, by simp⟩⟩
  have hCge : w.heap.size ≤ w.heap.size + o2.size := by omega
  generalize w.heap.size + o2.size = C at hcd hCge ⊢
  generalize (addsW w o2 n2).alloc (.cells (decA (.slice A ds.length ca)) 143) = W0 at hW hcd ⊢
  go_loopw [8] (fun i wr => OpRelI w C ds i wr) (fun i _ => 4 - (intOf i).toNat)
  case atStart => exact ⟨0, Nat.zero_le _, rfl, hcd, hW⟩
  case round =>
    clear hcd hW
    obtain ⟨j, hj, rfl, hcod, hbel⟩ := hrel
    have H := Lib.hid hcod
    have HB := Lib.hid hbel
    clear hcod hbel
    by_cases hlt : j < 4
    · have htb := M.takeR_bd (d := byD ds) HBY.out (code := 0) 0 j (by omega)
      have HTB := Lib.hid htb
      clear htb
      go_wp2_with (go_at_call 103; refine (I_takeByte C ds _ _ H.out HBY.out HTB.out hln).mono ?_; rintro e w' ⟨⟨v, rfl⟩, hcod2, hbel2⟩; have H2 := Lib.hid hcod2; have HB2 := Lib.hid hbel2; clear hcod2 hbel2)
      go_roundw
      case rel =>
        refine ⟨j + 1, by omega, by go_num, ?_, HB.out.trans (HB2.out.below hCge hCge HB.out.size)⟩
        have h2 := H2.out
        rw [show M.takeR (byD ds) 0 0 (j + 1) = M.take1 (byD ds) (M.takeR (byD ds) 0 0 j) j by rw [M.takeR, Nat.zero_add]]
        exact h2
      case measure => simp [intOf]; omega
    · obtain rfl : j = 4 := by omega
      go_wp2_with fail
      go_returns
      exact ⟨C, rfl, H.out, hCge, HB.out⟩

end Go.Proofs.Ytndbdfbjiaaloaa
