/- The program's iterator over the vectors of a range. -/
import Derived.Test.YtobphddjoebfjaaVec
import Derived.RangeFuncNested
import Derived.RangeFuncBound
import Derived.RangeFuncCalls
import Derived.RangeFuncLeaves
import Derived.Shelf.Abstract
import Derived.Shelf.RegionOpen
import Derived.WalkKit
import Derived.OwnWalkIn
import Derived.TacticsInMore
import Derived.LoopNIn
import Derived.LoopIn
namespace Go.Proofs.Ytobphddjoebfjaa
open Go.RowKit Go.Shelf
set_option linter.unusedVariables false
set_option linter.unusedSimpArgs false

attribute [local go_sem] Oper.semAt_some

/-- a vector of a search -/
abbrev VV := { p : Int × Int // -8 ≤ p.1 ∧ p.1 ≤ 8 ∧ -8 ≤ p.2 ∧ p.2 ≤ 8 }
abbrev vEnc (x : VV) : Array Value := #[Value.agg #[.int .i64 x.1.1, .int .i64 x.1.2]]
abbrev vls (l : List VV) : List (Int × Int) := l.map (·.1)

/-- the block Bn holds what it held -/
def KpB (Bn : Nat) (W W' : World) : Prop := ∀ v, W.cell? ⟨Bn, 0, none⟩ = some v → W'.cell? ⟨Bn, 0, none⟩ = some v
theorem KpB.trans {Bn : Nat} {A B C : World} (h : KpB Bn A B) (k : KpB Bn B C) : KpB Bn A C := fun v hv => k v (h v hv)
theorem kpB_b {Bn : Nat} {w : World} (W : World) (l : Nat) (o o' : Obj) (_ : w.heap.size ≤ l) (h : W.heap[l]? = some o) (ho : o.isCells = false) (_ : o.isWalk = false) : KpB Bn W (W.putObj l o') := fun v hv =>
  cell_kept hv (grownBy_putObj' W l o') (fun r e => by cases e; exact ⟨_, h, ho⟩)

set_option maxRecDepth 100000 in
set_option maxHeartbeats 2000000 in
theorem I_vec1 (n l Bn N : Nat) (hn : 1 ≤ n) (hN : N ≤ 8) (J Jx : List VV → World → Prop)
    (hY : ∀ pre x W, J pre W → pre.length < (vecsL N).length → YieldAt Fence.wide (n - 1) Try.prog l (vEnc x) W fun e W' =>
      (e = .returned (.bool true) ∧ J (pre ++ [x]) W' ∧ KpB Bn W W') ∨ (e = .returned (.bool false) ∧ Jx (pre ++ [x]) W'))
    (W : World) (hc : W.cell? ⟨Bn, 0, none⟩ = some (.int .i64 (N : Int))) (h0 : J [] W) :
    CallsIn Fence.wide n Try.prog 91 #[.func (.yield l) #[] #[], .pointer (some ⟨Bn, 0, none⟩)] W fun e W' => (∃ v, e = .returned v) ∧
      ((∃ ys, vls ys = vecsL N ∧ J ys W') ∨ (∃ pre, vls pre <+: vecsL N ∧ Jx pre W')) := by
  have HY := Lib.hid hY
  clear hY
  refine callsIn_of_wp Try.func91 rfl trivial ?_ rfl
  simp only [Try.ntmps91, List.size_toArray, List.length_cons, List.length_nil, Nat.reduceAdd, Nat.reduceSub, Array.replicate_succ, Array.replicate_zero, List.push_toArray, List.append_toArray, List.nil_append, List.cons_append]
  gi_wp2
  gi_loopw [9] (fun i wr => ∃ (s : Nat) (pre : List VV), i = .int .i64 (s : Int) ∧ s ≤ 2 * N + 1 ∧ vls pre = vecsU N s ∧ J pre wr ∧ wr.cell? ⟨Bn, 0, none⟩ = some (.int .i64 (N : Int))) (fun i _ => 2 * N + 1 - (intOf i).toNat)
  case atStart => exact ⟨0, [], rfl, by omega, rfl, h0, hc⟩
  case round =>
    obtain ⟨s, pre, rfl, hs, hp, hJ, hc1⟩ := hrel
    have HP := Lib.hid hp
    have HJ := Lib.hid hJ
    clear hp hJ
    by_cases hlt : s < 2 * N + 1
    · have hd1 : (s : Int) < 2 * (N : Int) + 1 := by omega
      rcases (show s ≤ N ∨ N < s by omega) with hsn | hsn
      · have hmn : min s N = s := by omega
        have hsn1 : (s : Int) ≤ (N : Int) := by omega
        gi_wp2
        gi_loopw [4] (fun y wr => ∃ (t : Nat) (pre : List VV), y = .int .i64 (-(s : Int) + (t : Int)) ∧ t ≤ 2 * s + 1 ∧ vls pre = vecsU N s ++ rowV N s t ∧ J pre wr ∧ wr.cell? ⟨Bn, 0, none⟩ = some (.int .i64 (N : Int))) (fun y _ => (2 * N + 1 + s - intOf y).toNat)
        case atStart => exact ⟨0, pre, by simp, by omega, by rw [HP.out, rowV, List.append_nil], HJ.out, hc1⟩
        case round =>
          clear HP HJ hc1
          clear pre
          obtain ⟨t, pre, rfl, ht, hp, hJ, hc1⟩ := hrel
          have HP := Lib.hid hp
          have HJ := Lib.hid hJ
          clear hp hJ
          obtain ⟨y, hy⟩ : ∃ y : Int, y = -(s : Int) + (t : Int) := ⟨_, rfl⟩
          rw [← hy]
          have HM := Lib.hid hmn
          clear hmn
          by_cases hlt2 : t < 2 * s + 1
          · have hy2 : y ≤ (s : Int) := by omega
            have hyb : -8 ≤ y ∧ y ≤ 8 := by omega
            have hpre := (vecs_pre (n := N) (s := s) (t := t) hlt (by rw [HM.out]; exact hlt2))
            rw [rowV, ← List.append_assoc, ← HP.out, HM.out, ← hy] at hpre
            obtain ⟨A, hA⟩ : ∃ A : Int, A = max y (-y) := ⟨_, rfl⟩
            have hA0 : 0 ≤ A ∧ A ≤ 8 ∧ A ≤ (s : Int) := by omega
            have HAb := Lib.hid (show ∀ W, Calls Try.prog 54 #[.int .i64 y] W fun e w' => e = .returned (.int .i64 A) ∧ W = w' from fun W => by rw [hA]; exact I_abs _ _ (by omega))
            obtain ⟨X, hX⟩ : ∃ X : Int, X = (s : Int) - A := ⟨_, rfl⟩
            have hit : itemV N s y = if (N : Int) < X then [] else if 0 < X then [(-X, y), (X, y)] else [(-X, y)] := by rw [itemV, absI, ← hA, ← hX]
            have hR : rowV N s (t + 1) = rowV N s t ++ itemV N s y := by rw [rowV, HM.out, ← hy]
            have HYy := Lib.hid hy
            clear hy
            have HR := Lib.hid hR
            have hX0 : 0 ≤ X ∧ X ≤ 16 := by omega
            have hsX : (s : Int) - A = X := hX.symm
            clear hR hX hA
            by_cases hbig : (N : Int) < X
            · rw [if_pos hbig] at hit
              have HI := Lib.hid hit
              clear hit hpre
              exfalso
              omega
            · rw [if_neg hbig] at hit
              by_cases hpos : 0 < X
              · rw [if_pos hpos] at hit
                rw [hit] at hpre
                have HI := Lib.hid hit
                clear hit
                have hlen := hpre.length_le
                simp only [List.length_append, List.length_map, List.length_cons, List.length_nil] at hlen
                have HPre := Lib.hid hpre
                clear hpre
                obtain ⟨fn, tmps, assign, body, hy, hR⟩ := HY.out pre ⟨(-X, y), by simp only; omega⟩ wr HJ.out (by omega)
                gi_wp2_with (refine ⟨trivial, ?_⟩; gi_at_call 54; refine (callsIn_wide.2 (HAb.out _)).mono ?_; rintro e w' ⟨rfl, rfl⟩)
                refine hR.mono ?_
                clear hy hR
                rintro e W3 (⟨rfl, hJ3, hk3⟩ | ⟨rfl, hJx3⟩)
                · have hc3 := hk3 _ hc1
                  obtain ⟨fn2, tmps2, assign2, body2, hy2', hR2⟩ := HY.out _ ⟨(X, y), by simp only; omega⟩ W3 hJ3 (by rw [List.length_append, List.length_singleton]; omega)
                  gi_wp2
                  refine hR2.mono ?_
                  clear hy2' hR2
                  rintro e W4 (⟨rfl, hJ4, hk4⟩ | ⟨rfl, hJx4⟩)
                  · have hc4 := hk4 _ hc3
                    gi_wp2
                    go_roundw
                    case rel => exact ⟨t + 1, _, by rw [HYy.out]; go_num, by omega, by rw [HR.out, HI.out, ← List.append_assoc, ← HP.out]; simp [vls], hJ4, hc4⟩
                    case measure => simp [intOf] <;> omega
                  · gi_wp2
                    refine bodyPost_ret (results_none rfl _ _ _) rfl ?_
                    exact ⟨⟨_, rfl⟩, .inr ⟨_, by have h := HPre.out; simp [vls] at h ⊢; exact h, hJx4⟩⟩
                · gi_wp2_with (refine wpListIn_skip (by rfl) (by rfl) ?_)
                  refine bodyPost_ret (results_none rfl _ _ _) rfl ?_
                  exact ⟨⟨_, rfl⟩, .inr ⟨pre ++ [⟨(-X, y), _⟩], by rw [vls, List.map_append]; exact (List.prefix_append_right_inj _).2 (by simp) |>.trans HPre.out, hJx3⟩⟩
              · rw [if_neg hpos] at hit
                rw [hit] at hpre
                have HI := Lib.hid hit
                clear hit
                have hlen := hpre.length_le
                simp only [List.length_append, List.length_map, List.length_cons, List.length_nil] at hlen
                have HPre := Lib.hid hpre
                clear hpre
                obtain ⟨fn, tmps, assign, body, hy, hR⟩ := HY.out pre ⟨(-X, y), by simp only; omega⟩ wr HJ.out (by omega)
                gi_wp2_with (refine ⟨trivial, ?_⟩; gi_at_call 54; refine (callsIn_wide.2 (HAb.out _)).mono ?_; rintro e w' ⟨rfl, rfl⟩)
                refine hR.mono ?_
                clear hy hR
                rintro e W3 (⟨rfl, hJ3, hk3⟩ | ⟨rfl, hJx3⟩)
                · have hc3 := hk3 _ hc1
                  gi_wp2_with (refine wpListIn_skip (by rfl) (by rfl) ?_)
                  go_roundw
                  case rel => exact ⟨t + 1, _, by rw [HYy.out]; go_num, by omega, by rw [HR.out, HI.out, ← List.append_assoc, ← HP.out]; simp [vls], hJ3, hc3⟩
                  case measure => simp [intOf] <;> omega
                · gi_wp2_with (refine wpListIn_skip (by rfl) (by rfl) ?_)
                  refine bodyPost_ret (results_none rfl _ _ _) rfl ?_
                  exact ⟨⟨_, rfl⟩, .inr ⟨pre ++ [⟨(-X, y), _⟩], by rw [vls, List.map_append]; exact (List.prefix_append_right_inj _).2 (by simp) |>.trans HPre.out, hJx3⟩⟩
          · obtain rfl : t = 2 * s + 1 := by omega
            have hd : (s : Int) < y := by omega
            gi_wp2
            go_roundw
            case rel => exact ⟨s + 1, pre, by go_num, by omega, by rw [HP.out, vecsU, HM.out], HJ.out, hc1⟩
            case measure => simp [intOf]; omega
      · have hmn : min s N = N := by omega
        have hsn1 : (N : Int) < (s : Int) := by omega
        gi_wp2
        gi_loopw [4] (fun y wr => ∃ (t : Nat) (pre : List VV), y = .int .i64 (-(N : Int) + (t : Int)) ∧ t ≤ 2 * N + 1 ∧ vls pre = vecsU N s ++ rowV N s t ∧ J pre wr ∧ wr.cell? ⟨Bn, 0, none⟩ = some (.int .i64 (N : Int))) (fun y _ => (2 * N + 1 + s - intOf y).toNat)
        case atStart => exact ⟨0, pre, by simp, by omega, by rw [HP.out, rowV, List.append_nil], HJ.out, hc1⟩
        case round =>
          clear HP HJ hc1
          clear pre
          obtain ⟨t, pre, rfl, ht, hp, hJ, hc1⟩ := hrel
          have HP := Lib.hid hp
          have HJ := Lib.hid hJ
          clear hp hJ
          obtain ⟨y, hy⟩ : ∃ y : Int, y = -(N : Int) + (t : Int) := ⟨_, rfl⟩
          rw [← hy]
          have HM := Lib.hid hmn
          clear hmn
          by_cases hlt2 : t < 2 * N + 1
          · have hy2 : y ≤ (N : Int) := by omega
            have hyb : -8 ≤ y ∧ y ≤ 8 := by omega
            have hpre := (vecs_pre (n := N) (s := s) (t := t) hlt (by rw [HM.out]; exact hlt2))
            rw [rowV, ← List.append_assoc, ← HP.out, HM.out, ← hy] at hpre
            obtain ⟨A, hA⟩ : ∃ A : Int, A = max y (-y) := ⟨_, rfl⟩
            have hA0 : 0 ≤ A ∧ A ≤ 8 ∧ A ≤ (s : Int) := by omega
            have HAb := Lib.hid (show ∀ W, Calls Try.prog 54 #[.int .i64 y] W fun e w' => e = .returned (.int .i64 A) ∧ W = w' from fun W => by rw [hA]; exact I_abs _ _ (by omega))
            obtain ⟨X, hX⟩ : ∃ X : Int, X = (s : Int) - A := ⟨_, rfl⟩
            have hit : itemV N s y = if (N : Int) < X then [] else if 0 < X then [(-X, y), (X, y)] else [(-X, y)] := by rw [itemV, absI, ← hA, ← hX]
            have hR : rowV N s (t + 1) = rowV N s t ++ itemV N s y := by rw [rowV, HM.out, ← hy]
            have HYy := Lib.hid hy
            clear hy
            have HR := Lib.hid hR
            have hX0 : 0 ≤ X ∧ X ≤ 16 := by omega
            have hsX : (s : Int) - A = X := hX.symm
            clear hR hX hA
            by_cases hbig : (N : Int) < X
            · rw [if_pos hbig] at hit
              have HI := Lib.hid hit
              clear hit hpre
              gi_wp2_with (refine ⟨trivial, ?_⟩; gi_at_call 54; refine (callsIn_wide.2 (HAb.out _)).mono ?_; rintro e w' ⟨rfl, rfl⟩)
              go_roundw
              case rel => exact ⟨t + 1, pre, by rw [HYy.out]; go_num, by omega, by rw [HR.out, HI.out, List.append_nil]; exact HP.out, HJ.out, hc1⟩
              case measure => simp [intOf] <;> omega
            · rw [if_neg hbig] at hit
              by_cases hpos : 0 < X
              · rw [if_pos hpos] at hit
                rw [hit] at hpre
                have HI := Lib.hid hit
                clear hit
                have hlen := hpre.length_le
                simp only [List.length_append, List.length_map, List.length_cons, List.length_nil] at hlen
                have HPre := Lib.hid hpre
                clear hpre
                obtain ⟨fn, tmps, assign, body, hy, hR⟩ := HY.out pre ⟨(-X, y), by simp only; omega⟩ wr HJ.out (by omega)
                gi_wp2_with (refine ⟨trivial, ?_⟩; gi_at_call 54; refine (callsIn_wide.2 (HAb.out _)).mono ?_; rintro e w' ⟨rfl, rfl⟩)
                refine hR.mono ?_
                clear hy hR
                rintro e W3 (⟨rfl, hJ3, hk3⟩ | ⟨rfl, hJx3⟩)
                · have hc3 := hk3 _ hc1
                  obtain ⟨fn2, tmps2, assign2, body2, hy2', hR2⟩ := HY.out _ ⟨(X, y), by simp only; omega⟩ W3 hJ3 (by rw [List.length_append, List.length_singleton]; omega)
                  gi_wp2
                  refine hR2.mono ?_
                  clear hy2' hR2
                  rintro e W4 (⟨rfl, hJ4, hk4⟩ | ⟨rfl, hJx4⟩)
                  · have hc4 := hk4 _ hc3
                    gi_wp2
                    go_roundw
                    case rel => exact ⟨t + 1, _, by rw [HYy.out]; go_num, by omega, by rw [HR.out, HI.out, ← List.append_assoc, ← HP.out]; simp [vls], hJ4, hc4⟩
                    case measure => simp [intOf] <;> omega
                  · gi_wp2
                    refine bodyPost_ret (results_none rfl _ _ _) rfl ?_
                    exact ⟨⟨_, rfl⟩, .inr ⟨_, by have h := HPre.out; simp [vls] at h ⊢; exact h, hJx4⟩⟩
                · gi_wp2_with (refine wpListIn_skip (by rfl) (by rfl) ?_)
                  refine bodyPost_ret (results_none rfl _ _ _) rfl ?_
                  exact ⟨⟨_, rfl⟩, .inr ⟨pre ++ [⟨(-X, y), _⟩], by rw [vls, List.map_append]; exact (List.prefix_append_right_inj _).2 (by simp) |>.trans HPre.out, hJx3⟩⟩
              · rw [if_neg hpos] at hit
                rw [hit] at hpre
                have HI := Lib.hid hit
                clear hit
                have hlen := hpre.length_le
                simp only [List.length_append, List.length_map, List.length_cons, List.length_nil] at hlen
                have HPre := Lib.hid hpre
                clear hpre
                obtain ⟨fn, tmps, assign, body, hy, hR⟩ := HY.out pre ⟨(-X, y), by simp only; omega⟩ wr HJ.out (by omega)
                gi_wp2_with (refine ⟨trivial, ?_⟩; gi_at_call 54; refine (callsIn_wide.2 (HAb.out _)).mono ?_; rintro e w' ⟨rfl, rfl⟩)
                refine hR.mono ?_
                clear hy hR
                rintro e W3 (⟨rfl, hJ3, hk3⟩ | ⟨rfl, hJx3⟩)
                · have hc3 := hk3 _ hc1
                  gi_wp2_with (refine wpListIn_skip (by rfl) (by rfl) ?_)
                  go_roundw
                  case rel => exact ⟨t + 1, _, by rw [HYy.out]; go_num, by omega, by rw [HR.out, HI.out, ← List.append_assoc, ← HP.out]; simp [vls], hJ3, hc3⟩
                  case measure => simp [intOf] <;> omega
                · gi_wp2_with (refine wpListIn_skip (by rfl) (by rfl) ?_)
                  refine bodyPost_ret (results_none rfl _ _ _) rfl ?_
                  exact ⟨⟨_, rfl⟩, .inr ⟨pre ++ [⟨(-X, y), _⟩], by rw [vls, List.map_append]; exact (List.prefix_append_right_inj _).2 (by simp) |>.trans HPre.out, hJx3⟩⟩
          · obtain rfl : t = 2 * N + 1 := by omega
            have hd : (N : Int) < y := by omega
            gi_wp2
            go_roundw
            case rel => exact ⟨s + 1, pre, by go_num, by omega, by rw [HP.out, vecsU, HM.out], HJ.out, hc1⟩
            case measure => simp [intOf]; omega
    · obtain rfl : s = 2 * N + 1 := by omega
      have hd1 : ¬ ((2 * N + 1 : Nat) : Int) < 2 * (N : Int) + 1 := by omega
      gi_wp2
      go_end0
      exact ⟨⟨_, rfl⟩, .inl ⟨pre, HP.out, HJ.out⟩⟩

theorem I_vectorsWithin (N : Int) (w : World) : Calls Try.prog 80 #[.int .i64 N] w fun e w' => e = .returned (.func (.func 91) #[] #[.pointer (some ⟨w.heap.size, 0, none⟩)]) ∧ w' = w.alloc (.cells #[.int .i64 N] 3) := by
  go_enter Try.func80, Try.ntmps80
  go_wp2
  go_ret
  exact ⟨rfl, rfl⟩

theorem vec_stops (n Bn N : Nat) (hn : 1 ≤ n) (hN : N ≤ 8) (w : World) (hB : Bn < w.heap.size) (hc : w.cell? ⟨Bn, 0, none⟩ = some (.int .i64 (N : Int))) :
    SeqStopsK Fence.wide n Try.prog 91 #[.pointer (some ⟨Bn, 0, none⟩)] vEnc (KpB Bn) (fun ys => vls ys = vecsL N) (fun pre => vls pre <+: vecsL N) (vecsL N).length w := fun l J Jx W hW _ _ hY h0 =>
  I_vec1 n l Bn N hn hN J Jx hY W ((hW.cell (p := ⟨Bn, 0, none⟩) hB).trans hc) h0

end Go.Proofs.Ytobphddjoebfjaa
