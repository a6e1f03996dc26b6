/- Quantization: the steps, a coefficient's level; both sides. -/
import Derived.Test.YtijccageaingjaaDoorTrfI
import Derived.Test.YtijccageaingjaaDoorTrfS
import Derived.Test.YtijccageaingjaaDoorMacV
namespace Go.Proofs.YtijccageaingjaaDoor
open Go.RowKit
set_option linter.unusedVariables false
set_option linter.unusedSimpArgs false

attribute [local go_sem] size_addsW cell?_addsW frozen?_addsW setCell_addsW drew_addsW adds_addsW setCell_twice alloc_adds0 size_adds0 adds_adds0 sel2 sel3 sel4 sel5 sel6 sel7 sel8 sel9 lt_more lt_more2 lt_more3 lt_more4 adds_drew adds_drewN drewN_addsW ltA_1_1 ltA_1_2 ltA_1_3 ltA_1_4 ltA_1_5 ltA_1_6 ltA_2_1 ltA_2_2 ltA_2_3 ltA_2_4 ltA_2_5 ltA_2_6 ltA_3_1 ltA_3_2 ltA_3_3 ltA_3_4 ltA_3_5 ltA_3_6 ltA_4_1 ltA_4_2 ltA_4_3 ltA_4_4 ltA_4_5 ltA_4_6 ltA_5_1 ltA_5_2 ltA_5_3 ltA_5_4 ltA_5_5 ltA_5_6 ltA_6_1 ltA_6_2 ltA_6_3 ltA_6_4 ltA_6_5 ltA_6_6 ltA_7_1 ltA_7_2 ltA_7_3 ltA_7_4 ltA_7_5 ltA_7_6 ltA_8_1 ltA_8_2 ltA_8_3 ltA_8_4 ltA_8_5 ltA_8_6 ltA_9_1 ltA_9_2 ltA_9_3 ltA_9_4 ltA_9_5 ltA_9_6 ltA_10_1 ltA_10_2 ltA_10_3 ltA_10_4 ltA_10_5 ltA_10_6 ltA_11_1 ltA_11_2 ltA_11_3 ltA_11_4 ltA_11_5 ltA_11_6 ltA_12_1 ltA_12_2 ltA_12_3 ltA_12_4 ltA_12_5 ltA_12_6

def steps : List Int := [1, 2, 4, 8, 12, 16, 24, 32, 48, 64, 96, 128, 192, 256, 384, 512]
def qs (k : Nat) : Int := steps.getD k 0
theorem qs_bd : ∀ {k : Nat}, k < 16 → 1 ≤ qs k ∧ qs k ≤ 512 := by decide
def qn (n s : Int) : Int := (2 * n + s) / (2 * s)
def qz (c s : Int) : Int := if c < 0 then -(qn (max c (-c)) s) else qn (max c (-c)) s
theorem qn_bd {n s : Int} (hn : 0 ≤ n ∧ n ≤ 4080) (hs : 1 ≤ s ∧ s ≤ 512) : 0 ≤ qn n s ∧ qn n s ≤ 10000 := by
  unfold qn
  constructor
  · exact Int.ediv_nonneg (by omega) (by omega)
  · have := Int.ediv_le_self (a := 2 * n + s) (2 * s) (by omega)
    omega
/-- the table's cells -/
def TabOk (w : World) : Prop := ∀ k, k < 16 → w.cell? ⟨0, k, none⟩ = some (.int .i64 (qs k))
theorem TabOk.keep {w w' : World} (h : TabOk w) (hb : Below w.heap.size w w') : TabOk w' := fun k hk => (hb.cell (p := ⟨0, k, none⟩) (World.block_lt_of_cell? w _ (h k hk))).trans (h k hk)
theorem TabOk.lt {w : World} (h : TabOk w) : 0 < w.heap.size := World.block_lt_of_cell? w _ (h 0 (by omega))
theorem TabOk.belowAt {D : Nat} {w w' : World} (h : TabOk w) (hb : Below D w w') (hD : 0 < D) : TabOk w' := fun k hk => (hb.cell (p := ⟨0, k, none⟩) (by simpa using hD)).trans (h k hk)

set_option maxHeartbeats 2000000 in
theorem I_Quantize (c : Int) (k : Nat) (w : World) (hc : -4080 ≤ c ∧ c ≤ 4080) (hk : k < 16) (ht : TabOk w) :
    Calls Tryd.prog 41 #[.int .i64 c, .int .i64 (k : Int)] w fun e w' => e = .returned (.int .i64 (qz c (qs k))) ∧ Below w.heap.size w w' := by
  have hcell := ht k hk
  have hs := qs_bd hk
  have HQ := Lib.hid (show qz c (qs k) = if c < 0 then -(qn (max c (-c)) (qs k)) else qn (max c (-c)) (qs k) from rfl)
  have hk1 : (k : Int) < 16 := by omega
  have hin : M.inB (k : Int) 0 15 = true := M.inB_iff.2 ⟨by omega, by omega⟩
  have hlt := ht.lt
  clear ht
  generalize qs k = s at hcell hs HQ ⊢
  obtain ⟨m, hm⟩ : ∃ m, m = max c (-c) := ⟨_, rfl⟩
  have hm0 : 0 ≤ m ∧ m ≤ 4080 := by omega
  have CA := Lib.hid (show ∀ W, Calls Tryd.prog 52 #[.int .i64 c] W fun e w' => e = .returned (.int .i64 m) ∧ w' = W from fun W => (hm ▸ I_abs c W (by omega)).mono fun _ _ h => ⟨h.1, h.2.symm⟩)
  have hqb := qn_bd hm0 hs
  rw [← hm] at HQ
  have CR := Lib.hid (show ∀ W, Calls Tryd.prog 51 #[.int .i64 m, .int .i64 s] W fun e w' => e = .returned (.int .i64 (qn m s)) ∧ w' = W from fun W => (I_rounded m s W (by omega) (by omega)).mono fun _ _ h => ⟨h.1, h.2.symm⟩)
  clear hm
  generalize qn m s = r at CR hqb HQ
  have d1 : IntKind.i64.wrap (-r) = -r := IntWalk.i64_in _ (by omega)
  by_cases hneg : c < 0
  · go_enter Tryd.func41, Tryd.ntmps41
    go_wp2_with (go_at_call 21; refine (I_qualityValid _ _).mono ?_; rw [hin]; rintro e w' ⟨rfl, rfl⟩)
    go_quiet (first | (go_at_call 52; exact Calls.quiet_of_same (CA.out _)) | (go_at_call 51; exact Calls.quiet_of_same (CR.out _)))
    go_wp2_with fail
    go_returns
    exact ⟨by rw [HQ.out, if_pos (by omega)]; rfl, by first | exact drewNb _ _ | exact (by repeat' (first | (with_reducible exact Below.refl _ _) | (with_reducible refine Below.adds_ ?_ ?_ _ _) | (with_reducible refine Below.alloc ?_ ?_ _) | (with_reducible refine Below.drew ?_) | (with_reducible refine Below.setCell ?_ ?_ _) | (with_reducible assumption) | go_size | (simp only [size_addsW, World.size_alloc, World.size_drew, World.size_setCell]; omega)))⟩
  · go_enter Tryd.func41, Tryd.ntmps41
    go_wp2_with (go_at_call 21; refine (I_qualityValid _ _).mono ?_; rw [hin]; rintro e w' ⟨rfl, rfl⟩)
    go_quiet (first | (go_at_call 52; exact Calls.quiet_of_same (CA.out _)) | (go_at_call 51; exact Calls.quiet_of_same (CR.out _)))
    go_wp2_with fail
    go_returns
    exact ⟨by rw [HQ.out, if_neg (by omega)]; rfl, by first | exact drewNb _ _ | exact (by repeat' (first | (with_reducible exact Below.refl _ _) | (with_reducible refine Below.adds_ ?_ ?_ _ _) | (with_reducible refine Below.alloc ?_ ?_ _) | (with_reducible refine Below.drew ?_) | (with_reducible refine Below.setCell ?_ ?_ _) | (with_reducible assumption) | go_size | (simp only [size_addsW, World.size_alloc, World.size_drew, World.size_setCell]; omega)))⟩

set_option maxHeartbeats 4000000 in
theorem S_QuantStep (k : Nat) (w : World) (hk : k < 16) :
    Calls Tryd.prog 57 #[.int .i64 (k : Int)] w fun e w' => e = .returned (.int .i64 (qs k)) ∧ Below w.heap.size w w' := by
  rcases (show k = 0 ∨ k = 1 ∨ k = 2 ∨ k = 3 ∨ k = 4 ∨ k = 5 ∨ k = 6 ∨ k = 7 ∨ k = 8 ∨ k = 9 ∨ k = 10 ∨ k = 11 ∨ k = 12 ∨ k = 13 ∨ k = 14 ∨ k = 15 by omega) with rfl | rfl | rfl | rfl | rfl | rfl | rfl | rfl | rfl | rfl | rfl | rfl | rfl | rfl | rfl | rfl
  all_goals
    go_enter Tryd.func57, Tryd.ntmps57
    go_wp2_with (go_at_call 15; refine (S_l1In _ _ _ _).mono ?_; rintro e w' ⟨rfl, rfl⟩)
    go_ret
    exact ⟨rfl, (by repeat' (first | (with_reducible exact Below.refl _ _) | (with_reducible refine Below.adds_ ?_ ?_ _ _) | (with_reducible refine Below.alloc ?_ ?_ _) | (with_reducible refine Below.drew ?_) | (with_reducible refine Below.setCell ?_ ?_ _) | (with_reducible assumption) | go_size | (simp only [size_addsW, World.size_alloc, World.size_drew, World.size_setCell]; omega)))⟩

set_option maxHeartbeats 2000000 in
theorem S_l4Quant (c : Int) (k : Nat) (w : World) (hc : -4080 ≤ c ∧ c ≤ 4080) (hk : k < 16) :
    Calls Tryd.prog 47 #[.int .i64 c, .int .i64 (k : Int)] w fun e w' => e = .returned (.int .i64 (qz c (qs k))) ∧ Below w.heap.size w w' := by
  have hs := qs_bd hk
  have CQ := Lib.hid (show ∀ W, Calls Tryd.prog 57 #[.int .i64 (k : Int)] W fun e w' => e = .returned (.int .i64 (qs k)) ∧ Below W.heap.size W w' from fun W => S_QuantStep k W hk)
  have HQ := Lib.hid (show qz c (qs k) = if c < 0 then -(qn (max c (-c)) (qs k)) else qn (max c (-c)) (qs k) from rfl)
  generalize qs k = s at hs HQ CQ ⊢
  have hd : (2 * s == 0) = false := by simp; omega
  have hm0 : 0 ≤ max c (-c) ∧ max c (-c) ≤ 4080 := by omega
  have hqb := qn_bd hm0 hs
  have d0 : IntKind.i64.wrap (-c) = -c := IntWalk.i64_in _ (by omega)
  have d3 : IntKind.i64.wrap (2 * s) = 2 * s := IntWalk.i64_in _ (by omega)
  by_cases hneg : c < 0
  · rw [show max c (-c) = -c by omega] at hm0 hqb HQ
    have hmx : c < -c := by omega
    have d1 : IntKind.i64.wrap (-c * 2) = -c * 2 := IntWalk.i64_in _ (by omega)
    have d2 : IntKind.i64.wrap (-c * 2 + s) = -c * 2 + s := IntWalk.i64_in _ (by omega)
    have d4 : (-c * 2 + s).tdiv (2 * s) = qn (-c) s := by rw [Int.tdiv_eq_ediv_of_nonneg (by omega), qn, Int.mul_comm (-c) 2]
    have d5 : IntKind.i64.wrap (qn (-c) s) = qn (-c) s := IntWalk.i64_in _ (by omega)
    have d6 : IntKind.i64.wrap (-(qn (-c) s)) = -(qn (-c) s) := IntWalk.i64_in _ (by omega)
    go_enter Tryd.func47, Tryd.ntmps47
    go_wp2_with (go_at_call 57; refine (CQ.out _).mono ?_; rintro e w' ⟨rfl, hb⟩; obtain ⟨o1, n1, rfl⟩ := below_adds hb; clear hb)
    go_returns
    exact ⟨by rw [HQ.out, if_pos (by omega)]; rfl, by first | exact drewNb _ _ | exact (by repeat' (first | (with_reducible exact Below.refl _ _) | (with_reducible refine Below.adds_ ?_ ?_ _ _) | (with_reducible refine Below.alloc ?_ ?_ _) | (with_reducible refine Below.drew ?_) | (with_reducible refine Below.setCell ?_ ?_ _) | (with_reducible assumption) | go_size | (simp only [size_addsW, World.size_alloc, World.size_drew, World.size_setCell]; omega)))⟩
  · rw [show max c (-c) = c by omega] at hm0 hqb HQ
    have d1 : IntKind.i64.wrap (c * 2) = c * 2 := IntWalk.i64_in _ (by omega)
    have d2 : IntKind.i64.wrap (c * 2 + s) = c * 2 + s := IntWalk.i64_in _ (by omega)
    have d4 : (c * 2 + s).tdiv (2 * s) = qn c s := by rw [Int.tdiv_eq_ediv_of_nonneg (by omega), qn, Int.mul_comm c 2]
    have d5 : IntKind.i64.wrap (qn c s) = qn c s := IntWalk.i64_in _ (by omega)
    go_enter Tryd.func47, Tryd.ntmps47
    go_wp2_with (go_at_call 57; refine (CQ.out _).mono ?_; rintro e w' ⟨rfl, hb⟩; obtain ⟨o1, n1, rfl⟩ := below_adds hb; clear hb)
    go_returns
    exact ⟨by rw [HQ.out, if_neg (by omega)]; rfl, by first | exact drewNb _ _ | exact (by repeat' (first | (with_reducible exact Below.refl _ _) | (with_reducible refine Below.adds_ ?_ ?_ _ _) | (with_reducible refine Below.alloc ?_ ?_ _) | (with_reducible refine Below.drew ?_) | (with_reducible refine Below.setCell ?_ ?_ _) | (with_reducible assumption) | go_size | (simp only [size_addsW, World.size_alloc, World.size_drew, World.size_setCell]; omega)))⟩

end Go.Proofs.YtijccageaingjaaDoor
