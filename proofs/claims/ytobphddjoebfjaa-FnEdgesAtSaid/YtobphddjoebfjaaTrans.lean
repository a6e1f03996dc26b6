/- A new picture with its block, a row, and Transpose. -/
import Derived.Test.YtobphddjoebfjaaBlkS
import Derived.Test.YtobphddjoebfjaaNew
import Derived.LoopTactic
import Derived.Deep.OwnRows
namespace Go.Proofs.Ytobphddjoebfjaa
open Go.RowKit
set_option linter.unusedVariables false
set_option linter.unusedSimpArgs false

attribute [local go_sem] size_addsW cell?_addsW frozen?_addsW setCell_addsW drew_addsW adds_addsW setCell_twice alloc_adds0 size_adds0 adds_adds0 sel2 sel3 sel4 sel5 sel6 sel7 sel8 sel9 lt_more lt_more2 lt_more3 lt_more4 adds_drew adds_drewN drewN_addsW ltA_1_1 ltA_1_2 ltA_1_3 ltA_1_4 ltA_1_5 ltA_1_6 ltA_2_1 ltA_2_2 ltA_2_3 ltA_2_4 ltA_2_5 ltA_2_6 ltA_3_1 ltA_3_2 ltA_3_3 ltA_3_4 ltA_3_5 ltA_3_6 ltA_4_1 ltA_4_2 ltA_4_3 ltA_4_4 ltA_4_5 ltA_4_6 ltA_5_1 ltA_5_2 ltA_5_3 ltA_5_4 ltA_5_5 ltA_5_6 ltA_6_1 ltA_6_2 ltA_6_3 ltA_6_4 ltA_6_5 ltA_6_6 ltA_7_1 ltA_7_2 ltA_7_3 ltA_7_4 ltA_7_5 ltA_7_6 ltA_8_1 ltA_8_2 ltA_8_3 ltA_8_4 ltA_8_5 ltA_8_6 ltA_9_1 ltA_9_2 ltA_9_3 ltA_9_4 ltA_9_5 ltA_9_6 ltA_10_1 ltA_10_2 ltA_10_3 ltA_10_4 ltA_10_5 ltA_10_6 ltA_11_1 ltA_11_2 ltA_11_3 ltA_11_4 ltA_11_5 ltA_11_6 ltA_12_1 ltA_12_2 ltA_12_3 ltA_12_4 ltA_12_5 ltA_12_6

def lstA (L : List Int) : Array Value := (L.map (Value.int .i64)).toArray
theorem lstA_get {L : List Int} {i : Nat} (h : i < L.length) : (lstA L)[i]? = some (.int .i64 (L.getD i 0)) := by
  simp [lstA, List.getD_eq_getElem?_getD, h]
theorem lstA_set (L : List Int) (i : Nat) (z : Int) : (lstA L).setIfInBounds i (.int .i64 z) = lstA (L.set i z) := by
  simp [lstA, List.map_set]
theorem row_blk {W : World} {g : Nat} {L : List Int} {t : TypeId} (h : Blk W g (lstA L) t) : RowAt .i64 W (some ⟨g, 0, none⟩) L := fun _ =>
  ⟨g, 0, rfl, h.lt, fun i hi => by rw [Nat.zero_add]; exact h.get (lstA_get hi)⟩

/-- a picture in new memory, by its block -/
def NewPicB (a b : Nat) (v : Int) (w : World) (e : Ending) (w' : World) : Prop :=
  ∃ g : Nat, e = .returned (.agg #[.int .i64 (a : Int), .int .i64 (b : Int), .slice (some ⟨g, 0, none⟩) (a * b) (a * b)]) ∧ Blk w' g (lstA (List.replicate (a * b) v)) 3 ∧ w.heap.size ≤ g ∧ Below w.heap.size w w'

theorem I_NewPictureB (a b : Nat) (v : Int) (w : World) (ha : sideB a = true) (hb : sideB b = true) (hv : M.inB v 0 255 = true) :
    Calls Try.prog 33 #[.int .i64 (a : Int), .int .i64 (b : Int), .int .i64 v] w (NewPicB a b v w) := by
  have ha' : a ≤ 32 := by simp [sideB] at ha; omega
  have hb' : b ≤ 32 := by simp [sideB] at hb; omega
  obtain ⟨N, hYtobphddjoebfjaa⟩ : ∃ N, N = a * b := ⟨_, rfl⟩
  have hab : N ≤ 1024 := by have := Nat.mul_le_mul ha' hb'; omega
  have hN : (a : Int) * (b : Int) = (N : Int) := by rw [hYtobphddjoebfjaa, Int.natCast_mul]
  have HN := Lib.hid hYtobphddjoebfjaa
  clear hYtobphddjoebfjaa
  have hmk : ∀ W : World, (Instr.makeSlice 22 (.int .i64 (N : Int)) (.int .i64 (N : Int))).run Try.prog W = .ok (.slice (some ⟨W.heap.size, 0, none⟩) N N) (W.alloc (.cells (fillA N 0 v) 3)) := by
    intro W
    have := run_make_row' (P := Try.prog) 22 3 (.int .i64 0) 8 Try.underlying22 infoInt rfl .i64 .i64 N (by omega) (by omega) W
    rw [made_fillA N v] at this
    exact this
  go_enter Try.func33, Try.ntmps33
  go_wp2_with (first | (go_at_call 68; refine (I_sideValid _ _).mono ?_; rintro e w' ⟨rfl, rfl⟩) | (go_at_call 66; refine (I_sampleValid _ _).mono ?_; rintro e w' ⟨rfl, rfl⟩))
  go_loopw [33] (fun i wr => ∃ k : Nat, k ≤ N ∧ i = .int .i64 (k : Int) ∧ wr = ((w.alloc (.cells #[.int .i64 0, .int .i64 0, .slice none 0 0] 27)).alloc (.cells (fillA N k v) 3)).alloc (.cells #[.int .i64 (a : Int), .int .i64 (b : Int), .slice (some ⟨w.heap.size + 1, 0, none⟩) N N] 27)) (fun i _ => N - (intOf i).toNat)
  case atStart => exact ⟨0, Nat.zero_le _, rfl, rfl⟩
  case round =>
    obtain ⟨k, hk, rfl, rfl⟩ := hrel
    by_cases hlt : k < N
    · have hF := fillA_at (v := v) hlt
      have HS := Lib.hid (fillA_set (v := v) hlt)
      go_wp2
      go_roundw
      case rel => exact ⟨k + 1, by omega, by go_num, by rw [HS.out]⟩
      case measure => simp [intOf]; omega
    · obtain rfl : k = N := by omega
      go_wp2
      go_returns
      unfold NewPicB
      rw [← HN.out]
      refine ⟨w.heap.size + 1, rfl, ?_, by omega, (by repeat' (first | (with_reducible exact Below.refl _ _) | (with_reducible refine Below.adds_ ?_ ?_ _ _) | (with_reducible refine Below.alloc ?_ ?_ _) | (with_reducible refine Below.drew ?_) | (with_reducible refine Below.setCell ?_ ?_ _) | (with_reducible assumption) | go_size | (simp only [size_addsW, World.size_alloc, World.size_drew, World.size_setCell]; omega)))⟩
      rw [fillA_full]
      first | exact ((Blk.new _ _ _ _ (by simp)).alloc _) | exact (((Blk.new _ _ _ _ (by simp)).alloc _).other (by simp) _) | exact ((((Blk.new _ _ _ _ (by simp)).alloc _).other (by simp only; omega) _).other (by simp only; omega) _).other (by simp only; omega) _

set_option maxRecDepth 100000 in
theorem I_row (na nb y bl off c : Nat) (zs : List Int) (w : World) (hy : y < nb) (ha : 8 ≤ na ∧ na ≤ 32) (hb : nb ≤ 32) (hN : zs.length = na * nb) (hc : zs.length ≤ c) (hcm : c ≤ maxLen) :
    Calls Try.prog 67 #[.agg #[.int .i64 na, .int .i64 nb, .slice (some ⟨bl, off, none⟩) zs.length c], .int .i64 y] w fun e w' => e = .returned (.slice (some ⟨bl, off + y * na, none⟩) na (c - y * na)) ∧ Below w.heap.size w w' := by
  obtain ⟨K, hK⟩ : ∃ K, K = y * na := ⟨_, rfl⟩
  have hyw : (y : Int) * (na : Int) = (K : Int) := by rw [hK, Int.natCast_mul]
  have hyw2 : ((y : Int) + 1) * (na : Int) = ((K + na : Nat) : Int) := by rw [Int.add_mul, hyw, Int.one_mul]; omega
  have hKN : K + na ≤ zs.length := by
    have := Nat.mul_le_mul_right na (show y + 1 ≤ nb by omega)
    rw [Nat.add_mul, Nat.one_mul, Nat.mul_comm nb na, ← hN] at this
    omega
  have hNb : zs.length ≤ 1024 := by rw [hN]; exact Nat.mul_le_mul ha.2 hb
  rw [← hK]
  obtain ⟨H, hH⟩ : ∃ H, H = K + na := ⟨_, rfl⟩
  rw [← hH] at hyw2
  have h1 : ¬ c = K := by omega
  have h2 : K ≤ H := by omega
  have h3 : H ≤ c := by omega
  have h4 : H - K = na := by omega
  have h5 : (K : Int) ≤ 1024 := by omega
  have h6 : (H : Int) ≤ 1024 := by omega
  unfold maxLen at hcm
  have HH := Lib.hid hH
  clear hK hN hH hKN
  go_enter Try.func67, Try.ntmps67
  go_wp2
  go_returns
  exact ⟨rfl, (by repeat' (first | (with_reducible exact Below.refl _ _) | (with_reducible refine Below.adds_ ?_ ?_ _ _) | (with_reducible refine Below.alloc ?_ ?_ _) | (with_reducible refine Below.drew ?_) | (with_reducible refine Below.setCell ?_ ?_ _) | (with_reducible assumption) | go_size | (simp only [size_addsW, World.size_alloc, World.size_drew, World.size_setCell]; omega)))⟩

end Go.Proofs.Ytobphddjoebfjaa
