/- Marks in lists of bytes. -/
import Derived.Test.YtggkelehjdepkaaSoft
import Derived.LoopTactic
namespace Go.Proofs.Ytggkelehjdepkaa
open Go.RowKit
set_option linter.unusedVariables false
set_option linter.unusedSimpArgs false

attribute [local go_sem] size_addsW cell?_addsW frozen?_addsW setCell_addsW drew_addsW adds_addsW setCell_twice alloc_adds0 size_adds0 adds_adds0 sel2 sel3 sel4 sel5 sel6 sel7 sel8 sel9 lt_more lt_more2 lt_more3 lt_more4 adds_drew adds_drewN drewN_addsW ltA_1_1 ltA_1_2 ltA_1_3 ltA_1_4 ltA_1_5 ltA_1_6 ltA_2_1 ltA_2_2 ltA_2_3 ltA_2_4 ltA_2_5 ltA_2_6 ltA_3_1 ltA_3_2 ltA_3_3 ltA_3_4 ltA_3_5 ltA_3_6 ltA_4_1 ltA_4_2 ltA_4_3 ltA_4_4 ltA_4_5 ltA_4_6 ltA_5_1 ltA_5_2 ltA_5_3 ltA_5_4 ltA_5_5 ltA_5_6 ltA_6_1 ltA_6_2 ltA_6_3 ltA_6_4 ltA_6_5 ltA_6_6 ltA_7_1 ltA_7_2 ltA_7_3 ltA_7_4 ltA_7_5 ltA_7_6 ltA_8_1 ltA_8_2 ltA_8_3 ltA_8_4 ltA_8_5 ltA_8_6 ltA_9_1 ltA_9_2 ltA_9_3 ltA_9_4 ltA_9_5 ltA_9_6 ltA_10_1 ltA_10_2 ltA_10_3 ltA_10_4 ltA_10_5 ltA_10_6 ltA_11_1 ltA_11_2 ltA_11_3 ltA_11_4 ltA_11_5 ltA_11_6 ltA_12_1 ltA_12_2 ltA_12_3 ltA_12_4 ltA_12_5 ltA_12_6

/-- the first k numbers are f's -/
def markG (f : Nat → Int) (zs : List Int) (k : Nat) : List Int := (List.range k).map f ++ zs.drop k
theorem markG_len (f : Nat → Int) (zs : List Int) (k : Nat) (h : k ≤ zs.length) : (markG f zs k).length = zs.length := by simp [markG]; omega
theorem markG_lo (f : Nat → Int) (zs : List Int) {k i : Nat} (h : i < k) : (markG f zs k).getD i 0 = f i := by
  simp only [markG, List.getD_eq_getElem?_getD]
  rw [List.getElem?_append_left (by simpa using h)]
  simp [List.getElem?_range, h]
theorem markG_hi (f : Nat → Int) (zs : List Int) {k i : Nat} (h : k ≤ i) : (markG f zs k).getD i 0 = zs.getD i 0 := by
  simp only [markG, List.getD_eq_getElem?_getD]
  rw [List.getElem?_append_right (by simpa using h), List.length_map, List.length_range, List.getElem?_drop, show k + (i - k) = i by omega]
theorem markG_zero (f : Nat → Int) (zs : List Int) : markG f zs 0 = zs := by simp [markG]
theorem markG_full (f : Nat → Int) (zs : List Int) : markG f zs zs.length = (List.range zs.length).map f := by simp [markG]
theorem RowAt.markG {kd : IntKind} {w : World} {b off : Nat} {f : Nat → Int} {zs : List Int} {k : Nat} (hk : k < zs.length) (h : RowAt kd w (some ⟨b, off, none⟩) (markG f zs k)) : RowAt kd (w.setCell ⟨b, off + k, none⟩ (.int kd (f k))) (some ⟨b, off, none⟩) (Ytggkelehjdepkaa.markG f zs (k + 1)) := fun hz => by
  have hl := markG_len f zs k (by omega)
  have hl' := markG_len f zs (k + 1) (by omega)
  obtain ⟨b', off', e, hb, hc⟩ := h (by intro e; rw [e] at hl; simp at hl; omega)
  injection e with e; injection e with e1 e2; subst e1 e2
  refine ⟨b, off, rfl, by simpa [World.setCell] using hb, fun i hi => ?_⟩
  rw [cells_set (hc k (by omega))]
  by_cases e : i = k
  · subst e; rw [if_pos rfl, markG_lo _ _ (by omega)]
  · rw [if_neg e, hc i (by omega)]
    by_cases h1 : i < k
    · rw [markG_lo _ _ h1, markG_lo _ _ (by omega)]
    · rw [markG_hi _ _ (by omega), markG_hi _ _ (by omega)]

/-- the marks as bytes -/
def mkU (k0 : Int) (i : Nat) : Int := (k0 + i) % 256
def marksU (k0 : Int) (n : Nat) : List Int := (List.range n).map (mkU k0)
theorem marksU_len (k0 : Int) (n : Nat) : (marksU k0 n).length = n := by simp [marksU]
theorem marksU_at (k0 : Int) {n i : Nat} (h : i < n) : (marksU k0 n).getD i 0 = (k0 + i) % 256 := by simp [marksU, mkU, List.getD_eq_getElem?_getD, List.getElem?_map, List.getElem?_range, h]

theorem L_markByteS (A : Option Addr) (c : Nat) (zs : List Int) (k0 : Int) (w : World) (hr : RowAt .u8 w A zs) (hs : Soft w A) (hl : zs.length ≤ 1048576) (hk0 : 0 ≤ k0 ∧ k0 ≤ 1000000000000) :
    Calls Try.prog 20 #[.slice A zs.length c, .int .i64 k0] w fun e w' => e = .returned (.int .i64 (k0 + zs.length)) ∧ Marked w A w' ∧ RowAt .u8 w' A (marksU k0 zs.length) ∧ Soft w' A := by
  obtain ⟨N, hYtggkelehjdepkaa⟩ : ∃ N, N = zs.length := ⟨_, rfl⟩
  rw [← hYtggkelehjdepkaa] at hl ⊢
  have HN := Lib.hid hYtggkelehjdepkaa.symm
  clear hYtggkelehjdepkaa
  have HR := Lib.hid hr
  have HS := Lib.hid hs
  clear hr hs
  go_enter Try.func20, Try.ntmps20
  go_wp2
  go_loopw [1, 5] (fun kk i wr => ∃ k : Nat, k ≤ N ∧ i = .int .i64 (k : Int) ∧ kk = .int .i64 (k0 + k) ∧ Marked w A wr ∧ RowAt .u8 wr A (markG (mkU k0) zs k) ∧ Soft wr A) (fun _ i _ => N - (intOf i).toNat)
  case atStart => exact ⟨0, Nat.zero_le _, rfl, by simp, Marked.refl _ _, by rw [markG_zero]; exact HR.out, HS.out⟩
  case round =>
    obtain ⟨k, hk, rfl, rfl, hm, hr, hs⟩ := hrel
    have HM := Lib.hid hm
    have HR1 := Lib.hid hr
    have HS1 := Lib.hid hs
    clear hm hr hs HR HS
    by_cases hlt : k < N
    · obtain ⟨b, off, z, rfl, hb, hz, hc⟩ := HR1.out.at_ (i := k) (by rw [markG_len _ _ _ (by rw [HN.out]; omega), HN.out]; exact hlt)
      have hf := HS1.out.hot rfl (off + k)
      have hw : IntKind.u8.wrap (k0 + (k : Int)) = mkU k0 k := by unfold mkU; simp only [IntKind.wrap_u8]
      clear hz
      go_wp2
      go_roundw
      case rel => exact ⟨k + 1, by omega, by go_num, by go_num, HM.out.set _ _, HR1.out.markG (by rw [HN.out]; exact hlt), HS1.out.set _ _⟩
      case measure => simp [intOf]; omega
    · obtain rfl : k = N := by omega
      go_wp2
      go_returns
      exact ⟨rfl, HM.out, by have := HR1.out; rw [← HN.out, markG_full] at this; rw [← HN.out]; exact this, HS1.out⟩

theorem L_heldByteS (A : Option Addr) (c n : Nat) (k0 : Int) (w : World) (hr : RowAt .u8 w A (marksU k0 n)) (hl : n ≤ 1048576) (hk0 : 0 ≤ k0 ∧ k0 ≤ 1000000000000) :
    Calls Try.prog 21 #[.slice A n c, .int .i64 k0] w fun e w' => e = .returned (.int .i64 (k0 + n)) ∧ Below w.heap.size w w' := by
  have HR := Lib.hid hr
  clear hr
  go_enter Try.func21, Try.ntmps21
  go_wp2
  go_loopw [1, 5] (fun kk i wr => ∃ k m : Nat, k ≤ n ∧ i = .int .i64 (k : Int) ∧ kk = .int .i64 (k0 + k) ∧ wr = w.drewN m) (fun _ i _ => n - (intOf i).toNat)
  case atStart => exact ⟨0, 0, Nat.zero_le _, rfl, by simp, rfl⟩
  case round =>
    obtain ⟨k, m, hk, rfl, rfl, rfl⟩ := hrel
    by_cases hlt : k < n
    · obtain ⟨b, off, z, rfl, hb, hz, hc⟩ := HR.out.at_ (i := k) (by rw [marksU_len]; exact hlt)
      rw [marksU_at _ hlt] at hz
      subst hz
      have hw : IntKind.u8.wrap (k0 + (k : Int)) = (k0 + (k : Int)) % 256 := by simp only [IntKind.wrap_u8]
      go_wp2
      go_roundw
      case rel => exact ⟨k + 1, _, by omega, by go_num, by go_num, rfl⟩
      case measure => simp [intOf]; omega
    · obtain rfl : k = n := by omega
      go_wp2
      go_ret
      exact ⟨rfl, drewN_below w m⟩

end Go.Proofs.Ytggkelehjdepkaa
