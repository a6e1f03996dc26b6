/- What the law on checksums wants: the draw, and the plain facts. -/
import Derived.Test.YtmockpkddcnmiaaDrawD
import Derived.Test.YtmockpkddcnmiaaCrc
namespace Go.Proofs.Ytmockpkddcnmiaa
open Go.RowKit
set_option linter.unusedVariables false
set_option linter.unusedSimpArgs false

attribute [local go_sem] size_addsW cell?_addsW frozen?_addsW setCell_addsW drew_addsW adds_addsW setCell_twice alloc_adds0 size_adds0 adds_adds0 sel2 sel3 sel4 sel5 sel6 sel7 sel8 sel9 lt_more lt_more2 lt_more3 lt_more4 adds_drew adds_drewN drewN_addsW ltA_1_1 ltA_1_2 ltA_1_3 ltA_1_4 ltA_1_5 ltA_1_6 ltA_2_1 ltA_2_2 ltA_2_3 ltA_2_4 ltA_2_5 ltA_2_6 ltA_3_1 ltA_3_2 ltA_3_3 ltA_3_4 ltA_3_5 ltA_3_6 ltA_4_1 ltA_4_2 ltA_4_3 ltA_4_4 ltA_4_5 ltA_4_6 ltA_5_1 ltA_5_2 ltA_5_3 ltA_5_4 ltA_5_5 ltA_5_6 ltA_6_1 ltA_6_2 ltA_6_3 ltA_6_4 ltA_6_5 ltA_6_6 ltA_7_1 ltA_7_2 ltA_7_3 ltA_7_4 ltA_7_5 ltA_7_6 ltA_8_1 ltA_8_2 ltA_8_3 ltA_8_4 ltA_8_5 ltA_8_6 ltA_9_1 ltA_9_2 ltA_9_3 ltA_9_4 ltA_9_5 ltA_9_6 ltA_10_1 ltA_10_2 ltA_10_3 ltA_10_4 ltA_10_5 ltA_10_6 ltA_11_1 ltA_11_2 ltA_11_3 ltA_11_4 ltA_11_5 ltA_11_6 ltA_12_1 ltA_12_2 ltA_12_3 ltA_12_4 ltA_12_5 ltA_12_6

theorem I_ChecksumN (A : Option Addr) (n c : Nat) (zs : List Int) (w : World) (hn : zs.length = n) (hr : RowAt .u8 w A zs) (hl : n ≤ 1000000000000) (hw : ∀ i, 0 ≤ zs.getD i 0 ∧ zs.getD i 0 ≤ 255) (r : Int) (hc : ((M.crcB zs).toNat : Int) = r) :
    Calls Try.prog 16 #[.slice A n c] w fun e w' => e = .returned (.int .i64 r) ∧ Below w.heap.size w w' := by
  subst hn hc; exact I_Checksum A c zs w hr hl hw

/-- the bytes of a whole code: in new memory -/
def BytesGotD (W : World) (e : Ending) (w' : World) : Prop :=
  ∃ (A : Option Addr) (c : Nat) (zs : List Int), e = .returned (.slice A zs.length c) ∧ zs.length ≤ c ∧ c ≤ maxLen ∧ zs.length ≤ 30 ∧ (∀ z ∈ zs, 0 ≤ z ∧ z ≤ 255) ∧ RowAt .u8 w' A zs ∧ ((A = none ∧ zs = []) ∨ ∃ g, A = some ⟨g, 0, none⟩) ∧ Below W.heap.size W w'

theorem S_DrawChecksum (a : Option Addr) (len cap : Nat) (zs : List Int) (w : World) (h : IsRow .u8 w a len cap zs) :
    Calls Try.prog 23 #[.slice a len cap] w (BytesGotD w) := by
  have HI := Lib.hid h
  clear h
  go_enter Try.func23, Try.ntmps23
  go_wp2_with (go_at_call 53; refine (S_l20Open _ _ _ zs _ (IsRow.keep HI.out (by repeat' (first | (with_reducible exact Below.refl _ _) | (with_reducible refine Below.adds_ ?_ ?_ _ _) | (with_reducible refine Below.alloc ?_ ?_ _) | (with_reducible refine Below.drew ?_) | (with_reducible refine Below.setCell ?_ ?_ _) | (with_reducible assumption) | go_size | (simp only [size_addsW, World.size_alloc, World.size_drew, World.size_setCell]; omega))))).mono ?_; rintro e w1 ⟨rfl, hR', hb, hB⟩; (try simp only [World.size_alloc] at hR' hB); have hR := Lib.hid hR'; clear hR'; have hbw : Below w.heap.size w w1 := Below.trans (by repeat' (first | (with_reducible exact Below.refl _ _) | (with_reducible refine Below.adds_ ?_ ?_ _ _) | (with_reducible refine Below.alloc ?_ ?_ _) | (with_reducible refine Below.drew ?_) | (with_reducible refine Below.setCell ?_ ?_ _) | (with_reducible assumption) | go_size | (simp only [size_addsW, World.size_alloc, World.size_drew, World.size_setCell]; omega))) (hb.mono (by simp <;> omega)); clear hb)
  refine (S_l20Bytes w.heap.size _ 30 _ (by repeat (first | (with_reducible exact hR.out) | (with_reducible apply RdAt.adds) | (with_reducible apply RdAt.alloc) | (with_reducible exact RdAt.set hR.out _) | (with_reducible apply RdAt.drew))) (by omega) (by omega)).mono ?_
  rintro e w' ⟨v, zs2, rfl, hl2, hb2, -, hM, hown⟩
  obtain ⟨A, c, rfl, -, h2, h3, h4, h5⟩ := RowAt.of_ownS hown
  have hbe : Below w.heap.size w w' := hM.below hbw (Nat.le_refl _) (by omega)
  clear hown hM
  go_wp2_with fail
  go_ret
  refine ⟨A, c, zs2, rfl, h2, h3, hl2, hb2, h4, ?_, hbe⟩
  rcases h5 with ⟨h5, h6⟩ | h5
  · exact .inl ⟨h5, List.length_eq_zero_iff.1 h6⟩
  · exact .inr h5

theorem getD_bytes {zs : List Int} (h : ∀ z ∈ zs, 0 ≤ z ∧ z ≤ 255) (i : Nat) : 0 ≤ zs.getD i 0 ∧ zs.getD i 0 ≤ 255 := by
  rw [List.getD_eq_getElem?_getD]
  by_cases hi : i < zs.length
  · rw [List.getElem?_eq_getElem hi]; exact h _ (List.getElem_mem hi)
  · rw [List.getElem?_eq_none (by omega)]; simp

namespace M
def fB (v : BitVec 16) (z : Int) : BitVec 16 := itB 8 (feedB v z)
theorem crcB_append (a b : List Int) : crcB (a ++ b) = b.foldl fB (crcB a) := by rw [crcB, List.foldl_append]; rfl
theorem itB_eq {n : Nat} {x y : BitVec 16} (h : itB n x = itB n y) : x = y := by
  have h1 : itB n (x ^^^ y) = 0#16 := by rw [itB_xor, h, BitVec.xor_self]
  have h2 := itB_inj n _ h1
  have h3 : x ^^^ y ^^^ y = 0#16 ^^^ y := by rw [h2]
  simpa [BitVec.xor_assoc] using h3
theorem fB_inj {v v' : BitVec 16} {z : Int} (h : fB v z = fB v' z) : v = v' := by
  have h1 := itB_eq h
  unfold feedB at h1
  have h2 : v ^^^ (BitVec.ofInt 16 z <<< 8) ^^^ (BitVec.ofInt 16 z <<< 8) = v' ^^^ (BitVec.ofInt 16 z <<< 8) ^^^ (BitVec.ofInt 16 z <<< 8) := by rw [h1]
  simpa [BitVec.xor_assoc] using h2
theorem fold_inj (b : List Int) {v v' : BitVec 16} (h : b.foldl fB v = b.foldl fB v') : v = v' := by
  induction b generalizing v v' with
  | nil => exact h
  | cons z b ih => exact fB_inj (ih h)
theorem fB_byte {v : BitVec 16} {z z' : Int} (hz : 0 ≤ z ∧ z ≤ 255) (hz' : 0 ≤ z' ∧ z' ≤ 255) (h : fB v z = fB v z') : z = z' := by
  obtain ⟨n, rfl⟩ := Int.eq_ofNat_of_zero_le hz.1
  obtain ⟨n', rfl⟩ := Int.eq_ofNat_of_zero_le hz'.1
  have h1 := congrArg BitVec.toNat (itB_eq h)
  rw [feedB_nat v n (by omega), feedB_nat v n' (by omega)] at h1
  have h2 : v.toNat ^^^ (v.toNat ^^^ n * 256) = v.toNat ^^^ (v.toNat ^^^ n' * 256) := by rw [h1]
  rw [← Nat.xor_assoc, ← Nat.xor_assoc, Nat.xor_self, Nat.zero_xor, Nat.zero_xor] at h2
  omega
theorem crc_set_ne {zs : List Int} {k : Nat} {z' : Int} (hk : k < zs.length) (hb : ∀ z ∈ zs, 0 ≤ z ∧ z ≤ 255) (hz' : 0 ≤ z' ∧ z' ≤ 255) (hne : z' ≠ zs.getD k 0) : crcB (zs.set k z') ≠ crcB zs := by
  intro h
  have e1 : zs.set k z' = zs.take k ++ z' :: zs.drop (k + 1) := by rw [List.set_eq_take_append_cons_drop, if_pos hk]
  have e2 : zs = zs.take k ++ zs[k] :: zs.drop (k + 1) := by rw [List.getElem_cons_drop hk, List.take_append_drop]
  have e3 : zs.getD k 0 = zs[k] := by simp [List.getD_eq_getElem?_getD, hk]
  rw [e1] at h
  conv at h => rhs; rw [e2]
  rw [crcB_append, crcB_append, List.foldl_cons, List.foldl_cons] at h
  exact hne ((fB_byte hz' (hb _ (List.getElem_mem hk)) (fold_inj _ h)).trans e3.symm)
theorem tabB_zero : tabB 0 = 0#16 := by decide
theorem crc_own (zs : List Int) : crcB (zs ++ [((crcB zs).toNat : Int) / 256, ((crcB zs).toNat : Int) % 256]) = 0#16 := by
  rw [crcB_append]
  generalize crcB zs = v
  have hv := v.isLt
  show fB (fB v _) _ = _
  have e1 : (v.toNat : Int) / 256 = ((v.toNat / 256 : Nat) : Int) := by omega
  have e2 : (v.toNat : Int) % 256 = ((v.toNat % 256 : Nat) : Int) := by omega
  rw [e1, e2]
  have s1 : fB v ((v.toNat / 256 : Nat) : Int) = BitVec.ofNat 16 (v.toNat * 256) := by
    rw [fB, comb v _ (by omega), Nat.xor_self, tabB_zero]; simp
  rw [s1]
  have t1 : (BitVec.ofNat 16 (v.toNat * 256)).toNat = v.toNat % 256 * 256 := by rw [BitVec.toNat_ofNat]; omega
  rw [fB, comb _ _ (by omega), t1, show v.toNat % 256 * 256 / 256 = v.toNat % 256 by omega, Nat.xor_self, tabB_zero]
  apply BitVec.eq_of_toNat_eq
  simp
  omega
theorem xor_pow_ne (z : Int) (hz : 0 ≤ z ∧ z ≤ 255) (j : Nat) (hj : j < 8) : bits .xor .u8 z ((2 ^ j : Nat) : Int) ≠ z ∧ 0 ≤ bits .xor .u8 z ((2 ^ j : Nat) : Int) ∧ bits .xor .u8 z ((2 ^ j : Nat) : Int) ≤ 255 := by
  obtain ⟨n, rfl⟩ := Int.eq_ofNat_of_zero_le hz.1
  have h2 : (2 : Nat) ^ j < 2 ^ 8 := Nat.pow_lt_pow_right (by omega) hj
  have hx : n ^^^ 2 ^ j < 2 ^ 8 := Nat.xor_lt_two_pow (by omega) h2
  rw [bits_xor_u8 n (2 ^ j) (by omega) h2]
  refine ⟨fun h => ?_, by omega, by omega⟩
  have h3 : n ^^^ 2 ^ j = n := by exact_mod_cast h
  have h4 : n ^^^ (n ^^^ 2 ^ j) = n ^^^ n := by rw [h3]
  rw [← Nat.xor_assoc, Nat.xor_self, Nat.zero_xor] at h4
  have : 0 < 2 ^ j := Nat.two_pow_pos j
  omega
end M

end Go.Proofs.Ytmockpkddcnmiaa
