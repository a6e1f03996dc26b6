/- Checksums, in plain words: a register of sixteen bits; no program in sight. -/
import Derived.WalkKit
import Derived.IntWalk
namespace Go.Proofs.Ytmockpkddcnmiaa.M
open Go Go.RowKit

def stepB (x : BitVec 16) : BitVec 16 := (x <<< 1) ^^^ (if x.msb then 0x1021#16 else 0#16)
def itB : Nat → BitVec 16 → BitVec 16
  | 0, x => x
  | n + 1, x => stepB (itB n x)
def feedB (v : BitVec 16) (z : Int) : BitVec 16 := v ^^^ (BitVec.ofInt 16 z <<< 8)
def crcB (zs : List Int) : BitVec 16 := zs.foldl (fun v z => itB 8 (feedB v z)) 0xffff#16
/-- the table's entry -/
def tabB (b : Nat) : BitVec 16 := itB 8 (BitVec.ofNat 16 b <<< 8)

theorem stepB_xor (x y : BitVec 16) : stepB (x ^^^ y) = stepB x ^^^ stepB y := by
  unfold stepB
  rw [BitVec.shiftLeft_xor_distrib, BitVec.msb_xor]
  cases x.msb <;> cases y.msb <;> simp [BitVec.xor_assoc]
  · rw [BitVec.xor_comm (0x1021#16)]
  · rw [BitVec.xor_comm (0x1021#16), BitVec.xor_assoc]; simp
theorem itB_xor (n : Nat) (x y : BitVec 16) : itB n (x ^^^ y) = itB n x ^^^ itB n y := by
  induction n with
  | zero => rfl
  | succ n ih => rw [itB, itB, itB, ih, stepB_xor]
theorem itB_zero (n : Nat) : itB n 0#16 = 0#16 := by
  induction n with
  | zero => rfl
  | succ n ih => rw [itB, ih]; rfl
theorem itB_inj (n : Nat) (x : BitVec 16) (h : itB n x = 0#16) : x = 0#16 := by
  induction n generalizing x with
  | zero => exact h
  | succ n ih =>
    rw [itB] at h
    refine ih x ?_
    generalize itB n x = y at h
    unfold stepB at h
    cases hm : y.msb with
    | false =>
      rw [hm] at h
      simp at h
      apply BitVec.eq_of_toNat_eq
      have h2 := congrArg BitVec.toNat h
      rw [BitVec.msb_eq_decide] at hm
      simp [Nat.shiftLeft_eq] at h2 hm
      have := y.isLt
      simp
      omega
    | true =>
      rw [hm] at h
      simp at h
      have h2 := congrArg (fun b : BitVec 16 => b.getLsbD 0) h
      simp at h2
/-- eight steps over the low byte shift it up -/
theorem itB_low (l : Nat) (h : l < 256) : itB 8 (BitVec.ofNat 16 l) = BitVec.ofNat 16 (l * 256) := by
  have key : ∀ l : Fin 256, itB 8 (BitVec.ofNat 16 l.val) = BitVec.ofNat 16 (l.val * 256) := by decide +kernel
  exact key ⟨l, h⟩

theorem bits_xor_i64 (a b : Nat) (ha : a < 2 ^ 62) (hb : b < 2 ^ 62) : bits .xor .i64 (a : Int) (b : Int) = ((a ^^^ b : Nat) : Int) := by
  have hx : a ^^^ b < 2 ^ 62 := Nat.xor_lt_two_pow ha hb
  show IntKind.i64.wrap ((BitVec.ofInt 64 (a : Int) ^^^ BitVec.ofInt 64 (b : Int)).toNat : Int) = _
  rw [BitVec.toNat_xor, BitVec.ofInt_natCast, BitVec.ofInt_natCast, BitVec.toNat_ofNat, BitVec.toNat_ofNat, Nat.mod_eq_of_lt (by omega), Nat.mod_eq_of_lt (by omega), IntKind.wrap_i64]
  omega
theorem bits_xor_u16 (a b : Nat) (ha : a < 2 ^ 16) (hb : b < 2 ^ 16) : bits .xor .u16 (a : Int) (b : Int) = ((a ^^^ b : Nat) : Int) := by
  have hx : a ^^^ b < 2 ^ 16 := Nat.xor_lt_two_pow ha hb
  show IntKind.u16.wrap ((BitVec.ofInt 16 (a : Int) ^^^ BitVec.ofInt 16 (b : Int)).toNat : Int) = _
  rw [BitVec.toNat_xor, BitVec.ofInt_natCast, BitVec.ofInt_natCast, BitVec.toNat_ofNat, BitVec.toNat_ofNat, Nat.mod_eq_of_lt (by omega), Nat.mod_eq_of_lt (by omega), IntKind.wrap_u16]
  omega
theorem bits_xor_u8 (a b : Nat) (ha : a < 2 ^ 8) (hb : b < 2 ^ 8) : bits .xor .u8 (a : Int) (b : Int) = ((a ^^^ b : Nat) : Int) := by
  have hx : a ^^^ b < 2 ^ 8 := Nat.xor_lt_two_pow ha hb
  show IntKind.u8.wrap ((BitVec.ofInt 8 (a : Int) ^^^ BitVec.ofInt 8 (b : Int)).toNat : Int) = _
  rw [BitVec.toNat_xor, BitVec.ofInt_natCast, BitVec.ofInt_natCast, BitVec.toNat_ofNat, BitVec.toNat_ofNat, Nat.mod_eq_of_lt (by omega), Nat.mod_eq_of_lt (by omega), IntKind.wrap_u8]
  omega
theorem stepB_hi (v : BitVec 16) (h : 32768 ≤ v.toNat) : (stepB v).toNat = (2 * v.toNat - 65536) ^^^ 4129 := by
  have hm : v.msb = true := by rw [BitVec.msb_eq_decide]; simpa using h
  have hv := v.isLt
  unfold stepB
  have e : v.toNat * 2 ^ 1 % 2 ^ 16 = 2 * v.toNat - 65536 := by omega
  rw [hm, if_pos rfl, BitVec.toNat_xor, BitVec.toNat_shiftLeft, Nat.shiftLeft_eq, e]
  rfl
theorem stepB_lo (v : BitVec 16) (h : v.toNat < 32768) : (stepB v).toNat = 2 * v.toNat := by
  have hm : v.msb = false := by rw [BitVec.msb_eq_decide]; simpa using h
  unfold stepB
  rw [hm]
  simp [Nat.shiftLeft_eq]
  omega
theorem s_hi (v : BitVec 16) (h : 32768 ≤ v.toNat) : bits .xor .i64 (2 * (v.toNat : Int) - 65536) 4129 = ((stepB v).toNat : Int) := by
  have hv := v.isLt
  have e : (2 * (v.toNat : Int) - 65536) = ((2 * v.toNat - 65536 : Nat) : Int) := by omega
  rw [stepB_hi v h, e]
  exact bits_xor_i64 _ 4129 (by omega) (by decide)
theorem s_lo (v : BitVec 16) (h : v.toNat < 32768) : 2 * (v.toNat : Int) = ((stepB v).toNat : Int) := by rw [stepB_lo v h]; omega
theorem u_wrap (v : BitVec 16) : IntKind.u16.wrap ((v.toNat : Int) * 2) = (((v.toNat * 2) % 65536 : Nat) : Int) := by
  have hv := v.isLt
  rw [IntKind.wrap_u16]; omega
theorem u_hi (v : BitVec 16) (h : 32768 ≤ v.toNat) : bits .xor .u16 (IntKind.u16.wrap ((v.toNat : Int) * 2)) 4129 = ((stepB v).toNat : Int) := by
  have hv := v.isLt
  have e : (v.toNat * 2) % 65536 = 2 * v.toNat - 65536 := by omega
  rw [u_wrap, e, stepB_hi v h]
  exact bits_xor_u16 _ 4129 (by omega) (by decide)
theorem u_lo (v : BitVec 16) (h : v.toNat < 32768) : IntKind.u16.wrap ((v.toNat : Int) * 2) = ((stepB v).toNat : Int) := by
  rw [u_wrap, stepB_lo v h]; omega
theorem feedB_nat (v : BitVec 16) (z : Nat) (hz : z ≤ 255) : (feedB v (z : Int)).toNat = v.toNat ^^^ (z * 256) := by
  unfold feedB
  rw [BitVec.toNat_xor, BitVec.ofInt_natCast, BitVec.toNat_shiftLeft, BitVec.toNat_ofNat, Nat.shiftLeft_eq, Nat.mod_eq_of_lt (show z < 2 ^ 16 by omega), Nat.mod_eq_of_lt (by omega)]
theorem s_feed (v : BitVec 16) (z : Int) (hz : 0 ≤ z ∧ z ≤ 255) : bits .xor .i64 (v.toNat : Int) (z * 256) = ((feedB v z).toNat : Int) := by
  obtain ⟨n, rfl⟩ := Int.eq_ofNat_of_zero_le hz.1
  have hv := v.isLt
  rw [feedB_nat v n (by omega), show (n : Int) * 256 = ((n * 256 : Nat) : Int) by omega]
  exact bits_xor_i64 _ _ (by omega) (by omega)
theorem tab_start (k : Nat) (h : k < 256) : (k : Int) * (256 : Int) = ((BitVec.ofNat 16 k <<< 8).toNat : Int) := by
  rw [BitVec.toNat_shiftLeft, BitVec.toNat_ofNat, Nat.shiftLeft_eq]; omega
/-- the table's way agrees with the bits' way -/
theorem comb (v : BitVec 16) (z : Nat) (hz : z ≤ 255) : itB 8 (feedB v (z : Int)) = BitVec.ofNat 16 (v.toNat * 256) ^^^ tabB (v.toNat / 256 ^^^ z) := by
  have hv := v.isLt
  have e : feedB v (z : Int) = (BitVec.ofNat 16 (v.toNat / 256 ^^^ z) <<< 8) ^^^ BitVec.ofNat 16 (v.toNat % 256) := by
    apply BitVec.eq_of_toNat_eq
    have hx : v.toNat / 256 ^^^ z < 2 ^ 8 := Nat.xor_lt_two_pow (by omega) (by omega)
    rw [feedB_nat v z hz, BitVec.toNat_xor, BitVec.toNat_shiftLeft, BitVec.toNat_ofNat, BitVec.toNat_ofNat, Nat.mod_eq_of_lt (show v.toNat / 256 ^^^ z < 2 ^ 16 by omega), Nat.shiftLeft_eq, Nat.mod_eq_of_lt (by omega), Nat.mod_eq_of_lt (show v.toNat % 256 < 2 ^ 16 by omega)]
    apply Nat.eq_of_testBit_eq
    intro i
    have h256 : (256 : Nat) = 2 ^ 8 := rfl
    simp only [Nat.testBit_xor]
    rw [show z * 256 = 2 ^ 8 * z by omega, show (v.toNat / 256 ^^^ z) * 2 ^ 8 = 2 ^ 8 * (v.toNat / 256 ^^^ z) by omega]
    rw [Nat.testBit_two_pow_mul, Nat.testBit_two_pow_mul, Nat.testBit_xor, h256, Nat.testBit_div_two_pow, Nat.testBit_mod_two_pow]
    by_cases hi : 8 ≤ i
    · have h1 : ¬ i < 8 := by omega
      simp [hi, h1, show i - 8 + 8 = i by omega]
    · have h1 : i < 8 := by omega
      simp [hi, h1]
  rw [e, itB_xor, itB_low _ (by omega)]
  show tabB _ ^^^ _ = _
  have e2 : BitVec.ofNat 16 (v.toNat % 256 * 256) = BitVec.ofNat 16 (v.toNat * 256) := by
    apply BitVec.eq_of_toNat_eq
    rw [BitVec.toNat_ofNat, BitVec.toNat_ofNat]
    omega
  rw [BitVec.xor_comm, e2]

theorem u_comb (v : BitVec 16) (z : Int) (hz : 0 ≤ z ∧ z ≤ 255) : bits .xor .u16 (IntKind.u16.wrap ((v.toNat : Int) * (256 : Int))) ((tabB (v.toNat / 256 ^^^ z.toNat)).toNat : Int) = ((itB 8 (feedB v z)).toNat : Int) := by
  obtain ⟨n, rfl⟩ := Int.eq_ofNat_of_zero_le hz.1
  have hv := v.isLt
  rw [comb v n (by omega), BitVec.toNat_xor, BitVec.toNat_ofNat, Int.toNat_natCast]
  have e : IntKind.u16.wrap ((v.toNat : Int) * (256 : Int)) = ((v.toNat * 256 % 2 ^ 16 : Nat) : Int) := by rw [IntKind.wrap_u16]; omega
  rw [e]
  exact bits_xor_u16 _ _ (Nat.mod_lt _ (by decide)) (BitVec.isLt _)
theorem u_idx (v : BitVec 16) (z : Int) (hz : 0 ≤ z ∧ z ≤ 255) : bits .xor .u8 ((v.toNat : Int) / (256 : Int)) z = ((v.toNat / 256 ^^^ z.toNat : Nat) : Int) ∧ v.toNat / 256 ^^^ z.toNat < 256 := by
  obtain ⟨n, rfl⟩ := Int.eq_ofNat_of_zero_le hz.1
  have hv := v.isLt
  have hx : v.toNat / 256 ^^^ n < 2 ^ 8 := Nat.xor_lt_two_pow (by omega) (by omega)
  rw [Int.toNat_natCast, show (v.toNat : Int) / (256 : Int) = ((v.toNat / 256 : Nat) : Int) by omega]
  exact ⟨bits_xor_u8 _ _ (by omega) (by omega), by omega⟩

end Go.Proofs.Ytmockpkddcnmiaa.M
