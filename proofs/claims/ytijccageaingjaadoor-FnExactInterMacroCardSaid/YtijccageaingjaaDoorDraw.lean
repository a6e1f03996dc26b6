/- The reader of a code (spec.l20Rd): its memory, and what each draw may answer: some value within its bounds. -/
import Derived.Test.YtijccageaingjaaDoorSmall
import Derived.Below
import Derived.Laws.OwnMore
import Derived.Laws.Rows
import Derived.Deep.Draws
import Derived.Deep.QuietTactic
import Derived.BigQuiet
import Derived.OpenShut
import Derived.Lib.Hide
import Derived.Outline
namespace Go.Proofs.YtijccageaingjaaDoor
open Go.RowKit
set_option linter.unusedVariables false
set_option linter.unusedSimpArgs false

attribute [local go_sem] size_addsW cell?_addsW frozen?_addsW setCell_addsW drew_addsW adds_addsW setCell_twice alloc_adds0 size_adds0 adds_adds0 sel2 sel3 sel4 sel5 sel6 sel7 sel8 sel9 lt_more lt_more2 lt_more3 lt_more4 adds_drew adds_drewN drewN_addsW ltA_1_1 ltA_1_2 ltA_1_3 ltA_1_4 ltA_1_5 ltA_1_6 ltA_2_1 ltA_2_2 ltA_2_3 ltA_2_4 ltA_2_5 ltA_2_6 ltA_3_1 ltA_3_2 ltA_3_3 ltA_3_4 ltA_3_5 ltA_3_6 ltA_4_1 ltA_4_2 ltA_4_3 ltA_4_4 ltA_4_5 ltA_4_6 ltA_5_1 ltA_5_2 ltA_5_3 ltA_5_4 ltA_5_5 ltA_5_6 ltA_6_1 ltA_6_2 ltA_6_3 ltA_6_4 ltA_6_5 ltA_6_6 ltA_7_1 ltA_7_2 ltA_7_3 ltA_7_4 ltA_7_5 ltA_7_6 ltA_8_1 ltA_8_2 ltA_8_3 ltA_8_4 ltA_8_5 ltA_8_6 ltA_9_1 ltA_9_2 ltA_9_3 ltA_9_4 ltA_9_5 ltA_9_6 ltA_10_1 ltA_10_2 ltA_10_3 ltA_10_4 ltA_10_5 ltA_10_6 ltA_11_1 ltA_11_2 ltA_11_3 ltA_11_4 ltA_11_5 ltA_11_6 ltA_12_1 ltA_12_2 ltA_12_3 ltA_12_4 ltA_12_5 ltA_12_6

/-- n bytes at a, below block B -/
def Bytes (w : World) (B : Nat) (a : Option Addr) (n : Nat) : Prop :=
  0 < n → ∃ b off, a = some ⟨b, off, none⟩ ∧ b < B ∧ ∀ i, i < n → ∃ z : Int, w.cell? ⟨b, off + i, none⟩ = some (.int .u8 z) ∧ 0 ≤ z ∧ z ≤ 255

theorem alloc_addsW (w : World) (os : Array Obj) (n : Nat) (o : Obj) : (addsW w os n).alloc o = addsW w (os.push o) n := by simp [addsW, World.alloc]

/-- what a number drawn from 0..n-1 is -/
def InR (n v : Int) : Prop := (1 ≤ n → 0 ≤ v ∧ v < n) ∧ (n < 1 → v = 0)

theorem inR_mod {n x : Int} (hx : 0 ≤ x) (hn : 1 ≤ n) : InR n (x % n) := ⟨fun _ => ⟨Int.emod_nonneg _ (by omega), Int.emod_lt_of_pos _ (by omega)⟩, fun h => by omega⟩

theorem inR_xor {n x : Int} (hx : 0 ≤ x ∧ x < 4611686018427387904) (hn : 1 ≤ n) : InR n ((bits .xor .i64 x (wrap64 (x.tdiv 64))).tmod n) := by
  obtain ⟨a, rfl⟩ := Int.eq_ofNat_of_zero_le hx.1
  have e1 : wrap64 ((a : Int).tdiv 64) = ((a / 64 : Nat) : Int) := by
    rw [Int.tdiv_eq_ediv_of_nonneg (by omega), IntWalk.wrap64_in _ (by omega)]; simp
  rw [e1]
  have hxr : a ^^^ (a / 64) < 2 ^ 63 := Nat.xor_lt_two_pow (by omega) (by omega)
  have e2 : bits .xor .i64 (a : Int) ((a / 64 : Nat) : Int) = ((a ^^^ (a / 64) : Nat) : Int) := by
    show IntKind.i64.wrap ((BitVec.ofInt 64 (a : Int) ^^^ BitVec.ofInt 64 ((a / 64 : Nat) : Int)).toNat : Int) = _
    rw [BitVec.toNat_xor, BitVec.ofInt_natCast, BitVec.ofInt_natCast, BitVec.toNat_ofNat, BitVec.toNat_ofNat, Nat.mod_eq_of_lt (by omega), Nat.mod_eq_of_lt (by omega), IntKind.wrap_i64]
    omega
  rw [e2, Int.tmod_eq_emod_of_nonneg (by omega)]
  exact inR_mod (by omega) hn

theorem mix_bd (y z : Int) (p len : Nat) (hp : p ≤ 1000000000) (hy0 : 0 ≤ y) (hy1 : y ≤ 255) (hz0 : 0 ≤ z) (hz1 : z ≤ 255) :
    0 ≤ wrap64 (y * 131 + z * 1117 + ↑p * 29 + wrap64 (wrap64 (↑p / ↑len) * 53)) ∧ wrap64 (y * 131 + z * 1117 + ↑p * 29 + wrap64 (wrap64 (↑p / ↑len) * 53)) < 4611686018427387904 := by
  have m3 : p / len ≤ p := Nat.div_le_self _ _
  have e : (p : Int) / (len : Int) = ((p / len : Nat) : Int) := by simp
  rw [e]
  generalize p / len = q at *
  rw [IntWalk.wrap64_in (q : Int) (by omega), IntWalk.wrap64_in ((q : Int) * 53) (by omega), IntWalk.wrap64_in _ (by omega)]
  omega

end Go.Proofs.YtijccageaingjaaDoor
