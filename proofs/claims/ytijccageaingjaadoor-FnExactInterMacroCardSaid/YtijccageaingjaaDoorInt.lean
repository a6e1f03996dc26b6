/- Inter macroblocks: what both sides answer, in plain numbers. -/
import Derived.Test.YtijccageaingjaaDoorCbk
import Derived.Test.YtijccageaingjaaDoorMacE
namespace Go.Proofs.YtijccageaingjaaDoor
open Go.RowKit
set_option linter.unusedVariables false
set_option linter.unusedSimpArgs false

attribute [local go_sem] size_addsW cell?_addsW frozen?_addsW setCell_addsW drew_addsW adds_addsW setCell_twice alloc_adds0 size_adds0 adds_adds0 sel2 sel3 sel4 sel5 sel6 sel7 sel8 sel9 lt_more lt_more2 lt_more3 lt_more4 adds_drew adds_drewN drewN_addsW ltA_1_1 ltA_1_2 ltA_1_3 ltA_1_4 ltA_1_5 ltA_1_6 ltA_2_1 ltA_2_2 ltA_2_3 ltA_2_4 ltA_2_5 ltA_2_6 ltA_3_1 ltA_3_2 ltA_3_3 ltA_3_4 ltA_3_5 ltA_3_6 ltA_4_1 ltA_4_2 ltA_4_3 ltA_4_4 ltA_4_5 ltA_4_6 ltA_5_1 ltA_5_2 ltA_5_3 ltA_5_4 ltA_5_5 ltA_5_6 ltA_6_1 ltA_6_2 ltA_6_3 ltA_6_4 ltA_6_5 ltA_6_6 ltA_7_1 ltA_7_2 ltA_7_3 ltA_7_4 ltA_7_5 ltA_7_6 ltA_8_1 ltA_8_2 ltA_8_3 ltA_8_4 ltA_8_5 ltA_8_6 ltA_9_1 ltA_9_2 ltA_9_3 ltA_9_4 ltA_9_5 ltA_9_6 ltA_10_1 ltA_10_2 ltA_10_3 ltA_10_4 ltA_10_5 ltA_10_6 ltA_11_1 ltA_11_2 ltA_11_3 ltA_11_4 ltA_11_5 ltA_11_6 ltA_12_1 ltA_12_2 ltA_12_3 ltA_12_4 ltA_12_5 ltA_12_6

/-- a macroblock whose levels are gathered block by block -/
def imS (u v : Int) (B : Nat → List Int) : Nat → List Int
  | 0 => [1, u, v] ++ List.replicate 68 0
  | k + 1 => spl (imS u v B k) (7 + k * 16) (B k)
theorem imS_len {u v : Int} {B : Nat → List Int} (hB : ∀ k, (B k).length = 16) : ∀ k, k ≤ 4 → (imS u v B k).length = 71
  | 0, _ => by simp [imS]
  | k + 1, h => by rw [imS, spl_len (by rw [imS_len hB k (by omega), hB]; omega)]; exact imS_len hB k (by omega)
/-- the residuals of a block, its levels -/
def dfB (T R : List Int) (k : Nat) : List Int := dfL (mp (poF T (k % 2 * 4) (k / 2 * 4))) (mp (poF R (k % 2 * 4) (k / 2 * 4)))
def lvB (T R : List Int) (q : Nat) (k : Nat) : List Int := mp (cbF (dfB T R k) q)
theorem lvB_len (T R : List Int) (q k : Nat) : (lvB T R q k).length = 16 := mp_len _
def imB (a b : Int) (ts : List Int) (a' b' : Int) (rs : List Int) (x y u v q : Int) : Bool := sameB a b ts a' b' rs && begB a b x y && M.vecB u v && M.inB q 0 15
def imV (a b : Int) (ts : List Int) (a' b' : Int) (rs : List Int) (x y u v q : Int) : List Int :=
  if imB a b ts a' b' rs x y u v q then imS u v (lvB (mvL a b ts x y 0 0 64) (mvL a b rs x y u v 64) q.toNat) 4 else zL 71
theorem imV_len (a b : Int) (ts : List Int) (a' b' : Int) (rs : List Int) (x y u v q : Int) : (imV a b ts a' b' rs x y u v q).length = 71 := by
  unfold imV; split
  · exact imS_len (lvB_len _ _ _) 4 (by omega)
  · exact zL_len 71
theorem mp_bd {F : Nat → Int} (h : ∀ i, 0 ≤ F i ∧ F i ≤ 255) : ∀ i, 0 ≤ (mp F).getD i 0 ∧ (mp F).getD i 0 ≤ 255 := fun i => by
  by_cases hi : i < 16
  · rw [mp_get F hi]; exact h i
  · rw [List.getD_eq_getElem?_getD, List.getElem?_eq_none (by rw [mp_len]; omega), Option.getD_none]; omega
theorem bd_of {zs : List Int} (h : ∀ i, 0 ≤ zs.getD i 0 ∧ zs.getD i 0 ≤ 255) : bdL 255 zs := fun i => by have := h i; omega
theorem df_bd {xs ys : List Int} (hx : ∀ i, 0 ≤ xs.getD i 0 ∧ xs.getD i 0 ≤ 255) (hy : ∀ i, 0 ≤ ys.getD i 0 ∧ ys.getD i 0 ≤ 255) : bdL 255 (dfL xs ys) := fun i => by
  by_cases hi : i < 16
  · rw [dfL_get xs ys hi]; have := hx i; have := hy i; omega
  · rw [List.getD_eq_getElem?_getD, List.getElem?_eq_none (by rw [dfL_len]; omega), Option.getD_none]; omega
theorem po_bd {L : List Int} (h : ∀ k, 0 ≤ L.getD k 0 ∧ L.getD k 0 ≤ 255) (x y : Nat) : ∀ i, 0 ≤ (mp (poF L x y)).getD i 0 ∧ (mp (poF L x y)).getD i 0 ≤ 255 := mp_bd fun i => h _
theorem dfB_bd {T R : List Int} (hT : ∀ k, 0 ≤ T.getD k 0 ∧ T.getD k 0 ≤ 255) (hR : ∀ k, 0 ≤ R.getD k 0 ∧ R.getD k 0 ≤ 255) (k : Nat) : bdL 255 (dfB T R k) := df_bd (po_bd hT _ _) (po_bd hR _ _)
theorem mp_congr {F G : Nat → Int} (h : ∀ i, i < 16 → F i = G i) : mp F = mp G := mp_of (mp_len F) fun i hi => by rw [mp_get F hi, h i hi]
/-- a block of a macroblock of the picture itself -/
theorem pc_po (a b : Int) (ts : List Int) (x y : Int) (k : Nat) (hk : k < 4) : mp (pcF a b ts (x + ((k % 2 * 4 : Nat) : Int)) (y + ((k / 2 * 4 : Nat) : Int))) = mp (poF (mvL a b ts x y 0 0 64) (k % 2 * 4) (k / 2 * 4)) :=
  mp_congr fun i hi => by
    rw [poF, pcF, mvL_get _ _ _ _ _ _ _ _ _ (by omega), show (k / 2 * 4 + i / 4) * 8 + k % 2 * 4 + i % 4 = 8 * (k / 2 * 4 + i / 4) + (k % 2 * 4 + i % 4) by omega, mvF_at _ _ _ _ _ _ _ _ _ (by omega), Int.add_zero, Int.add_zero, halfV_even]
    congr 1 <;> omega
theorem RowAt.rowOther {kd : IntKind} {w : World} {A : Option Addr} {zs : List Int} {g : Nat} (h : RowAt kd w A zs) (hA : ∀ d, A = some d → d.block ≠ g) (cs : Array Value) : RowAt kd (w.setRow g cs) A zs := fun hz => by
  obtain ⟨b, off, rfl, hlt, hc⟩ := h hz
  exact ⟨b, off, rfl, by simpa [World.setRow] using hlt, fun i hi => (World.cell?_of_block (w := w) (w' := w.setRow g cs) (a := ⟨b, off + i, none⟩) (setRow_other w g b cs (hA _ rfl))).trans (hc i hi)⟩
theorem zcMac : Tryd.zeroCells33 = rowI (zL 71) := by kernel_rfl

end Go.Proofs.YtijccageaingjaaDoor
