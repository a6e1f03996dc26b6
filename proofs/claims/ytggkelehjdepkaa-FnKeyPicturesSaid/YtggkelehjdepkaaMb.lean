/- The decisions of a macroblock: plain. -/
import Derived.Test.YtggkelehjdepkaaBk
import Derived.Test.YtggkelehjdepkaaMacE
namespace Go.Proofs.Ytggkelehjdepkaa
open Go.RowKit
set_option linter.unusedVariables false
set_option linter.unusedSimpArgs false

def mdU (zs : List Int) : Nat → List Int
  | 0 => []
  | k + 1 => mdU zs k ++ numL (zs.getD (3 + k) 0).toNat 9
def mdM (zs : List Int) : Nat → Nat
  | 0 => 0
  | k + 1 => mdM zs k + numN (zs.getD (3 + k) 0).toNat
def bsU (zs : List Int) : Nat → List Int
  | 0 => []
  | k + 1 => bsU zs k ++ blL (sub zs (7 + k * 16) 16)
def bsM (zs : List Int) : Nat → Nat
  | 0 => 0
  | k + 1 => bsM zs k + blM (sub zs (7 + k * 16) 16)
def hdL (zs : List Int) (b : Bool) : List Int := if b then [] else [0, 1, 1, zs.getD 0 0 - 1]
def hdM (b : Bool) : Nat := if b then 0 else 2
def vcL (zs : List Int) : List Int := numL (sidx (zs.getD 1 0)).toNat 2 ++ numL (sidx (zs.getD 2 0)).toNat 2
def vcM (zs : List Int) : Nat := numN (sidx (zs.getD 1 0)).toNat + numN (sidx (zs.getD 2 0)).toNat
def bdL (zs : List Int) : List Int := if zs.getD 0 0 = 1 then vcL zs else mdU zs 4
def bdM (zs : List Int) : Nat := if zs.getD 0 0 = 1 then vcM zs else mdM zs 4
def macL (zs : List Int) (b : Bool) : List Int := if b = false ∧ zs.getD 0 0 = 0 then [0, 0] else hdL zs b ++ bdL zs ++ bsU zs 4
def macM (zs : List Int) (b : Bool) : Nat := if b = false ∧ zs.getD 0 0 = 0 then 1 else hdM b + bdM zs + bsM zs 4

/-- what a valid macroblock holds -/
structure MacOk (zs : List Int) : Prop where
  len : zs.length = 71
  kind : 0 ≤ zs.getD 0 0 ∧ zs.getD 0 0 ≤ 2
  x : -4080 ≤ zs.getD 1 0 ∧ zs.getD 1 0 ≤ 4080
  y : -4080 ≤ zs.getD 2 0 ∧ zs.getD 2 0 ≤ 4080
  mode : ∀ k, k < 4 → 0 ≤ zs.getD (3 + k) 0 ∧ zs.getD (3 + k) 0 ≤ 4
  lev : ∀ k, k < 4 → absB 4080 (sub zs (7 + k * 16) 16) = true
theorem macB_parts' {zs : List Int} (h : macB zs = true) : M.inB (mkK zs) 0 2 = true ∧ M.vecB (zs.getD 1 0) (zs.getD 2 0) = true ∧ modB (mdL zs) = true ∧ absB 4080 (lvL zs) = true := by
  simp only [macB, Bool.and_eq_true] at h
  obtain ⟨⟨⟨⟨⟨⟨h1, h2⟩, h3⟩, h4⟩, -⟩, -⟩, -⟩ := h
  exact ⟨h1, h2, h3, h4⟩
theorem MacOk.of {zs : List Int} (hz : zs.length = 71) (h : macB zs = true) : MacOk zs := by
  obtain ⟨h1, h2, h3, h4⟩ := macB_parts' h
  have hv : (-64 ≤ zs.getD 1 0 ∧ zs.getD 1 0 ≤ 64) ∧ -64 ≤ zs.getD 2 0 ∧ zs.getD 2 0 ≤ 64 := by
    simp only [M.vecB, M.inB, Bool.and_eq_true, decide_eq_true_eq] at h2
    omega
  refine ⟨hz, ?_, ⟨by omega, by omega⟩, ⟨by omega, by omega⟩, fun k hk => ?_, fun k hk => ?_⟩
  · simpa [M.inB, mkK] using h1
  · have hl : (mdL zs).length = 4 := sub_len (by omega)
    have he : zs.getD (3 + k) 0 = (mdL zs).getD k 0 := (sub_at (by omega)).symm
    rw [he, List.getD_eq_getElem?_getD, List.getElem?_eq_getElem (by omega), Option.getD_some]
    have := List.all_eq_true.1 h3 _ (List.getElem_mem (show k < (mdL zs).length by omega))
    simpa [M.inB] using this
  · rw [← sub_sub zs 7 64 (k * 16) 16 (by omega)]
    rw [absB, List.all_eq_true]
    intro z hm
    exact List.all_eq_true.1 h4 z (List.mem_of_mem_drop (List.mem_of_mem_take hm))
theorem mdM_le {zs : List Int} (h : MacOk zs) : ∀ k, k ≤ 4 → mdM zs k ≤ 33 * k
  | 0, _ => Nat.le_refl _
  | k + 1, hk => by
    have h1 := mdM_le h k (by omega)
    have h2 := h.mode k (by omega)
    have h3 := numN_le (n := (zs.getD (3 + k) 0).toNat) (by omega)
    rw [mdM]; omega
theorem bsM_le {zs : List Int} (h : MacOk zs) : ∀ k, k ≤ 4 → bsM zs k ≤ 1089 * k
  | 0, _ => Nat.le_refl _
  | k + 1, hk => by
    have h1 := bsM_le h k (by omega)
    have h2 := blM_le (h.lev k (by omega))
    rw [bsM]; omega
theorem blM_pos (zs : List Int) : 1 ≤ blM zs := bkM_pos _ _
theorem vcM_le {zs : List Int} (h : MacOk zs) : vcM zs ≤ 66 := by
  have h1 := sidx_bd h.x
  have h2 := sidx_bd h.y
  have h3 := numN_le (n := (sidx (zs.getD 1 0)).toNat) (by omega)
  have h4 := numN_le (n := (sidx (zs.getD 2 0)).toNat) (by omega)
  unfold vcM; omega
theorem bdM_le {zs : List Int} (h : MacOk zs) : bdM zs ≤ 132 := by
  have h1 := vcM_le h
  have h2 := mdM_le h 4 (by omega)
  unfold bdM; split <;> omega
theorem macM_le {zs : List Int} (h : MacOk zs) (b : Bool) : macM zs b ≤ 5000 := by
  have h1 := bdM_le h
  have h2 := bsM_le h 4 (by omega)
  unfold macM hdM; split
  · omega
  · split <;> omega
theorem bsM_pos (zs : List Int) : 4 ≤ bsM zs 4 := by
  have h0 := blM_pos (sub zs (7 + 0 * 16) 16)
  have h1 := blM_pos (sub zs (7 + 1 * 16) 16)
  have h2 := blM_pos (sub zs (7 + 2 * 16) 16)
  have h3 := blM_pos (sub zs (7 + 3 * 16) 16)
  simp only [bsM]; omega
theorem macM_pos (zs : List Int) (b : Bool) : 1 ≤ macM zs b := by
  have h := bsM_pos zs
  unfold macM; split <;> omega

theorem mdU_len (zs : List Int) : ∀ k, (mdU zs k).length = mdM zs k * 2
  | 0 => rfl
  | k + 1 => by rw [mdU, mdM, List.length_append, mdU_len zs k, numL_len]; omega
theorem bsU_len (zs : List Int) : ∀ k, (bsU zs k).length = bsM zs k * 2
  | 0 => rfl
  | k + 1 => by rw [bsU, bsM, List.length_append, bsU_len zs k, blL, bkU_len, blM]; omega
theorem macL_len (zs : List Int) (b : Bool) : (macL zs b).length = macM zs b * 2 := by
  unfold macL macM
  split
  · rfl
  · rw [List.length_append, List.length_append, bsU_len]
    have e1 : (hdL zs b).length = hdM b * 2 := by cases b <;> rfl
    have e2 : (bdL zs).length = bdM zs * 2 := by
      unfold bdL bdM
      split
      · rw [vcL, vcM, List.length_append, numL_len, numL_len]; omega
      · exact mdU_len zs 4
    omega

end Go.Proofs.Ytggkelehjdepkaa
