/- All decisions of a macroblock are valid; a skipped one has exactly one. -/
import Derived.Test.YtggkelehjdepkaaMbT
namespace Go.Proofs.Ytggkelehjdepkaa
open Go.RowKit
set_option linter.unusedVariables false
set_option linter.unusedSimpArgs false

theorem bkOne_ok (p : Nat × Int) : allOk (bkOne p) (bkN p) := allOk_append (numL_ok (by omega) _) (numL_ok (by omega) _)
theorem bkU_ok (l : List (Nat × Int)) : ∀ k, allOk (bkU l k) (bkM l k)
  | 0 => numL_ok (by omega) _
  | k + 1 => allOk_append (bkU_ok l k) (bkOne_ok _)
theorem mdU_ok (zs : List Int) : ∀ k, allOk (mdU zs k) (mdM zs k)
  | 0 => allOk_nil
  | k + 1 => allOk_append (mdU_ok zs k) (numL_ok (by omega) _)
theorem bsU_ok (zs : List Int) : ∀ k, allOk (bsU zs k) (bsM zs k)
  | 0 => allOk_nil
  | k + 1 => allOk_append (bsU_ok zs k) (bkU_ok _ _)
theorem bdL_ok (zs : List Int) : allOk (bdL zs) (bdM zs) := by
  unfold bdL bdM
  split
  · exact allOk_append (numL_ok (by omega) _) (numL_ok (by omega) _)
  · exact mdU_ok zs 4
theorem macL_ok {zs : List Int} (h : MacOk zs) (b : Bool) : allOk (macL zs b) (macM zs b) := by
  unfold macL macM
  by_cases hs : b = false ∧ zs.getD 0 0 = 0
  · rw [if_pos hs, if_pos hs]; exact allOk_one (by omega) (.inl rfl)
  · rw [if_neg hs, if_neg hs]
    refine allOk_append (allOk_append ?_ (bdL_ok zs)) (bsU_ok zs 4)
    cases b
    · have hk := h.kind
      have hk0 : zs.getD 0 0 ≠ 0 := fun e => hs ⟨rfl, e⟩
      exact allOk_append (allOk_one (x := 0) (y := 1) (by omega) (.inr rfl)) (allOk_one (x := 1) (y := zs.getD 0 0 - 1) (by omega) (by omega))
    · exact allOk_nil
theorem macL_bins {zs : List Int} (h : MacOk zs) (b : Bool) : binsB (macL zs b) (macM zs b) = true := by
  have := macM_le h b
  rw [binsB, (macL_ok h b).2, Bool.and_true]
  simp; omega
theorem macM_one {zs : List Int} {b : Bool} (h : mbOK zs b = true) : (macM zs b = 1) ↔ (zs.getD 0 0 = 0) := by
  have h4 := bsM_pos zs
  unfold macM
  by_cases hs : b = false ∧ zs.getD 0 0 = 0
  · rw [if_pos hs]; exact ⟨fun _ => hs.2, fun _ => rfl⟩
  · rw [if_neg hs]
    refine ⟨fun e => by omega, fun e => ?_⟩
    exfalso
    cases b
    · exact hs ⟨rfl, e⟩
    · simp only [mbOK, mkK, Bool.and_eq_true, e] at h
      exact absurd h.2 (by decide)

end Go.Proofs.Ytggkelehjdepkaa
