/- Two arrays of four numbers compared. -/
import Derived.Test.YtobphddjoebfjaaEdgeV
import Derived.ChangeKeysEq
namespace Go.Proofs.Ytobphddjoebfjaa
open Go.RowKit
set_option linter.unusedVariables false
set_option linter.unusedSimpArgs false

theorem und4 : Try.prog.underlying 36 = some (.array 4 3) := by kernel_rfl
theorem run_eq4 (W : World) (a0 a1 a2 a3 b0 b1 b2 b3 : Int) : (Op.equalIn 9999 36 (.agg #[.int .i64 a0, .int .i64 a1, .int .i64 a2, .int .i64 a3]) (.agg #[.int .i64 b0, .int .i64 b1, .int .i64 b2, .int .i64 b3])).run Try.prog W = .ok (a0 == b0 && (a1 == b1 && (a2 == b2 && a3 == b3))) W := by
  obtain ⟨i0, hi, -⟩ := Option.map_eq_some_iff.1 infoInt
  have hc : Try.prog.cellsOf 3 = 1 := by kernel_rfl
  rw [show (9999 : Nat) = 9998 + 1 from rfl, run_equalIn_array W 9998 _ _ und4 hi, hc]
  have hr : List.range 4 = [0, 1, 2, 3] := rfl
  rw [hr]
  have p0 : ∀ x0 x1 x2 x3 : Value, (part 3 #[x0, x1, x2, x3] (0 * 1)).run Try.prog W = .ok x0 W := fun _ _ _ _ => by kernel_rfl
  have p1 : ∀ x0 x1 x2 x3 : Value, (part 3 #[x0, x1, x2, x3] (1 * 1)).run Try.prog W = .ok x1 W := fun _ _ _ _ => by kernel_rfl
  have p2 : ∀ x0 x1 x2 x3 : Value, (part 3 #[x0, x1, x2, x3] (2 * 1)).run Try.prog W = .ok x2 W := fun _ _ _ _ => by kernel_rfl
  have p3 : ∀ x0 x1 x2 x3 : Value, (part 3 #[x0, x1, x2, x3] (3 * 1)).run Try.prog W = .ok x3 W := fun _ _ _ _ => by kernel_rfl
  have he : ∀ (x y : Int), (Op.equalIn 9998 3 (.int .i64 x) (.int .i64 y)).run Try.prog W = .ok (x == y) W := by
    intro x y
    simp [go_sem]
  simp only [Op.eqItems, Sem.run_bind, Result.andThen_ok, p0, p1, p2, p3, he]
  cases h0 : a0 == b0 <;> cases h1 : a1 == b1 <;> cases h2 : a2 == b2 <;> cases h3 : a3 == b3 <;> simp [go_sem, h1, h2, h3, p1, p2, p3, he]

end Go.Proofs.Ytobphddjoebfjaa
