/- Worlds that have grown by several parts. -/
import Derived.Test.YtobphddjoebfjaaBase
namespace Go.Proofs.Ytobphddjoebfjaa
open Go.RowKit
set_option linter.unusedVariables false
set_option linter.unusedSimpArgs false

theorem belw1 (w : World) (os o1 : Array Obj) (n n' : Nat) : Below (addsW w os n).heap.size (addsW w os n) (addsW w (os ++ o1) n') := by
  rw [← adds_addsW w os n]; exact addsW_below _ _ _
theorem belw2 (w : World) (os o1 o2 : Array Obj) (n n' : Nat) : Below (addsW w os n).heap.size (addsW w os n) (addsW w (os ++ o1 ++ o2) n') := by
  rw [Array.append_assoc]; exact belw1 _ _ _ _ _
theorem belw3 (w : World) (os o1 o2 o3 : Array Obj) (n n' : Nat) : Below (addsW w os n).heap.size (addsW w os n) (addsW w (os ++ o1 ++ o2 ++ o3) n') := by
  rw [Array.append_assoc]; exact belw2 _ _ _ _ _ _
theorem belw4 (w : World) (os o1 o2 o3 o4 : Array Obj) (n n' : Nat) : Below (addsW w os n).heap.size (addsW w os n) (addsW w (os ++ o1 ++ o2 ++ o3 ++ o4) n') := by
  rw [Array.append_assoc]; exact belw3 _ _ _ _ _ _ _
theorem belw5 (w : World) (os o1 o2 o3 o4 o5 : Array Obj) (n n' : Nat) : Below (addsW w os n).heap.size (addsW w os n) (addsW w (os ++ o1 ++ o2 ++ o3 ++ o4 ++ o5) n') := by
  rw [Array.append_assoc]; exact belw4 _ _ _ _ _ _ _ _
theorem belw6 (w : World) (os o1 o2 o3 o4 o5 o6 : Array Obj) (n n' : Nat) : Below (addsW w os n).heap.size (addsW w os n) (addsW w (os ++ o1 ++ o2 ++ o3 ++ o4 ++ o5 ++ o6) n') := by
  rw [Array.append_assoc]; exact belw5 _ _ _ _ _ _ _ _ _

end Go.Proofs.Ytobphddjoebfjaa
