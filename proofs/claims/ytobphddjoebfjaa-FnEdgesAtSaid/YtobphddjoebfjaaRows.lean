/-
  No cell of these rows narrows 'for every input' (looked for: loops, veiled, ifaces, maps, wideKeys, modest, calm, conditions, laid).
  DERIVED. THE GIVEN ROWS OF THIS SEAT. 12 by the template 'for every input the law returns true; each argument reads behind the call as it read before'; 0 by the template 'total and deterministic' (their statements: YtobphddjoebfjaaTotals.lean).
  GIVEN WITH THE SEED: the statements are not yours to turn. If you find one false, say at which input.
  Laid BY PROGRAM, IN A SANDBOX (cutbox-rows.mjs): the forced cells as the released guide's own fill.sh prints them over the translation 9dec126fcf94dc17… (all of the seat's roots in one cut). By AI agents, Wed Nov 11 2026. No macro, syntax, notation, axiom, sorry.
-/
import Derived.Test.YtobphddjoebfjaaChecked
import GoSem.Claim
import GoSem.ClaimJoined
import GoSem.ClaimMapViews
import Derived.JoinedTies
import Derived.KernelRfl
namespace Go.Proofs.Ytobphddjoebfjaa
/- THE CELL 'sum', in the pinned program and in every row, IS THE sha256 OF THE DUMP (.gsa) THAT YtobphddjoebfjaaProg.lean LOADS. Nothing in Lean hashes anything: it is a label: what it is worth is what the hold of that sum in a sandbox is worth. -/
noncomputable def Try.pinned : Pinned := { name := "ytobphddjoebfjaa", sum := "9dec126fcf94dc17aab5f8595290d03f60390e062c43f1cb9e63879c3dc0053c", checked := Try.checked }
namespace Rows
def none {H : Type} : Left H := { results := [], args := [] }

/-- 'laws.FnExactBlockiness': WHATEVER THE INPUT: true; the input reads as it did. -/
def fnExactBlockinessSpec : ChangeSpec := { name := "fnExactBlockiness", fn := fun _ => fun
  | [d] => { results := [.lit (.bool true)], args := [d] }
  | _ => none }
def fnExactBlockinessRow : OpenClaim := { program := "ytobphddjoebfjaa", sum := "9dec126fcf94dc17aab5f8595290d03f60390e062c43f1cb9e63879c3dc0053c", func := "loop.example/videocodec/laws.FnExactBlockiness", spec := "fnExactBlockiness", unfollowed := true, recurses := true, apart := false }
def FnExactBlockinessSaid : Prop := fnExactBlockinessRow.holds Try.pinned (OpenSpec.ofChange fnExactBlockinessSpec)

/-- ITS FALSE NEIGHBOUR: 'it returns false'. Refute it at one input. -/
def fnExactBlockinessWrong : ChangeSpec := { name := "fnExactBlockiness", fn := fun _ => fun
  | [d] => { results := [.lit (.bool false)], args := [d] }
  | _ => none }
def FnExactBlockinessWrongFalsely : Prop := fnExactBlockinessRow.holds Try.pinned (OpenSpec.ofChange fnExactBlockinessWrong)

/-- 'laws.FnExactHalfSample': WHATEVER THE INPUT: true; the input reads as it did. -/
def fnExactHalfSampleSpec : ChangeSpec := { name := "fnExactHalfSample", fn := fun _ => fun
  | [d1, d2, d3] => { results := [.lit (.bool true)], args := [d1, d2, d3] }
  | _ => none }
def fnExactHalfSampleRow : OpenClaim := { program := "ytobphddjoebfjaa", sum := "9dec126fcf94dc17aab5f8595290d03f60390e062c43f1cb9e63879c3dc0053c", func := "loop.example/videocodec/laws.FnExactHalfSample", spec := "fnExactHalfSample", apart := false }
def FnExactHalfSampleSaid : Prop := fnExactHalfSampleRow.holds Try.pinned (OpenSpec.ofChange fnExactHalfSampleSpec)

/-- ITS FALSE NEIGHBOUR: 'it returns false'. Refute it at one input. -/
def fnExactHalfSampleWrong : ChangeSpec := { name := "fnExactHalfSample", fn := fun _ => fun
  | [d1, d2, d3] => { results := [.lit (.bool false)], args := [d1, d2, d3] }
  | _ => none }
def FnExactHalfSampleWrongFalsely : Prop := fnExactHalfSampleRow.holds Try.pinned (OpenSpec.ofChange fnExactHalfSampleWrong)

/-- 'laws.FnEdgesAt': WHATEVER THE INPUT: true; the input reads as it did. -/
def fnEdgesAtSpec : ChangeSpec := { name := "fnEdgesAt", fn := fun _ => fun
  | [d] => { results := [.lit (.bool true)], args := [d] }
  | _ => none }
def fnEdgesAtRow : OpenClaim := { program := "ytobphddjoebfjaa", sum := "9dec126fcf94dc17aab5f8595290d03f60390e062c43f1cb9e63879c3dc0053c", func := "loop.example/videocodec/laws.FnEdgesAt", spec := "fnEdgesAt", apart := false }
def FnEdgesAtSaid : Prop := fnEdgesAtRow.holds Try.pinned (OpenSpec.ofChange fnEdgesAtSpec)

/-- ITS FALSE NEIGHBOUR: 'it returns false'. Refute it at one input. -/
def fnEdgesAtWrong : ChangeSpec := { name := "fnEdgesAt", fn := fun _ => fun
  | [d] => { results := [.lit (.bool false)], args := [d] }
  | _ => none }
def FnEdgesAtWrongFalsely : Prop := fnEdgesAtRow.holds Try.pinned (OpenSpec.ofChange fnEdgesAtWrong)

/-- 'laws.FnHalfSample': WHATEVER THE INPUT: true; the input reads as it did. -/
def fnHalfSampleSpec : ChangeSpec := { name := "fnHalfSample", fn := fun _ => fun
  | [d] => { results := [.lit (.bool true)], args := [d] }
  | _ => none }
def fnHalfSampleRow : OpenClaim := { program := "ytobphddjoebfjaa", sum := "9dec126fcf94dc17aab5f8595290d03f60390e062c43f1cb9e63879c3dc0053c", func := "loop.example/videocodec/laws.FnHalfSample", spec := "fnHalfSample", apart := false }
def FnHalfSampleSaid : Prop := fnHalfSampleRow.holds Try.pinned (OpenSpec.ofChange fnHalfSampleSpec)

/-- ITS FALSE NEIGHBOUR: 'it returns false'. Refute it at one input. -/
def fnHalfSampleWrong : ChangeSpec := { name := "fnHalfSample", fn := fun _ => fun
  | [d] => { results := [.lit (.bool false)], args := [d] }
  | _ => none }
def FnHalfSampleWrongFalsely : Prop := fnHalfSampleRow.holds Try.pinned (OpenSpec.ofChange fnHalfSampleWrong)

/-- 'laws.FnBlockiness': WHATEVER THE INPUT: true; the input reads as it did. -/
def fnBlockinessSpec : ChangeSpec := { name := "fnBlockiness", fn := fun _ => fun
  | [d] => { results := [.lit (.bool true)], args := [d] }
  | _ => none }
def fnBlockinessRow : OpenClaim := { program := "ytobphddjoebfjaa", sum := "9dec126fcf94dc17aab5f8595290d03f60390e062c43f1cb9e63879c3dc0053c", func := "loop.example/videocodec/laws.FnBlockiness", spec := "fnBlockiness", unfollowed := true, recurses := true, apart := false }
def FnBlockinessSaid : Prop := fnBlockinessRow.holds Try.pinned (OpenSpec.ofChange fnBlockinessSpec)

/-- ITS FALSE NEIGHBOUR: 'it returns false'. Refute it at one input. -/
def fnBlockinessWrong : ChangeSpec := { name := "fnBlockiness", fn := fun _ => fun
  | [d] => { results := [.lit (.bool false)], args := [d] }
  | _ => none }
def FnBlockinessWrongFalsely : Prop := fnBlockinessRow.holds Try.pinned (OpenSpec.ofChange fnBlockinessWrong)

/-- 'laws.FnExactMotionBlock': WHATEVER THE INPUT: true; the input reads as it did. -/
def fnExactMotionBlockSpec : ChangeSpec := { name := "fnExactMotionBlock", fn := fun _ => fun
  | [d1, d2, d3, d4] => { results := [.lit (.bool true)], args := [d1, d2, d3, d4] }
  | _ => none }
def fnExactMotionBlockRow : OpenClaim := { program := "ytobphddjoebfjaa", sum := "9dec126fcf94dc17aab5f8595290d03f60390e062c43f1cb9e63879c3dc0053c", func := "loop.example/videocodec/laws.FnExactMotionBlock", spec := "fnExactMotionBlock", apart := false }
def FnExactMotionBlockSaid : Prop := fnExactMotionBlockRow.holds Try.pinned (OpenSpec.ofChange fnExactMotionBlockSpec)

/-- ITS FALSE NEIGHBOUR: 'it returns false'. Refute it at one input. -/
def fnExactMotionBlockWrong : ChangeSpec := { name := "fnExactMotionBlock", fn := fun _ => fun
  | [d1, d2, d3, d4] => { results := [.lit (.bool false)], args := [d1, d2, d3, d4] }
  | _ => none }
def FnExactMotionBlockWrongFalsely : Prop := fnExactMotionBlockRow.holds Try.pinned (OpenSpec.ofChange fnExactMotionBlockWrong)

/-- 'laws.FnExactMotionCost': WHATEVER THE INPUT: true; the input reads as it did. -/
def fnExactMotionCostSpec : ChangeSpec := { name := "fnExactMotionCost", fn := fun _ => fun
  | [d1, d2, d3, d4, d5] => { results := [.lit (.bool true)], args := [d1, d2, d3, d4, d5] }
  | _ => none }
def fnExactMotionCostRow : OpenClaim := { program := "ytobphddjoebfjaa", sum := "9dec126fcf94dc17aab5f8595290d03f60390e062c43f1cb9e63879c3dc0053c", func := "loop.example/videocodec/laws.FnExactMotionCost", spec := "fnExactMotionCost", apart := false }
def FnExactMotionCostSaid : Prop := fnExactMotionCostRow.holds Try.pinned (OpenSpec.ofChange fnExactMotionCostSpec)

/-- ITS FALSE NEIGHBOUR: 'it returns false'. Refute it at one input. -/
def fnExactMotionCostWrong : ChangeSpec := { name := "fnExactMotionCost", fn := fun _ => fun
  | [d1, d2, d3, d4, d5] => { results := [.lit (.bool false)], args := [d1, d2, d3, d4, d5] }
  | _ => none }
def FnExactMotionCostWrongFalsely : Prop := fnExactMotionCostRow.holds Try.pinned (OpenSpec.ofChange fnExactMotionCostWrong)

/-- 'laws.FnExactMotionSearch': WHATEVER THE INPUT: true; the input reads as it did. -/
def fnExactMotionSearchSpec : ChangeSpec := { name := "fnExactMotionSearch", fn := fun _ => fun
  | [d1, d2, d3, d4, d5] => { results := [.lit (.bool true)], args := [d1, d2, d3, d4, d5] }
  | _ => none }
def fnExactMotionSearchRow : OpenClaim := { program := "ytobphddjoebfjaa", sum := "9dec126fcf94dc17aab5f8595290d03f60390e062c43f1cb9e63879c3dc0053c", func := "loop.example/videocodec/laws.FnExactMotionSearch", spec := "fnExactMotionSearch", unfollowed := true, recurses := true, apart := false }
def FnExactMotionSearchSaid : Prop := fnExactMotionSearchRow.holds Try.pinned (OpenSpec.ofChange fnExactMotionSearchSpec)

/-- ITS FALSE NEIGHBOUR: 'it returns false'. Refute it at one input. -/
def fnExactMotionSearchWrong : ChangeSpec := { name := "fnExactMotionSearch", fn := fun _ => fun
  | [d1, d2, d3, d4, d5] => { results := [.lit (.bool false)], args := [d1, d2, d3, d4, d5] }
  | _ => none }
def FnExactMotionSearchWrongFalsely : Prop := fnExactMotionSearchRow.holds Try.pinned (OpenSpec.ofChange fnExactMotionSearchWrong)

/-- 'laws.FnMotionBlock': WHATEVER THE INPUT: true; the input reads as it did. -/
def fnMotionBlockSpec : ChangeSpec := { name := "fnMotionBlock", fn := fun _ => fun
  | [d] => { results := [.lit (.bool true)], args := [d] }
  | _ => none }
def fnMotionBlockRow : OpenClaim := { program := "ytobphddjoebfjaa", sum := "9dec126fcf94dc17aab5f8595290d03f60390e062c43f1cb9e63879c3dc0053c", func := "loop.example/videocodec/laws.FnMotionBlock", spec := "fnMotionBlock", apart := false }
def FnMotionBlockSaid : Prop := fnMotionBlockRow.holds Try.pinned (OpenSpec.ofChange fnMotionBlockSpec)

/-- ITS FALSE NEIGHBOUR: 'it returns false'. Refute it at one input. -/
def fnMotionBlockWrong : ChangeSpec := { name := "fnMotionBlock", fn := fun _ => fun
  | [d] => { results := [.lit (.bool false)], args := [d] }
  | _ => none }
def FnMotionBlockWrongFalsely : Prop := fnMotionBlockRow.holds Try.pinned (OpenSpec.ofChange fnMotionBlockWrong)

/-- 'laws.FnMotionCost': WHATEVER THE INPUT: true; the input reads as it did. -/
def fnMotionCostSpec : ChangeSpec := { name := "fnMotionCost", fn := fun _ => fun
  | [d] => { results := [.lit (.bool true)], args := [d] }
  | _ => none }
def fnMotionCostRow : OpenClaim := { program := "ytobphddjoebfjaa", sum := "9dec126fcf94dc17aab5f8595290d03f60390e062c43f1cb9e63879c3dc0053c", func := "loop.example/videocodec/laws.FnMotionCost", spec := "fnMotionCost", apart := false }
def FnMotionCostSaid : Prop := fnMotionCostRow.holds Try.pinned (OpenSpec.ofChange fnMotionCostSpec)

/-- ITS FALSE NEIGHBOUR: 'it returns false'. Refute it at one input. -/
def fnMotionCostWrong : ChangeSpec := { name := "fnMotionCost", fn := fun _ => fun
  | [d] => { results := [.lit (.bool false)], args := [d] }
  | _ => none }
def FnMotionCostWrongFalsely : Prop := fnMotionCostRow.holds Try.pinned (OpenSpec.ofChange fnMotionCostWrong)

/-- 'laws.FnMotionShift': WHATEVER THE INPUT: true; the input reads as it did. -/
def fnMotionShiftSpec : ChangeSpec := { name := "fnMotionShift", fn := fun _ => fun
  | [d1, d2] => { results := [.lit (.bool true)], args := [d1, d2] }
  | _ => none }
def fnMotionShiftRow : OpenClaim := { program := "ytobphddjoebfjaa", sum := "9dec126fcf94dc17aab5f8595290d03f60390e062c43f1cb9e63879c3dc0053c", func := "loop.example/videocodec/laws.FnMotionShift", spec := "fnMotionShift", unfollowed := true, recurses := true, apart := false }
def FnMotionShiftSaid : Prop := fnMotionShiftRow.holds Try.pinned (OpenSpec.ofChange fnMotionShiftSpec)

/-- ITS FALSE NEIGHBOUR: 'it returns false'. Refute it at one input. -/
def fnMotionShiftWrong : ChangeSpec := { name := "fnMotionShift", fn := fun _ => fun
  | [d1, d2] => { results := [.lit (.bool false)], args := [d1, d2] }
  | _ => none }
def FnMotionShiftWrongFalsely : Prop := fnMotionShiftRow.holds Try.pinned (OpenSpec.ofChange fnMotionShiftWrong)

/-- 'laws.FnMotionSearch': WHATEVER THE INPUT: true; the input reads as it did. -/
def fnMotionSearchSpec : ChangeSpec := { name := "fnMotionSearch", fn := fun _ => fun
  | [d] => { results := [.lit (.bool true)], args := [d] }
  | _ => none }
def fnMotionSearchRow : OpenClaim := { program := "ytobphddjoebfjaa", sum := "9dec126fcf94dc17aab5f8595290d03f60390e062c43f1cb9e63879c3dc0053c", func := "loop.example/videocodec/laws.FnMotionSearch", spec := "fnMotionSearch", unfollowed := true, recurses := true, apart := false }
def FnMotionSearchSaid : Prop := fnMotionSearchRow.holds Try.pinned (OpenSpec.ofChange fnMotionSearchSpec)

/-- ITS FALSE NEIGHBOUR: 'it returns false'. Refute it at one input. -/
def fnMotionSearchWrong : ChangeSpec := { name := "fnMotionSearch", fn := fun _ => fun
  | [d] => { results := [.lit (.bool false)], args := [d] }
  | _ => none }
def FnMotionSearchWrongFalsely : Prop := fnMotionSearchRow.holds Try.pinned (OpenSpec.ofChange fnMotionSearchWrong)

/- THE SECOND FORM. 'bulk': how many values and letters a reading holds, each counted each time it is reached (what is shared counts as often as it is met; a slice's spare places count too). A statement '..UptoSaid' is the law's where the arguments, and the package variables that the reading takes, are together of bulk at most 1048576: NARROWER than '..Said'. Prove '..Said' where nothing that the law and all that it calls make is longer than what came in: it says more and counts as full. Else prove '..UptoSaid'. A law counts once. -/
mutual
def uptoBulk {H : Type} : DataW H → Nat
  | .lit (.string bytes) => bytes.length + 1
  | .lit _ => 1
  | .nil => 1
  | .ptr d => uptoBulk d + 1
  | .slice elems spare => uptoBulkAll elems + uptoBulkAll spare + 1
  | .agg parts => uptoBulkAll parts + 1
  | .iface _ d => uptoBulk d + 1
  | .map entries => uptoBulkEntries entries + 1
  | .held _ => 1
def uptoBulkAll {H : Type} : List (DataW H) → Nat
  | [] => 0
  | d :: r => uptoBulk d + uptoBulkAll r
def uptoBulkEntries {H : Type} : List (Lit × DataW H) → Nat
  | [] => 0
  | x :: r => uptoBulkEntry x + uptoBulkEntries r
def uptoBulkEntry {H : Type} : Lit × DataW H → Nat
  | (.string bytes, d) => bytes.length + uptoBulk d + 1
  | (_, d) => uptoBulk d + 1
 end
def uptoSmall : (H : Type) → List (DataW H) → Bool := fun _ ds => decide (uptoBulkAll ds ≤ 1048576)
def OpenSpec.upto (s : _root_.Go.ChangeSpec) : _root_.Go.OpenSpec := { _root_.Go.OpenSpec.ofChange s with cond := some uptoSmall }

/-- 'laws.FnExactBlockiness', WHERE WHAT IT READS IS OF BULK AT MOST 1048576: true; the input reads as it did. -/
def fnExactBlockinessUptoRow : OpenClaim := { program := "ytobphddjoebfjaa", sum := "9dec126fcf94dc17aab5f8595290d03f60390e062c43f1cb9e63879c3dc0053c", func := "loop.example/videocodec/laws.FnExactBlockiness", spec := "fnExactBlockiness", unfollowed := true, recurses := true, apart := false, narrowed := true }
def FnExactBlockinessUptoSaid : Prop := fnExactBlockinessUptoRow.holds Try.pinned (OpenSpec.upto fnExactBlockinessSpec)

/-- 'laws.FnExactHalfSample', WHERE WHAT IT READS IS OF BULK AT MOST 1048576: true; the input reads as it did. -/
def fnExactHalfSampleUptoRow : OpenClaim := { program := "ytobphddjoebfjaa", sum := "9dec126fcf94dc17aab5f8595290d03f60390e062c43f1cb9e63879c3dc0053c", func := "loop.example/videocodec/laws.FnExactHalfSample", spec := "fnExactHalfSample", apart := false, narrowed := true }
def FnExactHalfSampleUptoSaid : Prop := fnExactHalfSampleUptoRow.holds Try.pinned (OpenSpec.upto fnExactHalfSampleSpec)

/-- 'laws.FnEdgesAt', WHERE WHAT IT READS IS OF BULK AT MOST 1048576: true; the input reads as it did. -/
def fnEdgesAtUptoRow : OpenClaim := { program := "ytobphddjoebfjaa", sum := "9dec126fcf94dc17aab5f8595290d03f60390e062c43f1cb9e63879c3dc0053c", func := "loop.example/videocodec/laws.FnEdgesAt", spec := "fnEdgesAt", apart := false, narrowed := true }
def FnEdgesAtUptoSaid : Prop := fnEdgesAtUptoRow.holds Try.pinned (OpenSpec.upto fnEdgesAtSpec)

/-- 'laws.FnHalfSample', WHERE WHAT IT READS IS OF BULK AT MOST 1048576: true; the input reads as it did. -/
def fnHalfSampleUptoRow : OpenClaim := { program := "ytobphddjoebfjaa", sum := "9dec126fcf94dc17aab5f8595290d03f60390e062c43f1cb9e63879c3dc0053c", func := "loop.example/videocodec/laws.FnHalfSample", spec := "fnHalfSample", apart := false, narrowed := true }
def FnHalfSampleUptoSaid : Prop := fnHalfSampleUptoRow.holds Try.pinned (OpenSpec.upto fnHalfSampleSpec)

/-- 'laws.FnBlockiness', WHERE WHAT IT READS IS OF BULK AT MOST 1048576: true; the input reads as it did. -/
def fnBlockinessUptoRow : OpenClaim := { program := "ytobphddjoebfjaa", sum := "9dec126fcf94dc17aab5f8595290d03f60390e062c43f1cb9e63879c3dc0053c", func := "loop.example/videocodec/laws.FnBlockiness", spec := "fnBlockiness", unfollowed := true, recurses := true, apart := false, narrowed := true }
def FnBlockinessUptoSaid : Prop := fnBlockinessUptoRow.holds Try.pinned (OpenSpec.upto fnBlockinessSpec)

/-- 'laws.FnExactMotionBlock', WHERE WHAT IT READS IS OF BULK AT MOST 1048576: true; the input reads as it did. -/
def fnExactMotionBlockUptoRow : OpenClaim := { program := "ytobphddjoebfjaa", sum := "9dec126fcf94dc17aab5f8595290d03f60390e062c43f1cb9e63879c3dc0053c", func := "loop.example/videocodec/laws.FnExactMotionBlock", spec := "fnExactMotionBlock", apart := false, narrowed := true }
def FnExactMotionBlockUptoSaid : Prop := fnExactMotionBlockUptoRow.holds Try.pinned (OpenSpec.upto fnExactMotionBlockSpec)

/-- 'laws.FnExactMotionCost', WHERE WHAT IT READS IS OF BULK AT MOST 1048576: true; the input reads as it did. -/
def fnExactMotionCostUptoRow : OpenClaim := { program := "ytobphddjoebfjaa", sum := "9dec126fcf94dc17aab5f8595290d03f60390e062c43f1cb9e63879c3dc0053c", func := "loop.example/videocodec/laws.FnExactMotionCost", spec := "fnExactMotionCost", apart := false, narrowed := true }
def FnExactMotionCostUptoSaid : Prop := fnExactMotionCostUptoRow.holds Try.pinned (OpenSpec.upto fnExactMotionCostSpec)

/-- 'laws.FnExactMotionSearch', WHERE WHAT IT READS IS OF BULK AT MOST 1048576: true; the input reads as it did. -/
def fnExactMotionSearchUptoRow : OpenClaim := { program := "ytobphddjoebfjaa", sum := "9dec126fcf94dc17aab5f8595290d03f60390e062c43f1cb9e63879c3dc0053c", func := "loop.example/videocodec/laws.FnExactMotionSearch", spec := "fnExactMotionSearch", unfollowed := true, recurses := true, apart := false, narrowed := true }
def FnExactMotionSearchUptoSaid : Prop := fnExactMotionSearchUptoRow.holds Try.pinned (OpenSpec.upto fnExactMotionSearchSpec)

/-- 'laws.FnMotionBlock', WHERE WHAT IT READS IS OF BULK AT MOST 1048576: true; the input reads as it did. -/
def fnMotionBlockUptoRow : OpenClaim := { program := "ytobphddjoebfjaa", sum := "9dec126fcf94dc17aab5f8595290d03f60390e062c43f1cb9e63879c3dc0053c", func := "loop.example/videocodec/laws.FnMotionBlock", spec := "fnMotionBlock", apart := false, narrowed := true }
def FnMotionBlockUptoSaid : Prop := fnMotionBlockUptoRow.holds Try.pinned (OpenSpec.upto fnMotionBlockSpec)

/-- 'laws.FnMotionCost', WHERE WHAT IT READS IS OF BULK AT MOST 1048576: true; the input reads as it did. -/
def fnMotionCostUptoRow : OpenClaim := { program := "ytobphddjoebfjaa", sum := "9dec126fcf94dc17aab5f8595290d03f60390e062c43f1cb9e63879c3dc0053c", func := "loop.example/videocodec/laws.FnMotionCost", spec := "fnMotionCost", apart := false, narrowed := true }
def FnMotionCostUptoSaid : Prop := fnMotionCostUptoRow.holds Try.pinned (OpenSpec.upto fnMotionCostSpec)

/-- 'laws.FnMotionShift', WHERE WHAT IT READS IS OF BULK AT MOST 1048576: true; the input reads as it did. -/
def fnMotionShiftUptoRow : OpenClaim := { program := "ytobphddjoebfjaa", sum := "9dec126fcf94dc17aab5f8595290d03f60390e062c43f1cb9e63879c3dc0053c", func := "loop.example/videocodec/laws.FnMotionShift", spec := "fnMotionShift", unfollowed := true, recurses := true, apart := false, narrowed := true }
def FnMotionShiftUptoSaid : Prop := fnMotionShiftUptoRow.holds Try.pinned (OpenSpec.upto fnMotionShiftSpec)

/-- 'laws.FnMotionSearch', WHERE WHAT IT READS IS OF BULK AT MOST 1048576: true; the input reads as it did. -/
def fnMotionSearchUptoRow : OpenClaim := { program := "ytobphddjoebfjaa", sum := "9dec126fcf94dc17aab5f8595290d03f60390e062c43f1cb9e63879c3dc0053c", func := "loop.example/videocodec/laws.FnMotionSearch", spec := "fnMotionSearch", unfollowed := true, recurses := true, apart := false, narrowed := true }
def FnMotionSearchUptoSaid : Prop := fnMotionSearchUptoRow.holds Try.pinned (OpenSpec.upto fnMotionSearchSpec)

end Rows
end Go.Proofs.Ytobphddjoebfjaa
