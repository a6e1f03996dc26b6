/-
  No cell of these rows narrows 'for every input' (looked for: loops, veiled, ifaces, maps, wideKeys, modest, calm, conditions, laid).
  DERIVED. THE GIVEN ROWS OF THIS SEAT. 4 by the template 'for every input the law returns true; each argument reads behind the call as it read before'; 0 by the template 'total and deterministic' (their statements: YthnigldbpikcaaaTotals.lean).
  GIVEN WITH THE SEED: the statements are not yours to turn. If you find one false, say at which input.
  Laid BY PROGRAM, IN A SANDBOX (cutbox-rows.mjs): the forced cells as the released guide's own fill.sh prints them over the translation 869cfc3860a261b7… (all of the seat's roots in one cut). By AI agents, Wed Nov 11 2026. No macro, syntax, notation, axiom, sorry.
-/
import Derived.Test.YthnigldbpikcaaaChecked
import GoSem.Claim
import GoSem.ClaimJoined
import GoSem.ClaimMapViews
import Derived.JoinedTies
import Derived.KernelRfl
namespace Go.Proofs.Ythnigldbpikcaaa
/- THE CELL 'sum', in the pinned program and in every row, IS THE sha256 OF THE DUMP (.gsa) THAT YthnigldbpikcaaaProg.lean LOADS. Nothing in Lean hashes anything: it is a label: what it is worth is what the hold of that sum in a sandbox is worth. -/
noncomputable def Try.pinned : Pinned := { name := "ythnigldbpikcaaa", sum := "869cfc3860a261b78ac5d1766ee38f3455186d6fd28322a4eba1c32f075b2aaf", checked := Try.checked }
namespace Rows
def none {H : Type} : Left H := { results := [], args := [] }

/-- 'laws.FnIntraDirections': WHATEVER THE INPUT: true; the input reads as it did. -/
def fnIntraDirectionsSpec : ChangeSpec := { name := "fnIntraDirections", fn := fun _ => fun
  | [d] => { results := [.lit (.bool true)], args := [d] }
  | _ => none }
def fnIntraDirectionsRow : OpenClaim := { program := "ythnigldbpikcaaa", sum := "869cfc3860a261b78ac5d1766ee38f3455186d6fd28322a4eba1c32f075b2aaf", func := "loop.example/videocodec/laws.FnIntraDirections", spec := "fnIntraDirections", unfollowed := true, recurses := true, apart := false }
def FnIntraDirectionsSaid : Prop := fnIntraDirectionsRow.holds Try.pinned (OpenSpec.ofChange fnIntraDirectionsSpec)

/-- ITS FALSE NEIGHBOUR: 'it returns false'. Refute it at one input. -/
def fnIntraDirectionsWrong : ChangeSpec := { name := "fnIntraDirections", fn := fun _ => fun
  | [d] => { results := [.lit (.bool false)], args := [d] }
  | _ => none }
def FnIntraDirectionsWrongFalsely : Prop := fnIntraDirectionsRow.holds Try.pinned (OpenSpec.ofChange fnIntraDirectionsWrong)

/-- 'laws.FnPredictIntra': WHATEVER THE INPUT: true; the input reads as it did. -/
def fnPredictIntraSpec : ChangeSpec := { name := "fnPredictIntra", fn := fun _ => fun
  | [d] => { results := [.lit (.bool true)], args := [d] }
  | _ => none }
def fnPredictIntraRow : OpenClaim := { program := "ythnigldbpikcaaa", sum := "869cfc3860a261b78ac5d1766ee38f3455186d6fd28322a4eba1c32f075b2aaf", func := "loop.example/videocodec/laws.FnPredictIntra", spec := "fnPredictIntra", unfollowed := true, recurses := true, apart := false }
def FnPredictIntraSaid : Prop := fnPredictIntraRow.holds Try.pinned (OpenSpec.ofChange fnPredictIntraSpec)

/-- ITS FALSE NEIGHBOUR: 'it returns false'. Refute it at one input. -/
def fnPredictIntraWrong : ChangeSpec := { name := "fnPredictIntra", fn := fun _ => fun
  | [d] => { results := [.lit (.bool false)], args := [d] }
  | _ => none }
def FnPredictIntraWrongFalsely : Prop := fnPredictIntraRow.holds Try.pinned (OpenSpec.ofChange fnPredictIntraWrong)

/-- 'laws.FnExactBestIntra': WHATEVER THE INPUT: true; the input reads as it did. -/
def fnExactBestIntraSpec : ChangeSpec := { name := "fnExactBestIntra", fn := fun _ => fun
  | [d1, d2] => { results := [.lit (.bool true)], args := [d1, d2] }
  | _ => none }
def fnExactBestIntraRow : OpenClaim := { program := "ythnigldbpikcaaa", sum := "869cfc3860a261b78ac5d1766ee38f3455186d6fd28322a4eba1c32f075b2aaf", func := "loop.example/videocodec/laws.FnExactBestIntra", spec := "fnExactBestIntra", unfollowed := true, recurses := true, apart := false }
def FnExactBestIntraSaid : Prop := fnExactBestIntraRow.holds Try.pinned (OpenSpec.ofChange fnExactBestIntraSpec)

/-- ITS FALSE NEIGHBOUR: 'it returns false'. Refute it at one input. -/
def fnExactBestIntraWrong : ChangeSpec := { name := "fnExactBestIntra", fn := fun _ => fun
  | [d1, d2] => { results := [.lit (.bool false)], args := [d1, d2] }
  | _ => none }
def FnExactBestIntraWrongFalsely : Prop := fnExactBestIntraRow.holds Try.pinned (OpenSpec.ofChange fnExactBestIntraWrong)

/-- 'laws.FnBestIntra': WHATEVER THE INPUT: true; the input reads as it did. -/
def fnBestIntraSpec : ChangeSpec := { name := "fnBestIntra", fn := fun _ => fun
  | [d] => { results := [.lit (.bool true)], args := [d] }
  | _ => none }
def fnBestIntraRow : OpenClaim := { program := "ythnigldbpikcaaa", sum := "869cfc3860a261b78ac5d1766ee38f3455186d6fd28322a4eba1c32f075b2aaf", func := "loop.example/videocodec/laws.FnBestIntra", spec := "fnBestIntra", unfollowed := true, recurses := true, apart := false }
def FnBestIntraSaid : Prop := fnBestIntraRow.holds Try.pinned (OpenSpec.ofChange fnBestIntraSpec)

/-- ITS FALSE NEIGHBOUR: 'it returns false'. Refute it at one input. -/
def fnBestIntraWrong : ChangeSpec := { name := "fnBestIntra", fn := fun _ => fun
  | [d] => { results := [.lit (.bool false)], args := [d] }
  | _ => none }
def FnBestIntraWrongFalsely : Prop := fnBestIntraRow.holds Try.pinned (OpenSpec.ofChange fnBestIntraWrong)

/- THE SECOND FORM. 'bulk': how many values and letters a reading holds, each counted each time it is reached (what is shared counts as often as it is met; a slice's spare places count too). A statement '..UptoSaid' is the law's where the arguments, and the package variables that the reading takes, are together of bulk at most 1048576: NARROWER than '..Said'. Prove '..Said' where nothing that the law and all that it calls make is longer than what came in: it says more and counts as full. Else prove '..UptoSaid'. A law counts once. -/
mutual
def uptoBulk {H : Type} : DataW H → Nat
  | .lit (.string bytes) => bytes.length + 1
  | .lit _ => 1
  | .nil => 1
  | .ptr d => uptoBulk d + 1
  | .slice elems spare => uptoBulkAll elems + uptoBulkAll spare + 1
  | .agg parts => uptoBulkAll parts + 1
  | .iface _ d => uptoBulk d + 1
  | .map entries => uptoBulkEntries entries + 1
  | .held _ => 1
def uptoBulkAll {H : Type} : List (DataW H) → Nat
  | [] => 0
  | d :: r => uptoBulk d + uptoBulkAll r
def uptoBulkEntries {H : Type} : List (Lit × DataW H) → Nat
  | [] => 0
  | x :: r => uptoBulkEntry x + uptoBulkEntries r
def uptoBulkEntry {H : Type} : Lit × DataW H → Nat
  | (.string bytes, d) => bytes.length + uptoBulk d + 1
  | (_, d) => uptoBulk d + 1
 end
def uptoSmall : (H : Type) → List (DataW H) → Bool := fun _ ds => decide (uptoBulkAll ds ≤ 1048576)
def OpenSpec.upto (s : _root_.Go.ChangeSpec) : _root_.Go.OpenSpec := { _root_.Go.OpenSpec.ofChange s with cond := some uptoSmall }

/-- 'laws.FnIntraDirections', WHERE WHAT IT READS IS OF BULK AT MOST 1048576: true; the input reads as it did. -/
def fnIntraDirectionsUptoRow : OpenClaim := { program := "ythnigldbpikcaaa", sum := "869cfc3860a261b78ac5d1766ee38f3455186d6fd28322a4eba1c32f075b2aaf", func := "loop.example/videocodec/laws.FnIntraDirections", spec := "fnIntraDirections", unfollowed := true, recurses := true, apart := false, narrowed := true }
def FnIntraDirectionsUptoSaid : Prop := fnIntraDirectionsUptoRow.holds Try.pinned (OpenSpec.upto fnIntraDirectionsSpec)

/-- 'laws.FnPredictIntra', WHERE WHAT IT READS IS OF BULK AT MOST 1048576: true; the input reads as it did. -/
def fnPredictIntraUptoRow : OpenClaim := { program := "ythnigldbpikcaaa", sum := "869cfc3860a261b78ac5d1766ee38f3455186d6fd28322a4eba1c32f075b2aaf", func := "loop.example/videocodec/laws.FnPredictIntra", spec := "fnPredictIntra", unfollowed := true, recurses := true, apart := false, narrowed := true }
def FnPredictIntraUptoSaid : Prop := fnPredictIntraUptoRow.holds Try.pinned (OpenSpec.upto fnPredictIntraSpec)

/-- 'laws.FnExactBestIntra', WHERE WHAT IT READS IS OF BULK AT MOST 1048576: true; the input reads as it did. -/
def fnExactBestIntraUptoRow : OpenClaim := { program := "ythnigldbpikcaaa", sum := "869cfc3860a261b78ac5d1766ee38f3455186d6fd28322a4eba1c32f075b2aaf", func := "loop.example/videocodec/laws.FnExactBestIntra", spec := "fnExactBestIntra", unfollowed := true, recurses := true, apart := false, narrowed := true }
def FnExactBestIntraUptoSaid : Prop := fnExactBestIntraUptoRow.holds Try.pinned (OpenSpec.upto fnExactBestIntraSpec)

/-- 'laws.FnBestIntra', WHERE WHAT IT READS IS OF BULK AT MOST 1048576: true; the input reads as it did. -/
def fnBestIntraUptoRow : OpenClaim := { program := "ythnigldbpikcaaa", sum := "869cfc3860a261b78ac5d1766ee38f3455186d6fd28322a4eba1c32f075b2aaf", func := "loop.example/videocodec/laws.FnBestIntra", spec := "fnBestIntra", unfollowed := true, recurses := true, apart := false, narrowed := true }
def FnBestIntraUptoSaid : Prop := fnBestIntraUptoRow.holds Try.pinned (OpenSpec.upto fnBestIntraSpec)

end Rows
end Go.Proofs.Ythnigldbpikcaaa
