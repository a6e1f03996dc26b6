/-
  No cell of these rows narrows 'for every input' (looked for: loops, veiled, ifaces, maps, wideKeys, modest, calm, conditions, laid).
  DERIVED. THE GIVEN ROWS OF THIS SEAT. 3 by the template 'for every input the law returns true; each argument reads behind the call as it read before'; 0 by the template 'total and deterministic' (their statements: YtbnccnngcgbklaaTotals.lean).
  GIVEN WITH THE SEED: the statements are not yours to turn. If you find one false, say at which input.
  Laid BY PROGRAM, IN A SANDBOX (cutbox-rows.mjs): the forced cells as the released guide's own fill.sh prints them over the translation 9d44e7644187cd3f… (all of the seat's roots in one cut). By AI agents, Wed Nov 11 2026. No macro, syntax, notation, axiom, sorry.
-/
import Derived.Test.YtbnccnngcgbklaaChecked
import GoSem.Claim
import GoSem.ClaimJoined
import GoSem.ClaimMapViews
import Derived.JoinedTies
import Derived.KernelRfl
namespace Go.Proofs.Ytbnccnngcgbklaa
/- THE CELL 'sum', in the pinned program and in every row, IS THE sha256 OF THE DUMP (.gsa) THAT YtbnccnngcgbklaaProg.lean LOADS. Nothing in Lean hashes anything: it is a label: what it is worth is what the hold of that sum in a sandbox is worth. -/
noncomputable def Try.pinned : Pinned := { name := "ytbnccnngcgbklaa", sum := "9d44e7644187cd3f8bb932b071567c9972bed5502746ce59f095a4fd19302455", checked := Try.checked }
namespace Rows
def none {H : Type} : Left H := { results := [], args := [] }

/-- 'laws.FnExactCodedSize': WHATEVER THE INPUT: true; the input reads as it did. -/
def fnExactCodedSizeSpec : ChangeSpec := { name := "fnExactCodedSize", fn := fun _ => fun
  | [d] => { results := [.lit (.bool true)], args := [d] }
  | _ => none }
def fnExactCodedSizeRow : OpenClaim := { program := "ytbnccnngcgbklaa", sum := "9d44e7644187cd3f8bb932b071567c9972bed5502746ce59f095a4fd19302455", func := "loop.example/videocodec/laws.FnExactCodedSize", spec := "fnExactCodedSize", apart := false }
def FnExactCodedSizeSaid : Prop := fnExactCodedSizeRow.holds Try.pinned (OpenSpec.ofChange fnExactCodedSizeSpec)

/-- ITS FALSE NEIGHBOUR: 'it returns false'. Refute it at one input. -/
def fnExactCodedSizeWrong : ChangeSpec := { name := "fnExactCodedSize", fn := fun _ => fun
  | [d] => { results := [.lit (.bool false)], args := [d] }
  | _ => none }
def FnExactCodedSizeWrongFalsely : Prop := fnExactCodedSizeRow.holds Try.pinned (OpenSpec.ofChange fnExactCodedSizeWrong)

/-- 'laws.FnExactKeyPictures': WHATEVER THE INPUT: true; the input reads as it did. -/
def fnExactKeyPicturesSpec : ChangeSpec := { name := "fnExactKeyPictures", fn := fun _ => fun
  | [d] => { results := [.lit (.bool true)], args := [d] }
  | _ => none }
def fnExactKeyPicturesRow : OpenClaim := { program := "ytbnccnngcgbklaa", sum := "9d44e7644187cd3f8bb932b071567c9972bed5502746ce59f095a4fd19302455", func := "loop.example/videocodec/laws.FnExactKeyPictures", spec := "fnExactKeyPictures", apart := false }
def FnExactKeyPicturesSaid : Prop := fnExactKeyPicturesRow.holds Try.pinned (OpenSpec.ofChange fnExactKeyPicturesSpec)

/-- ITS FALSE NEIGHBOUR: 'it returns false'. Refute it at one input. -/
def fnExactKeyPicturesWrong : ChangeSpec := { name := "fnExactKeyPictures", fn := fun _ => fun
  | [d] => { results := [.lit (.bool false)], args := [d] }
  | _ => none }
def FnExactKeyPicturesWrongFalsely : Prop := fnExactKeyPicturesRow.holds Try.pinned (OpenSpec.ofChange fnExactKeyPicturesWrong)

/-- 'laws.FnKeyPictures': WHATEVER THE INPUT: true; the input reads as it did. -/
def fnKeyPicturesSpec : ChangeSpec := { name := "fnKeyPictures", fn := fun _ => fun
  | [d] => { results := [.lit (.bool true)], args := [d] }
  | _ => none }
def fnKeyPicturesRow : OpenClaim := { program := "ytbnccnngcgbklaa", sum := "9d44e7644187cd3f8bb932b071567c9972bed5502746ce59f095a4fd19302455", func := "loop.example/videocodec/laws.FnKeyPictures", spec := "fnKeyPictures", apart := false }
def FnKeyPicturesSaid : Prop := fnKeyPicturesRow.holds Try.pinned (OpenSpec.ofChange fnKeyPicturesSpec)

/-- ITS FALSE NEIGHBOUR: 'it returns false'. Refute it at one input. -/
def fnKeyPicturesWrong : ChangeSpec := { name := "fnKeyPictures", fn := fun _ => fun
  | [d] => { results := [.lit (.bool false)], args := [d] }
  | _ => none }
def FnKeyPicturesWrongFalsely : Prop := fnKeyPicturesRow.holds Try.pinned (OpenSpec.ofChange fnKeyPicturesWrong)

/- THE SECOND FORM. 'bulk': how many values and letters a reading holds, each counted each time it is reached (what is shared counts as often as it is met; a slice's spare places count too). A statement '..UptoSaid' is the law's where the arguments, and the package variables that the reading takes, are together of bulk at most 1048576: NARROWER than '..Said'. Prove '..Said' where nothing that the law and all that it calls make is longer than what came in: it says more and counts as full. Else prove '..UptoSaid'. A law counts once. -/
mutual
def uptoBulk {H : Type} : DataW H → Nat
  | .lit (.string bytes) => bytes.length + 1
  | .lit _ => 1
  | .nil => 1
  | .ptr d => uptoBulk d + 1
  | .slice elems spare => uptoBulkAll elems + uptoBulkAll spare + 1
  | .agg parts => uptoBulkAll parts + 1
  | .iface _ d => uptoBulk d + 1
  | .map entries => uptoBulkEntries entries + 1
  | .held _ => 1
def uptoBulkAll {H : Type} : List (DataW H) → Nat
  | [] => 0
  | d :: r => uptoBulk d + uptoBulkAll r
def uptoBulkEntries {H : Type} : List (Lit × DataW H) → Nat
  | [] => 0
  | x :: r => uptoBulkEntry x + uptoBulkEntries r
def uptoBulkEntry {H : Type} : Lit × DataW H → Nat
  | (.string bytes, d) => bytes.length + uptoBulk d + 1
  | (_, d) => uptoBulk d + 1
 end
def uptoSmall : (H : Type) → List (DataW H) → Bool := fun _ ds => decide (uptoBulkAll ds ≤ 1048576)
def OpenSpec.upto (s : _root_.Go.ChangeSpec) : _root_.Go.OpenSpec := { _root_.Go.OpenSpec.ofChange s with cond := some uptoSmall }

/-- 'laws.FnExactCodedSize', WHERE WHAT IT READS IS OF BULK AT MOST 1048576: true; the input reads as it did. -/
def fnExactCodedSizeUptoRow : OpenClaim := { program := "ytbnccnngcgbklaa", sum := "9d44e7644187cd3f8bb932b071567c9972bed5502746ce59f095a4fd19302455", func := "loop.example/videocodec/laws.FnExactCodedSize", spec := "fnExactCodedSize", apart := false, narrowed := true }
def FnExactCodedSizeUptoSaid : Prop := fnExactCodedSizeUptoRow.holds Try.pinned (OpenSpec.upto fnExactCodedSizeSpec)

/-- 'laws.FnExactKeyPictures', WHERE WHAT IT READS IS OF BULK AT MOST 1048576: true; the input reads as it did. -/
def fnExactKeyPicturesUptoRow : OpenClaim := { program := "ytbnccnngcgbklaa", sum := "9d44e7644187cd3f8bb932b071567c9972bed5502746ce59f095a4fd19302455", func := "loop.example/videocodec/laws.FnExactKeyPictures", spec := "fnExactKeyPictures", apart := false, narrowed := true }
def FnExactKeyPicturesUptoSaid : Prop := fnExactKeyPicturesUptoRow.holds Try.pinned (OpenSpec.upto fnExactKeyPicturesSpec)

/-- 'laws.FnKeyPictures', WHERE WHAT IT READS IS OF BULK AT MOST 1048576: true; the input reads as it did. -/
def fnKeyPicturesUptoRow : OpenClaim := { program := "ytbnccnngcgbklaa", sum := "9d44e7644187cd3f8bb932b071567c9972bed5502746ce59f095a4fd19302455", func := "loop.example/videocodec/laws.FnKeyPictures", spec := "fnKeyPictures", apart := false, narrowed := true }
def FnKeyPicturesUptoSaid : Prop := fnKeyPicturesUptoRow.holds Try.pinned (OpenSpec.upto fnKeyPicturesSpec)

end Rows
end Go.Proofs.Ytbnccnngcgbklaa
