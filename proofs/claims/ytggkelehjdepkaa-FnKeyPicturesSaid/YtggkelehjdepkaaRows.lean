/-
  No cell of these rows narrows 'for every input' (looked for: loops, veiled, ifaces, maps, wideKeys, modest, calm, conditions, laid).
  DERIVED. THE GIVEN ROWS OF THIS SEAT. 4 by the template 'for every input the law returns true; each argument reads behind the call as it read before'; 0 by the template 'total and deterministic' (their statements: YtggkelehjdepkaaTotals.lean).
  GIVEN WITH THE SEED: the statements are not yours to turn. If you find one false, say at which input.
  Laid BY PROGRAM, IN A SANDBOX (cutbox-rows.mjs): the forced cells as the released guide's own fill.sh prints them over the translation ff4504e2256b1c3a… (all of the seat's roots in one cut). By AI agents, Wed Nov 11 2026. No macro, syntax, notation, axiom, sorry.
-/
import Derived.Test.YtggkelehjdepkaaChecked
import GoSem.Claim
import GoSem.ClaimJoined
import GoSem.ClaimMapViews
import Derived.JoinedTies
import Derived.KernelRfl
namespace Go.Proofs.Ytggkelehjdepkaa
/- THE CELL 'sum', in the pinned program and in every row, IS THE sha256 OF THE DUMP (.gsa) THAT YtggkelehjdepkaaProg.lean LOADS. Nothing in Lean hashes anything: it is a label: what it is worth is what the hold of that sum in a sandbox is worth. -/
noncomputable def Try.pinned : Pinned := { name := "ytggkelehjdepkaa", sum := "ff4504e2256b1c3aa6f49cedff514da53121e376e9ea4cbd6ad2acc76375bbe1", checked := Try.checked }
namespace Rows
def none {H : Type} : Left H := { results := [], args := [] }

/-- 'laws.FnMacroBins': WHATEVER THE INPUT: true; the input reads as it did. -/
def fnMacroBinsSpec : ChangeSpec := { name := "fnMacroBins", fn := fun _ => fun
  | [d] => { results := [.lit (.bool true)], args := [d] }
  | _ => none }
def fnMacroBinsRow : OpenClaim := { program := "ytggkelehjdepkaa", sum := "ff4504e2256b1c3aa6f49cedff514da53121e376e9ea4cbd6ad2acc76375bbe1", func := "loop.example/videocodec/laws.FnMacroBins", spec := "fnMacroBins", unfollowed := true, recurses := true, apart := false }
def FnMacroBinsSaid : Prop := fnMacroBinsRow.holds Try.pinned (OpenSpec.ofChange fnMacroBinsSpec)

/-- ITS FALSE NEIGHBOUR: 'it returns false'. Refute it at one input. -/
def fnMacroBinsWrong : ChangeSpec := { name := "fnMacroBins", fn := fun _ => fun
  | [d] => { results := [.lit (.bool false)], args := [d] }
  | _ => none }
def FnMacroBinsWrongFalsely : Prop := fnMacroBinsRow.holds Try.pinned (OpenSpec.ofChange fnMacroBinsWrong)

/-- 'laws.FnExactEncodeSlice': WHATEVER THE INPUT: true; the input reads as it did. -/
def fnExactEncodeSliceSpec : ChangeSpec := { name := "fnExactEncodeSlice", fn := fun _ => fun
  | [d1, d2] => { results := [.lit (.bool true)], args := [d1, d2] }
  | _ => none }
def fnExactEncodeSliceRow : OpenClaim := { program := "ytggkelehjdepkaa", sum := "ff4504e2256b1c3aa6f49cedff514da53121e376e9ea4cbd6ad2acc76375bbe1", func := "loop.example/videocodec/laws.FnExactEncodeSlice", spec := "fnExactEncodeSlice", unfollowed := true, recurses := true, apart := false }
def FnExactEncodeSliceSaid : Prop := fnExactEncodeSliceRow.holds Try.pinned (OpenSpec.ofChange fnExactEncodeSliceSpec)

/-- ITS FALSE NEIGHBOUR: 'it returns false'. Refute it at one input. -/
def fnExactEncodeSliceWrong : ChangeSpec := { name := "fnExactEncodeSlice", fn := fun _ => fun
  | [d1, d2] => { results := [.lit (.bool false)], args := [d1, d2] }
  | _ => none }
def FnExactEncodeSliceWrongFalsely : Prop := fnExactEncodeSliceRow.holds Try.pinned (OpenSpec.ofChange fnExactEncodeSliceWrong)

/-- 'laws.FnExactMacroBins': WHATEVER THE INPUT: true; the input reads as it did. -/
def fnExactMacroBinsSpec : ChangeSpec := { name := "fnExactMacroBins", fn := fun _ => fun
  | [d1, d2] => { results := [.lit (.bool true)], args := [d1, d2] }
  | _ => none }
def fnExactMacroBinsRow : OpenClaim := { program := "ytggkelehjdepkaa", sum := "ff4504e2256b1c3aa6f49cedff514da53121e376e9ea4cbd6ad2acc76375bbe1", func := "loop.example/videocodec/laws.FnExactMacroBins", spec := "fnExactMacroBins", unfollowed := true, recurses := true, apart := false }
def FnExactMacroBinsSaid : Prop := fnExactMacroBinsRow.holds Try.pinned (OpenSpec.ofChange fnExactMacroBinsSpec)

/-- ITS FALSE NEIGHBOUR: 'it returns false'. Refute it at one input. -/
def fnExactMacroBinsWrong : ChangeSpec := { name := "fnExactMacroBins", fn := fun _ => fun
  | [d1, d2] => { results := [.lit (.bool false)], args := [d1, d2] }
  | _ => none }
def FnExactMacroBinsWrongFalsely : Prop := fnExactMacroBinsRow.holds Try.pinned (OpenSpec.ofChange fnExactMacroBinsWrong)

/-- 'laws.FnKeyPictures': WHATEVER THE INPUT: true; the input reads as it did. -/
def fnKeyPicturesSpec : ChangeSpec := { name := "fnKeyPictures", fn := fun _ => fun
  | [d] => { results := [.lit (.bool true)], args := [d] }
  | _ => none }
def fnKeyPicturesRow : OpenClaim := { program := "ytggkelehjdepkaa", sum := "ff4504e2256b1c3aa6f49cedff514da53121e376e9ea4cbd6ad2acc76375bbe1", func := "loop.example/videocodec/laws.FnKeyPictures", spec := "fnKeyPictures", apart := false }
def FnKeyPicturesSaid : Prop := fnKeyPicturesRow.holds Try.pinned (OpenSpec.ofChange fnKeyPicturesSpec)

/-- ITS FALSE NEIGHBOUR: 'it returns false'. Refute it at one input. -/
def fnKeyPicturesWrong : ChangeSpec := { name := "fnKeyPictures", fn := fun _ => fun
  | [d] => { results := [.lit (.bool false)], args := [d] }
  | _ => none }
def FnKeyPicturesWrongFalsely : Prop := fnKeyPicturesRow.holds Try.pinned (OpenSpec.ofChange fnKeyPicturesWrong)

/- THE SECOND FORM. 'bulk': how many values and letters a reading holds, each counted each time it is reached (what is shared counts as often as it is met; a slice's spare places count too). A statement '..UptoSaid' is the law's where the arguments, and the package variables that the reading takes, are together of bulk at most 1048576: NARROWER than '..Said'. Prove '..Said' where nothing that the law and all that it calls make is longer than what came in: it says more and counts as full. Else prove '..UptoSaid'. A law counts once. -/
mutual
def uptoBulk {H : Type} : DataW H → Nat
  | .lit (.string bytes) => bytes.length + 1
  | .lit _ => 1
  | .nil => 1
  | .ptr d => uptoBulk d + 1
  | .slice elems spare => uptoBulkAll elems + uptoBulkAll spare + 1
  | .agg parts => uptoBulkAll parts + 1
  | .iface _ d => uptoBulk d + 1
  | .map entries => uptoBulkEntries entries + 1
  | .held _ => 1
def uptoBulkAll {H : Type} : List (DataW H) → Nat
  | [] => 0
  | d :: r => uptoBulk d + uptoBulkAll r
def uptoBulkEntries {H : Type} : List (Lit × DataW H) → Nat
  | [] => 0
  | x :: r => uptoBulkEntry x + uptoBulkEntries r
def uptoBulkEntry {H : Type} : Lit × DataW H → Nat
  | (.string bytes, d) => bytes.length + uptoBulk d + 1
  | (_, d) => uptoBulk d + 1
 end
def uptoSmall : (H : Type) → List (DataW H) → Bool := fun _ ds => decide (uptoBulkAll ds ≤ 1048576)
def OpenSpec.upto (s : _root_.Go.ChangeSpec) : _root_.Go.OpenSpec := { _root_.Go.OpenSpec.ofChange s with cond := some uptoSmall }

/-- 'laws.FnMacroBins', WHERE WHAT IT READS IS OF BULK AT MOST 1048576: true; the input reads as it did. -/
def fnMacroBinsUptoRow : OpenClaim := { program := "ytggkelehjdepkaa", sum := "ff4504e2256b1c3aa6f49cedff514da53121e376e9ea4cbd6ad2acc76375bbe1", func := "loop.example/videocodec/laws.FnMacroBins", spec := "fnMacroBins", unfollowed := true, recurses := true, apart := false, narrowed := true }
def FnMacroBinsUptoSaid : Prop := fnMacroBinsUptoRow.holds Try.pinned (OpenSpec.upto fnMacroBinsSpec)

/-- 'laws.FnExactEncodeSlice', WHERE WHAT IT READS IS OF BULK AT MOST 1048576: true; the input reads as it did. -/
def fnExactEncodeSliceUptoRow : OpenClaim := { program := "ytggkelehjdepkaa", sum := "ff4504e2256b1c3aa6f49cedff514da53121e376e9ea4cbd6ad2acc76375bbe1", func := "loop.example/videocodec/laws.FnExactEncodeSlice", spec := "fnExactEncodeSlice", unfollowed := true, recurses := true, apart := false, narrowed := true }
def FnExactEncodeSliceUptoSaid : Prop := fnExactEncodeSliceUptoRow.holds Try.pinned (OpenSpec.upto fnExactEncodeSliceSpec)

/-- 'laws.FnExactMacroBins', WHERE WHAT IT READS IS OF BULK AT MOST 1048576: true; the input reads as it did. -/
def fnExactMacroBinsUptoRow : OpenClaim := { program := "ytggkelehjdepkaa", sum := "ff4504e2256b1c3aa6f49cedff514da53121e376e9ea4cbd6ad2acc76375bbe1", func := "loop.example/videocodec/laws.FnExactMacroBins", spec := "fnExactMacroBins", unfollowed := true, recurses := true, apart := false, narrowed := true }
def FnExactMacroBinsUptoSaid : Prop := fnExactMacroBinsUptoRow.holds Try.pinned (OpenSpec.upto fnExactMacroBinsSpec)

/-- 'laws.FnKeyPictures', WHERE WHAT IT READS IS OF BULK AT MOST 1048576: true; the input reads as it did. -/
def fnKeyPicturesUptoRow : OpenClaim := { program := "ytggkelehjdepkaa", sum := "ff4504e2256b1c3aa6f49cedff514da53121e376e9ea4cbd6ad2acc76375bbe1", func := "loop.example/videocodec/laws.FnKeyPictures", spec := "fnKeyPictures", apart := false, narrowed := true }
def FnKeyPicturesUptoSaid : Prop := fnKeyPicturesUptoRow.holds Try.pinned (OpenSpec.upto fnKeyPicturesSpec)

end Rows
end Go.Proofs.Ytggkelehjdepkaa
