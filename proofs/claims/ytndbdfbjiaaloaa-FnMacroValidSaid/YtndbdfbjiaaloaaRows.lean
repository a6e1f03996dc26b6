/-
  No cell of these rows narrows 'for every input' (looked for: loops, veiled, ifaces, maps, wideKeys, modest, calm, conditions, laid).
  DERIVED. THE GIVEN ROWS OF THIS SEAT. 11 by the template 'for every input the law returns true; each argument reads behind the call as it read before'; 0 by the template 'total and deterministic' (their statements: YtndbdfbjiaaloaaTotals.lean).
  GIVEN WITH THE SEED: the statements are not yours to turn. If you find one false, say at which input.
  Laid BY PROGRAM, IN A SANDBOX (cutbox-rows.mjs): the forced cells as the released guide's own fill.sh prints them over the translation 351378ccf467414d… (all of the seat's roots in one cut). By AI agents, Wed Nov 11 2026. No macro, syntax, notation, axiom, sorry.
-/
import Derived.Test.YtndbdfbjiaaloaaChecked
import GoSem.Claim
import GoSem.ClaimJoined
import GoSem.ClaimMapViews
import Derived.JoinedTies
import Derived.KernelRfl
namespace Go.Proofs.Ytndbdfbjiaaloaa
/- THE CELL 'sum', in the pinned program and in every row, IS THE sha256 OF THE DUMP (.gsa) THAT YtndbdfbjiaaloaaProg.lean LOADS. Nothing in Lean hashes anything: it is a label: what it is worth is what the hold of that sum in a sandbox is worth. -/
noncomputable def Try.pinned : Pinned := { name := "ytndbdfbjiaaloaa", sum := "351378ccf467414d2ca1dc24cc69637e9f224e10681341eab1ffe1958ac454a4", checked := Try.checked }
namespace Rows
def none {H : Type} : Left H := { results := [], args := [] }

/-- 'laws.FnMacroBins': WHATEVER THE INPUT: true; the input reads as it did. -/
def fnMacroBinsSpec : ChangeSpec := { name := "fnMacroBins", fn := fun _ => fun
  | [d] => { results := [.lit (.bool true)], args := [d] }
  | _ => none }
def fnMacroBinsRow : OpenClaim := { program := "ytndbdfbjiaaloaa", sum := "351378ccf467414d2ca1dc24cc69637e9f224e10681341eab1ffe1958ac454a4", func := "loop.example/videocodec/laws.FnMacroBins", spec := "fnMacroBins", unfollowed := true, recurses := true, apart := false }
def FnMacroBinsSaid : Prop := fnMacroBinsRow.holds Try.pinned (OpenSpec.ofChange fnMacroBinsSpec)

/-- ITS FALSE NEIGHBOUR: 'it returns false'. Refute it at one input. -/
def fnMacroBinsWrong : ChangeSpec := { name := "fnMacroBins", fn := fun _ => fun
  | [d] => { results := [.lit (.bool false)], args := [d] }
  | _ => none }
def FnMacroBinsWrongFalsely : Prop := fnMacroBinsRow.holds Try.pinned (OpenSpec.ofChange fnMacroBinsWrong)

/-- 'laws.FnExactEncodeSlice': WHATEVER THE INPUT: true; the input reads as it did. -/
def fnExactEncodeSliceSpec : ChangeSpec := { name := "fnExactEncodeSlice", fn := fun _ => fun
  | [d1, d2] => { results := [.lit (.bool true)], args := [d1, d2] }
  | _ => none }
def fnExactEncodeSliceRow : OpenClaim := { program := "ytndbdfbjiaaloaa", sum := "351378ccf467414d2ca1dc24cc69637e9f224e10681341eab1ffe1958ac454a4", func := "loop.example/videocodec/laws.FnExactEncodeSlice", spec := "fnExactEncodeSlice", unfollowed := true, recurses := true, apart := false }
def FnExactEncodeSliceSaid : Prop := fnExactEncodeSliceRow.holds Try.pinned (OpenSpec.ofChange fnExactEncodeSliceSpec)

/-- ITS FALSE NEIGHBOUR: 'it returns false'. Refute it at one input. -/
def fnExactEncodeSliceWrong : ChangeSpec := { name := "fnExactEncodeSlice", fn := fun _ => fun
  | [d1, d2] => { results := [.lit (.bool false)], args := [d1, d2] }
  | _ => none }
def FnExactEncodeSliceWrongFalsely : Prop := fnExactEncodeSliceRow.holds Try.pinned (OpenSpec.ofChange fnExactEncodeSliceWrong)

/-- 'laws.FnExactMacroValid': WHATEVER THE INPUT: true; the input reads as it did. -/
def fnExactMacroValidSpec : ChangeSpec := { name := "fnExactMacroValid", fn := fun _ => fun
  | [d] => { results := [.lit (.bool true)], args := [d] }
  | _ => none }
def fnExactMacroValidRow : OpenClaim := { program := "ytndbdfbjiaaloaa", sum := "351378ccf467414d2ca1dc24cc69637e9f224e10681341eab1ffe1958ac454a4", func := "loop.example/videocodec/laws.FnExactMacroValid", spec := "fnExactMacroValid", unfollowed := true, recurses := true, apart := false }
def FnExactMacroValidSaid : Prop := fnExactMacroValidRow.holds Try.pinned (OpenSpec.ofChange fnExactMacroValidSpec)

/-- ITS FALSE NEIGHBOUR: 'it returns false'. Refute it at one input. -/
def fnExactMacroValidWrong : ChangeSpec := { name := "fnExactMacroValid", fn := fun _ => fun
  | [d] => { results := [.lit (.bool false)], args := [d] }
  | _ => none }
def FnExactMacroValidWrongFalsely : Prop := fnExactMacroValidRow.holds Try.pinned (OpenSpec.ofChange fnExactMacroValidWrong)

/-- 'laws.FnExactNumberBins': WHATEVER THE INPUT: true; the input reads as it did. -/
def fnExactNumberBinsSpec : ChangeSpec := { name := "fnExactNumberBins", fn := fun _ => fun
  | [d1, d2] => { results := [.lit (.bool true)], args := [d1, d2] }
  | _ => none }
def fnExactNumberBinsRow : OpenClaim := { program := "ytndbdfbjiaaloaa", sum := "351378ccf467414d2ca1dc24cc69637e9f224e10681341eab1ffe1958ac454a4", func := "loop.example/videocodec/laws.FnExactNumberBins", spec := "fnExactNumberBins", apart := false }
def FnExactNumberBinsSaid : Prop := fnExactNumberBinsRow.holds Try.pinned (OpenSpec.ofChange fnExactNumberBinsSpec)

/-- ITS FALSE NEIGHBOUR: 'it returns false'. Refute it at one input. -/
def fnExactNumberBinsWrong : ChangeSpec := { name := "fnExactNumberBins", fn := fun _ => fun
  | [d1, d2] => { results := [.lit (.bool false)], args := [d1, d2] }
  | _ => none }
def FnExactNumberBinsWrongFalsely : Prop := fnExactNumberBinsRow.holds Try.pinned (OpenSpec.ofChange fnExactNumberBinsWrong)

/-- 'laws.FnBinsAdapt': WHATEVER THE INPUT: true; the input reads as it did. -/
def fnBinsAdaptSpec : ChangeSpec := { name := "fnBinsAdapt", fn := fun _ => fun
  | [d] => { results := [.lit (.bool true)], args := [d] }
  | _ => none }
def fnBinsAdaptRow : OpenClaim := { program := "ytndbdfbjiaaloaa", sum := "351378ccf467414d2ca1dc24cc69637e9f224e10681341eab1ffe1958ac454a4", func := "loop.example/videocodec/laws.FnBinsAdapt", spec := "fnBinsAdapt", apart := false }
def FnBinsAdaptSaid : Prop := fnBinsAdaptRow.holds Try.pinned (OpenSpec.ofChange fnBinsAdaptSpec)

/-- ITS FALSE NEIGHBOUR: 'it returns false'. Refute it at one input. -/
def fnBinsAdaptWrong : ChangeSpec := { name := "fnBinsAdapt", fn := fun _ => fun
  | [d] => { results := [.lit (.bool false)], args := [d] }
  | _ => none }
def FnBinsAdaptWrongFalsely : Prop := fnBinsAdaptRow.holds Try.pinned (OpenSpec.ofChange fnBinsAdaptWrong)

/-- 'laws.FnMacroValid': WHATEVER THE INPUT: true; the input reads as it did. -/
def fnMacroValidSpec : ChangeSpec := { name := "fnMacroValid", fn := fun _ => fun
  | [d] => { results := [.lit (.bool true)], args := [d] }
  | _ => none }
def fnMacroValidRow : OpenClaim := { program := "ytndbdfbjiaaloaa", sum := "351378ccf467414d2ca1dc24cc69637e9f224e10681341eab1ffe1958ac454a4", func := "loop.example/videocodec/laws.FnMacroValid", spec := "fnMacroValid", unfollowed := true, recurses := true, apart := false }
def FnMacroValidSaid : Prop := fnMacroValidRow.holds Try.pinned (OpenSpec.ofChange fnMacroValidSpec)

/-- ITS FALSE NEIGHBOUR: 'it returns false'. Refute it at one input. -/
def fnMacroValidWrong : ChangeSpec := { name := "fnMacroValid", fn := fun _ => fun
  | [d] => { results := [.lit (.bool false)], args := [d] }
  | _ => none }
def FnMacroValidWrongFalsely : Prop := fnMacroValidRow.holds Try.pinned (OpenSpec.ofChange fnMacroValidWrong)

/-- 'laws.FnExactDecodeBins': WHATEVER THE INPUT: true; the input reads as it did. -/
def fnExactDecodeBinsSpec : ChangeSpec := { name := "fnExactDecodeBins", fn := fun _ => fun
  | [d1, d2] => { results := [.lit (.bool true)], args := [d1, d2] }
  | _ => none }
def fnExactDecodeBinsRow : OpenClaim := { program := "ytndbdfbjiaaloaa", sum := "351378ccf467414d2ca1dc24cc69637e9f224e10681341eab1ffe1958ac454a4", func := "loop.example/videocodec/laws.FnExactDecodeBins", spec := "fnExactDecodeBins", apart := false }
def FnExactDecodeBinsSaid : Prop := fnExactDecodeBinsRow.holds Try.pinned (OpenSpec.ofChange fnExactDecodeBinsSpec)

/-- ITS FALSE NEIGHBOUR: 'it returns false'. Refute it at one input. -/
def fnExactDecodeBinsWrong : ChangeSpec := { name := "fnExactDecodeBins", fn := fun _ => fun
  | [d1, d2] => { results := [.lit (.bool false)], args := [d1, d2] }
  | _ => none }
def FnExactDecodeBinsWrongFalsely : Prop := fnExactDecodeBinsRow.holds Try.pinned (OpenSpec.ofChange fnExactDecodeBinsWrong)

/-- 'laws.FnExactEncodeBins': WHATEVER THE INPUT: true; the input reads as it did. -/
def fnExactEncodeBinsSpec : ChangeSpec := { name := "fnExactEncodeBins", fn := fun _ => fun
  | [d] => { results := [.lit (.bool true)], args := [d] }
  | _ => none }
def fnExactEncodeBinsRow : OpenClaim := { program := "ytndbdfbjiaaloaa", sum := "351378ccf467414d2ca1dc24cc69637e9f224e10681341eab1ffe1958ac454a4", func := "loop.example/videocodec/laws.FnExactEncodeBins", spec := "fnExactEncodeBins", apart := false }
def FnExactEncodeBinsSaid : Prop := fnExactEncodeBinsRow.holds Try.pinned (OpenSpec.ofChange fnExactEncodeBinsSpec)

/-- ITS FALSE NEIGHBOUR: 'it returns false'. Refute it at one input. -/
def fnExactEncodeBinsWrong : ChangeSpec := { name := "fnExactEncodeBins", fn := fun _ => fun
  | [d] => { results := [.lit (.bool false)], args := [d] }
  | _ => none }
def FnExactEncodeBinsWrongFalsely : Prop := fnExactEncodeBinsRow.holds Try.pinned (OpenSpec.ofChange fnExactEncodeBinsWrong)

/-- 'laws.FnEncodeBins': WHATEVER THE INPUT: true; the input reads as it did. -/
def fnEncodeBinsSpec : ChangeSpec := { name := "fnEncodeBins", fn := fun _ => fun
  | [d1, d2] => { results := [.lit (.bool true)], args := [d1, d2] }
  | _ => none }
def fnEncodeBinsRow : OpenClaim := { program := "ytndbdfbjiaaloaa", sum := "351378ccf467414d2ca1dc24cc69637e9f224e10681341eab1ffe1958ac454a4", func := "loop.example/videocodec/laws.FnEncodeBins", spec := "fnEncodeBins", apart := false }
def FnEncodeBinsSaid : Prop := fnEncodeBinsRow.holds Try.pinned (OpenSpec.ofChange fnEncodeBinsSpec)

/-- ITS FALSE NEIGHBOUR: 'it returns false'. Refute it at one input. -/
def fnEncodeBinsWrong : ChangeSpec := { name := "fnEncodeBins", fn := fun _ => fun
  | [d1, d2] => { results := [.lit (.bool false)], args := [d1, d2] }
  | _ => none }
def FnEncodeBinsWrongFalsely : Prop := fnEncodeBinsRow.holds Try.pinned (OpenSpec.ofChange fnEncodeBinsWrong)

/-- 'laws.FnDecodeBins': WHATEVER THE INPUT: true; the input reads as it did. -/
def fnDecodeBinsSpec : ChangeSpec := { name := "fnDecodeBins", fn := fun _ => fun
  | [d] => { results := [.lit (.bool true)], args := [d] }
  | _ => none }
def fnDecodeBinsRow : OpenClaim := { program := "ytndbdfbjiaaloaa", sum := "351378ccf467414d2ca1dc24cc69637e9f224e10681341eab1ffe1958ac454a4", func := "loop.example/videocodec/laws.FnDecodeBins", spec := "fnDecodeBins", apart := false }
def FnDecodeBinsSaid : Prop := fnDecodeBinsRow.holds Try.pinned (OpenSpec.ofChange fnDecodeBinsSpec)

/-- ITS FALSE NEIGHBOUR: 'it returns false'. Refute it at one input. -/
def fnDecodeBinsWrong : ChangeSpec := { name := "fnDecodeBins", fn := fun _ => fun
  | [d] => { results := [.lit (.bool false)], args := [d] }
  | _ => none }
def FnDecodeBinsWrongFalsely : Prop := fnDecodeBinsRow.holds Try.pinned (OpenSpec.ofChange fnDecodeBinsWrong)

/-- 'laws.FnExactMacroBins': WHATEVER THE INPUT: true; the input reads as it did. -/
def fnExactMacroBinsSpec : ChangeSpec := { name := "fnExactMacroBins", fn := fun _ => fun
  | [d1, d2] => { results := [.lit (.bool true)], args := [d1, d2] }
  | _ => none }
def fnExactMacroBinsRow : OpenClaim := { program := "ytndbdfbjiaaloaa", sum := "351378ccf467414d2ca1dc24cc69637e9f224e10681341eab1ffe1958ac454a4", func := "loop.example/videocodec/laws.FnExactMacroBins", spec := "fnExactMacroBins", unfollowed := true, recurses := true, apart := false }
def FnExactMacroBinsSaid : Prop := fnExactMacroBinsRow.holds Try.pinned (OpenSpec.ofChange fnExactMacroBinsSpec)

/-- ITS FALSE NEIGHBOUR: 'it returns false'. Refute it at one input. -/
def fnExactMacroBinsWrong : ChangeSpec := { name := "fnExactMacroBins", fn := fun _ => fun
  | [d1, d2] => { results := [.lit (.bool false)], args := [d1, d2] }
  | _ => none }
def FnExactMacroBinsWrongFalsely : Prop := fnExactMacroBinsRow.holds Try.pinned (OpenSpec.ofChange fnExactMacroBinsWrong)

/- THE SECOND FORM. 'bulk': how many values and letters a reading holds, each counted each time it is reached (what is shared counts as often as it is met; a slice's spare places count too). A statement '..UptoSaid' is the law's where the arguments, and the package variables that the reading takes, are together of bulk at most 1048576: NARROWER than '..Said'. Prove '..Said' where nothing that the law and all that it calls make is longer than what came in: it says more and counts as full. Else prove '..UptoSaid'. A law counts once. -/
mutual
def uptoBulk {H : Type} : DataW H → Nat
  | .lit (.string bytes) => bytes.length + 1
  | .lit _ => 1
  | .nil => 1
  | .ptr d => uptoBulk d + 1
  | .slice elems spare => uptoBulkAll elems + uptoBulkAll spare + 1
  | .agg parts => uptoBulkAll parts + 1
  | .iface _ d => uptoBulk d + 1
  | .map entries => uptoBulkEntries entries + 1
  | .held _ => 1
def uptoBulkAll {H : Type} : List (DataW H) → Nat
  | [] => 0
  | d :: r => uptoBulk d + uptoBulkAll r
def uptoBulkEntries {H : Type} : List (Lit × DataW H) → Nat
  | [] => 0
  | x :: r => uptoBulkEntry x + uptoBulkEntries r
def uptoBulkEntry {H : Type} : Lit × DataW H → Nat
  | (.string bytes, d) => bytes.length + uptoBulk d + 1
  | (_, d) => uptoBulk d + 1
 end
def uptoSmall : (H : Type) → List (DataW H) → Bool := fun _ ds => decide (uptoBulkAll ds ≤ 1048576)
def OpenSpec.upto (s : _root_.Go.ChangeSpec) : _root_.Go.OpenSpec := { _root_.Go.OpenSpec.ofChange s with cond := some uptoSmall }

/-- 'laws.FnMacroBins', WHERE WHAT IT READS IS OF BULK AT MOST 1048576: true; the input reads as it did. -/
def fnMacroBinsUptoRow : OpenClaim := { program := "ytndbdfbjiaaloaa", sum := "351378ccf467414d2ca1dc24cc69637e9f224e10681341eab1ffe1958ac454a4", func := "loop.example/videocodec/laws.FnMacroBins", spec := "fnMacroBins", unfollowed := true, recurses := true, apart := false, narrowed := true }
def FnMacroBinsUptoSaid : Prop := fnMacroBinsUptoRow.holds Try.pinned (OpenSpec.upto fnMacroBinsSpec)

/-- 'laws.FnExactEncodeSlice', WHERE WHAT IT READS IS OF BULK AT MOST 1048576: true; the input reads as it did. -/
def fnExactEncodeSliceUptoRow : OpenClaim := { program := "ytndbdfbjiaaloaa", sum := "351378ccf467414d2ca1dc24cc69637e9f224e10681341eab1ffe1958ac454a4", func := "loop.example/videocodec/laws.FnExactEncodeSlice", spec := "fnExactEncodeSlice", unfollowed := true, recurses := true, apart := false, narrowed := true }
def FnExactEncodeSliceUptoSaid : Prop := fnExactEncodeSliceUptoRow.holds Try.pinned (OpenSpec.upto fnExactEncodeSliceSpec)

/-- 'laws.FnExactMacroValid', WHERE WHAT IT READS IS OF BULK AT MOST 1048576: true; the input reads as it did. -/
def fnExactMacroValidUptoRow : OpenClaim := { program := "ytndbdfbjiaaloaa", sum := "351378ccf467414d2ca1dc24cc69637e9f224e10681341eab1ffe1958ac454a4", func := "loop.example/videocodec/laws.FnExactMacroValid", spec := "fnExactMacroValid", unfollowed := true, recurses := true, apart := false, narrowed := true }
def FnExactMacroValidUptoSaid : Prop := fnExactMacroValidUptoRow.holds Try.pinned (OpenSpec.upto fnExactMacroValidSpec)

/-- 'laws.FnExactNumberBins', WHERE WHAT IT READS IS OF BULK AT MOST 1048576: true; the input reads as it did. -/
def fnExactNumberBinsUptoRow : OpenClaim := { program := "ytndbdfbjiaaloaa", sum := "351378ccf467414d2ca1dc24cc69637e9f224e10681341eab1ffe1958ac454a4", func := "loop.example/videocodec/laws.FnExactNumberBins", spec := "fnExactNumberBins", apart := false, narrowed := true }
def FnExactNumberBinsUptoSaid : Prop := fnExactNumberBinsUptoRow.holds Try.pinned (OpenSpec.upto fnExactNumberBinsSpec)

/-- 'laws.FnBinsAdapt', WHERE WHAT IT READS IS OF BULK AT MOST 1048576: true; the input reads as it did. -/
def fnBinsAdaptUptoRow : OpenClaim := { program := "ytndbdfbjiaaloaa", sum := "351378ccf467414d2ca1dc24cc69637e9f224e10681341eab1ffe1958ac454a4", func := "loop.example/videocodec/laws.FnBinsAdapt", spec := "fnBinsAdapt", apart := false, narrowed := true }
def FnBinsAdaptUptoSaid : Prop := fnBinsAdaptUptoRow.holds Try.pinned (OpenSpec.upto fnBinsAdaptSpec)

/-- 'laws.FnMacroValid', WHERE WHAT IT READS IS OF BULK AT MOST 1048576: true; the input reads as it did. -/
def fnMacroValidUptoRow : OpenClaim := { program := "ytndbdfbjiaaloaa", sum := "351378ccf467414d2ca1dc24cc69637e9f224e10681341eab1ffe1958ac454a4", func := "loop.example/videocodec/laws.FnMacroValid", spec := "fnMacroValid", unfollowed := true, recurses := true, apart := false, narrowed := true }
def FnMacroValidUptoSaid : Prop := fnMacroValidUptoRow.holds Try.pinned (OpenSpec.upto fnMacroValidSpec)

/-- 'laws.FnExactDecodeBins', WHERE WHAT IT READS IS OF BULK AT MOST 1048576: true; the input reads as it did. -/
def fnExactDecodeBinsUptoRow : OpenClaim := { program := "ytndbdfbjiaaloaa", sum := "351378ccf467414d2ca1dc24cc69637e9f224e10681341eab1ffe1958ac454a4", func := "loop.example/videocodec/laws.FnExactDecodeBins", spec := "fnExactDecodeBins", apart := false, narrowed := true }
def FnExactDecodeBinsUptoSaid : Prop := fnExactDecodeBinsUptoRow.holds Try.pinned (OpenSpec.upto fnExactDecodeBinsSpec)

/-- 'laws.FnExactEncodeBins', WHERE WHAT IT READS IS OF BULK AT MOST 1048576: true; the input reads as it did. -/
def fnExactEncodeBinsUptoRow : OpenClaim := { program := "ytndbdfbjiaaloaa", sum := "351378ccf467414d2ca1dc24cc69637e9f224e10681341eab1ffe1958ac454a4", func := "loop.example/videocodec/laws.FnExactEncodeBins", spec := "fnExactEncodeBins", apart := false, narrowed := true }
def FnExactEncodeBinsUptoSaid : Prop := fnExactEncodeBinsUptoRow.holds Try.pinned (OpenSpec.upto fnExactEncodeBinsSpec)

/-- 'laws.FnEncodeBins', WHERE WHAT IT READS IS OF BULK AT MOST 1048576: true; the input reads as it did. -/
def fnEncodeBinsUptoRow : OpenClaim := { program := "ytndbdfbjiaaloaa", sum := "351378ccf467414d2ca1dc24cc69637e9f224e10681341eab1ffe1958ac454a4", func := "loop.example/videocodec/laws.FnEncodeBins", spec := "fnEncodeBins", apart := false, narrowed := true }
def FnEncodeBinsUptoSaid : Prop := fnEncodeBinsUptoRow.holds Try.pinned (OpenSpec.upto fnEncodeBinsSpec)

/-- 'laws.FnDecodeBins', WHERE WHAT IT READS IS OF BULK AT MOST 1048576: true; the input reads as it did. -/
def fnDecodeBinsUptoRow : OpenClaim := { program := "ytndbdfbjiaaloaa", sum := "351378ccf467414d2ca1dc24cc69637e9f224e10681341eab1ffe1958ac454a4", func := "loop.example/videocodec/laws.FnDecodeBins", spec := "fnDecodeBins", apart := false, narrowed := true }
def FnDecodeBinsUptoSaid : Prop := fnDecodeBinsUptoRow.holds Try.pinned (OpenSpec.upto fnDecodeBinsSpec)

/-- 'laws.FnExactMacroBins', WHERE WHAT IT READS IS OF BULK AT MOST 1048576: true; the input reads as it did. -/
def fnExactMacroBinsUptoRow : OpenClaim := { program := "ytndbdfbjiaaloaa", sum := "351378ccf467414d2ca1dc24cc69637e9f224e10681341eab1ffe1958ac454a4", func := "loop.example/videocodec/laws.FnExactMacroBins", spec := "fnExactMacroBins", unfollowed := true, recurses := true, apart := false, narrowed := true }
def FnExactMacroBinsUptoSaid : Prop := fnExactMacroBinsUptoRow.holds Try.pinned (OpenSpec.upto fnExactMacroBinsSpec)

end Rows
end Go.Proofs.Ytndbdfbjiaaloaa
