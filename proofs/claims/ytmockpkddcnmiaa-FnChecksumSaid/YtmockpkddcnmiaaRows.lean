/-
  No cell of these rows narrows 'for every input' (looked for: loops, veiled, ifaces, maps, wideKeys, modest, calm, conditions, laid).
  DERIVED. THE GIVEN ROWS OF THIS SEAT. 11 by the template 'for every input the law returns true; each argument reads behind the call as it read before'; 0 by the template 'total and deterministic' (their statements: YtmockpkddcnmiaaTotals.lean).
  GIVEN WITH THE SEED: the statements are not yours to turn. If you find one false, say at which input.
  Laid BY PROGRAM, IN A SANDBOX (cutbox-rows.mjs): the forced cells as the released guide's own fill.sh prints them over the translation a2230217947e6e80… (all of the seat's roots in one cut). By AI agents, Wed Nov 11 2026. No macro, syntax, notation, axiom, sorry.
-/
import Derived.Test.YtmockpkddcnmiaaChecked
import GoSem.Claim
import GoSem.ClaimJoined
import GoSem.ClaimMapViews
import Derived.JoinedTies
import Derived.KernelRfl
namespace Go.Proofs.Ytmockpkddcnmiaa
/- THE CELL 'sum', in the pinned program and in every row, IS THE sha256 OF THE DUMP (.gsa) THAT YtmockpkddcnmiaaProg.lean LOADS. Nothing in Lean hashes anything: it is a label: what it is worth is what the hold of that sum in a sandbox is worth. -/
noncomputable def Try.pinned : Pinned := { name := "ytmockpkddcnmiaa", sum := "a2230217947e6e80561e83470e931eb26cc61cd9a33fcdb309f3ba04960dacc2", checked := Try.checked }
namespace Rows
def none {H : Type} : Left H := { results := [], args := [] }

/-- 'laws.FnExactChecksum': WHATEVER THE INPUT: true; the input reads as it did. -/
def fnExactChecksumSpec : ChangeSpec := { name := "fnExactChecksum", fn := fun _ => fun
  | [d] => { results := [.lit (.bool true)], args := [d] }
  | _ => none }
def fnExactChecksumRow : OpenClaim := { program := "ytmockpkddcnmiaa", sum := "a2230217947e6e80561e83470e931eb26cc61cd9a33fcdb309f3ba04960dacc2", func := "loop.example/videocodec/laws.FnExactChecksum", spec := "fnExactChecksum", apart := false }
def FnExactChecksumSaid : Prop := fnExactChecksumRow.holds Try.pinned (OpenSpec.ofChange fnExactChecksumSpec)

/-- ITS FALSE NEIGHBOUR: 'it returns false'. Refute it at one input. -/
def fnExactChecksumWrong : ChangeSpec := { name := "fnExactChecksum", fn := fun _ => fun
  | [d] => { results := [.lit (.bool false)], args := [d] }
  | _ => none }
def FnExactChecksumWrongFalsely : Prop := fnExactChecksumRow.holds Try.pinned (OpenSpec.ofChange fnExactChecksumWrong)

/-- 'laws.FnExactBinsValid': WHATEVER THE INPUT: true; the input reads as it did. -/
def fnExactBinsValidSpec : ChangeSpec := { name := "fnExactBinsValid", fn := fun _ => fun
  | [d] => { results := [.lit (.bool true)], args := [d] }
  | _ => none }
def fnExactBinsValidRow : OpenClaim := { program := "ytmockpkddcnmiaa", sum := "a2230217947e6e80561e83470e931eb26cc61cd9a33fcdb309f3ba04960dacc2", func := "loop.example/videocodec/laws.FnExactBinsValid", spec := "fnExactBinsValid", apart := false }
def FnExactBinsValidSaid : Prop := fnExactBinsValidRow.holds Try.pinned (OpenSpec.ofChange fnExactBinsValidSpec)

/-- ITS FALSE NEIGHBOUR: 'it returns false'. Refute it at one input. -/
def fnExactBinsValidWrong : ChangeSpec := { name := "fnExactBinsValid", fn := fun _ => fun
  | [d] => { results := [.lit (.bool false)], args := [d] }
  | _ => none }
def FnExactBinsValidWrongFalsely : Prop := fnExactBinsValidRow.holds Try.pinned (OpenSpec.ofChange fnExactBinsValidWrong)

/-- 'laws.FnChecksum': WHATEVER THE INPUT: true; the input reads as it did. -/
def fnChecksumSpec : ChangeSpec := { name := "fnChecksum", fn := fun _ => fun
  | [d1, d2] => { results := [.lit (.bool true)], args := [d1, d2] }
  | _ => none }
def fnChecksumRow : OpenClaim := { program := "ytmockpkddcnmiaa", sum := "a2230217947e6e80561e83470e931eb26cc61cd9a33fcdb309f3ba04960dacc2", func := "loop.example/videocodec/laws.FnChecksum", spec := "fnChecksum", apart := false }
def FnChecksumSaid : Prop := fnChecksumRow.holds Try.pinned (OpenSpec.ofChange fnChecksumSpec)

/-- ITS FALSE NEIGHBOUR: 'it returns false'. Refute it at one input. -/
def fnChecksumWrong : ChangeSpec := { name := "fnChecksum", fn := fun _ => fun
  | [d1, d2] => { results := [.lit (.bool false)], args := [d1, d2] }
  | _ => none }
def FnChecksumWrongFalsely : Prop := fnChecksumRow.holds Try.pinned (OpenSpec.ofChange fnChecksumWrong)

/-- 'laws.FnBufferValid': WHATEVER THE INPUT: true; the input reads as it did. -/
def fnBufferValidSpec : ChangeSpec := { name := "fnBufferValid", fn := fun _ => fun
  | [d] => { results := [.lit (.bool true)], args := [d] }
  | _ => none }
def fnBufferValidRow : OpenClaim := { program := "ytmockpkddcnmiaa", sum := "a2230217947e6e80561e83470e931eb26cc61cd9a33fcdb309f3ba04960dacc2", func := "loop.example/videocodec/laws.FnBufferValid", spec := "fnBufferValid", apart := false }
def FnBufferValidSaid : Prop := fnBufferValidRow.holds Try.pinned (OpenSpec.ofChange fnBufferValidSpec)

/-- ITS FALSE NEIGHBOUR: 'it returns false'. Refute it at one input. -/
def fnBufferValidWrong : ChangeSpec := { name := "fnBufferValid", fn := fun _ => fun
  | [d] => { results := [.lit (.bool false)], args := [d] }
  | _ => none }
def FnBufferValidWrongFalsely : Prop := fnBufferValidRow.holds Try.pinned (OpenSpec.ofChange fnBufferValidWrong)

/-- 'laws.FnMedianVector': WHATEVER THE INPUT: true; the input reads as it did. -/
def fnMedianVectorSpec : ChangeSpec := { name := "fnMedianVector", fn := fun _ => fun
  | [d] => { results := [.lit (.bool true)], args := [d] }
  | _ => none }
def fnMedianVectorRow : OpenClaim := { program := "ytmockpkddcnmiaa", sum := "a2230217947e6e80561e83470e931eb26cc61cd9a33fcdb309f3ba04960dacc2", func := "loop.example/videocodec/laws.FnMedianVector", spec := "fnMedianVector", apart := false }
def FnMedianVectorSaid : Prop := fnMedianVectorRow.holds Try.pinned (OpenSpec.ofChange fnMedianVectorSpec)

/-- ITS FALSE NEIGHBOUR: 'it returns false'. Refute it at one input. -/
def fnMedianVectorWrong : ChangeSpec := { name := "fnMedianVector", fn := fun _ => fun
  | [d] => { results := [.lit (.bool false)], args := [d] }
  | _ => none }
def FnMedianVectorWrongFalsely : Prop := fnMedianVectorRow.holds Try.pinned (OpenSpec.ofChange fnMedianVectorWrong)

/-- 'laws.FnExactPacketValid': WHATEVER THE INPUT: true; the input reads as it did. -/
def fnExactPacketValidSpec : ChangeSpec := { name := "fnExactPacketValid", fn := fun _ => fun
  | [d] => { results := [.lit (.bool true)], args := [d] }
  | _ => none }
def fnExactPacketValidRow : OpenClaim := { program := "ytmockpkddcnmiaa", sum := "a2230217947e6e80561e83470e931eb26cc61cd9a33fcdb309f3ba04960dacc2", func := "loop.example/videocodec/laws.FnExactPacketValid", spec := "fnExactPacketValid", apart := false }
def FnExactPacketValidSaid : Prop := fnExactPacketValidRow.holds Try.pinned (OpenSpec.ofChange fnExactPacketValidSpec)

/-- ITS FALSE NEIGHBOUR: 'it returns false'. Refute it at one input. -/
def fnExactPacketValidWrong : ChangeSpec := { name := "fnExactPacketValid", fn := fun _ => fun
  | [d] => { results := [.lit (.bool false)], args := [d] }
  | _ => none }
def FnExactPacketValidWrongFalsely : Prop := fnExactPacketValidRow.holds Try.pinned (OpenSpec.ofChange fnExactPacketValidWrong)

/-- 'laws.FnPacketValid': WHATEVER THE INPUT: true; the input reads as it did. -/
def fnPacketValidSpec : ChangeSpec := { name := "fnPacketValid", fn := fun _ => fun
  | [d] => { results := [.lit (.bool true)], args := [d] }
  | _ => none }
def fnPacketValidRow : OpenClaim := { program := "ytmockpkddcnmiaa", sum := "a2230217947e6e80561e83470e931eb26cc61cd9a33fcdb309f3ba04960dacc2", func := "loop.example/videocodec/laws.FnPacketValid", spec := "fnPacketValid", apart := false }
def FnPacketValidSaid : Prop := fnPacketValidRow.holds Try.pinned (OpenSpec.ofChange fnPacketValidSpec)

/-- ITS FALSE NEIGHBOUR: 'it returns false'. Refute it at one input. -/
def fnPacketValidWrong : ChangeSpec := { name := "fnPacketValid", fn := fun _ => fun
  | [d] => { results := [.lit (.bool false)], args := [d] }
  | _ => none }
def FnPacketValidWrongFalsely : Prop := fnPacketValidRow.holds Try.pinned (OpenSpec.ofChange fnPacketValidWrong)

/-- 'laws.FnBinsValid': WHATEVER THE INPUT: true; the input reads as it did. -/
def fnBinsValidSpec : ChangeSpec := { name := "fnBinsValid", fn := fun _ => fun
  | [d] => { results := [.lit (.bool true)], args := [d] }
  | _ => none }
def fnBinsValidRow : OpenClaim := { program := "ytmockpkddcnmiaa", sum := "a2230217947e6e80561e83470e931eb26cc61cd9a33fcdb309f3ba04960dacc2", func := "loop.example/videocodec/laws.FnBinsValid", spec := "fnBinsValid", apart := false }
def FnBinsValidSaid : Prop := fnBinsValidRow.holds Try.pinned (OpenSpec.ofChange fnBinsValidSpec)

/-- ITS FALSE NEIGHBOUR: 'it returns false'. Refute it at one input. -/
def fnBinsValidWrong : ChangeSpec := { name := "fnBinsValid", fn := fun _ => fun
  | [d] => { results := [.lit (.bool false)], args := [d] }
  | _ => none }
def FnBinsValidWrongFalsely : Prop := fnBinsValidRow.holds Try.pinned (OpenSpec.ofChange fnBinsValidWrong)

/-- 'laws.FnBufferArrive': WHATEVER THE INPUT: true; the input reads as it did. -/
def fnBufferArriveSpec : ChangeSpec := { name := "fnBufferArrive", fn := fun _ => fun
  | [d] => { results := [.lit (.bool true)], args := [d] }
  | _ => none }
def fnBufferArriveRow : OpenClaim := { program := "ytmockpkddcnmiaa", sum := "a2230217947e6e80561e83470e931eb26cc61cd9a33fcdb309f3ba04960dacc2", func := "loop.example/videocodec/laws.FnBufferArrive", spec := "fnBufferArrive", apart := false }
def FnBufferArriveSaid : Prop := fnBufferArriveRow.holds Try.pinned (OpenSpec.ofChange fnBufferArriveSpec)

/-- ITS FALSE NEIGHBOUR: 'it returns false'. Refute it at one input. -/
def fnBufferArriveWrong : ChangeSpec := { name := "fnBufferArrive", fn := fun _ => fun
  | [d] => { results := [.lit (.bool false)], args := [d] }
  | _ => none }
def FnBufferArriveWrongFalsely : Prop := fnBufferArriveRow.holds Try.pinned (OpenSpec.ofChange fnBufferArriveWrong)

/-- 'laws.FnNextIndex': WHATEVER THE INPUT: true; the input reads as it did. -/
def fnNextIndexSpec : ChangeSpec := { name := "fnNextIndex", fn := fun _ => fun
  | [d] => { results := [.lit (.bool true)], args := [d] }
  | _ => none }
def fnNextIndexRow : OpenClaim := { program := "ytmockpkddcnmiaa", sum := "a2230217947e6e80561e83470e931eb26cc61cd9a33fcdb309f3ba04960dacc2", func := "loop.example/videocodec/laws.FnNextIndex", spec := "fnNextIndex", apart := false }
def FnNextIndexSaid : Prop := fnNextIndexRow.holds Try.pinned (OpenSpec.ofChange fnNextIndexSpec)

/-- ITS FALSE NEIGHBOUR: 'it returns false'. Refute it at one input. -/
def fnNextIndexWrong : ChangeSpec := { name := "fnNextIndex", fn := fun _ => fun
  | [d] => { results := [.lit (.bool false)], args := [d] }
  | _ => none }
def FnNextIndexWrongFalsely : Prop := fnNextIndexRow.holds Try.pinned (OpenSpec.ofChange fnNextIndexWrong)

/-- 'laws.FnFilterEdge': WHATEVER THE INPUT: true; the input reads as it did. -/
def fnFilterEdgeSpec : ChangeSpec := { name := "fnFilterEdge", fn := fun _ => fun
  | [d] => { results := [.lit (.bool true)], args := [d] }
  | _ => none }
def fnFilterEdgeRow : OpenClaim := { program := "ytmockpkddcnmiaa", sum := "a2230217947e6e80561e83470e931eb26cc61cd9a33fcdb309f3ba04960dacc2", func := "loop.example/videocodec/laws.FnFilterEdge", spec := "fnFilterEdge", apart := false }
def FnFilterEdgeSaid : Prop := fnFilterEdgeRow.holds Try.pinned (OpenSpec.ofChange fnFilterEdgeSpec)

/-- ITS FALSE NEIGHBOUR: 'it returns false'. Refute it at one input. -/
def fnFilterEdgeWrong : ChangeSpec := { name := "fnFilterEdge", fn := fun _ => fun
  | [d] => { results := [.lit (.bool false)], args := [d] }
  | _ => none }
def FnFilterEdgeWrongFalsely : Prop := fnFilterEdgeRow.holds Try.pinned (OpenSpec.ofChange fnFilterEdgeWrong)

/- THE SECOND FORM. 'bulk': how many values and letters a reading holds, each counted each time it is reached (what is shared counts as often as it is met; a slice's spare places count too). A statement '..UptoSaid' is the law's where the arguments, and the package variables that the reading takes, are together of bulk at most 1048576: NARROWER than '..Said'. Prove '..Said' where nothing that the law and all that it calls make is longer than what came in: it says more and counts as full. Else prove '..UptoSaid'. A law counts once. -/
mutual
def uptoBulk {H : Type} : DataW H → Nat
  | .lit (.string bytes) => bytes.length + 1
  | .lit _ => 1
  | .nil => 1
  | .ptr d => uptoBulk d + 1
  | .slice elems spare => uptoBulkAll elems + uptoBulkAll spare + 1
  | .agg parts => uptoBulkAll parts + 1
  | .iface _ d => uptoBulk d + 1
  | .map entries => uptoBulkEntries entries + 1
  | .held _ => 1
def uptoBulkAll {H : Type} : List (DataW H) → Nat
  | [] => 0
  | d :: r => uptoBulk d + uptoBulkAll r
def uptoBulkEntries {H : Type} : List (Lit × DataW H) → Nat
  | [] => 0
  | x :: r => uptoBulkEntry x + uptoBulkEntries r
def uptoBulkEntry {H : Type} : Lit × DataW H → Nat
  | (.string bytes, d) => bytes.length + uptoBulk d + 1
  | (_, d) => uptoBulk d + 1
 end
def uptoSmall : (H : Type) → List (DataW H) → Bool := fun _ ds => decide (uptoBulkAll ds ≤ 1048576)
def OpenSpec.upto (s : _root_.Go.ChangeSpec) : _root_.Go.OpenSpec := { _root_.Go.OpenSpec.ofChange s with cond := some uptoSmall }

/-- 'laws.FnExactChecksum', WHERE WHAT IT READS IS OF BULK AT MOST 1048576: true; the input reads as it did. -/
def fnExactChecksumUptoRow : OpenClaim := { program := "ytmockpkddcnmiaa", sum := "a2230217947e6e80561e83470e931eb26cc61cd9a33fcdb309f3ba04960dacc2", func := "loop.example/videocodec/laws.FnExactChecksum", spec := "fnExactChecksum", apart := false, narrowed := true }
def FnExactChecksumUptoSaid : Prop := fnExactChecksumUptoRow.holds Try.pinned (OpenSpec.upto fnExactChecksumSpec)

/-- 'laws.FnExactBinsValid', WHERE WHAT IT READS IS OF BULK AT MOST 1048576: true; the input reads as it did. -/
def fnExactBinsValidUptoRow : OpenClaim := { program := "ytmockpkddcnmiaa", sum := "a2230217947e6e80561e83470e931eb26cc61cd9a33fcdb309f3ba04960dacc2", func := "loop.example/videocodec/laws.FnExactBinsValid", spec := "fnExactBinsValid", apart := false, narrowed := true }
def FnExactBinsValidUptoSaid : Prop := fnExactBinsValidUptoRow.holds Try.pinned (OpenSpec.upto fnExactBinsValidSpec)

/-- 'laws.FnChecksum', WHERE WHAT IT READS IS OF BULK AT MOST 1048576: true; the input reads as it did. -/
def fnChecksumUptoRow : OpenClaim := { program := "ytmockpkddcnmiaa", sum := "a2230217947e6e80561e83470e931eb26cc61cd9a33fcdb309f3ba04960dacc2", func := "loop.example/videocodec/laws.FnChecksum", spec := "fnChecksum", apart := false, narrowed := true }
def FnChecksumUptoSaid : Prop := fnChecksumUptoRow.holds Try.pinned (OpenSpec.upto fnChecksumSpec)

/-- 'laws.FnBufferValid', WHERE WHAT IT READS IS OF BULK AT MOST 1048576: true; the input reads as it did. -/
def fnBufferValidUptoRow : OpenClaim := { program := "ytmockpkddcnmiaa", sum := "a2230217947e6e80561e83470e931eb26cc61cd9a33fcdb309f3ba04960dacc2", func := "loop.example/videocodec/laws.FnBufferValid", spec := "fnBufferValid", apart := false, narrowed := true }
def FnBufferValidUptoSaid : Prop := fnBufferValidUptoRow.holds Try.pinned (OpenSpec.upto fnBufferValidSpec)

/-- 'laws.FnMedianVector', WHERE WHAT IT READS IS OF BULK AT MOST 1048576: true; the input reads as it did. -/
def fnMedianVectorUptoRow : OpenClaim := { program := "ytmockpkddcnmiaa", sum := "a2230217947e6e80561e83470e931eb26cc61cd9a33fcdb309f3ba04960dacc2", func := "loop.example/videocodec/laws.FnMedianVector", spec := "fnMedianVector", apart := false, narrowed := true }
def FnMedianVectorUptoSaid : Prop := fnMedianVectorUptoRow.holds Try.pinned (OpenSpec.upto fnMedianVectorSpec)

/-- 'laws.FnExactPacketValid', WHERE WHAT IT READS IS OF BULK AT MOST 1048576: true; the input reads as it did. -/
def fnExactPacketValidUptoRow : OpenClaim := { program := "ytmockpkddcnmiaa", sum := "a2230217947e6e80561e83470e931eb26cc61cd9a33fcdb309f3ba04960dacc2", func := "loop.example/videocodec/laws.FnExactPacketValid", spec := "fnExactPacketValid", apart := false, narrowed := true }
def FnExactPacketValidUptoSaid : Prop := fnExactPacketValidUptoRow.holds Try.pinned (OpenSpec.upto fnExactPacketValidSpec)

/-- 'laws.FnPacketValid', WHERE WHAT IT READS IS OF BULK AT MOST 1048576: true; the input reads as it did. -/
def fnPacketValidUptoRow : OpenClaim := { program := "ytmockpkddcnmiaa", sum := "a2230217947e6e80561e83470e931eb26cc61cd9a33fcdb309f3ba04960dacc2", func := "loop.example/videocodec/laws.FnPacketValid", spec := "fnPacketValid", apart := false, narrowed := true }
def FnPacketValidUptoSaid : Prop := fnPacketValidUptoRow.holds Try.pinned (OpenSpec.upto fnPacketValidSpec)

/-- 'laws.FnBinsValid', WHERE WHAT IT READS IS OF BULK AT MOST 1048576: true; the input reads as it did. -/
def fnBinsValidUptoRow : OpenClaim := { program := "ytmockpkddcnmiaa", sum := "a2230217947e6e80561e83470e931eb26cc61cd9a33fcdb309f3ba04960dacc2", func := "loop.example/videocodec/laws.FnBinsValid", spec := "fnBinsValid", apart := false, narrowed := true }
def FnBinsValidUptoSaid : Prop := fnBinsValidUptoRow.holds Try.pinned (OpenSpec.upto fnBinsValidSpec)

/-- 'laws.FnBufferArrive', WHERE WHAT IT READS IS OF BULK AT MOST 1048576: true; the input reads as it did. -/
def fnBufferArriveUptoRow : OpenClaim := { program := "ytmockpkddcnmiaa", sum := "a2230217947e6e80561e83470e931eb26cc61cd9a33fcdb309f3ba04960dacc2", func := "loop.example/videocodec/laws.FnBufferArrive", spec := "fnBufferArrive", apart := false, narrowed := true }
def FnBufferArriveUptoSaid : Prop := fnBufferArriveUptoRow.holds Try.pinned (OpenSpec.upto fnBufferArriveSpec)

/-- 'laws.FnNextIndex', WHERE WHAT IT READS IS OF BULK AT MOST 1048576: true; the input reads as it did. -/
def fnNextIndexUptoRow : OpenClaim := { program := "ytmockpkddcnmiaa", sum := "a2230217947e6e80561e83470e931eb26cc61cd9a33fcdb309f3ba04960dacc2", func := "loop.example/videocodec/laws.FnNextIndex", spec := "fnNextIndex", apart := false, narrowed := true }
def FnNextIndexUptoSaid : Prop := fnNextIndexUptoRow.holds Try.pinned (OpenSpec.upto fnNextIndexSpec)

/-- 'laws.FnFilterEdge', WHERE WHAT IT READS IS OF BULK AT MOST 1048576: true; the input reads as it did. -/
def fnFilterEdgeUptoRow : OpenClaim := { program := "ytmockpkddcnmiaa", sum := "a2230217947e6e80561e83470e931eb26cc61cd9a33fcdb309f3ba04960dacc2", func := "loop.example/videocodec/laws.FnFilterEdge", spec := "fnFilterEdge", apart := false, narrowed := true }
def FnFilterEdgeUptoSaid : Prop := fnFilterEdgeUptoRow.holds Try.pinned (OpenSpec.upto fnFilterEdgeSpec)

end Rows
end Go.Proofs.Ytmockpkddcnmiaa
