/-
  No cell of these rows narrows 'for every input' (looked for: loops, veiled, ifaces, maps, wideKeys, modest, calm, conditions, laid).
  DERIVED. THE GIVEN ROWS OF THIS SEAT. 11 by the template 'for every input the law returns true; each argument reads behind the call as it read before'; 0 by the template 'total and deterministic' (their statements: YtpdpnallgonnmaaTotals.lean).
  GIVEN WITH THE SEED: the statements are not yours to turn. If you find one false, say at which input.
  Laid BY PROGRAM, IN A SANDBOX (cutbox-rows.mjs): the forced cells as the released guide's own fill.sh prints them over the translation 05acc3d994e6214f… (all of the seat's roots in one cut). By AI agents, Wed Nov 11 2026. No macro, syntax, notation, axiom, sorry.
-/
import Derived.Test.YtpdpnallgonnmaaChecked
import GoSem.Claim
import GoSem.ClaimJoined
import GoSem.ClaimMapViews
import Derived.JoinedTies
import Derived.KernelRfl
namespace Go.Proofs.Ytpdpnallgonnmaa
/- THE CELL 'sum', in the pinned program and in every row, IS THE sha256 OF THE DUMP (.gsa) THAT YtpdpnallgonnmaaProg.lean LOADS. Nothing in Lean hashes anything: it is a label: what it is worth is what the hold of that sum in a sandbox is worth. -/
noncomputable def Try.pinned : Pinned := { name := "ytpdpnallgonnmaa", sum := "05acc3d994e6214f6858713416ba7f2f166770a311c3ca86e51f0d02ca0cc4af", checked := Try.checked }
namespace Rows
def none {H : Type} : Left H := { results := [], args := [] }

/-- 'laws.FnExactIntraAt': WHATEVER THE INPUT: true; the input reads as it did. -/
def fnExactIntraAtSpec : ChangeSpec := { name := "fnExactIntraAt", fn := fun _ => fun
  | [d1, d2] => { results := [.lit (.bool true)], args := [d1, d2] }
  | _ => none }
def fnExactIntraAtRow : OpenClaim := { program := "ytpdpnallgonnmaa", sum := "05acc3d994e6214f6858713416ba7f2f166770a311c3ca86e51f0d02ca0cc4af", func := "loop.example/videocodec/laws.FnExactIntraAt", spec := "fnExactIntraAt", apart := false }
def FnExactIntraAtSaid : Prop := fnExactIntraAtRow.holds Try.pinned (OpenSpec.ofChange fnExactIntraAtSpec)

/-- ITS FALSE NEIGHBOUR: 'it returns false'. Refute it at one input. -/
def fnExactIntraAtWrong : ChangeSpec := { name := "fnExactIntraAt", fn := fun _ => fun
  | [d1, d2] => { results := [.lit (.bool false)], args := [d1, d2] }
  | _ => none }
def FnExactIntraAtWrongFalsely : Prop := fnExactIntraAtRow.holds Try.pinned (OpenSpec.ofChange fnExactIntraAtWrong)

/-- 'laws.FnExactVectorValid': WHATEVER THE INPUT: true; the input reads as it did. -/
def fnExactVectorValidSpec : ChangeSpec := { name := "fnExactVectorValid", fn := fun _ => fun
  | [d] => { results := [.lit (.bool true)], args := [d] }
  | _ => none }
def fnExactVectorValidRow : OpenClaim := { program := "ytpdpnallgonnmaa", sum := "05acc3d994e6214f6858713416ba7f2f166770a311c3ca86e51f0d02ca0cc4af", func := "loop.example/videocodec/laws.FnExactVectorValid", spec := "fnExactVectorValid", apart := false }
def FnExactVectorValidSaid : Prop := fnExactVectorValidRow.holds Try.pinned (OpenSpec.ofChange fnExactVectorValidSpec)

/-- ITS FALSE NEIGHBOUR: 'it returns false'. Refute it at one input. -/
def fnExactVectorValidWrong : ChangeSpec := { name := "fnExactVectorValid", fn := fun _ => fun
  | [d] => { results := [.lit (.bool false)], args := [d] }
  | _ => none }
def FnExactVectorValidWrongFalsely : Prop := fnExactVectorValidRow.holds Try.pinned (OpenSpec.ofChange fnExactVectorValidWrong)

/-- 'laws.FnExactBufferValid': WHATEVER THE INPUT: true; the input reads as it did. -/
def fnExactBufferValidSpec : ChangeSpec := { name := "fnExactBufferValid", fn := fun _ => fun
  | [d] => { results := [.lit (.bool true)], args := [d] }
  | _ => none }
def fnExactBufferValidRow : OpenClaim := { program := "ytpdpnallgonnmaa", sum := "05acc3d994e6214f6858713416ba7f2f166770a311c3ca86e51f0d02ca0cc4af", func := "loop.example/videocodec/laws.FnExactBufferValid", spec := "fnExactBufferValid", apart := false }
def FnExactBufferValidSaid : Prop := fnExactBufferValidRow.holds Try.pinned (OpenSpec.ofChange fnExactBufferValidSpec)

/-- ITS FALSE NEIGHBOUR: 'it returns false'. Refute it at one input. -/
def fnExactBufferValidWrong : ChangeSpec := { name := "fnExactBufferValid", fn := fun _ => fun
  | [d] => { results := [.lit (.bool false)], args := [d] }
  | _ => none }
def FnExactBufferValidWrongFalsely : Prop := fnExactBufferValidRow.holds Try.pinned (OpenSpec.ofChange fnExactBufferValidWrong)

/-- 'laws.FnExactNextChance': WHATEVER THE INPUT: true; the input reads as it did. -/
def fnExactNextChanceSpec : ChangeSpec := { name := "fnExactNextChance", fn := fun _ => fun
  | [d1, d2] => { results := [.lit (.bool true)], args := [d1, d2] }
  | _ => none }
def fnExactNextChanceRow : OpenClaim := { program := "ytpdpnallgonnmaa", sum := "05acc3d994e6214f6858713416ba7f2f166770a311c3ca86e51f0d02ca0cc4af", func := "loop.example/videocodec/laws.FnExactNextChance", spec := "fnExactNextChance", apart := false }
def FnExactNextChanceSaid : Prop := fnExactNextChanceRow.holds Try.pinned (OpenSpec.ofChange fnExactNextChanceSpec)

/-- ITS FALSE NEIGHBOUR: 'it returns false'. Refute it at one input. -/
def fnExactNextChanceWrong : ChangeSpec := { name := "fnExactNextChance", fn := fun _ => fun
  | [d1, d2] => { results := [.lit (.bool false)], args := [d1, d2] }
  | _ => none }
def FnExactNextChanceWrongFalsely : Prop := fnExactNextChanceRow.holds Try.pinned (OpenSpec.ofChange fnExactNextChanceWrong)

/-- 'laws.FnExactMedianVector': WHATEVER THE INPUT: true; the input reads as it did. -/
def fnExactMedianVectorSpec : ChangeSpec := { name := "fnExactMedianVector", fn := fun _ => fun
  | [d1, d2, d3] => { results := [.lit (.bool true)], args := [d1, d2, d3] }
  | _ => none }
def fnExactMedianVectorRow : OpenClaim := { program := "ytpdpnallgonnmaa", sum := "05acc3d994e6214f6858713416ba7f2f166770a311c3ca86e51f0d02ca0cc4af", func := "loop.example/videocodec/laws.FnExactMedianVector", spec := "fnExactMedianVector", apart := false }
def FnExactMedianVectorSaid : Prop := fnExactMedianVectorRow.holds Try.pinned (OpenSpec.ofChange fnExactMedianVectorSpec)

/-- ITS FALSE NEIGHBOUR: 'it returns false'. Refute it at one input. -/
def fnExactMedianVectorWrong : ChangeSpec := { name := "fnExactMedianVector", fn := fun _ => fun
  | [d1, d2, d3] => { results := [.lit (.bool false)], args := [d1, d2, d3] }
  | _ => none }
def FnExactMedianVectorWrongFalsely : Prop := fnExactMedianVectorRow.holds Try.pinned (OpenSpec.ofChange fnExactMedianVectorWrong)

/-- 'laws.FnExactNextIndex': WHATEVER THE INPUT: true; the input reads as it did. -/
def fnExactNextIndexSpec : ChangeSpec := { name := "fnExactNextIndex", fn := fun _ => fun
  | [d1, d2, d3] => { results := [.lit (.bool true)], args := [d1, d2, d3] }
  | _ => none }
def fnExactNextIndexRow : OpenClaim := { program := "ytpdpnallgonnmaa", sum := "05acc3d994e6214f6858713416ba7f2f166770a311c3ca86e51f0d02ca0cc4af", func := "loop.example/videocodec/laws.FnExactNextIndex", spec := "fnExactNextIndex", apart := false }
def FnExactNextIndexSaid : Prop := fnExactNextIndexRow.holds Try.pinned (OpenSpec.ofChange fnExactNextIndexSpec)

/-- ITS FALSE NEIGHBOUR: 'it returns false'. Refute it at one input. -/
def fnExactNextIndexWrong : ChangeSpec := { name := "fnExactNextIndex", fn := fun _ => fun
  | [d1, d2, d3] => { results := [.lit (.bool false)], args := [d1, d2, d3] }
  | _ => none }
def FnExactNextIndexWrongFalsely : Prop := fnExactNextIndexRow.holds Try.pinned (OpenSpec.ofChange fnExactNextIndexWrong)

/-- 'laws.FnVectorValid': WHATEVER THE INPUT: true; the input reads as it did. -/
def fnVectorValidSpec : ChangeSpec := { name := "fnVectorValid", fn := fun _ => fun
  | [d] => { results := [.lit (.bool true)], args := [d] }
  | _ => none }
def fnVectorValidRow : OpenClaim := { program := "ytpdpnallgonnmaa", sum := "05acc3d994e6214f6858713416ba7f2f166770a311c3ca86e51f0d02ca0cc4af", func := "loop.example/videocodec/laws.FnVectorValid", spec := "fnVectorValid", apart := false }
def FnVectorValidSaid : Prop := fnVectorValidRow.holds Try.pinned (OpenSpec.ofChange fnVectorValidSpec)

/-- ITS FALSE NEIGHBOUR: 'it returns false'. Refute it at one input. -/
def fnVectorValidWrong : ChangeSpec := { name := "fnVectorValid", fn := fun _ => fun
  | [d] => { results := [.lit (.bool false)], args := [d] }
  | _ => none }
def FnVectorValidWrongFalsely : Prop := fnVectorValidRow.holds Try.pinned (OpenSpec.ofChange fnVectorValidWrong)

/-- 'laws.FnExactBufferArrive': WHATEVER THE INPUT: true; the input reads as it did. -/
def fnExactBufferArriveSpec : ChangeSpec := { name := "fnExactBufferArrive", fn := fun _ => fun
  | [d] => { results := [.lit (.bool true)], args := [d] }
  | _ => none }
def fnExactBufferArriveRow : OpenClaim := { program := "ytpdpnallgonnmaa", sum := "05acc3d994e6214f6858713416ba7f2f166770a311c3ca86e51f0d02ca0cc4af", func := "loop.example/videocodec/laws.FnExactBufferArrive", spec := "fnExactBufferArrive", apart := false }
def FnExactBufferArriveSaid : Prop := fnExactBufferArriveRow.holds Try.pinned (OpenSpec.ofChange fnExactBufferArriveSpec)

/-- ITS FALSE NEIGHBOUR: 'it returns false'. Refute it at one input. -/
def fnExactBufferArriveWrong : ChangeSpec := { name := "fnExactBufferArrive", fn := fun _ => fun
  | [d] => { results := [.lit (.bool false)], args := [d] }
  | _ => none }
def FnExactBufferArriveWrongFalsely : Prop := fnExactBufferArriveRow.holds Try.pinned (OpenSpec.ofChange fnExactBufferArriveWrong)

/-- 'laws.FnIntraAt': WHATEVER THE INPUT: true; the input reads as it did. -/
def fnIntraAtSpec : ChangeSpec := { name := "fnIntraAt", fn := fun _ => fun
  | [d] => { results := [.lit (.bool true)], args := [d] }
  | _ => none }
def fnIntraAtRow : OpenClaim := { program := "ytpdpnallgonnmaa", sum := "05acc3d994e6214f6858713416ba7f2f166770a311c3ca86e51f0d02ca0cc4af", func := "loop.example/videocodec/laws.FnIntraAt", spec := "fnIntraAt", apart := false }
def FnIntraAtSaid : Prop := fnIntraAtRow.holds Try.pinned (OpenSpec.ofChange fnIntraAtSpec)

/-- ITS FALSE NEIGHBOUR: 'it returns false'. Refute it at one input. -/
def fnIntraAtWrong : ChangeSpec := { name := "fnIntraAt", fn := fun _ => fun
  | [d] => { results := [.lit (.bool false)], args := [d] }
  | _ => none }
def FnIntraAtWrongFalsely : Prop := fnIntraAtRow.holds Try.pinned (OpenSpec.ofChange fnIntraAtWrong)

/-- 'laws.FnExactFilterEdge': WHATEVER THE INPUT: true; the input reads as it did. -/
def fnExactFilterEdgeSpec : ChangeSpec := { name := "fnExactFilterEdge", fn := fun _ => fun
  | [d1, d2, d3, d4, d5] => { results := [.lit (.bool true)], args := [d1, d2, d3, d4, d5] }
  | _ => none }
def fnExactFilterEdgeRow : OpenClaim := { program := "ytpdpnallgonnmaa", sum := "05acc3d994e6214f6858713416ba7f2f166770a311c3ca86e51f0d02ca0cc4af", func := "loop.example/videocodec/laws.FnExactFilterEdge", spec := "fnExactFilterEdge", apart := false }
def FnExactFilterEdgeSaid : Prop := fnExactFilterEdgeRow.holds Try.pinned (OpenSpec.ofChange fnExactFilterEdgeSpec)

/-- ITS FALSE NEIGHBOUR: 'it returns false'. Refute it at one input. -/
def fnExactFilterEdgeWrong : ChangeSpec := { name := "fnExactFilterEdge", fn := fun _ => fun
  | [d1, d2, d3, d4, d5] => { results := [.lit (.bool false)], args := [d1, d2, d3, d4, d5] }
  | _ => none }
def FnExactFilterEdgeWrongFalsely : Prop := fnExactFilterEdgeRow.holds Try.pinned (OpenSpec.ofChange fnExactFilterEdgeWrong)

/-- 'laws.FnNextChance': WHATEVER THE INPUT: true; the input reads as it did. -/
def fnNextChanceSpec : ChangeSpec := { name := "fnNextChance", fn := fun _ => fun
  | [d] => { results := [.lit (.bool true)], args := [d] }
  | _ => none }
def fnNextChanceRow : OpenClaim := { program := "ytpdpnallgonnmaa", sum := "05acc3d994e6214f6858713416ba7f2f166770a311c3ca86e51f0d02ca0cc4af", func := "loop.example/videocodec/laws.FnNextChance", spec := "fnNextChance", apart := false }
def FnNextChanceSaid : Prop := fnNextChanceRow.holds Try.pinned (OpenSpec.ofChange fnNextChanceSpec)

/-- ITS FALSE NEIGHBOUR: 'it returns false'. Refute it at one input. -/
def fnNextChanceWrong : ChangeSpec := { name := "fnNextChance", fn := fun _ => fun
  | [d] => { results := [.lit (.bool false)], args := [d] }
  | _ => none }
def FnNextChanceWrongFalsely : Prop := fnNextChanceRow.holds Try.pinned (OpenSpec.ofChange fnNextChanceWrong)

/- THE SECOND FORM. 'bulk': how many values and letters a reading holds, each counted each time it is reached (what is shared counts as often as it is met; a slice's spare places count too). A statement '..UptoSaid' is the law's where the arguments, and the package variables that the reading takes, are together of bulk at most 1048576: NARROWER than '..Said'. Prove '..Said' where nothing that the law and all that it calls make is longer than what came in: it says more and counts as full. Else prove '..UptoSaid'. A law counts once. -/
mutual
def uptoBulk {H : Type} : DataW H → Nat
  | .lit (.string bytes) => bytes.length + 1
  | .lit _ => 1
  | .nil => 1
  | .ptr d => uptoBulk d + 1
  | .slice elems spare => uptoBulkAll elems + uptoBulkAll spare + 1
  | .agg parts => uptoBulkAll parts + 1
  | .iface _ d => uptoBulk d + 1
  | .map entries => uptoBulkEntries entries + 1
  | .held _ => 1
def uptoBulkAll {H : Type} : List (DataW H) → Nat
  | [] => 0
  | d :: r => uptoBulk d + uptoBulkAll r
def uptoBulkEntries {H : Type} : List (Lit × DataW H) → Nat
  | [] => 0
  | x :: r => uptoBulkEntry x + uptoBulkEntries r
def uptoBulkEntry {H : Type} : Lit × DataW H → Nat
  | (.string bytes, d) => bytes.length + uptoBulk d + 1
  | (_, d) => uptoBulk d + 1
 end
def uptoSmall : (H : Type) → List (DataW H) → Bool := fun _ ds => decide (uptoBulkAll ds ≤ 1048576)
def OpenSpec.upto (s : _root_.Go.ChangeSpec) : _root_.Go.OpenSpec := { _root_.Go.OpenSpec.ofChange s with cond := some uptoSmall }

/-- 'laws.FnExactIntraAt', WHERE WHAT IT READS IS OF BULK AT MOST 1048576: true; the input reads as it did. -/
def fnExactIntraAtUptoRow : OpenClaim := { program := "ytpdpnallgonnmaa", sum := "05acc3d994e6214f6858713416ba7f2f166770a311c3ca86e51f0d02ca0cc4af", func := "loop.example/videocodec/laws.FnExactIntraAt", spec := "fnExactIntraAt", apart := false, narrowed := true }
def FnExactIntraAtUptoSaid : Prop := fnExactIntraAtUptoRow.holds Try.pinned (OpenSpec.upto fnExactIntraAtSpec)

/-- 'laws.FnExactVectorValid', WHERE WHAT IT READS IS OF BULK AT MOST 1048576: true; the input reads as it did. -/
def fnExactVectorValidUptoRow : OpenClaim := { program := "ytpdpnallgonnmaa", sum := "05acc3d994e6214f6858713416ba7f2f166770a311c3ca86e51f0d02ca0cc4af", func := "loop.example/videocodec/laws.FnExactVectorValid", spec := "fnExactVectorValid", apart := false, narrowed := true }
def FnExactVectorValidUptoSaid : Prop := fnExactVectorValidUptoRow.holds Try.pinned (OpenSpec.upto fnExactVectorValidSpec)

/-- 'laws.FnExactBufferValid', WHERE WHAT IT READS IS OF BULK AT MOST 1048576: true; the input reads as it did. -/
def fnExactBufferValidUptoRow : OpenClaim := { program := "ytpdpnallgonnmaa", sum := "05acc3d994e6214f6858713416ba7f2f166770a311c3ca86e51f0d02ca0cc4af", func := "loop.example/videocodec/laws.FnExactBufferValid", spec := "fnExactBufferValid", apart := false, narrowed := true }
def FnExactBufferValidUptoSaid : Prop := fnExactBufferValidUptoRow.holds Try.pinned (OpenSpec.upto fnExactBufferValidSpec)

/-- 'laws.FnExactNextChance', WHERE WHAT IT READS IS OF BULK AT MOST 1048576: true; the input reads as it did. -/
def fnExactNextChanceUptoRow : OpenClaim := { program := "ytpdpnallgonnmaa", sum := "05acc3d994e6214f6858713416ba7f2f166770a311c3ca86e51f0d02ca0cc4af", func := "loop.example/videocodec/laws.FnExactNextChance", spec := "fnExactNextChance", apart := false, narrowed := true }
def FnExactNextChanceUptoSaid : Prop := fnExactNextChanceUptoRow.holds Try.pinned (OpenSpec.upto fnExactNextChanceSpec)

/-- 'laws.FnExactMedianVector', WHERE WHAT IT READS IS OF BULK AT MOST 1048576: true; the input reads as it did. -/
def fnExactMedianVectorUptoRow : OpenClaim := { program := "ytpdpnallgonnmaa", sum := "05acc3d994e6214f6858713416ba7f2f166770a311c3ca86e51f0d02ca0cc4af", func := "loop.example/videocodec/laws.FnExactMedianVector", spec := "fnExactMedianVector", apart := false, narrowed := true }
def FnExactMedianVectorUptoSaid : Prop := fnExactMedianVectorUptoRow.holds Try.pinned (OpenSpec.upto fnExactMedianVectorSpec)

/-- 'laws.FnExactNextIndex', WHERE WHAT IT READS IS OF BULK AT MOST 1048576: true; the input reads as it did. -/
def fnExactNextIndexUptoRow : OpenClaim := { program := "ytpdpnallgonnmaa", sum := "05acc3d994e6214f6858713416ba7f2f166770a311c3ca86e51f0d02ca0cc4af", func := "loop.example/videocodec/laws.FnExactNextIndex", spec := "fnExactNextIndex", apart := false, narrowed := true }
def FnExactNextIndexUptoSaid : Prop := fnExactNextIndexUptoRow.holds Try.pinned (OpenSpec.upto fnExactNextIndexSpec)

/-- 'laws.FnVectorValid', WHERE WHAT IT READS IS OF BULK AT MOST 1048576: true; the input reads as it did. -/
def fnVectorValidUptoRow : OpenClaim := { program := "ytpdpnallgonnmaa", sum := "05acc3d994e6214f6858713416ba7f2f166770a311c3ca86e51f0d02ca0cc4af", func := "loop.example/videocodec/laws.FnVectorValid", spec := "fnVectorValid", apart := false, narrowed := true }
def FnVectorValidUptoSaid : Prop := fnVectorValidUptoRow.holds Try.pinned (OpenSpec.upto fnVectorValidSpec)

/-- 'laws.FnExactBufferArrive', WHERE WHAT IT READS IS OF BULK AT MOST 1048576: true; the input reads as it did. -/
def fnExactBufferArriveUptoRow : OpenClaim := { program := "ytpdpnallgonnmaa", sum := "05acc3d994e6214f6858713416ba7f2f166770a311c3ca86e51f0d02ca0cc4af", func := "loop.example/videocodec/laws.FnExactBufferArrive", spec := "fnExactBufferArrive", apart := false, narrowed := true }
def FnExactBufferArriveUptoSaid : Prop := fnExactBufferArriveUptoRow.holds Try.pinned (OpenSpec.upto fnExactBufferArriveSpec)

/-- 'laws.FnIntraAt', WHERE WHAT IT READS IS OF BULK AT MOST 1048576: true; the input reads as it did. -/
def fnIntraAtUptoRow : OpenClaim := { program := "ytpdpnallgonnmaa", sum := "05acc3d994e6214f6858713416ba7f2f166770a311c3ca86e51f0d02ca0cc4af", func := "loop.example/videocodec/laws.FnIntraAt", spec := "fnIntraAt", apart := false, narrowed := true }
def FnIntraAtUptoSaid : Prop := fnIntraAtUptoRow.holds Try.pinned (OpenSpec.upto fnIntraAtSpec)

/-- 'laws.FnExactFilterEdge', WHERE WHAT IT READS IS OF BULK AT MOST 1048576: true; the input reads as it did. -/
def fnExactFilterEdgeUptoRow : OpenClaim := { program := "ytpdpnallgonnmaa", sum := "05acc3d994e6214f6858713416ba7f2f166770a311c3ca86e51f0d02ca0cc4af", func := "loop.example/videocodec/laws.FnExactFilterEdge", spec := "fnExactFilterEdge", apart := false, narrowed := true }
def FnExactFilterEdgeUptoSaid : Prop := fnExactFilterEdgeUptoRow.holds Try.pinned (OpenSpec.upto fnExactFilterEdgeSpec)

/-- 'laws.FnNextChance', WHERE WHAT IT READS IS OF BULK AT MOST 1048576: true; the input reads as it did. -/
def fnNextChanceUptoRow : OpenClaim := { program := "ytpdpnallgonnmaa", sum := "05acc3d994e6214f6858713416ba7f2f166770a311c3ca86e51f0d02ca0cc4af", func := "loop.example/videocodec/laws.FnNextChance", spec := "fnNextChance", apart := false, narrowed := true }
def FnNextChanceUptoSaid : Prop := fnNextChanceUptoRow.holds Try.pinned (OpenSpec.upto fnNextChanceSpec)

end Rows
end Go.Proofs.Ytpdpnallgonnmaa
