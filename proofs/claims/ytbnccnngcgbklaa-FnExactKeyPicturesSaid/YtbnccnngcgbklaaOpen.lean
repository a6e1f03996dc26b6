/- A struct argument opened to its cells, whatever the number of its one-cell fields. -/
import Derived.WalkKit
import Derived.ProofKit
import Derived.OpenShut
import Derived.Lib.SmallJoins
import Derived.Deep.Fields
namespace Go.Proofs.Ytbnccnngcgbklaa
open Go.ChangeShapes Go.WideShapes Go.RowKit Go.Deep

theorem open_fields {H : Type} {enc : TypeId × Value → H} {P : Program} {w : World} {base b0 : Nat} {spare : Nat → Bool} {held : Bool} {r : Reach} {t : TypeId} {fs : Array Field} {v : Value} {d : DataW H} {p : List MemPlace}
    (hs : P.underlying t = some (.struct fs)) (hone : oneCellFields P fs = true) (hC : P.cellsOf t = fs.size) (hv : Value.okWide P w r b0 t v) (h : DataW.Trod enc P w base spare held t v d p) :
    ∃ (cs : Array Value) (n : Nat), v = .agg cs ∧ cs.size = fs.size ∧ ∀ (j : Nat) (f : Field) (c : Value), fs[j]? = some f → cs[j]? = some c → ∃ y, DataW.trod enc P w base spare held n f.type [c] = some y := by
  obtain ⟨cs, rfl, hsz⟩ := okWide_struct hs hv
  obtain ⟨fuel, hf⟩ := h
  obtain ⟨xs, n, _, _, hl, hx, hg⟩ := DataW.trod_struct hs hf
  refine ⟨cs, n, rfl, hsz.trans hC, fun j f c hj hc => ?_⟩
  have hg' := hg j f hj
  obtain ⟨ho, hk⟩ := hone_of hone j f hj
  have hjs : j < fs.size := (Array.getElem?_eq_some_iff.1 hj).1
  have hcs : cs.toList[j]? = some c := by rw [Array.getElem?_toList]; exact hc
  have hlt : j < cs.toList.length := (List.getElem?_eq_some_iff.1 hcs).1
  have e : ((Value.agg cs).cells.toList.drop f.offset).take (P.cellsOf f.type) = [c] := by
    rw [ho, hk]
    show (cs.toList.drop j).take 1 = [c]
    rw [List.drop_eq_getElem_cons hlt, List.take_succ_cons, List.take_zero]
    exact congrArg (· :: []) (List.getElem?_eq_some_iff.1 hcs).2
  rw [e] at hg'
  have : j < xs.length := by omega
  exact ⟨xs[j], hg'.trans (List.getElem?_eq_getElem this)⟩

theorem arr5 (cs : Array Value) (h : cs.size = 5) : ∃ c0 c1 c2 c3 c4, cs = #[c0, c1, c2, c3, c4] := by
  obtain ⟨l⟩ := cs
  match l, h with
  | [c0, c1, c2, c3, c4], _ => exact ⟨_, _, _, _, _, rfl⟩
theorem arr6 (cs : Array Value) (h : cs.size = 6) : ∃ c0 c1 c2 c3 c4 c5, cs = #[c0, c1, c2, c3, c4, c5] := by
  obtain ⟨l⟩ := cs
  match l, h with
  | [c0, c1, c2, c3, c4, c5], _ => exact ⟨_, _, _, _, _, _, rfl⟩

end Go.Proofs.Ytbnccnngcgbklaa
