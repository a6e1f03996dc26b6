/- Lists of coded pictures opened. -/
import Derived.Test.YtbnccnngcgbklaaEqCS
import Derived.Test.YtbnccnngcgbklaaFlat
namespace Go.Proofs.Ytbnccnngcgbklaa
open Go.ChangeShapes Go.WideShapes Go.RowKit Go.Deep
set_option linter.unusedVariables false
set_option linter.unusedSimpArgs false

instance : Inhabited CdE := ⟨⟨0, 0, false, 0, none, 0, 0, fun _ => none, fun _ => 0, fun _ => 0, fun _ => []⟩⟩

theorem open_fieldsL {H : Type} {enc : TypeId × Value → H} {P : Program} {w : World} {base fuel : Nat} {spare : Nat → Bool} {held : Bool} {t : TypeId} {fs : Array Field} {cs : List Value} {x : DataW H × List MemPlace}
    (hs : P.underlying t = some (.struct fs)) (hone : oneCellFields P fs = true) (hf : DataW.trod enc P w base spare held fuel t cs = some x) :
    ∃ n : Nat, cs.length = P.cellsOf t ∧ ∀ (j : Nat) (f : Field) (c : Value), fs[j]? = some f → cs[j]? = some c → ∃ y, DataW.trod enc P w base spare held n f.type [c] = some y := by
  obtain ⟨xs, n, _, _, hl, hx, hg⟩ := DataW.trod_struct hs hf
  refine ⟨n, hl, fun j f c hj hc => ?_⟩
  have hg' := hg j f hj
  obtain ⟨ho, hk⟩ := hone_of hone j f hj
  have hjs : j < fs.size := (Array.getElem?_eq_some_iff.1 hj).1
  have hlt : j < cs.length := (List.getElem?_eq_some_iff.1 hc).1
  have e : (cs.drop f.offset).take (P.cellsOf f.type) = [c] := by
    rw [ho, hk, List.drop_eq_getElem_cons hlt, List.take_succ_cons, List.take_zero]
    exact congrArg (· :: []) (List.getElem?_eq_some_iff.1 hc).2
  rw [e] at hg'
  have : j < xs.length := by omega
  exact ⟨xs[j], hg'.trans (List.getElem?_eq_getElem this)⟩
theorem list5 (cs : List Value) (h : cs.length = 5) : ∃ c0 c1 c2 c3 c4, cs = [c0, c1, c2, c3, c4] := by
  match cs, h with
  | [c0, c1, c2, c3, c4], _ => exact ⟨_, _, _, _, _, rfl⟩
theorem open_coded {H : Type} {enc : TypeId × Value → H} {W : World} {base fuel : Nat} {held : Bool} {cs : List Value} {x : DataW H × List MemPlace}
    (h : DataW.trod enc Try.prog W base (fun _ => true) held fuel 24 cs = some x) :
    ∃ e : CdE, cs = (cdA e.x e.y e.i e.q e.A e.n e.cap).toList ∧ SSAt W e.A e.n e.a e.l e.c e.z ∧ e.n ≤ 9223372036854775807 := by
  obtain ⟨n, hl, hfs0⟩ := open_fieldsL Try.underlying24 (by kernel_rfl) h
  obtain ⟨c00, c01, c02, c03, c04, rfl⟩ := list5 cs hl
  obtain ⟨y00, hy00⟩ := hfs0 0 _ _ rfl rfl
  obtain ⟨y01, hy01⟩ := hfs0 1 _ _ rfl rfl
  obtain ⟨y02, hy02⟩ := hfs0 2 _ _ rfl rfl
  obtain ⟨y03, hy03⟩ := hfs0 3 _ _ rfl rfl
  obtain ⟨y04, hy04⟩ := hfs0 4 _ _ rfl rfl
  obtain ⟨x, e_x, -, -⟩ := DataW.trod_int Try.underlying3 hy00
  simp only [List.cons.injEq, and_true] at e_x
  subst e_x
  obtain ⟨y, e_y, -, -⟩ := DataW.trod_int Try.underlying3 hy01
  simp only [List.cons.injEq, and_true] at e_y
  subst e_y
  obtain ⟨i, e_i, -⟩ := DataW.trod_bool Try.underlying4 hy02
  simp only [List.cons.injEq, and_true] at e_i
  subst e_i
  obtain ⟨q, e_q, -, -⟩ := DataW.trod_int Try.underlying3 hy03
  simp only [List.cons.injEq, and_true] at e_q
  subst e_q
  obtain ⟨A, n, cap, a, l, c, z, e_s, hss0, hn0⟩ := open_ss hy04
  subst e_s
  unfold maxLen at hn0
  exact ⟨⟨x, y, i, q, A, n, cap, a, l, c, z⟩, rfl, hss0, by simp only; omega⟩

theorem open_css {H : Type} {enc : TypeId × Value → H} {W : World} {base b0 : Nat} {held : Bool} {r : Reach} {v : Value} {d : DataW H} {p : List MemPlace}
    (hv : Value.okWide Try.prog W r b0 31 v) (h : DataW.Trod enc Try.prog W base (fun _ => true) held 31 v d p) :
    ∃ (A : Option Addr) (n cap : Nat) (E : Nat → CdE), v = .slice A n cap ∧ CSAt W A n E ∧ n ≤ maxLen := by
  obtain ⟨A, len, cap, rfl⟩ := okWide_slice Try.underlying31 hv
  obtain ⟨fuel, hf⟩ := h
  rcases open_slice Try.underlying31 hf with ⟨hcs, _⟩ | ⟨a, len', cap', m, n, D, Pl, hcs, hb, hl, hm, hmm, _, hi⟩
  · simp only [Value.cells] at hcs
    simp at hcs
    obtain ⟨rfl, rfl, rfl⟩ := hcs
    exact ⟨none, 0, 0, fun _ => default, rfl, ⟨fun h => absurd rfl h, fun i hi => by omega⟩, by decide⟩
  · simp only [Value.cells] at hcs
    simp at hcs
    obtain ⟨rfl, rfl, rfl⟩ := hcs
    have hlm : len ≤ m := by rw [hmm]; split <;> omega
    have each : ∀ i, i < len → ∃ e : CdE, (∀ j, j < 5 → W.cell? ((a.add (i * 5)).add j) = (cdA e.x e.y e.i e.q e.A e.n e.cap)[j]?) ∧ SSAt W e.A e.n e.a e.l e.c e.z ∧ e.n ≤ 9223372036854775807 := by
      intro i hi'
      obtain ⟨cs', hc', ht'⟩ := hi i (by omega)
      obtain ⟨_, hcl, hat⟩ := World.cells?_some hc'
      obtain ⟨e, rfl, h1, h2⟩ := open_coded ht'
      refine ⟨e, fun j hj => ?_, h1, h2⟩
      have := hat j (by have : Try.prog.cellsOf 24 = 5 := by kernel_rfl
                        omega)
      rw [show Try.prog.cellsOf 24 = 5 by kernel_rfl] at this
      rw [this, Array.getElem?_toList]
    obtain ⟨E, hE⟩ := choose_lt each
    refine ⟨some a, len, cap, E, rfl, ⟨fun hne => ?_, fun i hi => (hE i hi).2⟩, by omega⟩
    obtain ⟨b, off, spot⟩ := a
    have h0 := (hE 0 (by omega)).1 0 (by omega)
    have h0' : W.cell? (((⟨b, off, spot⟩ : Addr).add (0 * 5)).add 0) = some (.int .i64 (E 0).x) := h0
    have hspot : spot = none := by simpa [Addr.add] using World.cell?_spot h0'
    subst hspot
    refine ⟨b, off, rfl, by simpa [Addr.add] using World.block_lt_of_cell? W _ h0', fun i hi j hj => ?_⟩
    have := (hE i hi).1 j hj
    rw [add_add] at this
    rw [show (⟨b, off + i * 5 + j, none⟩ : Addr) = Addr.add ⟨b, off, none⟩ (i * 5 + j) by unfold Addr.add; split <;> simp_all [Nat.add_assoc]]
    exact this

end Go.Proofs.Ytbnccnngcgbklaa
