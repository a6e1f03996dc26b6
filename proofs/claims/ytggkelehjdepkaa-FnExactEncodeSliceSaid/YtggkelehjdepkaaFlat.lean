/- Types whose every cell is an int: structs and arrays of them, and slices of such, opened to the numbers in their cells. -/
import Derived.Test.YtggkelehjdepkaaBase
import Derived.WalkKit
import Derived.ProofKit
import Derived.OpenShut
import Derived.Deep.Slices
namespace Go.Proofs.Ytggkelehjdepkaa
open Go.ChangeShapes Go.WideShapes Go.RowKit Go.Deep

/-- what reads as a value of type t is cells of ints -/
def FlatI (P : Program) (t : TypeId) : Prop :=
  ∀ (H : Type) (enc : TypeId × Value → H) (w : World) (base : Nat) (spare : Nat → Bool) (held : Bool) (fuel : Nat) (cs : List Value) (x : DataW H × List MemPlace),
    DataW.trod enc P w base spare held fuel t cs = some x → cs.length = P.cellsOf t ∧ ∀ c ∈ cs, ∃ z : Int, c = .int .i64 z ∧ (Lit.int .i64 z).wf = true

theorem flat_int {P : Program} {t : TypeId} (ht : P.underlying t = some (.int .i64)) (hc : P.cellsOf t = 1) : FlatI P t := by
  intro H enc w base spare held fuel cs x h
  obtain ⟨n, rfl, _, hw⟩ := DataW.trod_int ht h
  refine ⟨by rw [hc]; rfl, fun c hc => ?_⟩
  simp only [List.mem_cons, List.not_mem_nil, or_false] at hc
  exact ⟨n, hc, hw⟩

theorem mem_of_slot {α : Type} {l : List α} {k o m : Nat} {c : α} (hk : l[k]? = some c) (h1 : o ≤ k) (h2 : k < o + m) : c ∈ (l.drop o).take m := by
  have : ((l.drop o).take m)[k - o]? = some c := by
    rw [List.getElem?_take, if_pos (by omega), List.getElem?_drop, show o + (k - o) = k by omega]
    exact hk
  exact List.mem_of_getElem? this

theorem flat_struct {P : Program} {t : TypeId} {fs : Array Field} (ht : P.underlying t = some (.struct fs)) (hf : ∀ (i : Nat) (f : Field), fs[i]? = some f → FlatI P f.type)
    (hcov : ((List.range (P.cellsOf t)).all fun k => fs.any fun f => f.offset ≤ k && k < f.offset + P.cellsOf f.type) = true) : FlatI P t := by
  intro H enc w base spare held fuel cs x h
  obtain ⟨xs, n, _, _, hl, hx, hg⟩ := DataW.trod_struct ht h
  refine ⟨hl, fun c hc => ?_⟩
  obtain ⟨k, hk⟩ := List.getElem?_of_mem hc
  have hklt : k < cs.length := (List.getElem?_eq_some_iff.1 hk).1
  have hcv := List.all_eq_true.1 hcov k (List.mem_range.2 (by omega))
  obtain ⟨i, hi, hcv⟩ := Array.any_eq_true.1 hcv
  simp only [Bool.and_eq_true, decide_eq_true_eq] at hcv
  have hfi : fs[i]? = some fs[i] := Array.getElem?_eq_getElem hi
  have hgi := hg i _ hfi
  rw [List.getElem?_eq_getElem (by omega)] at hgi
  exact (hf i _ hfi H enc w base spare held n _ _ hgi).2 c (mem_of_slot hk hcv.1 hcv.2)

theorem flat_array {P : Program} {t e : TypeId} {n : Nat} (ht : P.underlying t = some (.array n e)) (he : FlatI P e) (hc : P.cellsOf t = n * P.cellsOf e) : FlatI P t := by
  intro H enc w base spare held fuel cs x h
  obtain ⟨xs, m, _, _, hl, hx, hg⟩ := DataW.trod_array ht h
  refine ⟨hl, fun c hcm => ?_⟩
  obtain ⟨k, hk⟩ := List.getElem?_of_mem hcm
  have hklt : k < cs.length := (List.getElem?_eq_some_iff.1 hk).1
  have hpos : 0 < P.cellsOf e := by
    rcases Nat.eq_zero_or_pos (P.cellsOf e) with h0 | h0
    · rw [hl, hc, h0] at hklt; omega
    · exact h0
  have hi : k / P.cellsOf e < n := by rw [Nat.div_lt_iff_lt_mul hpos]; omega
  have hgi := hg _ hi
  rw [List.getElem?_eq_getElem (by omega)] at hgi
  have h1 := Nat.div_add_mod k (P.cellsOf e)
  have h2 := Nat.mod_lt k hpos
  rw [Nat.mul_comm] at h1
  exact (he H enc w base spare held m _ _ hgi).2 c (mem_of_slot hk (by omega) (by omega))

/-- a value of such a type, by value -/
theorem open_flat {H : Type} {enc : TypeId × Value → H} {P : Program} {w : World} {base : Nat} {spare : Nat → Bool} {held : Bool} {t : TypeId} {v : Value} {d : DataW H} {p : List MemPlace} {cs : Array Value}
    (hF : FlatI P t) (hv : v = .agg cs) (h : DataW.Trod enc P w base spare held t v d p) : ∃ zs : List Int, v = .agg (zs.map (Value.int .i64)).toArray ∧ zs.length = P.cellsOf t ∧ ∀ z ∈ zs, (Lit.int .i64 z).wf = true := by
  subst hv
  obtain ⟨fuel, hf⟩ := h
  obtain ⟨hl, hc⟩ := hF _ _ _ _ _ _ _ _ _ hf
  have hl' : cs.toList.length = P.cellsOf t := hl
  have hc' : ∀ c ∈ cs.toList, ∃ z : Int, c = .int .i64 z ∧ (Lit.int .i64 z).wf = true := hc
  have key : ∀ l : List Value, (∀ c ∈ l, ∃ z : Int, c = .int .i64 z ∧ (Lit.int .i64 z).wf = true) → ∃ zs : List Int, l = zs.map (Value.int .i64) ∧ ∀ z ∈ zs, (Lit.int .i64 z).wf = true := by
    intro l
    induction l with
    | nil => intro _; exact ⟨[], rfl, by simp⟩
    | cons a l ih =>
      intro h
      obtain ⟨z, rfl, hz⟩ := h a (by simp)
      obtain ⟨zs, rfl, hzs⟩ := ih (fun c hc => h c (List.mem_cons_of_mem _ hc))
      exact ⟨z :: zs, rfl, fun y hy => by rcases List.mem_cons.1 hy with rfl | hy; exact hz; exact hzs y hy⟩
  obtain ⟨zs, e, hz⟩ := key _ hc'
  refine ⟨zs, ?_, by rw [← hl', e]; simp, hz⟩
  rw [← e]

/-- a slice of such values -/
theorem open_flats {H : Type} {enc : TypeId × Value → H} {P : Program} {w : World} {base b0 : Nat} {spare : Nat → Bool} {held : Bool} {r : Reach} {t e : TypeId} {v : Value} {d : DataW H} {p : List MemPlace} {s : Nat}
    (ht : P.underlying t = some (.slice e)) (hF : FlatI P e) (hs : P.cellsOf e = s) (hs1 : 1 ≤ s) (hv : Value.okWide P w r b0 t v) (h : DataW.Trod enc P w base spare held t v d p) :
    ∃ (A : Option Addr) (len cap : Nat) (zs : List Int), v = .slice A len cap ∧ RowAt .i64 w A zs ∧ zs.length = len * s ∧ len ≤ maxLen ∧ ∀ z ∈ zs, (Lit.int .i64 z).wf = true := by
  obtain ⟨A, len, cap, rfl⟩ := okWide_slice ht hv
  obtain ⟨fuel, hf⟩ := h
  rcases open_slice ht hf with ⟨hcs, _⟩ | ⟨a, len', cap', m, n, D, Pl, hcs, hb, hl, hm, hmm, _, hi⟩
  · simp only [Value.cells] at hcs
    simp at hcs
    obtain ⟨rfl, rfl, rfl⟩ := hcs
    exact ⟨none, 0, 0, [], rfl, fun h => absurd rfl h, by simp, by decide, by simp⟩
  · simp only [Value.cells] at hcs
    simp at hcs
    obtain ⟨rfl, rfl, rfl⟩ := hcs
    have hlm : len ≤ m := by rw [hmm]; split <;> omega
    have hcell : ∀ k, k < len * s → ∃ z : Int, w.cell? (a.add k) = some (.int .i64 z) ∧ (Lit.int .i64 z).wf = true := by
      intro k hk
      have hq : k / s < len := by rw [Nat.div_lt_iff_lt_mul (by omega)]; exact hk
      obtain ⟨cs', hc', ht'⟩ := hi (k / s) (by omega)
      obtain ⟨_, hcl, hat⟩ := World.cells?_some hc'
      rw [hs] at hcl hat
      have h1 := Nat.div_add_mod k s
      have h2 := Nat.mod_lt k (show 0 < s by omega)
      rw [Nat.mul_comm] at h1
      have h3 := hat (k % s) h2
      rw [add_add, h1] at h3
      rw [List.getElem?_eq_getElem (by omega)] at h3
      obtain ⟨z, hz, hw⟩ := (hF _ _ _ _ _ _ _ _ _ ht').2 _ (List.getElem_mem (show k % s < cs'.length by omega))
      exact ⟨z, by rw [h3, hz], hw⟩
    obtain ⟨f, hf'⟩ := choose_lt hcell
    refine ⟨some a, len, cap, (List.range (len * s)).map f, rfl, fun hne => ?_, by simp, by omega, fun z hz => ?_⟩
    · have hpos : 0 < len * s := by
        rcases Nat.eq_zero_or_pos (len * s) with h0 | h0
        · rw [h0] at hne; simp at hne
        · exact h0
      obtain ⟨b, off, spot⟩ := a
      have h0 := (hf' 0 hpos).1
      have hspot : spot = none := by simpa [Addr.add] using World.cell?_spot h0
      subst hspot
      refine ⟨b, off, rfl, by simpa [Addr.add] using World.block_lt_of_cell? w _ h0, fun i hi' => ?_⟩
      have hi2 : i < len * s := by simpa using hi'
      have := (hf' i hi2).1
      rw [show (⟨b, off + i, none⟩ : Addr) = Addr.add ⟨b, off, none⟩ i by unfold Addr.add; split <;> simp_all]
      rw [this]
      simp [List.getD_eq_getElem?_getD, hi2]
    · obtain ⟨k, hk, rfl⟩ := List.mem_map.1 hz
      exact (hf' k (List.mem_range.1 hk)).2

end Go.Proofs.Ytggkelehjdepkaa
