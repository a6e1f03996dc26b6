/- What the program's appendMacro holds while it runs: its two boxes, the list that grows, the marks of the ranges that are over. -/
import Derived.Test.YtggkelehjdepkaaMb
import Derived.Test.YtggkelehjdepkaaNzc
namespace Go.Proofs.Ytggkelehjdepkaa
open Go.RowKit Go.Shelf
set_option linter.unusedVariables false
set_option linter.unusedSimpArgs false

theorem own_ne {W : World} {base E s n k : Nat} {v : Value} {xs : List Value} {cs : Array Value} {t : TypeId} (h : W.ownsRow base E s v n xs) (hb : Blk W k cs t) (ht : t ≠ E) : v.ownBlock ≠ some k := by
  rcases h.2 with ⟨rfl, -⟩ | ⟨g, cap, cur, rfl, -, hg, -⟩
  · intro e; cases e
  · intro e
    injection e with e
    simp only at e
    subst e
    have : W.heap[g]? = _ := hb
    rw [hg] at this
    injection this with this
    injection this with _ h2 _
    exact ht h2.symm
theorem own_cells {W : World} {base E s n : Nat} {v : Value} {xs : List Value} (h : W.ownsRow base E s v n xs) : ∀ r, v.ownBlock = some r → ∃ o : Obj, W.heap[r]? = some o ∧ o.isCells = true := by
  rcases h.2 with ⟨rfl, -⟩ | ⟨g, cap, cur, rfl, -, hg, -⟩
  · intro r e; cases e
  · intro r e
    injection e with e
    simp only at e
    subst e
    exact ⟨_, hg, rfl⟩
theorem own_not {W : World} {base E s n : Nat} {v : Value} {xs : List Value} (h : W.ownsRow base E s v n xs) {row : Option Nat} (hr : ∀ r, row = some r → ∃ o : Obj, W.heap[r]? = some o ∧ o.isCells = false) : v.ownBlock = none ∨ v.ownBlock ≠ row := by
  cases e : v.ownBlock with
  | none => exact .inl rfl
  | some q =>
    refine .inr (fun e2 => ?_)
    obtain ⟨o, h1, h2⟩ := own_cells h q e
    obtain ⟨o', h3, h4⟩ := hr q e2.symm
    rw [h1] at h3
    injection h3 with h3
    subst h3
    rw [h2] at h4; cases h4
theorem keeps_grown {B : Nat} {W W' : World} {row : Option Nat} (h : W.grownBy W' row) (hr : ∀ r, row = some r → ∃ o : Obj, W.heap[r]? = some o ∧ o.isCells = true) : KeepsFrom B W W' :=
  ⟨h.size, fun k o _ hk ho => (h.block k (Array.getElem?_eq_some_iff.1 hk).1 (fun e => by
    obtain ⟨o', h1, h2⟩ := hr k e.symm
    rw [hk] at h1
    injection h1 with h1
    subst h1
    rw [ho] at h2; cases h2)).trans hk⟩

theorem Gr.trans {base m m' : Nat} {v0 v v' : Value} {w W W' : World} {us us' : List Int} (h : Gr base v0 w m us v W) (h' : Gr base v W m' us' v' W') : Gr base v0 w m' us' v' W' := by
  refine ⟨h'.1, grown_step h.2.1 h.2.2 h'.2.1, ?_⟩
  rcases h'.2.2 with e | e
  · rw [e]; exact h.2.2
  · exact .inr fun q hq => Nat.le_trans h.2.1.size (e q hq)
theorem Gr.below {base m : Nat} {v0 v : Value} {w W W' : World} {us : List Int} (h : Gr base v0 w m us v W) (hb : Below W.heap.size W W') : Gr base v0 w m us v W' :=
  ⟨ownsRow_below h.1 hb, grown_step h.2.1 h.2.2 (grown_below hb _), h.2.2⟩
theorem grownBy_setC (w : World) (g i : Nat) (u : Value) : w.grownBy (w.setCell ⟨g, i, none⟩ u) (some g) :=
  ⟨rfl, rfl, rfl, by simp, fun k hk hne => Below.heap_setCell w ⟨g, i, none⟩ u k (fun e => hne (by rw [e]))⟩
theorem Gr.other {base m : Nat} {v0 v : Value} {w W W' : World} {us : List Int} {row : Option Nat} (h : Gr base v0 w m us v W) (hg : W.grownBy W' row) (hne : v.ownBlock = none ∨ v.ownBlock ≠ row) (hr : ∀ r, row = some r → w.heap.size ≤ r) : Gr base v0 w m us v W' := by
  refine ⟨h.1.kept hg hne, ⟨hg.os.trans h.2.1.os, hg.tape.trans h.2.1.tape, hg.output.trans h.2.1.output, Nat.le_trans h.2.1.size hg.size, fun k hk hn => ?_⟩, h.2.2⟩
  exact (hg.block k (Nat.lt_of_lt_of_le hk h.2.1.size) (fun e => by have := hr k e.symm; omega)).trans (h.2.1.block k hk hn)
theorem Gr.set {base m : Nat} {v0 v : Value} {w W : World} {us : List Int} (h : Gr base v0 w m us v W) {g : Nat} (i : Nat) (u : Value) (hg : w.heap.size ≤ g) (hne : v.ownBlock ≠ some g) : Gr base v0 w m us v (W.setCell ⟨g, i, none⟩ u) :=
  h.other (grownBy_setC W g i u) (.inr hne) (fun r e => by cases e; exact hg)

/-- the boxes and the list -/
structure AmSt (base : Nat) (v0 : Value) (w : World) (zs : List Int) (v : Value) (m : Nat) (us : List Int) (W : World) : Prop where
  l : Blk W w.heap.size #[v] 32
  c : Blk W (w.heap.size + 1) (rowI zs) 29
  gr : Gr base v0 w m us v W
section
variable {base m m' : Nat} {v0 v v' : Value} {w W Wn W' : World} {zs us us' : List Int}
theorem AmSt.size (h : AmSt base v0 w zs v m us W) : w.heap.size + 2 ≤ W.heap.size := h.c.lt
theorem AmSt.below (h : AmSt base v0 w zs v m us W) (hb : Below W.heap.size W W') : AmSt base v0 w zs v m us W' :=
  ⟨h.l.below hb h.l.lt, h.c.below hb h.c.lt, h.gr.below hb⟩
theorem AmSt.drew (h : AmSt base v0 w zs v m us W) : AmSt base v0 w zs v m us W.drew := h.below ((Below.refl _ _).drew)
theorem AmSt.alloc (h : AmSt base v0 w zs v m us W) (o : Obj) : AmSt base v0 w zs v m us (W.alloc o) := h.below (Below.alloc (Below.refl _ _) (Nat.le_refl _) o)
theorem AmSt.ne1 (h : AmSt base v0 w zs v m us W) : v.ownBlock ≠ some w.heap.size := own_ne h.gr.1 h.l (by decide)
theorem AmSt.ne2 (h : AmSt base v0 w zs v m us W) : v.ownBlock ≠ some (w.heap.size + 1) := own_ne h.gr.1 h.c (by decide)
/-- the list has grown and is put back into its box -/
theorem AmSt.next (h : AmSt base v0 w zs v m us W) (hg : Gr base v W m' us' v' W') : AmSt base v0 w zs v' m' us' (W'.setCell ⟨w.heap.size, 0, none⟩ v') := by
  have h1 : Blk W' w.heap.size #[v] 32 := h.l.grown hg.2.1 h.ne1
  have h2 : Blk W' (w.heap.size + 1) (rowI zs) 29 := h.c.grown hg.2.1 h.ne2
  exact ⟨h1.set 0 v', h2.other (by simp only; omega) _, (h.gr.trans hg).set _ _ (Nat.le_refl _) (own_ne hg.1 h1 (by decide))⟩
theorem AmSt.noncell (h : AmSt base v0 w zs v m us W) {row : Option Nat} (hg : W.grownBy W' row) (hB : ∀ r, row = some r → w.heap.size ≤ r) (hr : ∀ r, row = some r → ∃ o : Obj, W.heap[r]? = some o ∧ o.isCells = false) : AmSt base v0 w zs v m us W' :=
  ⟨h.l.kept hg hr, h.c.kept hg hr, h.gr.other hg (own_not h.gr.1 hr) hB⟩
/-- what the growth and the store leave -/
theorem AmSt.keeps (h : AmSt base v0 w zs v m us W) (hg : Gr base v W m' us' v' W') (B : Nat) : KeepsFrom B W (W'.setCell ⟨w.heap.size, 0, none⟩ v') :=
  (keeps_grown hg.2.1 (own_cells h.gr.1)).trans ((KeepsOthers.setCell _ _ _).from _)
theorem AmSt.blk (h : AmSt base v0 w zs v m us W) (hg : Gr base v W m' us' v' W') {k : Nat} {cs : Array Value} {t : TypeId} (hk : Blk W k cs t) (ht : t ≠ 35) (hk2 : k ≠ w.heap.size) : Blk (W'.setCell ⟨w.heap.size, 0, none⟩ v') k cs t :=
  (hk.grown hg.2.1 (own_ne h.gr.1 hk ht)).other (by simp only; exact hk2) _
end

/-- the marks of ranges that are over, the latest first -/
def MarksAt (B : Nat) : Nat → List Deferred → World → Prop
  | _, [], _ => True
  | hi, d :: ds, W => ∃ D, d = { target := .collected D, args := #[] } ∧ B ≤ D ∧ D < hi ∧ W.heap[D]? = some (.deferred (some [])) ∧ MarksAt B D ds W
theorem MarksAt.mono {B : Nat} {W : World} : ∀ {ds : List Deferred} {hi hi' : Nat}, MarksAt B hi ds W → hi ≤ hi' → MarksAt B hi' ds W
  | [], _, _, _, _ => trivial
  | d :: ds, _, _, ⟨D, h1, h2, h3, h4⟩, hh => ⟨D, h1, h2, Nat.lt_of_lt_of_le h3 hh, h4⟩
theorem MarksAt.keep {B : Nat} {W W' : World} : ∀ {ds : List Deferred} {hi : Nat}, MarksAt B hi ds W → (∀ k o, B ≤ k → k < hi → W.heap[k]? = some o → o.isCells = false → W'.heap[k]? = some o) → MarksAt B hi ds W'
  | [], _, _, _ => trivial
  | d :: ds, hi, ⟨D, h1, h2, h3, h4, h5⟩, hk => ⟨D, h1, h2, h3, hk D _ h2 h3 h4 rfl, h5.keep (fun k o hB hD => hk k o hB (Nat.lt_trans hD h3))⟩
theorem MarksAt.from {B hi : Nat} {W W' : World} {ds : List Deferred} (h : MarksAt B hi ds W) (hk : KeepsFrom B W W') : MarksAt B hi ds W' := h.keep (fun k o hB _ => hk.same k o hB)
theorem MarksAt.own {B hi : Nat} {W W' : World} {ds : List Deferred} {row : Option Nat} (h : MarksAt B hi ds W) (hg : W.grownBy W' row) (hr : ∀ r, row = some r → hi ≤ r) : MarksAt B hi ds W' :=
  h.keep (fun k o _ hlt hk _ => (hg.block k (Array.getElem?_eq_some_iff.1 hk).1 (fun e => by have := hr k e.symm; omega)).trans hk)

/-- a function leaves over its marks -/
theorem leaves_marks {F : Fence} {n : Nat} {P : Program} {fn : Func} {tmps : Array Value} {R : Ending → World → Prop} {B : Nat} (J : World → Prop)
    (hJ : ∀ W D, B ≤ D → J W → W.heap[D]? = some (.deferred (some [])) → J (W.putObj D (.deferred none)))
    (hend : ∀ W, J W → LeavesInM F n P fn tmps R [] .returning W) : ∀ (ds : List Deferred) (hi : Nat) (W : World), MarksAt B hi ds W → J W → LeavesInM F n P fn tmps R ds .returning W
  | [], _, W, _, h => hend W h
  | d :: ds, hi, W, ⟨D, h1, h2, h3, h4, h5⟩, h => by
    subst h1
    refine ⟨by simp, .inl ⟨_, _, rfl, run_takeDeferred h4, ?_⟩⟩
    exact leaves_marks J hJ hend ds D _ (h5.own (grownBy_putObj' W D (.deferred none)) (fun r e => by cases e; exact Nat.le_refl _)) (hJ W D h2 h h4)

def prL : List (Nat × Int) → List Int
  | [] => []
  | p :: l => bkOne p ++ prL l
def prM : List (Nat × Int) → Nat
  | [] => 0
  | p :: l => bkN p + prM l
theorem prL_snoc (p : Nat × Int) : ∀ l, prL (l ++ [p]) = prL l ++ bkOne p
  | [] => by simp [prL]
  | q :: l => by simp [prL, prL_snoc p l]
theorem prM_snoc (p : Nat × Int) : ∀ l, prM (l ++ [p]) = prM l + bkN p
  | [] => by simp [prM]
  | q :: l => by simp [prM, prM_snoc p l]; omega
theorem take_snoc (l : List (Nat × Int)) (k : Nat) (h : k < l.length) : l.take (k + 1) = l.take k ++ [l.getD k (0, 0)] := by
  rw [List.take_add_one, List.getD_eq_getElem?_getD, List.getElem?_eq_getElem h]; rfl
theorem bkU_pr (l : List (Nat × Int)) : ∀ k, k ≤ l.length → bkU l k = numL l.length 16 ++ prL (l.take k) ∧ bkM l k = numN l.length + prM (l.take k)
  | 0, _ => by simp [bkU, bkM, prL, prM]
  | k + 1, h => by
    obtain ⟨h1, h2⟩ := bkU_pr l k (by omega)
    rw [bkU, bkM, h1, h2, take_snoc l k (by omega), prL_snoc, prM_snoc, List.append_assoc, Nat.add_assoc]
    exact ⟨rfl, rfl⟩
theorem blL_pr (zs : List Int) : blL zs = numL (runsL zs).length 16 ++ prL (runsL zs) ∧ blM zs = numN (runsL zs).length + prM (runsL zs) := by
  have := bkU_pr (runsL zs) _ (Nat.le_refl _)
  rw [List.take_length] at this
  exact this
theorem RR.idx (x : RR) : ∃ J : Nat, sidx x.1.2 = (J : Int) + 1 ∧ J ≤ 8159 := by
  have := sidx_pos x.2.2.2 x.2.2.1
  exact ⟨(sidx x.1.2 - 1).toNat, by omega, by omega⟩
theorem prM_le : ∀ l : List RR, prM (rls l) ≤ 66 * l.length
  | [] => by simp [rls, prM]
  | x :: l => by
    have h := prM_le l
    obtain ⟨J, hJ, hJb⟩ := x.idx
    have h1 := numN_le (n := x.1.1) (by have := x.2.1; omega)
    have h2 := numN_le (n := J) (by omega)
    have e : bkN x.1 = numN x.1.1 + numN J := by rw [bkN, hJ]; congr 2; omega
    simp only [rls, List.map_cons, prM, List.length_cons] at h ⊢
    rw [e]; omega

end Go.Proofs.Ytggkelehjdepkaa
