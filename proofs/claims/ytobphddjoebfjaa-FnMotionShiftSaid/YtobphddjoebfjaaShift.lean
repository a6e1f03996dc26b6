/- A picture displaced, by lists; the boxes of its loop. -/
import Derived.Test.YtobphddjoebfjaaVecS
import Derived.Test.YtobphddjoebfjaaSamp
import Derived.Test.YtobphddjoebfjaaDrawK
namespace Go.Proofs.Ytobphddjoebfjaa
open Go.RowKit
set_option linter.unusedVariables false
set_option linter.unusedSimpArgs false

/-- sample k of the displaced picture -/
def shF (a b : Int) (ps : List Int) (dx dy : Int) (k : Nat) : Int := sampV a b ps ((k : Int).tmod a + dx) ((k : Int).tdiv a + dy)
def shL (a b : Int) (ps : List Int) (dx dy : Int) (n : Nat) : List Int := (List.range n).map (shF a b ps dx dy)
theorem shL_len (a b : Int) (ps : List Int) (dx dy : Int) (n : Nat) : (shL a b ps dx dy n).length = n := by simp [shL]
theorem shL_succ (a b : Int) (ps : List Int) (dx dy : Int) (n : Nat) : shL a b ps dx dy (n + 1) = shL a b ps dx dy n ++ [shF a b ps dx dy n] := by simp [shL, List.range_succ]
theorem sad_self (f : Nat → Int) (n : Nat) : sad f f n = 0 := by
  induction n with
  | zero => rfl
  | succ n ih => rw [sad, ih]; omega
theorem sampV_bd {a b : Int} {ps : List Int} (h : picB a b ps = true) (x y : Int) : 0 ≤ sampV a b ps x y ∧ sampV a b ps x y ≤ 255 := by
  rw [sampV, if_pos h]; exact pix_bd (picB_iff.1 h).2.2.2 x y
theorem shL_pic {a b : Int} {ps : List Int} (dx dy : Int) (h : picB a b ps = true) : picB a b (shL a b ps dx dy ps.length) = true := by
  obtain ⟨h1, h2, h3, h4⟩ := picB_iff.1 h
  refine picB_iff.2 ⟨h1, h2, by rw [shL_len]; exact h3, ?_⟩
  simp only [M.samplesB, shL, List.all_eq_true, List.mem_map]
  rintro z ⟨k, -, rfl⟩
  have := sampV_bd h ((k : Int).tmod a + dx) ((k : Int).tdiv a + dy)
  have e : shF a b ps dx dy k = sampV a b ps ((k : Int).tmod a + dx) ((k : Int).tdiv a + dy) := rfl
  rw [e]
  generalize sampV a b ps ((k : Int).tmod a + dx) ((k : Int).tdiv a + dy) = z at this ⊢
  simp [M.inB]; omega
theorem shL_at {a b : Int} {ps : List Int} (dx dy X Y : Int) (h : picB a b ps = true) (hX : 0 ≤ X ∧ X < a) (hY : 0 ≤ Y ∧ Y < b) : pix a b (shL a b ps dx dy ps.length) X Y = pix a b ps (X + dx) (Y + dy) := by
  obtain ⟨h1, h2, h3, h4⟩ := picB_iff.1 h
  have hn : 0 ≤ Y * a + X := by have := Int.mul_nonneg hY.1 (show 0 ≤ a by omega); omega
  have hl : Y * a + X < a * b := by
    have := Int.mul_le_mul_of_nonneg_right (show Y + 1 ≤ b by omega) (show 0 ≤ a by omega)
    rw [Int.add_mul, Int.one_mul, Int.mul_comm b a] at this
    omega
  unfold pix
  rw [show min (max Y 0) (b - 1) = Y by omega, show min (max X 0) (a - 1) = X by omega]
  have hk : (Y * a + X).toNat < ps.length := by omega
  rw [List.getD_eq_getElem?_getD]
  simp only [shL, List.getElem?_map, List.getElem?_range hk, Option.map_some, Option.getD_some, shF]
  rw [Int.toNat_of_nonneg hn, Int.tmod_eq_emod_of_nonneg hn, Int.tdiv_eq_ediv_of_nonneg hn, sampV, if_pos h]
  have e1 : (Y * a + X) % a = X := by rw [Int.add_comm, Int.add_mul_emod_self_right]; exact Int.emod_eq_of_lt hX.1 hX.2
  have e2 : (Y * a + X) / a = Y := by rw [Int.add_comm, Int.add_mul_ediv_right _ _ (by omega), Int.ediv_eq_zero_of_lt hX.1 hX.2, Int.zero_add]
  rw [e1, e2]
  rfl
theorem sh_zero {a b x y dx dy : Int} {ps : List Int} (h : picB a b ps = true) (hb : begB a b x y = true) (hdx : -1 ≤ dx ∧ dx ≤ 1) (hdy : -1 ≤ dy ∧ dy ≤ 1) :
    mcV a b (shL a b ps dx dy ps.length) a b ps x y (2 * dx) (2 * dy) = 0 ∧ cst a b (shL a b ps dx dy ps.length) ps x y (2 * dx, 2 * dy) = 0 := by
  have hp := shL_pic dx dy h
  have hv : M.vecB (2 * dx) (2 * dy) = true := by simp [M.vecB]; omega
  have hm : mcB a b (shL a b ps dx dy ps.length) a b ps x y (2 * dx) (2 * dy) = true := by simp [mcB, sameB, hp, h, hb, hv]
  have hbg := begB_bd hb
  have ha := (sideB_bd (picB_iff.1 h).1)
  have hb2 := (sideB_bd (picB_iff.1 h).2.1)
  have hc : cost a b (shL a b ps dx dy ps.length) ps x y (2 * dx) (2 * dy) = 0 := by
    rw [cost, ← sad_self (mvF a b ps x y (2 * dx) (2 * dy)) 64]
    refine sad_congr 64 (fun k hk => ⟨?_, rfl⟩)
    unfold tgt mvF
    rw [show 2 * (x + (k % 8 : Nat)) + 2 * dx = 2 * (x + (k % 8 : Nat) + dx) by omega, show 2 * (y + (k / 8 : Nat)) + 2 * dy = 2 * (y + (k / 8 : Nat) + dy) by omega, halfV_even]
    exact shL_at dx dy _ _ h (by omega) (by omega)
  exact ⟨by rw [mcV, hm, if_pos rfl, hc], hc⟩
theorem sh_found {a b x y dx dy : Int} {ps : List Int} {p : Int × Int} (h : picB a b ps = true) (hb : begB a b x y = true) (hdx : -1 ≤ dx ∧ dx ≤ 1) (hdy : -1 ≤ dy ∧ dy ≤ 1)
    (hp : VBest (cst a b (shL a b ps dx dy ps.length) ps x y) (okB a b (shL a b ps dx dy ps.length) a b ps x y 2) 2 p) : mcV a b (shL a b ps dx dy ps.length) a b ps x y p.1 p.2 = 0 := by
  have hq := shL_pic dx dy h
  have hk : okB a b (shL a b ps dx dy ps.length) a b ps x y 2 = true := by simp [okB, sameB, hq, h, hb]
  have hbest := hp.1 hk
  have hs := hbest.1
  unfold inSq at hs
  have hv : M.vecB p.1 p.2 = true := by simp [M.vecB]; omega
  have hm : mcB a b (shL a b ps dx dy ps.length) a b ps x y p.1 p.2 = true := by simp [mcB, sameB, hq, h, hb, hv]
  have h0 := (sh_zero h hb hdx hdy).2
  have hn := cst_nn (a := a) (b := b) (picB_iff.1 hq).2.2.2 (picB_iff.1 h).2.2.2 x y p
  rw [mcV, hm, if_pos rfl]
  show cst a b (shL a b ps dx dy ps.length) ps x y p = 0
  rcases hbest.2 (2 * dx, 2 * dy) (by unfold inSq; simp only; omega) with e | e
  · rw [← e]; exact h0
  · unfold vlt at e; omega

/-- k samples are there: the box behind Y holds the picture -/
def Tg (Y : World) (a b : Int) (k c : Nat) (A : Option Addr) (zs : List Int) (wr : World) : Prop :=
  zs.length = k ∧ Below Y.heap.size Y wr ∧ Blk wr Y.heap.size #[.int .i64 a, .int .i64 b, .slice A k c] 27 ∧ wr.ownsRow (Y.heap.size + 1) 3 1 (.slice A k c) k (zs.map (Value.int .i64))
theorem Tg.grow {Y wr W' w1 : World} {k c : Nat} {a b : Int} {A : Option Addr} {zs : List Int} (h : Tg Y a b k c A zs wr) (hb : Below wr.heap.size wr W') (hg : W'.grownBy w1 (Value.slice A k c).ownBlock) :
    Below Y.heap.size Y w1 ∧ Blk w1 Y.heap.size #[.int .i64 a, .int .i64 b, .slice A k c] 27 := by
  obtain ⟨h1, h2, h3, h4⟩ := h
  have hz := h2.size
  have hz2 := hb.size
  refine ⟨(h2.trans (hb.mono hz)).grown hg (by omega) (fun x e => by have := (h4.lt x e).1; omega), ?_⟩
  show w1.heap[Y.heap.size]? = _
  rw [hg.block _ (by have := h3.lt; omega) (fun e => by have := (h4.lt _ e.symm).1; omega)]
  exact h3.below hb h3.lt
theorem Tg.step {Y wr W' w1 : World} {k c c' : Nat} {a b z : Int} {A A' : Option Addr} {zs : List Int} (h : Tg Y a b k c A zs wr) (hb : Below wr.heap.size wr W')
    (hown : w1.ownsRow (Y.heap.size + 1) 3 1 (.slice A' (k + 1) c') (k + 1) (zs.map (Value.int .i64) ++ [.int .i64 z])) (hg : W'.grownBy w1 (Value.slice A k c).ownBlock) :
    Tg Y a b (k + 1) c' A' (zs ++ [z]) (w1.setCell ⟨Y.heap.size, 2, none⟩ (.slice A' (k + 1) c')) := by
  obtain ⟨g1, g2⟩ := h.grow hb hg
  refine ⟨by rw [List.length_append, h.1]; rfl, g1.setCell (Nat.le_refl _) _, ?_, ?_⟩
  · have := g2.set 2 (.slice A' (k + 1) c')
    exact this
  · rw [List.map_append]
    refine hown.kept (grownBy_setCell w1 ⟨Y.heap.size, 2, none⟩ _) ?_
    cases e : (Value.slice A' (k + 1) c').ownBlock with
    | none => exact .inl rfl
    | some x => exact .inr (fun e2 => by have h5 := (hown.lt x e).1; simp only [Option.some.injEq] at e2; omega)
theorem Tg.own {Y wr W' : World} {k c : Nat} {a b : Int} {A : Option Addr} {zs : List Int} (h : Tg Y a b k c A zs wr) (hb : Below wr.heap.size wr W') : W'.ownsRow (Y.heap.size + 1) 3 1 (.slice A k c) k (zs.map (Value.int .i64)) := ownsRow_below h.2.2.2 hb
def TgRel (Y : World) (a b : Int) (ps : List Int) (dx dy : Int) (i : Value) (wr : World) : Prop := ∃ (k c : Nat) (A : Option Addr), k ≤ ps.length ∧ i = .int .i64 (k : Int) ∧ Tg Y a b k c A (shL a b ps dx dy k) wr

end Go.Proofs.Ytobphddjoebfjaa
