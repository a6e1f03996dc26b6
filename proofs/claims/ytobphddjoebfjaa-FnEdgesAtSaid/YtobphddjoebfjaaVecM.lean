/- The program's search. -/
import Derived.Test.YtobphddjoebfjaaVecI
import Derived.Test.YtobphddjoebfjaaMore
import Derived.Test.YtobphddjoebfjaaRange
namespace Go.Proofs.Ytobphddjoebfjaa
open Go.RowKit Go.Shelf
set_option linter.unusedVariables false
set_option linter.unusedSimpArgs false

attribute [local go_sem] size_addsW cell?_addsW frozen?_addsW setCell_addsW drew_addsW adds_addsW setCell_twice alloc_adds0 size_adds0 adds_adds0 sel2 sel3 sel4 sel5 sel6 sel7 sel8 sel9 lt_more lt_more2 lt_more3 lt_more4 adds_drew adds_drewN drewN_addsW ltA_1_1 ltA_1_2 ltA_1_3 ltA_1_4 ltA_1_5 ltA_1_6 ltA_2_1 ltA_2_2 ltA_2_3 ltA_2_4 ltA_2_5 ltA_2_6 ltA_3_1 ltA_3_2 ltA_3_3 ltA_3_4 ltA_3_5 ltA_3_6 ltA_4_1 ltA_4_2 ltA_4_3 ltA_4_4 ltA_4_5 ltA_4_6 ltA_5_1 ltA_5_2 ltA_5_3 ltA_5_4 ltA_5_5 ltA_5_6 ltA_6_1 ltA_6_2 ltA_6_3 ltA_6_4 ltA_6_5 ltA_6_6 ltA_7_1 ltA_7_2 ltA_7_3 ltA_7_4 ltA_7_5 ltA_7_6 ltA_8_1 ltA_8_2 ltA_8_3 ltA_8_4 ltA_8_5 ltA_8_6 ltA_9_1 ltA_9_2 ltA_9_3 ltA_9_4 ltA_9_5 ltA_9_6 ltA_10_1 ltA_10_2 ltA_10_3 ltA_10_4 ltA_10_5 ltA_10_6 ltA_11_1 ltA_11_2 ltA_11_3 ltA_11_4 ltA_11_5 ltA_11_6 ltA_12_1 ltA_12_2 ltA_12_3 ltA_12_4 ltA_12_5 ltA_12_6
attribute [local go_sem] Oper.semAt_some

def okB (a b : Int) (ts : List Int) (a' b' : Int) (rs : List Int) (x y n : Int) : Bool := sameB a b ts a' b' rs && begB a b x y && decide (0 ≤ n ∧ n ≤ 8)
def VGot (f : Int × Int → Int) (ok : Bool) (n : Int) (w : World) (e : Ending) (w' : World) : Prop := ∃ p : Int × Int, e = .returned (.agg #[.int .i64 p.1, .int .i64 p.2]) ∧ VBest f ok n p ∧ Below w.heap.size w w'
theorem VGot.zero {f : Int × Int → Int} {n : Int} {w w' : World} (hb : Below w.heap.size w w') : VGot f false n w (.returned (.agg #[.int .i64 0, .int .i64 0])) w' := ⟨(0, 0), rfl, ⟨fun h => (by cases h), fun _ => rfl⟩, hb⟩

theorem KpB.refl (Bn : Nat) (W : World) : KpB Bn W W := fun _ h => h
theorem KpB.set {Bn : Nat} {W W' : World} (h : KpB Bn W W') {q : Addr} (hq : Bn ≠ q.block) (u : Value) : KpB Bn W (W'.setCell q u) := fun v hv => (World.cell?_of_block (w := W') (Below.heap_setCell W' q u Bn hq)).trans (h v hv)
theorem KpB.below {Bn : Nat} {W W' : World} (h : Below W.heap.size W W') : KpB Bn W W' := fun v hv => by
  obtain ⟨o, ho, -⟩ := cells_of_cell hv
  exact (h.cell (p := ⟨Bn, 0, none⟩) (Array.getElem?_eq_some_iff.1 ho).1).trans hv
theorem vls_snoc (pre : List VV) (v : VV) : vls (pre ++ [v]) = vls pre ++ [v.1] := by simp [vls]
theorem cst_nn {a b : Int} {ts rs : List Int} (h : M.samplesB ts = true) (h' : M.samplesB rs = true) (x y : Int) (p : Int × Int) : 0 ≤ cst a b ts rs x y p := by
  rw [cst, ← cost_lists, mvL_len]
  exact (sad_bd 64 (fun k hk => ⟨mvL_bytes h x y 0 0 k, mvL_bytes h' x y p.1 p.2 k⟩)).1
theorem vecs_best {f : Int × Int → Int} (hf : ∀ p, 0 ≤ f p) {n : Nat} (hn : n ≤ 8) : IsBest f (inSq n) (bestL f (vecsL n)).1 := by
  obtain ⟨h1, h2⟩ := vecs_facts hn
  obtain ⟨q, e, hb⟩ := bestL_best hf h1 (by intro e; have := (h2 (0, 0)).2 (by unfold inSq; simp only; omega); rw [e] at this; cases this)
  rw [e]
  exact hb.congr (fun q => (h2 q).symm)
theorem vecs_stop {f : Int × Int → Int} (hf : ∀ p, 0 ≤ f p) {n : Nat} (hn : n ≤ 8) {pre : List (Int × Int)} (hp : pre <+: vecsL n) (hz : (bestL f pre).2 = 0) : IsBest f (inSq n) (bestL f pre).1 := by
  obtain ⟨h1, h2⟩ := vecs_facts hn
  exact (bestL_stop hf h1 hp hz).congr (fun q => (h2 q).symm)
theorem enters_vec : ∀ args w, (callFunc 91 args).run Try.prog w = .ok (.enter 91 args) w := enters_of Try.func91 (by kernel_rfl) rfl

/-- the boxes of a search: the arguments' from g on, the best vector's s, its cost's s + 1 -/
structure MSt (g s : Nat) (a b x y : Int) (sa sr : Value) (w : World) (p : Int × Int) (m : Int) (W : World) : Prop where
  t : Blk W g #[.int .i64 a, .int .i64 b, sa] 27
  r : Blk W (g + 1) #[.int .i64 a, .int .i64 b, sr] 27
  x : Blk W (g + 1 + 1) #[.int .i64 x] 3
  y : Blk W (g + 1 + 1 + 1) #[.int .i64 y] 3
  z : Blk W (g + 1 + 1 + 1 + 1) #[.int .i64 0, .int .i64 0] 53
  p : Blk W s #[.int .i64 p.1, .int .i64 p.2] 53
  m : Blk W (s + 1) #[.int .i64 m] 3
  below : Below w.heap.size w W
  sz : s + 3 ≤ W.heap.size
theorem MSt.done {P : Program} {g s D : Nat} {a b x y m : Int} {sa sr : Value} {w W : World} {p : Int × Int} (h : MSt g s a b x y sa sr w p m W) (hg : w.heap.size ≤ g) (hD : w.heap.size ≤ D) (hK : W.heap[D]? = some (.deferred (some []))) :
    (((W.setCell ⟨g + 1 + 1 + 1 + 1, 0, none⟩ (.int .i64 p.1)).setCell ⟨g + 1 + 1 + 1 + 1, 1, none⟩ (.int .i64 p.2)).heap[D]? = some (.deferred (some []))) ∧
    Blk (((W.setCell ⟨g + 1 + 1 + 1 + 1, 0, none⟩ (.int .i64 p.1)).setCell ⟨g + 1 + 1 + 1 + 1, 1, none⟩ (.int .i64 p.2)).putObj D (.deferred none)) (g + 1 + 1 + 1 + 1) #[.int .i64 p.1, .int .i64 p.2] 53 ∧
    Below w.heap.size w (((W.setCell ⟨g + 1 + 1 + 1 + 1, 0, none⟩ (.int .i64 p.1)).setCell ⟨g + 1 + 1 + 1 + 1, 1, none⟩ (.int .i64 p.2)).putObj D (.deferred none)) := by
  have hK' := ((KeepsOthers.setCell W ⟨g + 1 + 1 + 1 + 1, 0, none⟩ (.int .i64 p.1)).trans (KeepsOthers.setCell _ ⟨g + 1 + 1 + 1 + 1, 1, none⟩ (.int .i64 p.2))).same D _ hK rfl
  refine ⟨hK', ((h.z.set 0 _).set 1 _).put _ hK' rfl, ?_⟩
  exact ((h.below.setCell (by simp only; omega) _).setCell (by simp only; omega) _).trans (belowK_b (w := w) (Nat.le_refl _) _ D _ _ hD hK' rfl rfl)
theorem mst_own {β : Type} (g s : Nat) (a b x y : Int) (sa sr : Value) (w : World) (f : β → (Int × Int) × Int) (B : Nat) (hB : w.heap.size ≤ B) : OwnFrom B (fun q W => MSt g s a b x y sa sr w (f q).1 (f q).2 W) := fun q X Y row h hg hr =>
  have hk := fun r e => (hr r e).2
  ⟨h.t.kept hg hk, h.r.kept hg hk, h.x.kept hg hk, h.y.kept hg hk, h.z.kept hg hk, h.p.kept hg hk, h.m.kept hg hk, h.below.grown hg h.below.size (fun k e => Nat.le_trans hB (hr k e).1), Nat.le_trans h.sz hg.size⟩
theorem MSt.alloc {g s : Nat} {a b x y m : Int} {sa sr : Value} {w W : World} {p : Int × Int} (h : MSt g s a b x y sa sr w p m W) (o : Obj) : MSt g s a b x y sa sr w p m (W.alloc o) :=
  ⟨h.t.alloc o, h.r.alloc o, h.x.alloc o, h.y.alloc o, h.z.alloc o, h.p.alloc o, h.m.alloc o, h.below.alloc h.below.size o, by rw [World.size_alloc]; have := h.sz; omega⟩
theorem MSt.adds {g s : Nat} {a b x y m : Int} {sa sr : Value} {w W : World} {p : Int × Int} (h : MSt g s a b x y sa sr w p m W) (os : Array Obj) (n : Nat) : MSt g s a b x y sa sr w p m (addsW W os n) :=
  ⟨h.t.adds os n, h.r.adds os n, h.x.adds os n, h.y.adds os n, h.z.adds os n, h.p.adds os n, h.m.adds os n, Below.adds_ h.below h.below.size os n, by rw [size_addsW]; have := h.sz; omega⟩
theorem MSt.next {g s : Nat} {a b x y m m' : Int} {sa sr : Value} {w W : World} {p q : Int × Int} (h : MSt g s a b x y sa sr w p m W) (hs : g + 5 ≤ s) (hg : w.heap.size ≤ s) :
    MSt g s a b x y sa sr w q m' (((W.setCell ⟨s, 0, none⟩ (.int .i64 q.1)).setCell ⟨s, 1, none⟩ (.int .i64 q.2)).setCell ⟨s + 1, 0, none⟩ (.int .i64 m')) := by
  have hp := ((h.p.set 0 (.int .i64 q.1)).set 1 (.int .i64 q.2)).other (q := ⟨s + 1, 0, none⟩) (by simp) (.int .i64 m')
  have hm := (((h.m.other (q := ⟨s, 0, none⟩) (by simp) (.int .i64 q.1)).other (q := ⟨s, 1, none⟩) (by simp) (.int .i64 q.2))).set 0 (.int .i64 m')
  exact ⟨((h.t.other (by simp only; omega) _).other (by simp only; omega) _).other (by simp only; omega) _, ((h.r.other (by simp only; omega) _).other (by simp only; omega) _).other (by simp only; omega) _, ((h.x.other (by simp only; omega) _).other (by simp only; omega) _).other (by simp only; omega) _, ((h.y.other (by simp only; omega) _).other (by simp only; omega) _).other (by simp only; omega) _, ((h.z.other (by simp only; omega) _).other (by simp only; omega) _).other (by simp only; omega) _, hp, hm,
    ((h.below.setCell hg _).setCell hg _).setCell (by simp only; omega) _, by simp only [World.size_setCell]; exact h.sz⟩

set_option maxRecDepth 100000 in
set_option maxHeartbeats 4000000 in
theorem I_MotionSearch (a b a' b' x y n : Int) (A A' : Option Addr) (c c' : Nat) (ts rs : List Int) (w : World) (hr : RowAt .i64 w A ts) (hr' : RowAt .i64 w A' rs) (hl : ts.length ≤ 1000000000000) (hl' : rs.length ≤ 1000000000000) :
    Calls Try.prog 44 #[.agg #[.int .i64 a, .int .i64 b, .slice A ts.length c], .agg #[.int .i64 a', .int .i64 b', .slice A' rs.length c'], .int .i64 x, .int .i64 y, .int .i64 n] w (VGot (cst a b ts rs x y) (okB a b ts a' b' rs x y n) n w) := by
  have HR := Lib.hid hr
  have HR' := Lib.hid hr'
  clear hr hr'
  cases h1 : sameB a b ts a' b' rs
  · rw [show okB a b ts a' b' rs x y n = false by simp [okB, h1]]
    go_enter Try.func44, Try.ntmps44
    go_wp2_with (go_at_call 77; refine (I_alike _ _ _ _ _ _ _ _ ts rs _ (HR.out.keep (by repeat' (first | (with_reducible exact Below.refl _ _) | (with_reducible refine Below.adds_ ?_ ?_ _ _) | (with_reducible refine Below.alloc ?_ ?_ _) | (with_reducible refine Below.drew ?_) | (with_reducible refine Below.setCell ?_ ?_ _) | (with_reducible assumption) | go_size | (simp only [size_addsW, World.size_alloc, World.size_drew, World.size_setCell]; omega)))) (HR'.out.keep (by repeat' (first | (with_reducible exact Below.refl _ _) | (with_reducible refine Below.adds_ ?_ ?_ _ _) | (with_reducible refine Below.alloc ?_ ?_ _) | (with_reducible refine Below.drew ?_) | (with_reducible refine Below.setCell ?_ ?_ _) | (with_reducible assumption) | go_size | (simp only [size_addsW, World.size_alloc, World.size_drew, World.size_setCell]; omega)))) (by omega) (by omega)).mono ?_; rintro e w' ⟨rfl, hb⟩; obtain ⟨o1, n1, rfl⟩ := below_adds hb; clear hb)
    go_returns
    exact VGot.zero (by repeat' (first | (with_reducible exact Below.refl _ _) | (with_reducible refine Below.adds_ ?_ ?_ _ _) | (with_reducible refine Below.alloc ?_ ?_ _) | (with_reducible refine Below.drew ?_) | (with_reducible refine Below.setCell ?_ ?_ _) | (with_reducible assumption) | go_size | (simp only [size_addsW, World.size_alloc, World.size_drew, World.size_setCell]; omega)))
  · obtain ⟨hv, hv', rfl, rfl⟩ := sameB_of h1
    have HV := Lib.hid hv
    have HV' := Lib.hid hv'
    have HS := Lib.hid (picB_iff.1 hv).2.2.2
    have HS' := Lib.hid (picB_iff.1 hv').2.2.2
    have hab : a ≤ 32 ∧ b ≤ 32 := ⟨(sideB_bd (picB_iff.1 hv).1).2.1, (sideB_bd (picB_iff.1 hv).2.1).2.1⟩
    clear hv'
    cases h2 : begB a b x y
    · rw [show okB a b ts a b rs x y n = false by simp [okB, h2]]
      go_enter Try.func44, Try.ntmps44
      go_wp2_with (first | (go_at_call 77; refine (I_alike _ _ _ _ _ _ _ _ ts rs _ (HR.out.keep (by repeat' (first | (with_reducible exact Below.refl _ _) | (with_reducible refine Below.adds_ ?_ ?_ _ _) | (with_reducible refine Below.alloc ?_ ?_ _) | (with_reducible refine Below.drew ?_) | (with_reducible refine Below.setCell ?_ ?_ _) | (with_reducible assumption) | go_size | (simp only [size_addsW, World.size_alloc, World.size_drew, World.size_setCell]; omega)))) (HR'.out.keep (by repeat' (first | (with_reducible exact Below.refl _ _) | (with_reducible refine Below.adds_ ?_ ?_ _ _) | (with_reducible refine Below.alloc ?_ ?_ _) | (with_reducible refine Below.drew ?_) | (with_reducible refine Below.setCell ?_ ?_ _) | (with_reducible assumption) | go_size | (simp only [size_addsW, World.size_alloc, World.size_drew, World.size_setCell]; omega)))) (by omega) (by omega)).mono ?_; rintro e w' ⟨rfl, hb⟩; obtain ⟨o1, n1, rfl⟩ := below_adds hb; clear hb) | (go_at_call 73; refine (I_begins _ _ _ _ _ _ _ _).mono ?_; rintro e w' ⟨rfl, hb⟩; obtain ⟨o1, n1, rfl⟩ := below_adds hb; clear hb))
      go_returns
      exact VGot.zero (by repeat' (first | (with_reducible exact Below.refl _ _) | (with_reducible refine Below.adds_ ?_ ?_ _ _) | (with_reducible refine Below.alloc ?_ ?_ _) | (with_reducible refine Below.drew ?_) | (with_reducible refine Below.setCell ?_ ?_ _) | (with_reducible assumption) | go_size | (simp only [size_addsW, World.size_alloc, World.size_drew, World.size_setCell]; omega)))
    · by_cases hn : 0 ≤ n ∧ n ≤ 8
      · rw [show okB a b ts a b rs x y n = true by simp [okB, h1, h2, hn]]
        have hbg := begB_bd h2
        have hxy : 0 ≤ x ∧ x ≤ 32 ∧ 0 ≤ y ∧ y ≤ 32 := by omega
        obtain ⟨N, rfl⟩ : ∃ N : Nat, n = (N : Int) := ⟨n.toNat, by omega⟩
        have hN : N ≤ 8 := by omega
        clear hbg hn
        refine (callsIn_wide (n := 5)).1 ?_
        refine callsIn_of_wp_marks Try.func44 rfl trivial ?_ rfl
        simp only [Try.ntmps44, List.size_toArray, List.length_cons, List.length_nil, Nat.reduceAdd, Nat.reduceSub, Array.replicate_succ, Array.replicate_zero, List.push_toArray, List.append_toArray, List.nil_append, List.cons_append]
        refine (wpIn_wide (n := 5)).2 ?_
        have hn1 : ¬ (N : Int) < 0 := by omega
        have hn2 : ¬ (8 : Int) < (N : Int) := by omega
        go_upto_region 3 with (first | (go_at_call 77; refine (I_alike _ _ _ _ _ _ _ _ ts rs _ (HR.out.keep (by repeat' (first | (with_reducible exact Below.refl _ _) | (with_reducible refine Below.adds_ ?_ ?_ _ _) | (with_reducible refine Below.alloc ?_ ?_ _) | (with_reducible refine Below.drew ?_) | (with_reducible refine Below.setCell ?_ ?_ _) | (with_reducible assumption) | go_size | (simp only [size_addsW, World.size_alloc, World.size_drew, World.size_setCell]; omega)))) (HR'.out.keep (by repeat' (first | (with_reducible exact Below.refl _ _) | (with_reducible refine Below.adds_ ?_ ?_ _ _) | (with_reducible refine Below.alloc ?_ ?_ _) | (with_reducible refine Below.drew ?_) | (with_reducible refine Below.setCell ?_ ?_ _) | (with_reducible assumption) | go_size | (simp only [size_addsW, World.size_alloc, World.size_drew, World.size_setCell]; omega)))) (by omega) (by omega)).mono ?_; rintro e w' ⟨rfl, hb⟩; obtain ⟨o1, n1, rfl⟩ := below_adds hb; clear hb) | (go_at_call 73; refine (I_begins _ _ _ _ _ _ _ _).mono ?_; rintro e w' ⟨rfl, hb⟩; obtain ⟨o1, n1, rfl⟩ := below_adds hb; clear hb))
        have hT : Blk (((((w.alloc (.cells #[.int .i64 a, .int .i64 b, .slice A ts.length c] 27)).alloc (.cells #[.int .i64 a, .int .i64 b, .slice A' rs.length c'] 27)).alloc (.cells #[.int .i64 x] 3)).alloc (.cells #[.int .i64 y] 3)).alloc (.cells #[.int .i64 0, .int .i64 0] 53)) w.heap.size #[.int .i64 a, .int .i64 b, .slice A ts.length c] 27 := ((((Blk.new w _ _ _ rfl).alloc _).alloc _).alloc _).alloc _
        have hRf : Blk (((((w.alloc (.cells #[.int .i64 a, .int .i64 b, .slice A ts.length c] 27)).alloc (.cells #[.int .i64 a, .int .i64 b, .slice A' rs.length c'] 27)).alloc (.cells #[.int .i64 x] 3)).alloc (.cells #[.int .i64 y] 3)).alloc (.cells #[.int .i64 0, .int .i64 0] 53)) (w.heap.size + 1) #[.int .i64 a, .int .i64 b, .slice A' rs.length c'] 27 := (((Blk.new _ _ _ _ (by simp)).alloc _).alloc _).alloc _
        have hXb : Blk (((((w.alloc (.cells #[.int .i64 a, .int .i64 b, .slice A ts.length c] 27)).alloc (.cells #[.int .i64 a, .int .i64 b, .slice A' rs.length c'] 27)).alloc (.cells #[.int .i64 x] 3)).alloc (.cells #[.int .i64 y] 3)).alloc (.cells #[.int .i64 0, .int .i64 0] 53)) (w.heap.size + 1 + 1) #[.int .i64 x] 3 := ((Blk.new _ _ _ _ (by simp)).alloc _).alloc _
        have hYb : Blk (((((w.alloc (.cells #[.int .i64 a, .int .i64 b, .slice A ts.length c] 27)).alloc (.cells #[.int .i64 a, .int .i64 b, .slice A' rs.length c'] 27)).alloc (.cells #[.int .i64 x] 3)).alloc (.cells #[.int .i64 y] 3)).alloc (.cells #[.int .i64 0, .int .i64 0] 53)) (w.heap.size + 1 + 1 + 1) #[.int .i64 y] 3 := (Blk.new _ _ _ _ (by simp)).alloc _
        have hZb : Blk (((((w.alloc (.cells #[.int .i64 a, .int .i64 b, .slice A ts.length c] 27)).alloc (.cells #[.int .i64 a, .int .i64 b, .slice A' rs.length c'] 27)).alloc (.cells #[.int .i64 x] 3)).alloc (.cells #[.int .i64 y] 3)).alloc (.cells #[.int .i64 0, .int .i64 0] 53)) (w.heap.size + 1 + 1 + 1 + 1) #[.int .i64 0, .int .i64 0] 53 := Blk.new _ _ _ _ (by simp)
        have hbw : Below w.heap.size w (((((w.alloc (.cells #[.int .i64 a, .int .i64 b, .slice A ts.length c] 27)).alloc (.cells #[.int .i64 a, .int .i64 b, .slice A' rs.length c'] 27)).alloc (.cells #[.int .i64 x] 3)).alloc (.cells #[.int .i64 y] 3)).alloc (.cells #[.int .i64 0, .int .i64 0] 53)) := (by repeat' (first | (with_reducible exact Below.refl _ _) | (with_reducible refine Below.adds_ ?_ ?_ _ _) | (with_reducible refine Below.alloc ?_ ?_ _) | (with_reducible refine Below.drew ?_) | (with_reducible refine Below.setCell ?_ ?_ _) | (with_reducible assumption) | go_size | (simp only [size_addsW, World.size_alloc, World.size_drew, World.size_setCell]; omega)))
        refine all_add ?_
        intro Z oo nn hZ
        have hT := hZ ▸ hT.adds oo nn
        have hRf := hZ ▸ hRf.adds oo nn
        have hXb := hZ ▸ hXb.adds oo nn
        have hYb := hZ ▸ hYb.adds oo nn
        have hZb := hZ ▸ hZb.adds oo nn
        have hbw := hZ ▸ Below.adds_ hbw hbw.size oo nn
        clear hZ oo nn
        have hs5 : w.heap.size + 5 ≤ Z.heap.size := hZb.lt
        go_wp2_with (go_at_call 80; refine (I_vectorsWithin _ _).mono ?_; rintro e w' ⟨rfl, rfl⟩)
        have hzs := hbw.size
        have M0 : MSt w.heap.size Z.heap.size a b x y (.slice A ts.length c) (.slice A' rs.length c') w (bestL (cst a b ts rs x y) (vls [])).1 (bestL (cst a b ts rs x y) (vls [])).2 (((Z.alloc (.cells #[.int .i64 0, .int .i64 0] 53)).alloc (.cells #[.int .i64 (-1)] 3)).alloc (.cells #[.int .i64 (N : Int)] 3)) :=
          ⟨((hT.alloc _).alloc _).alloc _, ((hRf.alloc _).alloc _).alloc _, ((hXb.alloc _).alloc _).alloc _, ((hYb.alloc _).alloc _).alloc _, ((hZb.alloc _).alloc _).alloc _, ((Blk.new Z _ _ _ rfl).alloc _).alloc _, (Blk.new _ _ _ _ (by simp)).alloc _, (by repeat' (first | (with_reducible exact Below.refl _ _) | (with_reducible refine Below.adds_ ?_ ?_ _ _) | (with_reducible refine Below.alloc ?_ ?_ _) | (with_reducible refine Below.drew ?_) | (with_reducible refine Below.setCell ?_ ?_ _) | (with_reducible assumption) | go_size | (simp only [size_addsW, World.size_alloc, World.size_drew, World.size_setCell]; omega))), by simp⟩
        have hc0 : (((Z.alloc (.cells #[.int .i64 0, .int .i64 0] 53)).alloc (.cells #[.int .i64 (-1)] 3)).alloc (.cells #[.int .i64 (N : Int)] 3)).cell? ⟨Z.heap.size + 1 + 1, 0, none⟩ = some (.int .i64 (N : Int)) := (Blk.new _ _ _ _ (by simp)).get rfl
        have hsz : (((Z.alloc (.cells #[.int .i64 0, .int .i64 0] 53)).alloc (.cells #[.int .i64 (-1)] 3)).alloc (.cells #[.int .i64 (N : Int)] 3)).heap.size = Z.heap.size + 3 := by simp
        clear hT hRf hXb hYb hZb hbw
        generalize ((Z.alloc (.cells #[.int .i64 0, .int .i64 0] 53)).alloc (.cells #[.int .i64 (-1)] 3)).alloc (.cells #[.int .i64 (N : Int)] 3) = W0 at M0 hc0 hsz ⊢
        generalize Z.heap.size = s at M0 hc0 hsz hs5 hzs ⊢
        clear Z
        refine (wpIn_wide (n := 5)).1 ?_
        refine wpIn_rangeFunc_box (k := 13) (enc := fun v : VV => .agg #[.int .i64 v.1.1, .int .i64 v.1.2]) rfl (by omega) (gf := 91) (lb := #[.pointer (some ⟨s + 1 + 1, 0, none⟩)]) rfl trivial enters_vec
          (vec_stops (5 - 1) (s + 1 + 1) N (by omega) hN W0 (by omega) hc0) KpB.trans kpB_b (Below.refl _ _)
          (fun pre W => MSt w.heap.size s a b x y (.slice A ts.length c) (.slice A' rs.length c') w (bestL (cst a b ts rs x y) (vls pre)).1 (bestL (cst a b ts rs x y) (vls pre)).2 W)
          (fun cd pre W => cd = .exit 0 ∧ (bestL (cst a b ts rs x y) (vls pre)).2 = 0 ∧ MSt w.heap.size s a b x y (.slice A ts.length c) (.slice A' rs.length c') w (bestL (cst a b ts rs x y) (vls pre)).1 (bestL (cst a b ts rs x y) (vls pre)).2 W)
          (mst_own w.heap.size s a b x y _ _ w (fun pre => bestL (cst a b ts rs x y) (vls pre)) _ (by omega))
          (fun cd => OwnFrom.and (ownFrom_pure _ _) (OwnFrom.and (ownFrom_pure _ _) (mst_own w.heap.size s a b x y _ _ w (fun pre => bestL (cst a b ts rs x y) (vls pre)) _ (by omega)))) M0
          (fun v Bx W => s + 1 + 1 < Bx ∧ Blk W Bx #[.int .i64 v.1.1, .int .i64 v.1.2] 53)
          (fun v Bx => OwnFrom.and (ownFrom_pure _ _) (blk_own _ _ (fun _ => #[.int .i64 v.1.1, .int .i64 v.1.2]) _)) ?assign ?body ?done ?stop
        case assign =>
          rintro l pre v W K M1 hK
          have h1 := M1.m.lt
          simp only [List.setIfInBounds_toArray, List.set_cons_zero, List.set_cons_succ] at hK ⊢
          gi_wp2
          exact hK _ _ (keepsFrom_below (Below.alloc (Below.refl _ _) (Nat.le_refl _) _)) (KpB.below (Below.alloc (Below.refl _ _) (Nat.le_refl _) _)) (M1.alloc _) ⟨by have := M1.sz; omega, Blk.new _ _ _ _ rfl⟩
        case body =>
          rintro l pre v Bx W hl M1 ⟨hBx, hV⟩ hlt
          simp only [List.setIfInBounds_toArray, List.set_cons_zero, List.set_cons_succ]
          obtain ⟨q, hq⟩ : ∃ q, q = cst a b ts rs x y v.1 := ⟨_, rfl⟩
          have HQ := Lib.hid hq
          have hvb := v.2
          have HC := Lib.hid (show ∀ W', Below w.heap.size w W' → Calls Try.prog 78 #[.agg #[.int .i64 a, .int .i64 b, .slice A ts.length c], .agg #[.int .i64 a, .int .i64 b, .slice A' rs.length c'], .int .i64 x, .int .i64 y, .agg #[.int .i64 v.1.1, .int .i64 v.1.2]] W' fun e w' => e = .returned (.int .i64 q) ∧ Below W'.heap.size W' w' from fun W' hb => by
            rw [hq]
            exact I_motionCost a b x y _ _ A A' c c' ts rs _ (HR.out.keep hb) (HR'.out.keep hb) HV.out HV'.out (by omega) (by omega) (by omega) (by omega))
          clear hq hvb
          have hM := Lib.hid M1
          obtain ⟨m, hm⟩ : ∃ m, m = (bestL (cst a b ts rs x y) (vls pre)).2 := ⟨_, rfl⟩
          have HMm := Lib.hid hm
          have t0 := M1.t.get (i := 0) rfl
          have t1 := M1.t.get (i := 1) rfl
          have t2 := M1.t.get (i := 2) rfl
          have r0 := M1.r.get (i := 0) rfl
          have r1 := M1.r.get (i := 1) rfl
          have r2 := M1.r.get (i := 2) rfl
          have x0 := M1.x.get (i := 0) rfl
          have y0 := M1.y.get (i := 0) rfl
          have p0 := M1.p.get (i := 0) rfl
          have p1 := M1.p.get (i := 1) rfl
          have m0 := M1.m.get (i := 0) rfl
          have v0 := hV.get (i := 0) rfl
          have v1 := hV.get (i := 1) rfl
          have f0 := M1.p.hot 0
          have f1 := M1.p.hot 1
          have f2 := M1.m.hot 0
          have lt := M1.t.lt
          have lr := M1.r.lt
          have lx := M1.x.lt
          have ly := M1.y.lt
          have lp := M1.p.lt
          have lm := M1.m.lt
          have lv := hV.lt
          rw [← hm] at m0
          clear hm M1
          have hs6 : w.heap.size + 5 ≤ s := hs5
          by_cases hrep : m < 0 ∨ q < m
          · have HE := Lib.hid (show bestL (cst a b ts rs x y) (vls (pre ++ [v])) = (v.1, q) by rw [vls_snoc, bestL_snoc, if_pos (by rw [← HMm.out, ← HQ.out]; exact hrep), ← HQ.out])
            have HN := Lib.hid (show ∀ Q : Int, Q = q → ∀ (o1 : Array Obj) (n1 : Nat), MSt w.heap.size s a b x y (.slice A ts.length c) (.slice A' rs.length c') w (bestL (cst a b ts rs x y) (vls (pre ++ [v]))).1 (bestL (cst a b ts rs x y) (vls (pre ++ [v]))).2 (addsW (((W.setCell ⟨s, 0, none⟩ (.int .i64 v.1.1)).setCell ⟨s, 1, none⟩ (.int .i64 v.1.2)).setCell ⟨s + 1, 0, none⟩ (.int .i64 Q)) o1 n1) from by
              rintro Q rfl o1 n1
              rw [HE.out]
              exact (hM.out.next hs6 (by omega)).adds o1 n1)
            by_cases hq0 : q = 0
            · subst hq0
              rcases (show m < 0 ∨ (¬ m < 0 ∧ 0 < m) by omega) with hm1 | hm1
              · clear hrep
                gi_wp2_with (refine ⟨trivial, ?_⟩; gi_at_call 78; refine (CallsIn.inRound l (callsIn_wide.2 (HC.out _ hM.out.below))).mono ?_; rintro e w' ⟨rfl, hb⟩; obtain ⟨o1, n1, rfl⟩ := below_adds hb; clear hb)
                have hN := HN.out 0 rfl o1 n1
                exact ⟨((((KeepsOthers.setCell W _ _).trans (KeepsOthers.setCell _ _ _)).trans (KeepsOthers.setCell _ _ _)).from _).trans (keepsFrom_below (addsW_below _ o1 n1)), rfl, by rw [HE.out], hN⟩
              · clear hrep
                obtain ⟨hm1, hm2⟩ := hm1
                gi_wp2_with (refine ⟨trivial, ?_⟩; gi_at_call 78; refine (CallsIn.inRound l (callsIn_wide.2 (HC.out _ hM.out.below))).mono ?_; rintro e w' ⟨rfl, hb⟩; obtain ⟨o1, n1, rfl⟩ := below_adds hb; clear hb)
                have hN := HN.out 0 rfl o1 n1
                exact ⟨((((KeepsOthers.setCell W _ _).trans (KeepsOthers.setCell _ _ _)).trans (KeepsOthers.setCell _ _ _)).from _).trans (keepsFrom_below (addsW_below _ o1 n1)), rfl, by rw [HE.out], hN⟩
            · have hqb : (q == 0) = false := by simp [hq0]
              rcases (show m < 0 ∨ (¬ m < 0 ∧ q < m) by omega) with hm1 | hm1
              · clear hrep
                gi_wp2_with (refine ⟨trivial, ?_⟩; gi_at_call 78; refine (CallsIn.inRound l (callsIn_wide.2 (HC.out _ hM.out.below))).mono ?_; rintro e w' ⟨rfl, hb⟩; obtain ⟨o1, n1, rfl⟩ := below_adds hb; clear hb)
                have hN := HN.out q rfl o1 n1
                exact ⟨((((KeepsOthers.setCell W _ _).trans (KeepsOthers.setCell _ _ _)).trans (KeepsOthers.setCell _ _ _)).from _).trans (keepsFrom_below (addsW_below _ o1 n1)), KpB.trans (((KpB.refl _ W).set (by simp only; omega) _).set (by simp only; omega) _ |>.set (by simp only; omega) _) (KpB.below (addsW_below _ o1 n1)), hN⟩
              · clear hrep
                obtain ⟨hm1, hm2⟩ := hm1
                gi_wp2_with (refine ⟨trivial, ?_⟩; gi_at_call 78; refine (CallsIn.inRound l (callsIn_wide.2 (HC.out _ hM.out.below))).mono ?_; rintro e w' ⟨rfl, hb⟩; obtain ⟨o1, n1, rfl⟩ := below_adds hb; clear hb)
                have hN := HN.out q rfl o1 n1
                exact ⟨((((KeepsOthers.setCell W _ _).trans (KeepsOthers.setCell _ _ _)).trans (KeepsOthers.setCell _ _ _)).from _).trans (keepsFrom_below (addsW_below _ o1 n1)), KpB.trans (((KpB.refl _ W).set (by simp only; omega) _).set (by simp only; omega) _ |>.set (by simp only; omega) _) (KpB.below (addsW_below _ o1 n1)), hN⟩
          · have hm1 : ¬ m < 0 := by omega
            have hm2 : ¬ q < m := by omega
            have HE := Lib.hid (show bestL (cst a b ts rs x y) (vls (pre ++ [v])) = bestL (cst a b ts rs x y) (vls pre) by rw [vls_snoc, bestL_snoc, if_neg (by rw [← HMm.out, ← HQ.out]; exact hrep)])
            clear hrep
            gi_wp2_with (refine ⟨trivial, ?_⟩; gi_at_call 78; refine (CallsIn.inRound l (callsIn_wide.2 (HC.out _ hM.out.below))).mono ?_; rintro e w' ⟨rfl, hb⟩; obtain ⟨o1, n1, rfl⟩ := below_adds hb; clear hb)
            exact ⟨keepsFrom_below (addsW_below W o1 n1), KpB.below (addsW_below W o1 n1), by simp only [HE.out]; exact hM.out.adds o1 n1⟩
        case done =>
          rintro D ys W hD hS M1 hK
          rw [hS] at M1
          obtain ⟨q1, q2, q3⟩ := M1.done (P := Try.prog) (Nat.le_refl _) (by omega) hK
          have p0 := M1.p.get (i := 0) rfl
          have p1 := M1.p.get (i := 1) rfl
          have z0 := M1.z.get (i := 0) rfl
          have z1 := M1.z.get (i := 1) rfl
          have f0 := M1.z.hot 0
          have f1 := M1.z.hot 1
          go_wp2_with fail
          refine ⟨by simp, .inl ⟨_, _, rfl, run_takeDeferred q1, ?_⟩⟩
          refine ⟨_, results_cell_row Try.results44 _ _ (w.heap.size + 1 + 1 + 1 + 1) 53 _ (0, 0) _ rfl q2 Try.underlying53 rfl (by kernel_rfl), ⟨_, rfl, ⟨fun _ => vecs_best (cst_nn HS.out HS'.out x y) hN, fun h => (by cases h)⟩, q3⟩⟩
        case stop =>
          rintro D cd pre W hD hS ⟨rfl, hz, M1⟩ hK
          obtain ⟨q1, q2, q3⟩ := M1.done (P := Try.prog) (Nat.le_refl _) (by omega) hK
          have p0 := M1.p.get (i := 0) rfl
          have p1 := M1.p.get (i := 1) rfl
          have z0 := M1.z.get (i := 0) rfl
          have z1 := M1.z.get (i := 1) rfl
          have f0 := M1.z.hot 0
          have f1 := M1.z.hot 1
          refine (wpIn_wide (n := 5)).2 ?_
          go_wp2_with fail
          refine ⟨by simp, .inl ⟨_, _, rfl, run_takeDeferred q1, ?_⟩⟩
          refine ⟨_, results_cell_row Try.results44 _ _ (w.heap.size + 1 + 1 + 1 + 1) 53 _ (0, 0) _ rfl q2 Try.underlying53 rfl (by kernel_rfl), ⟨_, rfl, ⟨fun _ => vecs_stop (cst_nn HS.out HS'.out x y) hN hS hz, fun h => (by cases h)⟩, q3⟩⟩
      · rw [show okB a b ts a b rs x y n = false by simp only [okB, decide_eq_false hn, Bool.and_false]]
        rcases (show n < 0 ∨ 8 < n by omega) with hn | hn
        · go_enter Try.func44, Try.ntmps44
          go_wp2_with (first | (go_at_call 77; refine (I_alike _ _ _ _ _ _ _ _ ts rs _ (HR.out.keep (by repeat' (first | (with_reducible exact Below.refl _ _) | (with_reducible refine Below.adds_ ?_ ?_ _ _) | (with_reducible refine Below.alloc ?_ ?_ _) | (with_reducible refine Below.drew ?_) | (with_reducible refine Below.setCell ?_ ?_ _) | (with_reducible assumption) | go_size | (simp only [size_addsW, World.size_alloc, World.size_drew, World.size_setCell]; omega)))) (HR'.out.keep (by repeat' (first | (with_reducible exact Below.refl _ _) | (with_reducible refine Below.adds_ ?_ ?_ _ _) | (with_reducible refine Below.alloc ?_ ?_ _) | (with_reducible refine Below.drew ?_) | (with_reducible refine Below.setCell ?_ ?_ _) | (with_reducible assumption) | go_size | (simp only [size_addsW, World.size_alloc, World.size_drew, World.size_setCell]; omega)))) (by omega) (by omega)).mono ?_; rintro e w' ⟨rfl, hb⟩; obtain ⟨o1, n1, rfl⟩ := below_adds hb; clear hb) | (go_at_call 73; refine (I_begins _ _ _ _ _ _ _ _).mono ?_; rintro e w' ⟨rfl, hb⟩; obtain ⟨o1, n1, rfl⟩ := below_adds hb; clear hb))
          go_returns
          exact VGot.zero (by repeat' (first | (with_reducible exact Below.refl _ _) | (with_reducible refine Below.adds_ ?_ ?_ _ _) | (with_reducible refine Below.alloc ?_ ?_ _) | (with_reducible refine Below.drew ?_) | (with_reducible refine Below.setCell ?_ ?_ _) | (with_reducible assumption) | go_size | (simp only [size_addsW, World.size_alloc, World.size_drew, World.size_setCell]; omega)))
        · have hn0 : ¬ n < 0 := by omega
          go_enter Try.func44, Try.ntmps44
          go_wp2_with (first | (go_at_call 77; refine (I_alike _ _ _ _ _ _ _ _ ts rs _ (HR.out.keep (by repeat' (first | (with_reducible exact Below.refl _ _) | (with_reducible refine Below.adds_ ?_ ?_ _ _) | (with_reducible refine Below.alloc ?_ ?_ _) | (with_reducible refine Below.drew ?_) | (with_reducible refine Below.setCell ?_ ?_ _) | (with_reducible assumption) | go_size | (simp only [size_addsW, World.size_alloc, World.size_drew, World.size_setCell]; omega)))) (HR'.out.keep (by repeat' (first | (with_reducible exact Below.refl _ _) | (with_reducible refine Below.adds_ ?_ ?_ _ _) | (with_reducible refine Below.alloc ?_ ?_ _) | (with_reducible refine Below.drew ?_) | (with_reducible refine Below.setCell ?_ ?_ _) | (with_reducible assumption) | go_size | (simp only [size_addsW, World.size_alloc, World.size_drew, World.size_setCell]; omega)))) (by omega) (by omega)).mono ?_; rintro e w' ⟨rfl, hb⟩; obtain ⟨o1, n1, rfl⟩ := below_adds hb; clear hb) | (go_at_call 73; refine (I_begins _ _ _ _ _ _ _ _).mono ?_; rintro e w' ⟨rfl, hb⟩; obtain ⟨o1, n1, rfl⟩ := below_adds hb; clear hb))
          go_returns
          exact VGot.zero (by repeat' (first | (with_reducible exact Below.refl _ _) | (with_reducible refine Below.adds_ ?_ ?_ _ _) | (with_reducible refine Below.alloc ?_ ?_ _) | (with_reducible refine Below.drew ?_) | (with_reducible refine Below.setCell ?_ ?_ _) | (with_reducible assumption) | go_size | (simp only [size_addsW, World.size_alloc, World.size_drew, World.size_setCell]; omega)))

end Go.Proofs.Ytobphddjoebfjaa
