/- What the draws of a picture (one in n invalid) and of a position answer. -/
import Derived.Test.YtobphddjoebfjaaDrawG
import Derived.LoopTactic
import Derived.Deep.DeepCutAuto
import Derived.Deep.RegionHeld3
import Derived.Deep.RegionWith
namespace Go.Proofs.Ytobphddjoebfjaa
open Go.RowKit
set_option linter.unusedVariables false
set_option linter.unusedSimpArgs false

attribute [local go_sem] size_addsW cell?_addsW frozen?_addsW setCell_addsW drew_addsW adds_addsW setCell_twice alloc_adds0 size_adds0 adds_adds0 sel2 sel3 sel4 sel5 sel6 sel7 sel8 sel9 lt_more lt_more2 lt_more3 lt_more4 adds_drew adds_drewN drewN_addsW ltA_1_1 ltA_1_2 ltA_1_3 ltA_1_4 ltA_1_5 ltA_1_6 ltA_2_1 ltA_2_2 ltA_2_3 ltA_2_4 ltA_2_5 ltA_2_6 ltA_3_1 ltA_3_2 ltA_3_3 ltA_3_4 ltA_3_5 ltA_3_6 ltA_4_1 ltA_4_2 ltA_4_3 ltA_4_4 ltA_4_5 ltA_4_6 ltA_5_1 ltA_5_2 ltA_5_3 ltA_5_4 ltA_5_5 ltA_5_6 ltA_6_1 ltA_6_2 ltA_6_3 ltA_6_4 ltA_6_5 ltA_6_6 ltA_7_1 ltA_7_2 ltA_7_3 ltA_7_4 ltA_7_5 ltA_7_6 ltA_8_1 ltA_8_2 ltA_8_3 ltA_8_4 ltA_8_5 ltA_8_6 ltA_9_1 ltA_9_2 ltA_9_3 ltA_9_4 ltA_9_5 ltA_9_6 ltA_10_1 ltA_10_2 ltA_10_3 ltA_10_4 ltA_10_5 ltA_10_6 ltA_11_1 ltA_11_2 ltA_11_3 ltA_11_4 ltA_11_5 ltA_11_6 ltA_12_1 ltA_12_2 ltA_12_3 ltA_12_4 ltA_12_5 ltA_12_6

theorem setCell_alloc_ {w : World} {b i : Nat} {v : Value} {o : Obj} (h : b < w.heap.size) : (w.alloc o).setCell ⟨b, i, none⟩ v = (w.setCell ⟨b, i, none⟩ v).alloc o := by
  rw [alloc_as, alloc_as, setCell_addsW _ _ _ _ _ _ h]; rfl
/-- a reader that has moved on behind a box of the caller's -/
theorem Moved.boxed {w : World} {B p K q : Nat} {o : Obj} {oo : Array Obj} {nn : Nat} (hB : B < w.heap.size) (hq : q ≤ p + K) : Moved (w.alloc o) B p K (addsW ((w.setCell ⟨B, 1, none⟩ (.int .i64 (q : Int))).alloc o) oo nn) := by
  rw [← setCell_alloc_ hB]; exact (Moved.base hq).adds _ _
theorem Moved.boxed0 {w : World} {B p K q : Nat} {o : Obj} (hB : B < w.heap.size) (hq : q ≤ p + K) : Moved (w.alloc o) B p K ((w.setCell ⟨B, 1, none⟩ (.int .i64 (q : Int))).alloc o) := by
  rw [← setCell_alloc_ hB]; exact Moved.base hq
theorem Moved.unbox {w w' : World} {B p K : Nat} {o : Obj} (hB : B < w.heap.size) (h : Moved (w.alloc o) B p K w') : ∃ q oo nn, q ≤ p + K ∧ w' = addsW ((w.setCell ⟨B, 1, none⟩ (.int .i64 (q : Int))).alloc o) oo nn := by
  obtain ⟨q, oo, nn, hq, rfl⟩ := h
  exact ⟨q, oo, nn, hq, by rw [setCell_alloc_ hB]⟩
theorem Moved.unbox2 {w w' : World} {B p K : Nat} {o1 o2 : Obj} (hB : B < w.heap.size) (h : Moved ((w.alloc o1).alloc o2) B p K w') : ∃ q oo nn, q ≤ p + K ∧ w' = addsW (((w.setCell ⟨B, 1, none⟩ (.int .i64 (q : Int))).alloc o1).alloc o2) oo nn := by
  obtain ⟨q, oo, nn, hq, rfl⟩ := h
  exact ⟨q, oo, nn, hq, by rw [setCell_alloc_ (by simp; omega), setCell_alloc_ hB]⟩
theorem Moved.boxed2 {w : World} {B p K q : Nat} {o1 o2 : Obj} {oo : Array Obj} {nn : Nat} (hB : B < w.heap.size) (hq : q ≤ p + K) : Moved ((w.alloc o1).alloc o2) B p K (addsW (((w.setCell ⟨B, 1, none⟩ (.int .i64 (q : Int))).alloc o1).alloc o2) oo nn) := by
  rw [← setCell_alloc_ hB, ← setCell_alloc_ (by simp; omega)]; exact (Moved.base hq).adds _ _
theorem Moved.boxed20 {w : World} {B p K q : Nat} {o1 o2 : Obj} (hB : B < w.heap.size) (hq : q ≤ p + K) : Moved ((w.alloc o1).alloc o2) B p K (((w.setCell ⟨B, 1, none⟩ (.int .i64 (q : Int))).alloc o1).alloc o2) := by
  rw [← setCell_alloc_ hB, ← setCell_alloc_ (by simp; omega)]; exact Moved.base hq

theorem RowAt.set {k : IntKind} {w : World} {b off i : Nat} {zs : List Int} {z : Int} (h : RowAt k w (some ⟨b, off, none⟩) zs) (hi : i < zs.length) : RowAt k (w.setCell ⟨b, off + i, none⟩ (.int k z)) (some ⟨b, off, none⟩) (zs.set i z) := fun hne => by
  obtain ⟨b', off', e, hb, hc⟩ := h (by intro e; subst e; simp at hi)
  injection e with e; injection e with e1 e2; subst e1 e2
  refine ⟨b, off, rfl, by simpa [World.setCell] using hb, fun j hj => ?_⟩
  have hj' : j < zs.length := by simpa using hj
  rw [cells_set (hc i hi), hc j hj', List.getD_eq_getElem?_getD, List.getD_eq_getElem?_getD, List.getElem?_set]
  by_cases e : j = i
  · subst e; simp [hj']
  · rw [if_neg e, if_neg (fun h => e h.symm)]
theorem RowAt.set0 {k : IntKind} {w : World} {b i : Nat} {zs : List Int} {z : Int} (h : RowAt k w (some ⟨b, 0, none⟩) zs) (hi : i < zs.length) : RowAt k (w.setCell ⟨b, i, none⟩ (.int k z)) (some ⟨b, 0, none⟩) (zs.set i z) := by
  have := h.set (z := z) hi
  rwa [Nat.zero_add] at this
theorem RowAt.tail {k : IntKind} {w : World} {b : Nat} {zs : List Int} (h : RowAt k w (some ⟨b, 0, none⟩) zs) (hz : 1 ≤ zs.length) : RowAt k w (some ⟨b, 1, none⟩) (zs.drop 1) := fun hne => by
  obtain ⟨b', off', e, hb, hc⟩ := h (by intro e; subst e; simp at hz)
  injection e with e; injection e with e1 e2; subst e1 e2
  refine ⟨b, 1, rfl, hb, fun j hj => ?_⟩
  have := hc (1 + j) (by simp at hj; omega)
  rw [Nat.zero_add] at this
  rw [this, List.getD_eq_getElem?_getD, List.getD_eq_getElem?_getD, List.getElem?_drop]

theorem RowAt.deep {k : IntKind} {W W' : World} {oo : Array Obj} {nn nn' g off : Nat} {zs : List Int} (h : RowAt k (addsW W oo nn) (some ⟨g, off, none⟩) zs) (hs : W'.heap.size = W.heap.size) (hg : W.heap.size ≤ g) : RowAt k (addsW W' oo nn') (some ⟨g, off, none⟩) zs := fun hne => by
  obtain ⟨b', off', e, hb, hc⟩ := h hne
  injection e with e; injection e with e1 e2; subst e1 e2
  exact ⟨g, off, rfl, by simp only [size_addsW] at hb ⊢; omega, fun j hj => (cell_swap hs hg).trans (hc j hj)⟩

theorem RowAt.adds {k : IntKind} {w : World} {A : Option Addr} {zs : List Int} (h : RowAt k w A zs) (os : Array Obj) (n : Nat) : RowAt k (addsW w os n) A zs := h.keep (addsW_below _ _ _)
theorem RowAt.alloc {k : IntKind} {w : World} {A : Option Addr} {zs : List Int} (h : RowAt k w A zs) (o : Obj) : RowAt k (w.alloc o) A zs := h.keep (by rw [alloc_as]; exact addsW_below _ _ _)

/-- a picture, valid or not -/
def PicAny (K : Nat) (W : World) (B p : Nat) (e : Ending) (w' : World) : Prop :=
  ∃ (a b : Int) (A : Option Addr) (c : Nat) (zs : List Int), e = .returned (.agg #[.int .i64 a, .int .i64 b, .slice A zs.length c]) ∧ -8 ≤ a ∧ a ≤ 40 ∧ 0 ≤ b ∧ b ≤ 40 ∧ zs.length ≤ 1024 ∧ zs.length ≤ c ∧ c ≤ maxLen ∧ RowAt .i64 w' A zs ∧ (∀ d, A = some d → W.heap.size ≤ d.block) ∧ Moved W B p K w'

theorem RowAt.far {k : IntKind} {w : World} {b off : Nat} {zs : List Int} {q : Addr} {v : Value} (h : RowAt k w (some ⟨b, off, none⟩) zs) (hq : q.block ≠ b) : RowAt k (w.setCell q v) (some ⟨b, off, none⟩) zs := fun hne => by
  obtain ⟨b', off', e, hb, hc⟩ := h hne
  injection e with e; injection e with e1 e2; subst e1 e2
  exact ⟨b, off, rfl, by simpa [World.setCell] using hb, fun j hj => (World.cell?_setCell_other w q ⟨b, off + j, none⟩ _ (fun e => hq (by first | exact congrArg Addr.block e | exact (congrArg Addr.block e).symm))).trans (hc j hj)⟩

theorem pic_fin {w : World} {B p K q q' g c i nn nn' k : Nat} {a b z : Int} {zs : List Int} {v1 v2 v3 : Value} {R o1 o2 : Obj} {oo : Array Obj} (hB : B < w.heap.size) (hr : RowAt .i64 (addsW ((w.setCell ⟨B, 1, none⟩ (.int .i64 (q : Int))).alloc R) oo nn) (some ⟨g, 0, none⟩) zs) (hi : i < zs.length)
    (ha : -8 ≤ a ∧ a ≤ 40) (hb : 0 ≤ b ∧ b ≤ 40) (hz : zs.length ≤ 1024) (hzc : zs.length ≤ c) (hc : c ≤ maxLen) (hg : w.heap.size + 1 ≤ g) (hq : q' ≤ p + K) :
    PicAny K w B p (.returned (.agg #[.int .i64 a, .int .i64 b, .slice (some ⟨g, 0, none⟩) zs.length c])) (addsW (((((((addsW ((w.setCell ⟨B, 1, none⟩ (.int .i64 (q' : Int))).alloc R) oo nn').setCell ⟨g, i, none⟩ (.int .i64 z)).setCell ⟨w.heap.size, 0, none⟩ v1).setCell ⟨w.heap.size, 1, none⟩ v2).setCell ⟨w.heap.size, 2, none⟩ v3).alloc o1).alloc o2) #[] k) := by
  refine ⟨a, b, some ⟨g, 0, none⟩, c, zs.set i z, by rw [List.length_set], ha.1, ha.2, hb.1, hb.2, by rw [List.length_set]; exact hz, by rw [List.length_set]; exact hzc, hc, ?_, fun d hd => by cases hd; show w.heap.size ≤ g; omega, ?_⟩
  · have hne : w.heap.size ≠ g := by omega
    exact ((((((((hr.deep (W' := (w.setCell ⟨B, 1, none⟩ (.int .i64 (q' : Int))).alloc R) (nn' := nn') (by simp) (by simp; omega)).set0 (z := z) hi).far hne).far hne).far hne).alloc o1).alloc o2).adds #[] k)
  · exact (((((((((Moved.base (W := w) (B := B) hq).alloc R).adds oo nn').own hB (show w.heap.size ≤ g by omega) _).own hB (Nat.le_refl w.heap.size) _).own hB (Nat.le_refl w.heap.size) _).own hB (Nat.le_refl w.heap.size) _).alloc o1).alloc o2).adds #[] k

set_option maxHeartbeats 4000000 in
theorem S_l20Picture (B p : Nat) (n : Int) (w : World) (h : RdAt w B p) (hp : p ≤ 800000000) (hn : -1000000 ≤ n) :
    Calls Try.prog 59 #[.pointer (some ⟨B, 0, none⟩), .int .i64 n] w (PicAny 1040 w B p) := by
  have hB := h.lt
  have hR := Lib.hid h
  clear h
  go_enter Try.func59, Try.ntmps59
  go_wp2_with fail
  refine (S_l20Size B _ _ (by repeat (first | (with_reducible exact hR.out) | (with_reducible apply RdAt.adds) | (with_reducible apply RdAt.alloc) | (with_reducible exact RdAt.set hR.out _) | (with_reducible apply RdAt.drew))) (by omega)).mono ?_
  rintro e w' ⟨a, rfl, ha0, ha1, q1, o1, k1, hq1, rfl⟩
  go_wp2_with fail
  refine (S_l20Size B _ _ (by repeat (first | (with_reducible exact hR.out) | (with_reducible apply RdAt.adds) | (with_reducible apply RdAt.alloc) | (with_reducible exact RdAt.set hR.out _) | (with_reducible apply RdAt.drew))) (by omega)).mono ?_
  rintro e w' ⟨b, rfl, hb0, hb1, q2, o2, k2, hq2, rfl⟩
  go_wp2_with fail
  refine (S_l20Pic B _ a b _ (by repeat (first | (with_reducible exact hR.out) | (with_reducible apply RdAt.adds) | (with_reducible apply RdAt.alloc) | (with_reducible exact RdAt.set hR.out _) | (with_reducible apply RdAt.drew))) (by omega) (by omega) (by omega)).mono ?_
  rintro e w' ⟨g, c, zs, rfl, hz, hzc, hcm, hrow, hsoft, hg0, hg1, hmov⟩
  have hM : Moved (w.alloc (.cells #[.int .i64 0, .int .i64 0, .slice none 0 0] 27)) B p 1031 w' := Moved.trans (by simp; omega) (Moved.boxed hB (show q2 ≤ p + 2 by omega)) hmov (by omega)
  have hg : w.heap.size + 1 ≤ g := by simp only [size_addsW, World.size_alloc, World.size_setCell] at hg0; omega
  clear hmov hg0
  obtain ⟨q, oo, nn, hq, rfl⟩ := hM.unbox hB
  simp only [size_addsW, World.size_alloc, World.size_setCell] at hg1
  clear hM hq1 hq2
  have HR := Lib.hid hrow
  have HS := Lib.hid hsoft
  have HZ := Lib.hid hz
  have hzl : 64 ≤ zs.length ∧ zs.length ≤ 1024 := by
    rw [hz]; exact ⟨Nat.mul_le_mul ha0 hb0, Nat.mul_le_mul ha1 hb1⟩
  clear hrow hz hsoft
  go_wp2_with fail
  refine (S_odd B _ _ _ (by repeat (first | (with_reducible exact hR.out) | (with_reducible apply RdAt.adds) | (with_reducible apply RdAt.alloc) | (with_reducible exact RdAt.set hR.out _) | (with_reducible apply RdAt.drew))) (by omega) (by omega)).mono ?_
  rintro e w' ⟨v, p1, k1, rfl, hp1, rfl⟩
  cases v
  · go_wp2_with fail
    go_returns
    exact ⟨_, _, _, c, zs, rfl, (by first | omega | exact (selB _ (-8) 40 (by decide)).1), (by first | omega | exact (selB _ (-8) 40 (by decide)).2), (by first | omega | exact (selB _ 0 40 (by decide)).1), (by first | omega | exact (selB _ 0 40 (by decide)).2), by omega, hzc, hcm, (by repeat (first | (exact HR.out.deep (by simp) (by simp; omega)) | (with_reducible apply RowAt.adds) | (with_reducible apply RowAt.alloc))), fun d hd => by cases hd; show w.heap.size ≤ g; omega, (by repeat (first | (with_reducible apply Moved.adds) | (with_reducible apply Moved.alloc) | (with_reducible apply Moved.drew) | (exact Moved.base (by omega))))⟩
  · go_wp2_with fail
    (refine (S_pick B _ _ _ (by repeat (first | (with_reducible exact hR.out) | (with_reducible apply RdAt.adds) | (with_reducible apply RdAt.alloc) | (with_reducible exact RdAt.set hR.out _) | (with_reducible apply RdAt.drew))) (by omega)).mono ?_; rintro e w' ⟨v5, p5, k5, rfl, hv, hp5, rfl⟩; have hv5 := hv.1 (by omega); clear hv)
    rcases (show v5 = 0 ∨ v5 = 1 ∨ v5 = 2 ∨ v5 = 3 ∨ v5 = 4 by omega) with rfl | rfl | rfl | rfl | rfl
    · clear hv5
      go_wp2_with fail
      (refine (S_pick B _ _ _ (by repeat (first | (with_reducible exact hR.out) | (with_reducible apply RdAt.adds) | (with_reducible apply RdAt.alloc) | (with_reducible exact RdAt.set hR.out _) | (with_reducible apply RdAt.drew))) (by omega)).mono ?_; rintro e w' ⟨v6, p6, k6, rfl, hv, hp6, rfl⟩; have hv6 := hv.1 (by omega); clear hv)
      go_wp2_with fail
      go_returns
      exact ⟨_, _, _, c, zs, rfl, (by first | omega | exact (selB _ (-8) 40 (by decide)).1), (by first | omega | exact (selB _ (-8) 40 (by decide)).2), (by first | omega | exact (selB _ 0 40 (by decide)).1), (by first | omega | exact (selB _ 0 40 (by decide)).2), by omega, hzc, hcm, (by repeat (first | (exact HR.out.deep (by simp) (by simp; omega)) | (with_reducible apply RowAt.adds) | (with_reducible apply RowAt.alloc))), fun d hd => by cases hd; show w.heap.size ≤ g; omega, (by repeat (first | (with_reducible apply Moved.adds) | (with_reducible apply Moved.alloc) | (with_reducible apply Moved.drew) | (exact Moved.base (by omega))))⟩
    · clear hv5
      go_wp2_with fail
      (refine (S_pick B _ _ _ (by repeat (first | (with_reducible exact hR.out) | (with_reducible apply RdAt.adds) | (with_reducible apply RdAt.alloc) | (with_reducible exact RdAt.set hR.out _) | (with_reducible apply RdAt.drew))) (by omega)).mono ?_; rintro e w' ⟨v6, p6, k6, rfl, hv, hp6, rfl⟩; have hv6 := hv.1 (by omega); clear hv)
      go_wp2_with fail
      go_returns
      exact ⟨_, _, _, c, zs, rfl, (by first | omega | exact (selB _ (-8) 40 (by decide)).1), (by first | omega | exact (selB _ (-8) 40 (by decide)).2), (by first | omega | exact (selB _ 0 40 (by decide)).1), (by first | omega | exact (selB _ 0 40 (by decide)).2), by omega, hzc, hcm, (by repeat (first | (exact HR.out.deep (by simp) (by simp; omega)) | (with_reducible apply RowAt.adds) | (with_reducible apply RowAt.alloc))), fun d hd => by cases hd; show w.heap.size ≤ g; omega, (by repeat (first | (with_reducible apply Moved.adds) | (with_reducible apply Moved.alloc) | (with_reducible apply Moved.drew) | (exact Moved.base (by omega))))⟩
    · clear hv5
      go_wp2_with fail
      have hsf2 : ∀ (x : Value) (nn' i : Nat), (addsW ((w.setCell ⟨B, 1, none⟩ x).alloc (.cells #[.int .i64 0, .int .i64 0, .slice none 0 0] 27)) oo nn').frozen? ⟨g, i, none⟩ = false := fun x nn' i => by
        obtain ⟨cur, t, hc⟩ := HS.out _ rfl
        have : (addsW ((w.setCell ⟨B, 1, none⟩ x).alloc (.cells #[.int .i64 0, .int .i64 0, .slice none 0 0] 27)) oo nn').heap[g]? = _ := (heap_swap (nn := nn) (by simp) (by simp; omega)).trans hc
        simp [World.frozen?, this]
      have hcc : ∀ (x : Value) (nn' i : Nat), i < zs.length → (addsW ((w.setCell ⟨B, 1, none⟩ x).alloc (.cells #[.int .i64 0, .int .i64 0, .slice none 0 0] 27)) oo nn').cell? ⟨g, i, none⟩ = some (.int .i64 (zs.getD i 0)) := fun x nn' i hi => by
        obtain ⟨b', off', e, hb, hc⟩ := HR.out (by intro e; rw [e] at hi; simp at hi)
        injection e with e; injection e with e1 e2; subst e1 e2
        have := hc i hi
        rw [Nat.zero_add] at this
        exact (cell_swap (by simp) (by simp; omega)).trans this
      refine wp_region_held_drew (S := (fun w' => w'.cell? ⟨w.heap.size + 1 + oo.size, 2, none⟩ = some (.slice (some ⟨g, 0, none⟩) zs.length c))) (by kernel_rfl) ?_ (fun hHeld => ?_)
      · (first | (go_simp; done) | (go_keep; done))
      refine wpAnyH_take (i := 0) (oi := _) (v := ?_) rfl (by kernel_rfl) (by kernel_rfl) (by kernel_rfl) (fun _ _ _ h => h) (Or.inl ⟨by rfl, ?_⟩) (by assumption) ?_
      rotate_left
      · intro w hSw; (try dsimp only at hSw); go_simp; (try with_reducible rfl)
      try dsimp only [List.getElem_toArray, List.getElem_cons_succ, List.getElem_cons_zero]
      simp only [Act.put, List.setIfInBounds_toArray, List.set_cons_zero, List.set_cons_succ]
      refine wpAnyH_take (i := 1) (oi := _) (v := ?_) rfl (by kernel_rfl) (by kernel_rfl) (by kernel_rfl) (fun _ _ _ h => h) (Or.inl ⟨by rfl, ?_⟩) (by assumption) ?_
      rotate_left
      · intro w hSw; (try dsimp only at hSw); go_simp; (try with_reducible rfl)
      try dsimp only [List.getElem_toArray, List.getElem_cons_succ, List.getElem_cons_zero]
      simp only [Act.put, List.setIfInBounds_toArray, List.set_cons_zero, List.set_cons_succ]
      refine wpAnyH_take (i := 2) (oi := _) (v := ?_) rfl (by kernel_rfl) (by kernel_rfl) (by kernel_rfl) (fun _ _ _ h => h) (Or.inl ⟨by rfl, ?_⟩) (by assumption) ?_
      rotate_left
      · intro w hSw; (try dsimp only at hSw); go_simp; (try with_reducible rfl)
      try dsimp only [List.getElem_toArray, List.getElem_cons_succ, List.getElem_cons_zero]
      simp only [Act.put, List.setIfInBounds_toArray, List.set_cons_zero, List.set_cons_succ]
      refine wpAnyH_take (i := 3) (oi := _) (v := ?_) rfl (by kernel_rfl) (by kernel_rfl) (by kernel_rfl) (fun _ _ _ h => h) (Or.inl ⟨by rfl, ?_⟩) (by assumption) ?_
      rotate_left
      · intro w hSw; (try dsimp only at hSw); go_simp; (try with_reducible rfl)
      try dsimp only [List.getElem_toArray, List.getElem_cons_succ, List.getElem_cons_zero]
      simp only [Act.put, List.setIfInBounds_toArray, List.set_cons_zero, List.set_cons_succ]
      refine wpAnyH_take (i := 4) (oi := _) (v := ?_) rfl (by kernel_rfl) (by kernel_rfl) (by kernel_rfl) (fun _ _ _ h => h) (Or.inl ⟨by rfl, ?_⟩) (by assumption) ?_
      rotate_left
      · intro w hSw; (try dsimp only at hSw); go_simp; (try with_reducible rfl)
      try dsimp only [List.getElem_toArray, List.getElem_cons_succ, List.getElem_cons_zero]
      simp only [Act.put, List.setIfInBounds_toArray, List.set_cons_zero, List.set_cons_succ]
      refine wpAnyH_take (i := 5) (oi := _) (v := ?_) rfl (by kernel_rfl) (by kernel_rfl) (by kernel_rfl) (fun _ _ _ h => h) (Or.inl ⟨by rfl, ?_⟩) (by assumption) ?_
      rotate_left
      · intro w hSw; (try dsimp only at hSw); go_simp; (try with_reducible rfl)
      try dsimp only [List.getElem_toArray, List.getElem_cons_succ, List.getElem_cons_zero]
      simp only [Act.put, List.setIfInBounds_toArray, List.set_cons_zero, List.set_cons_succ]
      refine wpAnyH_take (i := 8) (oi := _) (v := ?_) rfl (by kernel_rfl) (by kernel_rfl) (by kernel_rfl) (fun _ _ _ h => h) (Or.inl ⟨by rfl, ?_⟩) (by assumption) ?_
      rotate_left
      · intro w hSw; (try dsimp only at hSw); go_simp; (try with_reducible rfl)
      try dsimp only [List.getElem_toArray, List.getElem_cons_succ, List.getElem_cons_zero]
      simp only [Act.put, List.setIfInBounds_toArray, List.set_cons_zero, List.set_cons_succ]
      refine wpAnyH_ready (rs := [6, 7]) (by kernel_rfl) (by simp) ?_
      refine AllReadyH.cons (o := _) rfl (fun K hK => ?_) ?_
      · (try dsimp only [List.getElem_toArray, List.getElem_cons_succ, List.getElem_cons_zero]); go_simp
        (first | (go_at_call 60; (with_reducible refine (S_pick B _ (2) _ (by repeat (first | (with_reducible exact hR.out) | (with_reducible apply RdAt.adds) | (with_reducible apply RdAt.alloc) | (with_reducible exact RdAt.set hR.out _) | (with_reducible apply RdAt.drew))) (by omega)).mono ?_); rintro e w' ⟨v, p1, k1, rfl, hv, hp1, rfl⟩; have hv' := hv.1 (by omega); clear hv) | ((go_at_call 60; refine (S_pick B _ _ _ (by repeat (first | (with_reducible exact hR.out) | (with_reducible apply RdAt.adds) | (with_reducible apply RdAt.alloc) | (with_reducible exact RdAt.set hR.out _) | (with_reducible apply RdAt.drew))) (by omega)).mono ?_; rintro e w' ⟨v, p1, k1, rfl, hv, hp1, rfl⟩; have hv' := hv.1 (by omega); clear hv); obtain ⟨vn, rfl⟩ := Int.eq_ofNat_of_zero_le hv'.1; have hvn : vn < zs.length := by omega))
        try go_wp2_with fail
        refine hK.out _ _ ?_ (fun hHeld => ?_)
        · (first | (go_simp; done) | (go_keep; done))
        clear hK K
        try simp only [Act.put, List.setIfInBounds_toArray, List.set_cons_zero, List.set_cons_succ]
        refine wpAnyH_ready (rs := [7, 9]) (by kernel_rfl) (by simp) ?_
        refine AllReadyH.cons (o := _) rfl (fun K hK => ?_) ?_
        · (try dsimp only [List.getElem_toArray, List.getElem_cons_succ, List.getElem_cons_zero]); go_simp
          refine hK.out _ _ ?_ (fun hHeld => ?_)
          · (first | (go_simp; done) | (go_keep; done))
          clear hK K
          try simp only [Act.put, List.setIfInBounds_toArray, List.set_cons_zero, List.set_cons_succ]
          refine wpAnyH_ready (rs := [9]) (by kernel_rfl) (by simp) ?_
          refine AllReadyH.cons (o := _) rfl (fun K hK => ?_) ?_
          · (try dsimp only [List.getElem_toArray, List.getElem_cons_succ, List.getElem_cons_zero]); go_simp
            (first | (go_at_call 60; (with_reducible refine (S_pick B _ (2) _ (by repeat (first | (with_reducible exact hR.out) | (with_reducible apply RdAt.adds) | (with_reducible apply RdAt.alloc) | (with_reducible exact RdAt.set hR.out _) | (with_reducible apply RdAt.drew))) (by omega)).mono ?_); rintro e w' ⟨v, p1, k1, rfl, hv, hp1, rfl⟩; have hv' := hv.1 (by omega); clear hv) | ((go_at_call 60; refine (S_pick B _ _ _ (by repeat (first | (with_reducible exact hR.out) | (with_reducible apply RdAt.adds) | (with_reducible apply RdAt.alloc) | (with_reducible exact RdAt.set hR.out _) | (with_reducible apply RdAt.drew))) (by omega)).mono ?_; rintro e w' ⟨v, p1, k1, rfl, hv, hp1, rfl⟩; have hv' := hv.1 (by omega); clear hv); obtain ⟨vn, rfl⟩ := Int.eq_ofNat_of_zero_le hv'.1; have hvn : vn < zs.length := by omega))
            try go_wp2_with fail
            refine hK.out _ _ ?_ (fun hHeld => ?_)
            · (first | (go_simp; done) | (go_keep; done))
            clear hK K
            try simp only [Act.put, List.setIfInBounds_toArray, List.set_cons_zero, List.set_cons_succ]
            refine wpAnyH_take (i := 10) (oi := _) (v := ?_) rfl (by kernel_rfl) (by kernel_rfl) (by kernel_rfl) (fun _ _ _ h => h) (Or.inl ⟨by rfl, ?_⟩) (by assumption) ?_
            rotate_left
            · intro w hSw; (try dsimp only at hSw); go_simp; (try with_reducible rfl)
            try dsimp only [List.getElem_toArray, List.getElem_cons_succ, List.getElem_cons_zero]
            simp only [Act.put, List.setIfInBounds_toArray, List.set_cons_zero, List.set_cons_succ]
            refine wpAnyH_ready (rs := [11]) (by kernel_rfl) (by simp) ?_
            refine AllReadyH.cons (o := _) rfl (fun K hK => ?_) ?_
            · (try dsimp only [List.getElem_toArray, List.getElem_cons_succ, List.getElem_cons_zero]); go_simp
              refine hK.out _ _ ?_ (fun hHeld => ?_)
              · (first | (go_simp; done) | (go_keep; done))
              clear hK K
              try simp only [Act.put, List.setIfInBounds_toArray, List.set_cons_zero, List.set_cons_succ]
              refine wpAnyH_take (i := 12) (oi := _) (v := ?_) rfl (by kernel_rfl) (by kernel_rfl) (by kernel_rfl) (fun _ _ _ h => h) (Or.inl ⟨by rfl, ?_⟩) (by assumption) ?_
              rotate_left
              · intro w hSw; (try dsimp only at hSw); go_simp; (try with_reducible rfl)
              try dsimp only [List.getElem_toArray, List.getElem_cons_succ, List.getElem_cons_zero]
              simp only [Act.put, List.setIfInBounds_toArray, List.set_cons_zero, List.set_cons_succ]
              refine wpAnyH_ready (rs := [13]) (by kernel_rfl) (by simp) ?_
              refine AllReadyH.cons (o := _) rfl (fun K hK => ?_) ?_
              · (try dsimp only [List.getElem_toArray, List.getElem_cons_succ, List.getElem_cons_zero]); go_simp
                refine hK.out _ _ ?_ (fun hHeld => ?_)
                · (first | (go_simp; done) | (go_keep; done))
                clear hK K
                try simp only [Act.put, List.setIfInBounds_toArray, List.set_cons_zero, List.set_cons_succ]
                refine wpAnyH_done (by kernel_rfl) ?_ _
                go_wp2_with fail
                go_returns
                exact pic_fin hB HR.out hvn (by omega) (by omega) (by omega) hzc hcm (by omega) (by omega)
              exact AllReadyH.nil
            exact AllReadyH.nil
          exact AllReadyH.nil
        refine AllReadyH.cons (o := _) rfl (fun K hK => ?_) ?_
        · (try dsimp only [List.getElem_toArray, List.getElem_cons_succ, List.getElem_cons_zero]); go_simp
          (first | (go_at_call 60; (with_reducible refine (S_pick B _ (2) _ (by repeat (first | (with_reducible exact hR.out) | (with_reducible apply RdAt.adds) | (with_reducible apply RdAt.alloc) | (with_reducible exact RdAt.set hR.out _) | (with_reducible apply RdAt.drew))) (by omega)).mono ?_); rintro e w' ⟨v, p1, k1, rfl, hv, hp1, rfl⟩; have hv' := hv.1 (by omega); clear hv) | ((go_at_call 60; refine (S_pick B _ _ _ (by repeat (first | (with_reducible exact hR.out) | (with_reducible apply RdAt.adds) | (with_reducible apply RdAt.alloc) | (with_reducible exact RdAt.set hR.out _) | (with_reducible apply RdAt.drew))) (by omega)).mono ?_; rintro e w' ⟨v, p1, k1, rfl, hv, hp1, rfl⟩; have hv' := hv.1 (by omega); clear hv); obtain ⟨vn, rfl⟩ := Int.eq_ofNat_of_zero_le hv'.1; have hvn : vn < zs.length := by omega))
          try go_wp2_with fail
          refine hK.out _ _ ?_ (fun hHeld => ?_)
          · (first | (go_simp; done) | (go_keep; done))
          clear hK K
          try simp only [Act.put, List.setIfInBounds_toArray, List.set_cons_zero, List.set_cons_succ]
          refine wpAnyH_ready (rs := [7]) (by kernel_rfl) (by simp) ?_
          refine AllReadyH.cons (o := _) rfl (fun K hK => ?_) ?_
          · (try dsimp only [List.getElem_toArray, List.getElem_cons_succ, List.getElem_cons_zero]); go_simp
            refine hK.out _ _ ?_ (fun hHeld => ?_)
            · (first | (go_simp; done) | (go_keep; done))
            clear hK K
            try simp only [Act.put, List.setIfInBounds_toArray, List.set_cons_zero, List.set_cons_succ]
            refine wpAnyH_take (i := 10) (oi := _) (v := ?_) rfl (by kernel_rfl) (by kernel_rfl) (by kernel_rfl) (fun _ _ _ h => h) (Or.inl ⟨by rfl, ?_⟩) (by assumption) ?_
            rotate_left
            · intro w hSw; (try dsimp only at hSw); go_simp; (try with_reducible rfl)
            try dsimp only [List.getElem_toArray, List.getElem_cons_succ, List.getElem_cons_zero]
            simp only [Act.put, List.setIfInBounds_toArray, List.set_cons_zero, List.set_cons_succ]
            refine wpAnyH_ready (rs := [11]) (by kernel_rfl) (by simp) ?_
            refine AllReadyH.cons (o := _) rfl (fun K hK => ?_) ?_
            · (try dsimp only [List.getElem_toArray, List.getElem_cons_succ, List.getElem_cons_zero]); go_simp
              refine hK.out _ _ ?_ (fun hHeld => ?_)
              · (first | (go_simp; done) | (go_keep; done))
              clear hK K
              try simp only [Act.put, List.setIfInBounds_toArray, List.set_cons_zero, List.set_cons_succ]
              refine wpAnyH_take (i := 12) (oi := _) (v := ?_) rfl (by kernel_rfl) (by kernel_rfl) (by kernel_rfl) (fun _ _ _ h => h) (Or.inl ⟨by rfl, ?_⟩) (by assumption) ?_
              rotate_left
              · intro w hSw; (try dsimp only at hSw); go_simp; (try with_reducible rfl)
              try dsimp only [List.getElem_toArray, List.getElem_cons_succ, List.getElem_cons_zero]
              simp only [Act.put, List.setIfInBounds_toArray, List.set_cons_zero, List.set_cons_succ]
              refine wpAnyH_ready (rs := [13]) (by kernel_rfl) (by simp) ?_
              refine AllReadyH.cons (o := _) rfl (fun K hK => ?_) ?_
              · (try dsimp only [List.getElem_toArray, List.getElem_cons_succ, List.getElem_cons_zero]); go_simp
                refine hK.out _ _ ?_ (fun hHeld => ?_)
                · (first | (go_simp; done) | (go_keep; done))
                clear hK K
                try simp only [Act.put, List.setIfInBounds_toArray, List.set_cons_zero, List.set_cons_succ]
                refine wpAnyH_done (by kernel_rfl) ?_ _
                go_wp2_with fail
                go_returns
                exact pic_fin hB HR.out hvn (by omega) (by omega) (by omega) hzc hcm (by omega) (by omega)
              exact AllReadyH.nil
            exact AllReadyH.nil
          exact AllReadyH.nil
        exact AllReadyH.nil
      refine AllReadyH.cons (o := _) rfl (fun K hK => ?_) ?_
      · (try dsimp only [List.getElem_toArray, List.getElem_cons_succ, List.getElem_cons_zero]); go_simp
        refine hK.out _ _ ?_ (fun hHeld => ?_)
        · (first | (go_simp; done) | (go_keep; done))
        clear hK K
        try simp only [Act.put, List.setIfInBounds_toArray, List.set_cons_zero, List.set_cons_succ]
        refine wpAnyH_ready (rs := [6]) (by kernel_rfl) (by simp) ?_
        refine AllReadyH.cons (o := _) rfl (fun K hK => ?_) ?_
        · (try dsimp only [List.getElem_toArray, List.getElem_cons_succ, List.getElem_cons_zero]); go_simp
          (first | (go_at_call 60; (with_reducible refine (S_pick B _ (2) _ (by repeat (first | (with_reducible exact hR.out) | (with_reducible apply RdAt.adds) | (with_reducible apply RdAt.alloc) | (with_reducible exact RdAt.set hR.out _) | (with_reducible apply RdAt.drew))) (by omega)).mono ?_); rintro e w' ⟨v, p1, k1, rfl, hv, hp1, rfl⟩; have hv' := hv.1 (by omega); clear hv) | ((go_at_call 60; refine (S_pick B _ _ _ (by repeat (first | (with_reducible exact hR.out) | (with_reducible apply RdAt.adds) | (with_reducible apply RdAt.alloc) | (with_reducible exact RdAt.set hR.out _) | (with_reducible apply RdAt.drew))) (by omega)).mono ?_; rintro e w' ⟨v, p1, k1, rfl, hv, hp1, rfl⟩; have hv' := hv.1 (by omega); clear hv); obtain ⟨vn, rfl⟩ := Int.eq_ofNat_of_zero_le hv'.1; have hvn : vn < zs.length := by omega))
          try go_wp2_with fail
          refine hK.out _ _ ?_ (fun hHeld => ?_)
          · (first | (go_simp; done) | (go_keep; done))
          clear hK K
          try simp only [Act.put, List.setIfInBounds_toArray, List.set_cons_zero, List.set_cons_succ]
          refine wpAnyH_ready (rs := [9]) (by kernel_rfl) (by simp) ?_
          refine AllReadyH.cons (o := _) rfl (fun K hK => ?_) ?_
          · (try dsimp only [List.getElem_toArray, List.getElem_cons_succ, List.getElem_cons_zero]); go_simp
            (first | (go_at_call 60; (with_reducible refine (S_pick B _ (2) _ (by repeat (first | (with_reducible exact hR.out) | (with_reducible apply RdAt.adds) | (with_reducible apply RdAt.alloc) | (with_reducible exact RdAt.set hR.out _) | (with_reducible apply RdAt.drew))) (by omega)).mono ?_); rintro e w' ⟨v, p1, k1, rfl, hv, hp1, rfl⟩; have hv' := hv.1 (by omega); clear hv) | ((go_at_call 60; refine (S_pick B _ _ _ (by repeat (first | (with_reducible exact hR.out) | (with_reducible apply RdAt.adds) | (with_reducible apply RdAt.alloc) | (with_reducible exact RdAt.set hR.out _) | (with_reducible apply RdAt.drew))) (by omega)).mono ?_; rintro e w' ⟨v, p1, k1, rfl, hv, hp1, rfl⟩; have hv' := hv.1 (by omega); clear hv); obtain ⟨vn, rfl⟩ := Int.eq_ofNat_of_zero_le hv'.1; have hvn : vn < zs.length := by omega))
            try go_wp2_with fail
            refine hK.out _ _ ?_ (fun hHeld => ?_)
            · (first | (go_simp; done) | (go_keep; done))
            clear hK K
            try simp only [Act.put, List.setIfInBounds_toArray, List.set_cons_zero, List.set_cons_succ]
            refine wpAnyH_take (i := 10) (oi := _) (v := ?_) rfl (by kernel_rfl) (by kernel_rfl) (by kernel_rfl) (fun _ _ _ h => h) (Or.inl ⟨by rfl, ?_⟩) (by assumption) ?_
            rotate_left
            · intro w hSw; (try dsimp only at hSw); go_simp; (try with_reducible rfl)
            try dsimp only [List.getElem_toArray, List.getElem_cons_succ, List.getElem_cons_zero]
            simp only [Act.put, List.setIfInBounds_toArray, List.set_cons_zero, List.set_cons_succ]
            refine wpAnyH_ready (rs := [11]) (by kernel_rfl) (by simp) ?_
            refine AllReadyH.cons (o := _) rfl (fun K hK => ?_) ?_
            · (try dsimp only [List.getElem_toArray, List.getElem_cons_succ, List.getElem_cons_zero]); go_simp
              refine hK.out _ _ ?_ (fun hHeld => ?_)
              · (first | (go_simp; done) | (go_keep; done))
              clear hK K
              try simp only [Act.put, List.setIfInBounds_toArray, List.set_cons_zero, List.set_cons_succ]
              refine wpAnyH_take (i := 12) (oi := _) (v := ?_) rfl (by kernel_rfl) (by kernel_rfl) (by kernel_rfl) (fun _ _ _ h => h) (Or.inl ⟨by rfl, ?_⟩) (by assumption) ?_
              rotate_left
              · intro w hSw; (try dsimp only at hSw); go_simp; (try with_reducible rfl)
              try dsimp only [List.getElem_toArray, List.getElem_cons_succ, List.getElem_cons_zero]
              simp only [Act.put, List.setIfInBounds_toArray, List.set_cons_zero, List.set_cons_succ]
              refine wpAnyH_ready (rs := [13]) (by kernel_rfl) (by simp) ?_
              refine AllReadyH.cons (o := _) rfl (fun K hK => ?_) ?_
              · (try dsimp only [List.getElem_toArray, List.getElem_cons_succ, List.getElem_cons_zero]); go_simp
                refine hK.out _ _ ?_ (fun hHeld => ?_)
                · (first | (go_simp; done) | (go_keep; done))
                clear hK K
                try simp only [Act.put, List.setIfInBounds_toArray, List.set_cons_zero, List.set_cons_succ]
                refine wpAnyH_done (by kernel_rfl) ?_ _
                go_wp2_with fail
                go_returns
                exact pic_fin hB HR.out hvn (by omega) (by omega) (by omega) hzc hcm (by omega) (by omega)
              exact AllReadyH.nil
            exact AllReadyH.nil
          exact AllReadyH.nil
        exact AllReadyH.nil
      exact AllReadyH.nil
    · clear hv5
      go_wp2_with fail
      go_returns
      refine ⟨_, _, _, c - 1, zs.drop 1, by rw [List.length_drop], by omega, by omega, by omega, by omega, by rw [List.length_drop]; omega, by rw [List.length_drop]; omega, by omega, (by repeat (first | (exact (HR.out.deep (by simp) (by simp; omega)).tail (by omega)) | (with_reducible apply RowAt.adds) | (with_reducible apply RowAt.alloc))), fun d hd => by cases hd; show w.heap.size ≤ g; omega, (by repeat (first | (with_reducible apply Moved.adds) | (with_reducible apply Moved.alloc) | (with_reducible apply Moved.drew) | (exact Moved.base (by omega))))⟩
    · clear hv5
      go_wp2_with fail
      go_returns
      exact ⟨0, 0, none, 0, [], rfl, by omega, by omega, by omega, by omega, by simp, by simp, by decide, fun h => absurd rfl h, (fun d hd => by cases hd), (by repeat (first | (with_reducible apply Moved.adds) | (with_reducible apply Moved.alloc) | (with_reducible apply Moved.drew) | (exact Moved.base (by omega))))⟩

end Go.Proofs.Ytobphddjoebfjaa
