/- Blockiness, the program's. -/
import Derived.Test.YtobphddjoebfjaaBlkI
namespace Go.Proofs.Ytobphddjoebfjaa
open Go.RowKit Go.Shelf
set_option linter.unusedVariables false
set_option linter.unusedSimpArgs false

attribute [local go_sem] Oper.semAt_some
attribute [local go_sem] size_addsW cell?_addsW frozen?_addsW setCell_addsW drew_addsW adds_addsW setCell_twice alloc_adds0 size_adds0 adds_adds0 sel2 sel3 sel4 sel5 sel6 sel7 sel8 sel9 lt_more lt_more2 lt_more3 lt_more4 adds_drew adds_drewN drewN_addsW ltA_1_1 ltA_1_2 ltA_1_3 ltA_1_4 ltA_1_5 ltA_1_6 ltA_2_1 ltA_2_2 ltA_2_3 ltA_2_4 ltA_2_5 ltA_2_6 ltA_3_1 ltA_3_2 ltA_3_3 ltA_3_4 ltA_3_5 ltA_3_6 ltA_4_1 ltA_4_2 ltA_4_3 ltA_4_4 ltA_4_5 ltA_4_6 ltA_5_1 ltA_5_2 ltA_5_3 ltA_5_4 ltA_5_5 ltA_5_6 ltA_6_1 ltA_6_2 ltA_6_3 ltA_6_4 ltA_6_5 ltA_6_6 ltA_7_1 ltA_7_2 ltA_7_3 ltA_7_4 ltA_7_5 ltA_7_6 ltA_8_1 ltA_8_2 ltA_8_3 ltA_8_4 ltA_8_5 ltA_8_6 ltA_9_1 ltA_9_2 ltA_9_3 ltA_9_4 ltA_9_5 ltA_9_6 ltA_10_1 ltA_10_2 ltA_10_3 ltA_10_4 ltA_10_5 ltA_10_6 ltA_11_1 ltA_11_2 ltA_11_3 ltA_11_4 ltA_11_5 ltA_11_6 ltA_12_1 ltA_12_2 ltA_12_3 ltA_12_4 ltA_12_5 ltA_12_6

def blV (a b : Int) (zs : List Int) : Int := if picB a b zs then totZ zs (edgE a.toNat b.toNat) else -1

variable {F : Fence} {n : Nat} {P : Program}
/-- two loop variables, which the assign code puts into slots -/
theorem wpIn_rangeFunc_two {α : Type} {g : Operand} {p1 p2 k1 k2 : Nat} {assign body : Code} {Q : Exit → Act → World → Prop} {a : Act} {w : World}
    (hro : F.round = none) (h1 : 1 ≤ n) {gf : Nat} {lb : Array Value} (hg : a.eval g = .func (.func gf) #[] lb) (hFg : F.fn gf) (eg : ∀ args w, (callFunc gf args).run P w = .ok (.enter gf args) w)
    {e1 e2 : α → Value} {Kp : World → World → Prop} {S Sp : List α → Prop} {N : Nat} {w0 : World} (hseq : SeqStopsK F (n - 1) P gf lb (fun x => #[e1 x, e2 x]) Kp S Sp N w0)
    (hKt : ∀ {A B C : World}, Kp A B → Kp B C → Kp A C) (hKb : ∀ (W : World) (l : Nat) (o o' : Obj), w.heap.size ≤ l → W.heap[l]? = some o → o.isCells = false → o.isWalk = false → Kp W (W.putObj l o')) (hb0 : Below w0.heap.size w0 w)
    (I : List α → World → Prop) (Ix : Code → List α → World → Prop) (hI : OwnFrom w.heap.size I) (hIx : ∀ c, OwnFrom w.heap.size (Ix c)) (h0 : I [] w)
    (hassign : ∀ (l : Nat) (x : α) (W : World) (K : Act → World → Prop), K { tmps := (((a.tmps.setIfInBounds p1 (e1 x)).setIfInBounds p2 (e2 x)).setIfInBounds k1 (e1 x)).setIfInBounds k2 (e2 x), defers := [] } W →
      assign.wpIn (F.inRound l) (n - 1 - 1) P (Exit.then K (fun _ _ _ => False)) { tmps := (a.tmps.setIfInBounds p1 (e1 x)).setIfInBounds p2 (e2 x), defers := [] } W)
    (hbody : ∀ (l : Nat) (pre : List α) (x : α) (W : World), I pre W → pre.length < N → body.wpIn (F.inRound l) (n - 1 - 1) P (ownPostG w.heap.size Kp I Ix (pre ++ [x]) W) { tmps := (((a.tmps.setIfInBounds p1 (e1 x)).setIfInBounds p2 (e2 x)).setIfInBounds k1 (e1 x)).setIfInBounds k2 (e2 x), defers := [] } W)
    (hdone : ∀ (D : Nat) (xs : List α) (W : World), w.heap.size ≤ D → S xs → I xs W → W.heap[D]? = some (.deferred (some [])) → Q .normal { a with defers := { target := .collected D, args := #[] } :: a.defers } W)
    (hstop : ∀ (D : Nat) (c : Code) (pre : List α) (W : World), w.heap.size ≤ D → Sp pre → Ix c pre W → W.heap[D]? = some (.deferred (some [])) → c.wpIn F n P Q { a with defers := { target := .collected D, args := #[] } :: a.defers } W) :
    (Code.rangeFunc g #[p1, p2] assign body).wpIn F n P Q a w := by
  refine wpIn_rangeFunc_ownG hro h1 hg hFg eg hseq (fun h k => hKt h k) hKb hb0 (fun _ => rfl) I Ix hI hIx h0
    (fun x => { tmps := (((a.tmps.setIfInBounds p1 (e1 x)).setIfInBounds p2 (e2 x)).setIfInBounds k1 (e1 x)).setIfInBounds k2 (e2 x), defers := [] }) ?_ hbody hdone hstop
  intro l x W K hK
  have e : ((#[p1, p2] : Array Tmp).zip #[e1 x, e2 x]).foldl (fun t (p, v) => t.setIfInBounds p v) a.tmps = (a.tmps.setIfInBounds p1 (e1 x)).setIfInBounds p2 (e2 x) := by simp
  rw [e]
  exact hassign l x W K hK

theorem byte_at {zs : List Int} (h : M.samplesB zs = true) (i : Nat) : 0 ≤ zs.getD i 0 ∧ zs.getD i 0 ≤ 255 := by
  rw [List.getD_eq_getElem?_getD]
  by_cases hi : i < zs.length
  · rw [List.getElem?_eq_getElem hi, Option.getD_some]
    have := List.all_eq_true.1 h _ (List.getElem_mem hi)
    simpa [M.inB] using this
  · rw [List.getElem?_eq_none (by omega)]; simp

/-- the boxes of the sum: the picture's g, the sum's t -/
structure BSt (g t : Nat) (a b : Int) (sl : Value) (w : World) (s : Int) (W : World) : Prop where
  p : Blk W g #[.int .i64 a, .int .i64 b, sl] 27
  t : Blk W t #[.int .i64 s] 3
  below : Below w.heap.size w W
theorem bst_own {β : Type} (g t : Nat) (a b : Int) (sl : Value) (w : World) (f : β → Int) (B : Nat) (hB : w.heap.size ≤ B) : OwnFrom B (fun q W => BSt g t a b sl w (f q) W) := fun q X Y row h hg hr =>
  have hk := fun r e => (hr r e).2
  ⟨h.p.kept hg hk, h.t.kept hg hk, h.below.grown hg h.below.size (fun k e => Nat.le_trans hB (hr k e).1)⟩

set_option maxRecDepth 100000 in
set_option maxHeartbeats 1000000 in
theorem I_Blockiness (a b : Int) (A : Option Addr) (c : Nat) (zs : List Int) (w : World) (hr : RowAt .i64 w A zs) (hl : zs.length ≤ 1000000000000) :
    Calls Try.prog 18 #[.agg #[.int .i64 a, .int .i64 b, .slice A zs.length c]] w fun e w' => e = .returned (.int .i64 (blV a b zs)) ∧ Below w.heap.size w w' := by
  have HR := Lib.hid hr
  clear hr
  cases hv : picB a b zs
  · rw [show blV a b zs = -1 by simp [blV, hv]]
    go_enter Try.func18, Try.ntmps18
    go_wp2_with (go_at_call 52; refine (I_PictureValid _ _ _ _ zs _ (HR.out.keep (by repeat' (first | (with_reducible exact Below.refl _ _) | (with_reducible refine Below.adds_ ?_ ?_ _ _) | (with_reducible refine Below.alloc ?_ ?_ _) | (with_reducible refine Below.drew ?_) | (with_reducible refine Below.setCell ?_ ?_ _) | (with_reducible assumption) | go_size | (simp only [size_addsW, World.size_alloc, World.size_drew, World.size_setCell]; omega)))) (by omega)).mono ?_; rintro e w' ⟨rfl, hb⟩; obtain ⟨o1, n1, rfl⟩ := below_adds hb; clear hb)
    go_returns
    exact ⟨rfl, (by repeat' (first | (with_reducible exact Below.refl _ _) | (with_reducible refine Below.adds_ ?_ ?_ _ _) | (with_reducible refine Below.alloc ?_ ?_ _) | (with_reducible refine Below.drew ?_) | (with_reducible refine Below.setCell ?_ ?_ _) | (with_reducible assumption) | go_size | (simp only [size_addsW, World.size_alloc, World.size_drew, World.size_setCell]; omega)))⟩
  · have HV := Lib.hid hv
    have HS := Lib.hid (picB_iff.1 hv).2.2.2
    obtain ⟨h1, h2, h3, -⟩ := picB_iff.1 hv
    have g1 := sideB_bd h1
    have g2 := sideB_bd h2
    obtain ⟨na, rfl⟩ := Int.eq_ofNat_of_zero_le (show 0 ≤ a by omega)
    obtain ⟨nb, rfl⟩ := Int.eq_ofNat_of_zero_le (show 0 ≤ b by omega)
    rw [show blV na nb zs = totZ zs (edgE na nb) by simp [blV, hv]]
    have ha : 8 ≤ na ∧ na ≤ 32 ∧ na % 4 = 0 := by omega
    have hb : 8 ≤ nb ∧ nb ≤ 32 ∧ nb % 4 = 0 := by omega
    have HN := Lib.hid (show zs.length = na * nb by rw [← Int.natCast_mul] at h3; omega)
    have hfew := edgE_few (w := na) (h := nb) (by omega) (by omega)
    clear h1 h2 h3 g1 g2
    refine (callsIn_wide (n := 5)).1 ?_
    refine callsIn_of_wp_marks Try.func18 rfl trivial ?_ rfl
    simp only [Try.ntmps18, List.size_toArray, List.length_cons, List.length_nil, Nat.reduceAdd, Nat.reduceSub, Array.replicate_succ, Array.replicate_zero, List.push_toArray, List.append_toArray, List.nil_append, List.cons_append]
    refine (wpIn_wide (n := 5)).2 ?_
    go_upto_region 3 with (first | (go_at_call 52; refine (I_PictureValid (na : Int) (nb : Int) _ _ zs _ (HR.out.keep (by repeat' (first | (with_reducible exact Below.refl _ _) | (with_reducible refine Below.adds_ ?_ ?_ _ _) | (with_reducible refine Below.alloc ?_ ?_ _) | (with_reducible refine Below.drew ?_) | (with_reducible refine Below.setCell ?_ ?_ _) | (with_reducible assumption) | go_size | (simp only [size_addsW, World.size_alloc, World.size_drew, World.size_setCell]; omega)))) (by omega)).mono ?_; rw [HV.out]; rintro e w' ⟨rfl, hb⟩; obtain ⟨o1, n1, rfl⟩ := below_adds hb; clear hb))
    clear hv
    have hP : Blk (w.alloc (.cells #[.int .i64 na, .int .i64 nb, .slice A zs.length c] 27)) w.heap.size #[.int .i64 na, .int .i64 nb, .slice A zs.length c] 27 := Blk.new w _ _ _ rfl
    have hbw : Below w.heap.size w (w.alloc (.cells #[.int .i64 na, .int .i64 nb, .slice A zs.length c] 27)) := (by repeat' (first | (with_reducible exact Below.refl _ _) | (with_reducible refine Below.adds_ ?_ ?_ _ _) | (with_reducible refine Below.alloc ?_ ?_ _) | (with_reducible refine Below.drew ?_) | (with_reducible refine Below.setCell ?_ ?_ _) | (with_reducible assumption) | go_size | (simp only [size_addsW, World.size_alloc, World.size_drew, World.size_setCell]; omega)))
    refine all_add ?_
    intro Z oo nn hZ
    have hP := hZ ▸ hP.adds oo nn
    have hbw := hZ ▸ Below.adds_ hbw hbw.size oo nn
    clear hZ oo nn
    have k0 := hP.get (i := 0) rfl
    have k1 := hP.get (i := 1) rfl
    have k2 := hP.get (i := 2) rfl
    have lP := hP.lt
    go_wp2_with (go_at_call 53; refine (I_blockEdges _ _ _ _).mono ?_; rintro e w' ⟨rfl, rfl⟩)
    have M0 : BSt w.heap.size Z.heap.size na nb (.slice A zs.length c) w (totZ zs (els ([] : List (EE zs.length)))) ((Z.alloc (.cells #[.int .i64 0] 3)).alloc (.cells #[.int .i64 na, .int .i64 nb, .slice A zs.length c] 27)) :=
      ⟨(hP.alloc _).alloc _, (Blk.new Z _ _ _ rfl).alloc _, (by repeat' (first | (with_reducible exact Below.refl _ _) | (with_reducible refine Below.adds_ ?_ ?_ _ _) | (with_reducible refine Below.alloc ?_ ?_ _) | (with_reducible refine Below.drew ?_) | (with_reducible refine Below.setCell ?_ ?_ _) | (with_reducible assumption) | go_size | (simp only [size_addsW, World.size_alloc, World.size_drew, World.size_setCell]; omega)))⟩
    have hc0 : ((Z.alloc (.cells #[.int .i64 0] 3)).alloc (.cells #[.int .i64 na, .int .i64 nb, .slice A zs.length c] 27)).cell? ⟨Z.heap.size + 1, 0, none⟩ = some (.int .i64 na) := (Blk.new _ _ _ _ (by simp)).get rfl
    have hc1 : ((Z.alloc (.cells #[.int .i64 0] 3)).alloc (.cells #[.int .i64 na, .int .i64 nb, .slice A zs.length c] 27)).cell? ⟨Z.heap.size + 1, 1, none⟩ = some (.int .i64 nb) := (Blk.new _ _ _ _ (by simp)).get rfl
    have hsz : ((Z.alloc (.cells #[.int .i64 0] 3)).alloc (.cells #[.int .i64 na, .int .i64 nb, .slice A zs.length c] 27)).heap.size = Z.heap.size + 2 := by simp
    have hwz := hbw.size
    clear hP hbw k0 k1 k2
    generalize (Z.alloc (.cells #[.int .i64 0] 3)).alloc (.cells #[.int .i64 na, .int .i64 nb, .slice A zs.length c] 27) = W0 at M0 hc0 hc1 hsz ⊢
    generalize Z.heap.size = t at M0 hc0 hc1 hsz hwz lP ⊢
    clear Z
    refine (wpIn_wide (n := 5)).1 ?_
    refine wpIn_rangeFunc_two (k1 := 4) (k2 := 5) (e1 := fun x : EE zs.length => .int .i64 x.1.1) (e2 := fun x : EE zs.length => .int .i64 x.1.2) rfl (by omega) (gf := 84) (lb := #[.pointer (some ⟨t + 1, 0, none⟩)]) rfl trivial enters_edge
      (edge_stops (5 - 1) (t + 1) na nb zs.length (by omega) ha hb HN.out W0 (by omega) hc0 hc1) KpC.trans kpC_b (Below.refl _ _)
      (fun pre W => BSt w.heap.size t na nb (.slice A zs.length c) w (totZ zs (els pre)) W)
      (fun cd pre W => False)
      (bst_own w.heap.size t na nb _ w (fun pre => totZ zs (els pre)) _ (by omega))
      (fun cd => ownFrom_pure _ _) M0 ?assign ?body ?done ?stop
    case assign =>
      rintro l x W K hK
      simp only [List.setIfInBounds_toArray, List.set_cons_zero, List.set_cons_succ] at hK ⊢
      gi_wp2
      exact hK
    case body =>
      rintro l pre ⟨⟨at', st⟩, hx⟩ W M1 hlt
      simp only [List.setIfInBounds_toArray, List.set_cons_zero, List.set_cons_succ]
      simp only at hx ⊢
      obtain ⟨i, rfl⟩ := Int.eq_ofNat_of_zero_le (show 0 ≤ at' by omega)
      obtain ⟨s, rfl⟩ := Int.eq_ofNat_of_zero_le (show 0 ≤ st by omega)
      have hi : i < zs.length := by omega
      obtain ⟨j, hj⟩ : ∃ j, j = i - s := ⟨_, rfl⟩
      have hj1 : j < zs.length := by omega
      have hw1 : IntKind.i64.wrap ((i : Int) - (s : Int)) = (j : Int) := by rw [IntWalk.i64_in _ (by omega)]; omega
      have hrow := HR.out.keep M1.below
      obtain ⟨bl, off, z1, rfl, hbl, hz1, hcl1⟩ := hrow.at_ hi
      obtain ⟨bl2, off2, z2, e2, -, hz2, hcl2⟩ := hrow.at_ hj1
      injection e2 with e2
      injection e2 with e3 e4
      subst e3 e4
      obtain ⟨S, hSd⟩ : ∃ S, S = totZ zs (els pre) := ⟨_, rfl⟩
      have hS := totZ_bd HS.out (els pre)
      rw [← hSd, els_len] at hS
      have hzz : (0 ≤ z1 ∧ z1 ≤ 255) ∧ 0 ≤ z2 ∧ z2 ≤ 255 := by rw [hz1, hz2]; exact ⟨byte_at HS.out i, byte_at HS.out j⟩
      have HE := Lib.hid (show totZ zs (els (pre ++ [(⟨((i : Int), (s : Int)), hx⟩ : EE zs.length)])) = S + max (z1 - z2) (-(z1 - z2)) by
        have e1 : els (pre ++ [(⟨((i : Int), (s : Int)), hx⟩ : EE zs.length)]) = els pre ++ [(i, s)] := by simp [els]
        rw [e1, totZ_app, totZ_one, ← hSd, difZ]
        simp only
        rw [← hj, ← hz1, ← hz2]
        omega)
      have hSb : 0 ≤ S ∧ S ≤ 114240 := by omega
      have hHM := M1
      rw [← hSd] at hHM
      have HM := Lib.hid hHM
      have k2 := M1.p.get (i := 2) rfl
      have m0 := hHM.t.get (i := 0) rfl
      have f0 := hHM.t.hot 0
      have lp := M1.p.lt
      have lt := M1.t.lt
      clear hrow hz1 hz2 hSd hS hj M1 hHM
      have hd1 : (0 : Int) ≤ (i : Int) := by omega
      have hd2 : (i : Int) < (zs.length : Int) := by omega
      have hd3 : (0 : Int) ≤ (j : Int) := by omega
      have hd4 : (j : Int) < (zs.length : Int) := by omega
      have hw2 : IntKind.i64.wrap (z1 - z2) = z1 - z2 := IntWalk.i64_in _ (by omega)
      have hw3 : IntKind.i64.wrap (S + max (z1 - z2) (-(z1 - z2))) = S + max (z1 - z2) (-(z1 - z2)) := IntWalk.i64_in _ (by omega)
      refine wpIn_block ?_
      refine wpIn_tail_round 16 (by kernel_rfl) (by kernel_rfl) (fun h => by obtain ⟨_, _, h⟩ := h; exact h) (by kernel_rfl) ?_
      simp only [List.take_succ_cons, List.take_zero, List.drop_succ_cons, List.drop_zero]
      repeat still_step
      still_call (still_of (I_abs (z1 - z2) _ (by omega)))
      repeat still_step
      refine wpStill_nil ?_
      go_wp2_with fail
      exact ⟨((KeepsOthers.drew W).trans (KeepsOthers.setCell _ _ _)).from _, ((KpC.refl _ W).drew).set (by simp only; omega) _, ⟨HM.out.p.drew.other (by simp only; omega) _, by simp only [HE.out]; exact HM.out.t.drew.set 0 _, HM.out.below.drew.setCell (by simp only; omega) _⟩⟩
    case done =>
      rintro D ys W hD hS M1 hK
      rw [hS] at M1
      have m0 := M1.t.get (i := 0) rfl
      go_wp2_with fail
      refine ⟨by simp, .inl ⟨_, _, rfl, run_takeDeferred hK, ?_⟩⟩
      exact ⟨.int .i64 (totZ zs (edgE na nb)), by simp [results, Try.results18, go_sem], rfl, M1.below.trans (belowK_b (w := w) (Nat.le_refl _) _ D _ _ (by omega) hK rfl rfl)⟩
    case stop =>
      rintro D cd pre W hD hS h
      exact h.elim

end Go.Proofs.Ytobphddjoebfjaa
