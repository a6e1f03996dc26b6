/- NonzeroCount, the program's. -/
import Derived.Test.YtggkelehjdepkaaRunI
namespace Go.Proofs.Ytggkelehjdepkaa
open Go.RowKit Go.Shelf
set_option linter.unusedVariables false
set_option linter.unusedSimpArgs false

attribute [local go_sem] Oper.semAt_some
attribute [local go_sem] size_addsW cell?_addsW frozen?_addsW setCell_addsW drew_addsW adds_addsW setCell_twice alloc_adds0 size_adds0 adds_adds0 sel2 sel3 sel4 sel5 sel6 sel7 sel8 sel9 lt_more lt_more2 lt_more3 lt_more4 adds_drew adds_drewN drewN_addsW ltA_1_1 ltA_1_2 ltA_1_3 ltA_1_4 ltA_1_5 ltA_1_6 ltA_2_1 ltA_2_2 ltA_2_3 ltA_2_4 ltA_2_5 ltA_2_6 ltA_3_1 ltA_3_2 ltA_3_3 ltA_3_4 ltA_3_5 ltA_3_6 ltA_4_1 ltA_4_2 ltA_4_3 ltA_4_4 ltA_4_5 ltA_4_6 ltA_5_1 ltA_5_2 ltA_5_3 ltA_5_4 ltA_5_5 ltA_5_6 ltA_6_1 ltA_6_2 ltA_6_3 ltA_6_4 ltA_6_5 ltA_6_6 ltA_7_1 ltA_7_2 ltA_7_3 ltA_7_4 ltA_7_5 ltA_7_6 ltA_8_1 ltA_8_2 ltA_8_3 ltA_8_4 ltA_8_5 ltA_8_6 ltA_9_1 ltA_9_2 ltA_9_3 ltA_9_4 ltA_9_5 ltA_9_6 ltA_10_1 ltA_10_2 ltA_10_3 ltA_10_4 ltA_10_5 ltA_10_6 ltA_11_1 ltA_11_2 ltA_11_3 ltA_11_4 ltA_11_5 ltA_11_6 ltA_12_1 ltA_12_2 ltA_12_3 ltA_12_4 ltA_12_5 ltA_12_6

variable {F : Fence} {n : Nat} {P : Program}
/-- one loop variable, which the assign code leaves -/
theorem wpIn_rangeFunc_one {α : Type} {g : Operand} {p1 : Nat} {assign body : Code} {Q : Exit → Act → World → Prop} {a : Act} {w : World}
    (hro : F.round = none) (h1 : 1 ≤ n) {gf : Nat} {lb : Array Value} (hg : a.eval g = .func (.func gf) #[] lb) (hFg : F.fn gf) (eg : ∀ args w, (callFunc gf args).run P w = .ok (.enter gf args) w)
    {e1 : α → Value} {Kp : World → World → Prop} {S Sp : List α → Prop} {N : Nat} {w0 : World} (hseq : SeqStopsK F (n - 1) P gf lb (fun x => #[e1 x]) Kp S Sp N w0)
    (hKt : ∀ {A B C : World}, Kp A B → Kp B C → Kp A C) (hKb : ∀ (W : World) (l : Nat) (o o' : Obj), w.heap.size ≤ l → W.heap[l]? = some o → o.isCells = false → o.isWalk = false → Kp W (W.putObj l o')) (hb0 : Below w0.heap.size w0 w)
    (I : List α → World → Prop) (Ix : Code → List α → World → Prop) (hI : OwnFrom w.heap.size I) (hIx : ∀ c, OwnFrom w.heap.size (Ix c)) (h0 : I [] w)
    (hassign : ∀ (l : Nat) (x : α) (W : World) (K : Act → World → Prop), K { tmps := a.tmps.setIfInBounds p1 (e1 x), defers := [] } W →
      assign.wpIn (F.inRound l) (n - 1 - 1) P (Exit.then K (fun _ _ _ => False)) { tmps := a.tmps.setIfInBounds p1 (e1 x), defers := [] } W)
    (hbody : ∀ (l : Nat) (pre : List α) (x : α) (W : World), I pre W → pre.length < N → body.wpIn (F.inRound l) (n - 1 - 1) P (ownPostG w.heap.size Kp I Ix (pre ++ [x]) W) { tmps := a.tmps.setIfInBounds p1 (e1 x), defers := [] } W)
    (hdone : ∀ (D : Nat) (xs : List α) (W : World), w.heap.size ≤ D → S xs → I xs W → W.heap[D]? = some (.deferred (some [])) → Q .normal { a with defers := { target := .collected D, args := #[] } :: a.defers } W)
    (hstop : ∀ (D : Nat) (c : Code) (pre : List α) (W : World), w.heap.size ≤ D → Sp pre → Ix c pre W → W.heap[D]? = some (.deferred (some [])) → c.wpIn F n P Q { a with defers := { target := .collected D, args := #[] } :: a.defers } W) :
    (Code.rangeFunc g #[p1] assign body).wpIn F n P Q a w := by
  refine wpIn_rangeFunc_ownG hro h1 hg hFg eg hseq (fun h k => hKt h k) hKb hb0 (fun _ => rfl) I Ix hI hIx h0
    (fun x => { tmps := a.tmps.setIfInBounds p1 (e1 x), defers := [] }) ?_ hbody hdone hstop
  intro l x W K hK
  have e : ((#[p1] : Array Tmp).zip #[e1 x]).foldl (fun t (p, v) => t.setIfInBounds p v) a.tmps = a.tmps.setIfInBounds p1 (e1 x) := by simp
  rw [e]
  exact hassign l x W K hK

/-- the box of the count, the box of the levels -/
structure NSt (t : Nat) (w : World) (s : Int) (W : World) : Prop where
  t : Blk W t #[.int .i64 s] 3
  below : Below w.heap.size w W
theorem nst_own {β : Type} (t : Nat) (w : World) (f : β → Int) (B : Nat) (hB : w.heap.size ≤ B) : OwnFrom B (fun q W => NSt t w (f q) W) := fun q X Y row h hg hr =>
  have hk := fun r e => (hr r e).2
  ⟨h.t.kept hg hk, h.below.grown hg h.below.size (fun k e => Nat.le_trans hB (hr k e).1)⟩

set_option maxRecDepth 100000 in
set_option maxHeartbeats 1000000 in
theorem I_NonzeroCount (zs : List Int) (w : World) (hz : zs.length = 16) (hv : absB 4080 zs = true) :
    Calls Try.prog 56 #[.agg (rowI zs)] w fun e w' => e = .returned (.int .i64 ((runsL zs).length : Int)) ∧ Below w.heap.size w w' := by
  have HZ := Lib.hid hz
  have HV := Lib.hid hv
  clear hz hv
  refine (callsIn_wide (n := 5)).1 ?_
  refine callsIn_of_wp_marks Try.func56 rfl trivial ?_ rfl
  simp only [Try.ntmps56, List.size_toArray, List.length_cons, List.length_nil, Nat.reduceAdd, Nat.reduceSub, Array.replicate_succ, Array.replicate_zero, List.push_toArray, List.append_toArray, List.nil_append, List.cons_append]
  refine (wpIn_wide (n := 5)).2 ?_
  go_wp2_with (first | (focus ((with_reducible refine wpList_wanted ?_ (fun K hK => ?_)); rotate_left; (refine wp_load_sub 26 (.tmp 1) ?ho w.heap.size 0 16 ?hx 26 zs (0, 0) _ ?hg Try.underlying26 rfl infoA16 ?hs (hK _ _ ?_)); (case ho => with_reducible rfl); (case hx => rfl); (case hg => exact (Below.heap_alloc _ _ _ (by simp)).trans (heap_alloc_new _ _)); (case hs => rw [HZ.out]; exact Nat.le_refl _); rw [show sub zs 0 16 = zs by rw [← HZ.out]; exact sub_all zs]; rotate_left; rfl)) | (go_at_call 57; refine (I_runsIn zs _).mono ?_; rintro e w' ⟨rfl, rfl⟩))
  have M0 : NSt (w.heap.size + 1) w ((rls []).length : Int) (((w.alloc (.cells (rowI zs) 26)).alloc (.cells #[.int .i64 0] 3)).alloc (.cells (rowI zs) 26)) :=
    ⟨(Blk.new _ _ _ _ (by simp)).alloc _, (by repeat' (first | (with_reducible exact Below.refl _ _) | (with_reducible refine Below.adds_ ?_ ?_ _ _) | (with_reducible refine Below.alloc ?_ ?_ _) | (with_reducible refine Below.drew ?_) | (with_reducible refine Below.setCell ?_ ?_ _) | (with_reducible assumption) | go_size | (simp only [size_addsW, World.size_alloc, World.size_drew, World.size_setCell]; omega)))⟩
  have hL : Blk (((w.alloc (.cells (rowI zs) 26)).alloc (.cells #[.int .i64 0] 3)).alloc (.cells (rowI zs) 26)) (w.heap.size + 1 + 1) (rowI zs) 26 := Blk.new _ _ _ _ (by simp)
  have hsz : (((w.alloc (.cells (rowI zs) 26)).alloc (.cells #[.int .i64 0] 3)).alloc (.cells (rowI zs) 26)).heap.size = w.heap.size + 3 := by simp
  generalize ((w.alloc (.cells (rowI zs) 26)).alloc (.cells #[.int .i64 0] 3)).alloc (.cells (rowI zs) 26) = W0 at M0 hL hsz ⊢
  refine (wpIn_wide (n := 5)).1 ?_
  refine wpIn_rangeFunc_one (e1 := fun x : RR => .agg #[.int .i64 (x.1.1 : Int), .int .i64 x.1.2]) rfl (by omega) (gf := 77) (lb := #[.pointer (some ⟨w.heap.size + 1 + 1, 0, none⟩)]) rfl trivial enters_runs
    (runs_stops (5 - 1) (w.heap.size + 1 + 1) zs (by omega) HZ.out HV.out W0 hL) KpC.trans kpC_b (Below.refl _ _)
    (fun pre W => NSt (w.heap.size + 1) w ((rls pre).length : Int) W)
    (fun cd pre W => False)
    (nst_own (w.heap.size + 1) w (fun pre => ((rls pre).length : Int)) _ (by omega))
    (fun cd => ownFrom_pure _ _) M0 ?assign ?body ?done ?stop
  case assign =>
    rintro l x W K hK
    simp only [List.setIfInBounds_toArray, List.set_cons_zero, List.set_cons_succ] at hK ⊢
    gi_wp2
    exact hK
  case body =>
    rintro l pre x W M1 hlt
    simp only [List.setIfInBounds_toArray, List.set_cons_zero, List.set_cons_succ]
    have HM := Lib.hid M1
    have m0 := M1.t.get (i := 0) rfl
    have f0 := M1.t.hot 0
    have lt := M1.t.lt
    have HE := Lib.hid (show ((rls (pre ++ [x])).length : Int) = ((rls pre).length : Int) + 1 by rw [rls_app]; simp)
    have hpl : (rls pre).length < 16 := by rw [rls_len]; exact hlt
    generalize (rls pre).length = c at *
    clear M1 M0 hL
    gi_wp2
    exact ⟨(KeepsOthers.setCell _ _ _).from _, (KpC.refl _ W).set (by simp only; omega) _, ⟨by simp only [HE.out]; exact HM.out.t.set 0 _, HM.out.below.setCell (by simp only; omega) _⟩⟩
  case done =>
    rintro D ys W hD hS M1 hK
    rw [hS] at M1
    have m0 := M1.t.get (i := 0) rfl
    go_wp2_with fail
    refine ⟨by simp, .inl ⟨_, _, rfl, run_takeDeferred hK, ?_⟩⟩
    exact ⟨.int .i64 ((runsL zs).length : Int), by simp [results, Try.results56, go_sem], rfl, M1.below.trans (belowK_b (w := w) (Nat.le_refl _) _ D _ _ (by omega) hK rfl rfl)⟩
  case stop =>
    rintro D cd pre W hD hS h
    exact h.elim

end Go.Proofs.Ytggkelehjdepkaa
