/- Lists of macroblocks: copied, compared, marked. -/
import Derived.Test.YtggkelehjdepkaaMeq
import Derived.Test.YtggkelehjdepkaaMb
import Derived.Test.YtggkelehjdepkaaCod
import Derived.Test.YtggkelehjdepkaaSoft
namespace Go.Proofs.Ytggkelehjdepkaa
open Go.RowKit
set_option linter.unusedVariables false
set_option linter.unusedSimpArgs false

attribute [local go_sem] size_addsW cell?_addsW frozen?_addsW setCell_addsW drew_addsW adds_addsW setCell_twice alloc_adds0 size_adds0 adds_adds0 sel2 sel3 sel4 sel5 sel6 sel7 sel8 sel9 lt_more lt_more2 lt_more3 lt_more4 adds_drew adds_drewN drewN_addsW ltA_1_1 ltA_1_2 ltA_1_3 ltA_1_4 ltA_1_5 ltA_1_6 ltA_2_1 ltA_2_2 ltA_2_3 ltA_2_4 ltA_2_5 ltA_2_6 ltA_3_1 ltA_3_2 ltA_3_3 ltA_3_4 ltA_3_5 ltA_3_6 ltA_4_1 ltA_4_2 ltA_4_3 ltA_4_4 ltA_4_5 ltA_4_6 ltA_5_1 ltA_5_2 ltA_5_3 ltA_5_4 ltA_5_5 ltA_5_6 ltA_6_1 ltA_6_2 ltA_6_3 ltA_6_4 ltA_6_5 ltA_6_6 ltA_7_1 ltA_7_2 ltA_7_3 ltA_7_4 ltA_7_5 ltA_7_6 ltA_8_1 ltA_8_2 ltA_8_3 ltA_8_4 ltA_8_5 ltA_8_6 ltA_9_1 ltA_9_2 ltA_9_3 ltA_9_4 ltA_9_5 ltA_9_6 ltA_10_1 ltA_10_2 ltA_10_3 ltA_10_4 ltA_10_5 ltA_10_6 ltA_11_1 ltA_11_2 ltA_11_3 ltA_11_4 ltA_11_5 ltA_11_6 ltA_12_1 ltA_12_2 ltA_12_3 ltA_12_4 ltA_12_5 ltA_12_6

section
variable {P : Program}
theorem run_loadVar_at (w : World) (g o s : Nat) (ty : TypeId) (xs : List Int) (d : TypeDesc) (hc : ∀ j, j < s → w.cell? ⟨g, o + j, none⟩ = some (.int .i64 (xs.getD j 0))) (hl : xs.length = s)
    (hu : P.underlying ty = some d) (hd : (match d with | .struct _ | .array _ _ => true | _ => false) = true) (hi : (P.info? ty).map (·.size) = some s) :
    (loadVar ty ⟨g, o, none⟩).run P w = .ok (.agg (rowI xs)) w := by
  have hl : (loadCells ⟨g, o, none⟩ (rowI xs).toList.length).run P w = .ok (rowI xs).toList.toArray w :=
    run_loadCells_list (P := P) w ⟨g, o, none⟩ (rowI xs).toList (fun j v hv => by
      have hadd : (⟨g, o, none⟩ : Addr).add j = ⟨g, o + j, none⟩ := by unfold Addr.add; split <;> simp_all
      have hj : j < s := by
        have := (List.getElem?_eq_some_iff.1 hv).1
        simp only [Array.length_toList, rowI_size, hl] at this
        exact this
      rw [hadd, hc j hj]
      rw [Array.getElem?_toList, rowI_get (by omega)] at hv
      exact hv)
  have hsz : (rowI xs).size = s := by rw [rowI_size]; assumption
  cases hq : P.info? ty with
  | none => simp [hq] at hi
  | some i =>
    have hs : i.size = s := by simpa [hq] using hi
    have hagg : (isAgg ty).run P w = .ok true w := by
      unfold isAgg
      rw [Sem.run_bind, run_underlying hu w]
      cases d <;> simp_all
    simp only [Array.length_toList, Array.toArray_toList, hsz] at hl
    simp [loadVar, Sem.run_bind, hagg, sizeOf, typeInfo, hq, hs, hl]
theorem wp_load_at {o : Oper} {a : Act} {w : World} {K : Act → World → Prop} {Q : Exit → Act → World → Prop} (ty : TypeId) (x : Operand) (ho : o.op = .load ty x)
    (g off s : Nat) (hx : a.eval x = .pointer (some ⟨g, off, none⟩)) (xs : List Int) (d : TypeDesc) (hc : ∀ j, j < s → w.cell? ⟨g, off + j, none⟩ = some (.int .i64 (xs.getD j 0))) (hl : xs.length = s)
    (hu : P.underlying ty = some d) (hd : (match d with | .struct _ | .array _ _ => true | _ => false) = true) (hi : (P.info? ty).map (·.size) = some s)
    (h : K (a.put o.dst (.agg (rowI xs))) w) : o.wp P a w K Q := by
  unfold Oper.wp execOp
  simp only [ho, hx, Instr.loadAt, Instr.sureAddr, Sem.run_bind, Sem.run_pure, Result.andThen_ok, run_loadVar_at w g off s ty xs d hc hl hu hd hi]
  exact h
end

/-- the cells of one macroblock of a list -/
theorem RowAt.part {w : World} {A : Option Addr} {zs : List Int} {n k : Nat} (h : RowAt .i64 w A zs) (hz : zs.length = n * 71) (hk : k < n) :
    ∃ b off, A = some ⟨b, off, none⟩ ∧ b < w.heap.size ∧ (sub zs (k * 71) 71).length = 71 ∧ ∀ j, j < 71 → w.cell? ⟨b, off + k * 71 + j, none⟩ = some (.int .i64 ((sub zs (k * 71) 71).getD j 0)) := by
  obtain ⟨b, off, rfl, hb, hc⟩ := h (by intro e; subst e; simp at hz; omega)
  refine ⟨b, off, rfl, hb, sub_len (by omega), fun j hj => ?_⟩
  rw [sub_at hj, Nat.add_assoc]
  exact hc (k * 71 + j) (by omega)
theorem infoMacZ : (Try.prog.info? 29).map (fun i => (i.zero, i.size, i.bytes)) = some (some (.agg (rowI (zL 71))), 71, 568) := by kernel_rfl
theorem infoMacS : (Try.prog.info? 29).map (·.size) = some 71 := by kernel_rfl
theorem infoMacL : (Try.prog.info? 52).map (·.size) = some 71 := by kernel_rfl
theorem made_zero (s n : Nat) (zs : List Int) (hs : 0 < s) : madeCells (rowI (zL s)) (n * s) = rowI (cpL (n * s) 0 zs) := by
  apply Array.ext_getElem?
  intro i
  simp only [madeCells, cpL, rowI, zL, Array.getElem?_map, List.getElem?_toArray, List.getElem?_map, List.take_zero, List.nil_append, Nat.sub_zero, List.getElem?_replicate, Array.getElem?_range]
  by_cases h : i < n * s
  · have : i % s < s := Nat.mod_lt _ hs
    simp [h, this]
  · simp [h]
theorem made_mac (n : Nat) (zs : List Int) : madeCells (rowI (zL 71)) (n * 71) = rowI (cpL (n * 71) 0 zs) := made_zero 71 n zs (by decide)

theorem L_szMacroS (A : Option Addr) (n c : Nat) (left : Int) (w : World) (hn : n ≤ 9223372036854775807) (hl : 0 ≤ left ∧ left ≤ 1048576) :
    Calls Try.prog 13 #[.slice A n c, .int .i64 left] w fun e w' => e = .returned (.int .i64 (if left < n then -1 else left - n)) ∧ w = w' := by
  by_cases hc : left < n
  all_goals
    rw [show (if left < (n : Int) then (-1 : Int) else left - n) = _ from by first | rw [if_pos hc] | rw [if_neg hc]]
    go_enter Try.func13, Try.ntmps13
    go_wp2
    go_returns
    exact ⟨rfl, rfl⟩

/-- a copy of a list of macroblocks in new memory that may be written -/
def MacsGot (n : Nat) (zs : List Int) (w : World) (e : Ending) (w' : World) : Prop :=
  ∃ g : Nat, e = .returned (.slice (some ⟨g, 0, none⟩) n n) ∧ RowAt .i64 w' (some ⟨g, 0, none⟩) zs ∧ Soft w' (some ⟨g, 0, none⟩) ∧ w.heap.size ≤ g ∧ Below w.heap.size w w'
theorem heap_adds1 (w : World) (u : Array Value) (t : TypeId) (oo : Array Obj) (nn : Nat) : (addsW (w.alloc (.cells u t)) oo nn).heap[w.heap.size]? = some (.cells u t (0, 0)) := by
  rw [heap_addsW _ _ _ _ (by simp)]; exact heap_alloc_new _ _
theorem setRow_adds1 (w : World) (u cs : Array Value) (t : TypeId) (oo : Array Obj) (nn : Nat) : (addsW (w.alloc (.cells u t)) oo nn).setRow w.heap.size cs = addsW (w.alloc (.cells cs t)) oo nn := by
  rw [setRow_addsW _ _ _ _ _ (by simp), setRow_alloc _ _ _ _ _ rfl]

set_option maxRecDepth 100000 in
set_option maxHeartbeats 1000000 in
theorem L_toMacroS (A : Option Addr) (n c : Nat) (zs : List Int) (w : World) (hr : RowAt .i64 w A zs) (hz : zs.length = n * 71) (hl : n ≤ 1048576) :
    Calls Try.prog 15 #[.slice A n c] w (MacsGot n zs w) := by
  have hmk : ∀ W : World, (Instr.makeSlice 43 (.int .i64 (n : Int)) (.int .i64 (n : Int))).run Try.prog W = .ok (.slice (some ⟨W.heap.size, 0, none⟩) n n) (W.alloc (.cells (rowI (cpL (n * 71) 0 zs)) 29)) := by
    intro W
    obtain ⟨i0, hi, hz0, hz1, hz2⟩ := info_parts infoMacZ
    have hh := run_make (P := Try.prog) W 43 29 i0 (.agg (rowI (zL 71))) Try.underlying43 hi hz0 .i64 .i64 n n (by omega) (Int.le_refl _) (by rw [hz2]; omega) (by omega)
    rw [← made_mac n zs]
    rw [hz1] at hh
    exact hh
  have HR := Lib.hid hr
  have HN := Lib.hid hz
  clear hr hz
  go_enter Try.func15, Try.ntmps15
  go_wp2_with fail
  go_loopw [4] (fun i wr => ∃ (k m : Nat) (os : Array Obj), k ≤ n ∧ i = .int .i64 (k : Int) ∧ wr = addsW (w.alloc (.cells (rowI (cpL (n * 71) (k * 71) zs)) 29)) os m) (fun i _ => n - (intOf i).toNat)
  case atStart => exact ⟨0, _, #[], Nat.zero_le _, rfl, by rw [Nat.zero_mul]; exact self_adds _⟩
  case round =>
    obtain ⟨k, m, os, hk, rfl, rfl⟩ := hrel
    by_cases hlt : k < n
    · have hd1 : decide ((k : Int) < (n : Int)) = true := by simp; omega
      have hk4 : (k : Int) < (n : Int) := by omega
      have hRw : RowAt .i64 (addsW (w.alloc (.cells (rowI (cpL (n * 71) (k * 71) zs)) 29)) os m) A zs := HR.out.keep (by repeat' (first | (with_reducible exact Below.refl _ _) | (with_reducible refine Below.adds_ ?_ ?_ _ _) | (with_reducible refine Below.alloc ?_ ?_ _) | (with_reducible refine Below.drew ?_) | (with_reducible refine Below.setCell ?_ ?_ _) | (with_reducible assumption) | go_size | (simp only [size_addsW, World.size_alloc, World.size_drew, World.size_setCell]; omega)))
      obtain ⟨b, off, rfl, hb, hsl, hcl⟩ := hRw.part HN.out hlt
      have HCL := Lib.hid hcl
      have HSL := Lib.hid hsl
      have HSP := Lib.hid (cpL_spl (n := n * 71) (o := k * 71) (s := 71) HN.out (by omega))
      have HLC := Lib.hid (cpL_len (n := n * 71) (k := k * 71) HN.out (by omega))
      clear hcl hsl hRw hmk
      go_wp2_with (first | (focus ((with_reducible refine wpList_wanted ?_ (fun K hK => ?_)); rotate_left; (refine wp_load_at 52 (.tmp 18) ?ho b (off + k * 71) 71 ?hx (sub zs (k * 71) 71) _ HCL.out HSL.out Try.underlying52 rfl infoMacL (hK _ _ ?_)); (case ho => with_reducible rfl); (case hx => rfl); rotate_left; rfl)) | (go_at_call 22; refine (L_toMacro _ _ HSL.out).mono ?_; rintro e w' ⟨rfl, hb⟩; obtain ⟨o1, n1, rfl⟩ := below_adds hb; clear hb) | (focus ((with_reducible refine wpList_wanted ?_ (fun K hK => ?_)); rotate_left; (refine wp_store_sub 29 (.tmp 21) (.tmp 20) ?ho w.heap.size (k * 71) (sub zs (k * 71) 71) ?hx ?hy 29 (cpL (n * 71) (k * 71) zs) ?hg ?hi ?hfit (hK _ _ ?_)); (case ho => with_reducible rfl); (case hx => rfl); (case hy => rfl); (case hg => first | exact heap_adds1 _ _ _ _ _ | (rw [adds_addsW]; exact heap_adds1 _ _ _ _ _)); (case hi => rw [HSL.out]; exact infoMacS); (case hfit => rw [HSL.out, HLC.out]; omega); rw [HSP.out]; (first | rw [setRow_adds1] | rw [adds_addsW, setRow_adds1]); rotate_left; rfl)))
      go_roundw
      case rel => exact ⟨k + 1, _, _, by omega, by go_num, by rw [show (k + 1) * 71 = k * 71 + 71 by omega]⟩
      case measure => simp [intOf]; omega
    · obtain rfl : k = n := by omega
      go_wp2_with fail
      go_returns
      refine ⟨_, rfl, ?_, (Soft.new_ _ _ _ rfl).keep (addsW_below _ _ _), Nat.le_refl _, (by repeat' (first | (with_reducible exact Below.refl _ _) | (with_reducible refine Below.adds_ ?_ ?_ _ _) | (with_reducible refine Below.alloc ?_ ?_ _) | (with_reducible refine Below.drew ?_) | (with_reducible refine Below.setCell ?_ ?_ _) | (with_reducible assumption) | go_size | (simp only [size_addsW, World.size_alloc, World.size_drew, World.size_setCell]; omega)))⟩
      rw [cpL_full HN.out]
      exact (RowAt.new .i64 w zs _).keep (addsW_below _ _ _)

/-- both lists stand -/
def Lk (A A' : Option Addr) (zs : List Int) (w wr : World) : Prop := RowAt .i64 wr A zs ∧ RowAt .i64 wr A' zs ∧ Below w.heap.size w wr
theorem Lk.next {A A' : Option Addr} {zs : List Int} {w wr w' : World} (h : Lk A A' zs w wr) (hb : Below wr.heap.size wr w') : Lk A A' zs w w' := ⟨h.1.keep hb, h.2.1.keep hb, h.2.2.trans (hb.mono h.2.2.size)⟩
theorem Lk.drew {A A' : Option Addr} {zs : List Int} {w wr : World} (h : Lk A A' zs w wr) : Lk A A' zs w wr.drew := h.next ((Below.refl _ _).drew)
theorem Lk.part1 {b off : Nat} {A' : Option Addr} {zs : List Int} {w wr : World} {n k : Nat} (h : Lk (some ⟨b, off, none⟩) A' zs w wr) (hz : zs.length = n * 71) (hk : k < n) : ∀ j, j < 71 → wr.cell? ⟨b, off + k * 71 + j, none⟩ = some (.int .i64 ((sub zs (k * 71) 71).getD j 0)) := by
  obtain ⟨b', off', e, -, -, hc⟩ := h.1.part hz hk
  injection e with e; injection e with e1 e2; subst e1 e2
  exact hc
theorem Lk.part2 {b off : Nat} {A : Option Addr} {zs : List Int} {w wr : World} {n k : Nat} (h : Lk A (some ⟨b, off, none⟩) zs w wr) (hz : zs.length = n * 71) (hk : k < n) : ∀ j, j < 71 → wr.cell? ⟨b, off + k * 71 + j, none⟩ = some (.int .i64 ((sub zs (k * 71) 71).getD j 0)) := by
  obtain ⟨b', off', e, -, -, hc⟩ := h.2.1.part hz hk
  injection e with e; injection e with e1 e2; subst e1 e2
  exact hc

set_option maxRecDepth 100000 in
set_option maxHeartbeats 2000000 in
theorem L_eqMacroS (A A' : Option Addr) (n c c' : Nat) (zs : List Int) (w : World) (hr : RowAt .i64 w A zs) (hr' : RowAt .i64 w A' zs) (hz : zs.length = n * 71) (hl : n ≤ 1000000000000) :
    Calls Try.prog 18 #[.slice A n c, .slice A' n c'] w fun e w' => e = .returned (.bool true) ∧ Below w.heap.size w w' := by
  have HN := Lib.hid hz
  have H0 := Lib.hid (show Lk A A' zs w w from ⟨hr, hr', Below.refl _ _⟩)
  clear hr hr' hz
  go_enter Try.func18, Try.ntmps18
  go_wp2_with fail
  go_loopw [5] (fun i wr => ∃ k : Nat, k ≤ n ∧ i = .int .i64 (k : Int) ∧ Lk A A' zs w wr) (fun i _ => n - (intOf i).toNat)
  case atStart => exact ⟨0, Nat.zero_le _, rfl, H0.out⟩
  case round =>
    clear H0
    obtain ⟨k, hk, rfl, hL⟩ := hrel
    have HLk := Lib.hid hL
    clear hL
    by_cases hlt : k < n
    · obtain ⟨b, off, rfl, hb, hsl, -⟩ := HLk.out.1.part HN.out hlt
      obtain ⟨b', off', rfl, hb', -, -⟩ := HLk.out.2.1.part HN.out hlt
      have HSL := Lib.hid hsl
      have hd1 : decide ((k : Int) < (n : Int)) = true := by simp; omega
      have hk0 : (0 : Int) ≤ (k : Int) := by omega
      have hk1 : (k : Int) < (n : Int) := by omega
      have HC := Lib.hid (show ∀ W, Calls Try.prog 42 #[.agg (rowI (sub zs (k * 71) 71)), .agg (rowI (sub zs (k * 71) 71))] W fun e w' => e = .returned (.bool true) ∧ Below W.heap.size W w' from fun W => L_eqMacro _ W hsl)
      clear hsl hb hb'
      go_upto_region 6 with fail
      refine wp_region_held_drew (S := (fun w' => Lk (some ⟨b, off, none⟩) (some ⟨b', off', none⟩) zs w w')) (by kernel_rfl) ?_ (fun hHeld => ?_)
      · (first | exact HLk.out.drew | assumption | exact Lk.next (by assumption) (addsW_below _ _ _))
      refine wpAnyH_take (i := 0) (oi := _) (v := ?_) rfl (by kernel_rfl) (by kernel_rfl) (by kernel_rfl) (fun _ _ _ h => h) (Or.inl ⟨by rfl, ?_⟩) (by assumption) ?_
      rotate_left
      · intro w hSw; (try dsimp only at hSw); go_simp; (try with_reducible rfl)
      try dsimp only [List.getElem_toArray, List.getElem_cons_succ, List.getElem_cons_zero]
      simp only [Act.put, List.setIfInBounds_toArray, List.set_cons_zero, List.set_cons_succ]
      refine wpAnyH_take (i := 1) (oi := _) (v := ?_) rfl (by kernel_rfl) (by kernel_rfl) (by kernel_rfl) (fun _ _ _ h => h) (Or.inl ⟨by rfl, ?_⟩) (by assumption) ?_
      rotate_left
      · intro w hSw; (try dsimp only at hSw); go_simp; (try with_reducible rfl)
      try dsimp only [List.getElem_toArray, List.getElem_cons_succ, List.getElem_cons_zero]
      simp only [Act.put, List.setIfInBounds_toArray, List.set_cons_zero, List.set_cons_succ]
      refine wpAnyH_take (i := 2) (oi := _) (v := ?_) rfl (by kernel_rfl) (by kernel_rfl) (by kernel_rfl) (fun _ _ _ h => h) (Or.inl ⟨by rfl, ?_⟩) (by assumption) ?_
      rotate_left
      · intro w hSw; (try dsimp only at hSw); go_simp; (try with_reducible rfl)
      try dsimp only [List.getElem_toArray, List.getElem_cons_succ, List.getElem_cons_zero]
      simp only [Act.put, List.setIfInBounds_toArray, List.set_cons_zero, List.set_cons_succ]
      refine wpAnyH_take (i := 4) (oi := _) (v := ?_) rfl (by kernel_rfl) (by kernel_rfl) (by kernel_rfl) (fun _ _ _ h => h) (Or.inl ⟨by rfl, ?_⟩) (by assumption) ?_
      rotate_left
      · intro w hSw; (try dsimp only at hSw); go_simp; (try with_reducible rfl)
      try dsimp only [List.getElem_toArray, List.getElem_cons_succ, List.getElem_cons_zero]
      simp only [Act.put, List.setIfInBounds_toArray, List.set_cons_zero, List.set_cons_succ]
      refine wpAnyH_take (i := 5) (oi := _) (v := ?_) rfl (by kernel_rfl) (by kernel_rfl) (by kernel_rfl) (fun _ _ _ h => h) (Or.inl ⟨by rfl, ?_⟩) (by assumption) ?_
      rotate_left
      · intro w hSw; (try dsimp only at hSw); go_simp; (try with_reducible rfl)
      try dsimp only [List.getElem_toArray, List.getElem_cons_succ, List.getElem_cons_zero]
      simp only [Act.put, List.setIfInBounds_toArray, List.set_cons_zero, List.set_cons_succ]
      refine wpAnyH_take (i := 6) (oi := _) (v := ?_) rfl (by kernel_rfl) (by kernel_rfl) (by kernel_rfl) (fun _ _ _ h => h) (Or.inl ⟨by rfl, ?_⟩) (by assumption) ?_
      rotate_left
      · intro w hSw; (try dsimp only at hSw); go_simp; (try with_reducible rfl)
      try dsimp only [List.getElem_toArray, List.getElem_cons_succ, List.getElem_cons_zero]
      simp only [Act.put, List.setIfInBounds_toArray, List.set_cons_zero, List.set_cons_succ]
      refine wpAnyH_ready (rs := [3, 7]) (by kernel_rfl) (by simp) ?_
      refine AllReadyH.cons (o := _) rfl (fun K hK => ?_) ?_
      · (try dsimp only [List.getElem_toArray, List.getElem_cons_succ, List.getElem_cons_zero])
        (rw [if_pos (by rfl)]; first | (refine wp_load_at 29 (.tmp 19) (by with_reducible rfl) b (off + k * 71) 71 (by rfl) (sub zs (k * 71) 71) _ (hHeld.part1 HN.out hlt) HSL.out Try.underlying29 rfl infoMacS ?_) | (refine wp_load_at 29 (.tmp 23) (by with_reducible rfl) b' (off' + k * 71) 71 (by rfl) (sub zs (k * 71) 71) _ (hHeld.part2 HN.out hlt) HSL.out Try.underlying29 rfl infoMacS ?_))
        refine hK.out _ _ ?_ (fun hHeld => ?_)
        · (first | exact HLk.out.drew | assumption | exact Lk.next (by assumption) (addsW_below _ _ _))
        clear hK K
        try simp only [Act.put, List.setIfInBounds_toArray, List.set_cons_zero, List.set_cons_succ]
        refine wpAnyH_ready (rs := [7]) (by kernel_rfl) (by simp) ?_
        refine AllReadyH.cons (o := _) rfl (fun K hK => ?_) ?_
        · (try dsimp only [List.getElem_toArray, List.getElem_cons_succ, List.getElem_cons_zero])
          (rw [if_pos (by rfl)]; first | (refine wp_load_at 29 (.tmp 19) (by with_reducible rfl) b (off + k * 71) 71 (by rfl) (sub zs (k * 71) 71) _ (hHeld.part1 HN.out hlt) HSL.out Try.underlying29 rfl infoMacS ?_) | (refine wp_load_at 29 (.tmp 23) (by with_reducible rfl) b' (off' + k * 71) 71 (by rfl) (sub zs (k * 71) 71) _ (hHeld.part2 HN.out hlt) HSL.out Try.underlying29 rfl infoMacS ?_))
          refine hK.out _ _ ?_ (fun hHeld => ?_)
          · (first | exact HLk.out.drew | assumption | exact Lk.next (by assumption) (addsW_below _ _ _))
          clear hK K
          try simp only [Act.put, List.setIfInBounds_toArray, List.set_cons_zero, List.set_cons_succ]
          refine wpAnyH_ready (rs := [8]) (by kernel_rfl) (by simp) ?_
          refine AllReadyH.cons (o := _) rfl (fun K hK => ?_) ?_
          · (try dsimp only [List.getElem_toArray, List.getElem_cons_succ, List.getElem_cons_zero]); go_simp
            (go_at_call 42; refine (HC.out _).mono ?_; rintro e w' ⟨rfl, hb⟩; obtain ⟨o1, n1, rfl⟩ := below_adds hb; clear hb)
            try go_wp2_with fail
            refine hK.out _ _ ?_ (fun hHeld => ?_)
            · (first | exact HLk.out.drew | assumption | exact Lk.next (by assumption) (addsW_below _ _ _))
            clear hK K
            try simp only [Act.put, List.setIfInBounds_toArray, List.set_cons_zero, List.set_cons_succ]
            refine wpAnyH_take (i := 9) (oi := _) (v := ?_) rfl (by kernel_rfl) (by kernel_rfl) (by kernel_rfl) (fun _ _ _ h => h) (Or.inl ⟨by rfl, ?_⟩) (by assumption) ?_
            rotate_left
            · intro w hSw; (try dsimp only at hSw); go_simp; (try with_reducible rfl)
            try dsimp only [List.getElem_toArray, List.getElem_cons_succ, List.getElem_cons_zero]
            simp only [Act.put, List.setIfInBounds_toArray, List.set_cons_zero, List.set_cons_succ]
            refine wpAnyH_done (by kernel_rfl) ?_ _
            go_wp2_with fail
            go_roundw
            case rel => exact ⟨k + 1, by omega, by go_num, by assumption⟩
            case measure => simp [intOf]; omega
          exact AllReadyH.nil
        exact AllReadyH.nil
      refine AllReadyH.cons (o := _) rfl (fun K hK => ?_) ?_
      · (try dsimp only [List.getElem_toArray, List.getElem_cons_succ, List.getElem_cons_zero])
        (rw [if_pos (by rfl)]; first | (refine wp_load_at 29 (.tmp 19) (by with_reducible rfl) b (off + k * 71) 71 (by rfl) (sub zs (k * 71) 71) _ (hHeld.part1 HN.out hlt) HSL.out Try.underlying29 rfl infoMacS ?_) | (refine wp_load_at 29 (.tmp 23) (by with_reducible rfl) b' (off' + k * 71) 71 (by rfl) (sub zs (k * 71) 71) _ (hHeld.part2 HN.out hlt) HSL.out Try.underlying29 rfl infoMacS ?_))
        refine hK.out _ _ ?_ (fun hHeld => ?_)
        · (first | exact HLk.out.drew | assumption | exact Lk.next (by assumption) (addsW_below _ _ _))
        clear hK K
        try simp only [Act.put, List.setIfInBounds_toArray, List.set_cons_zero, List.set_cons_succ]
        refine wpAnyH_ready (rs := [3]) (by kernel_rfl) (by simp) ?_
        refine AllReadyH.cons (o := _) rfl (fun K hK => ?_) ?_
        · (try dsimp only [List.getElem_toArray, List.getElem_cons_succ, List.getElem_cons_zero])
          (rw [if_pos (by rfl)]; first | (refine wp_load_at 29 (.tmp 19) (by with_reducible rfl) b (off + k * 71) 71 (by rfl) (sub zs (k * 71) 71) _ (hHeld.part1 HN.out hlt) HSL.out Try.underlying29 rfl infoMacS ?_) | (refine wp_load_at 29 (.tmp 23) (by with_reducible rfl) b' (off' + k * 71) 71 (by rfl) (sub zs (k * 71) 71) _ (hHeld.part2 HN.out hlt) HSL.out Try.underlying29 rfl infoMacS ?_))
          refine hK.out _ _ ?_ (fun hHeld => ?_)
          · (first | exact HLk.out.drew | assumption | exact Lk.next (by assumption) (addsW_below _ _ _))
          clear hK K
          try simp only [Act.put, List.setIfInBounds_toArray, List.set_cons_zero, List.set_cons_succ]
          refine wpAnyH_ready (rs := [8]) (by kernel_rfl) (by simp) ?_
          refine AllReadyH.cons (o := _) rfl (fun K hK => ?_) ?_
          · (try dsimp only [List.getElem_toArray, List.getElem_cons_succ, List.getElem_cons_zero]); go_simp
            (go_at_call 42; refine (HC.out _).mono ?_; rintro e w' ⟨rfl, hb⟩; obtain ⟨o1, n1, rfl⟩ := below_adds hb; clear hb)
            try go_wp2_with fail
            refine hK.out _ _ ?_ (fun hHeld => ?_)
            · (first | exact HLk.out.drew | assumption | exact Lk.next (by assumption) (addsW_below _ _ _))
            clear hK K
            try simp only [Act.put, List.setIfInBounds_toArray, List.set_cons_zero, List.set_cons_succ]
            refine wpAnyH_take (i := 9) (oi := _) (v := ?_) rfl (by kernel_rfl) (by kernel_rfl) (by kernel_rfl) (fun _ _ _ h => h) (Or.inl ⟨by rfl, ?_⟩) (by assumption) ?_
            rotate_left
            · intro w hSw; (try dsimp only at hSw); go_simp; (try with_reducible rfl)
            try dsimp only [List.getElem_toArray, List.getElem_cons_succ, List.getElem_cons_zero]
            simp only [Act.put, List.setIfInBounds_toArray, List.set_cons_zero, List.set_cons_succ]
            refine wpAnyH_done (by kernel_rfl) ?_ _
            go_wp2_with fail
            go_roundw
            case rel => exact ⟨k + 1, by omega, by go_num, by assumption⟩
            case measure => simp [intOf]; omega
          exact AllReadyH.nil
        exact AllReadyH.nil
      exact AllReadyH.nil
    · obtain rfl : k = n := by omega
      go_wp2_with fail
      go_returns
      exact ⟨rfl, HLk.out.2.2⟩

def MkRel (w : World) (g n : Nat) (k0 : Int) (k : Nat) (kk : Value) (c : Nat) (wr : World) : Prop :=
  ∃ ys : List Int, kk = .int .i64 (k0 + 7 * k + c) ∧ Marked w (some ⟨g, 0, none⟩) wr ∧ ys.length = n * 71 ∧ RowAt .i64 wr (some ⟨g, 0, none⟩) ys ∧ Soft wr (some ⟨g, 0, none⟩)

set_option maxRecDepth 100000 in
set_option maxHeartbeats 2000000 in
theorem L_markMacroS (g c n : Nat) (zs : List Int) (k0 : Int) (w : World) (hr : RowAt .i64 w (some ⟨g, 0, none⟩) zs) (hs : Soft w (some ⟨g, 0, none⟩)) (hz : zs.length = n * 71) (hl : n ≤ 1048576) (hk0 : 0 ≤ k0 ∧ k0 ≤ 1000000000000) :
    Calls Try.prog 19 #[.slice (some ⟨g, 0, none⟩) n c, .int .i64 k0] w fun e w' => e = .returned (.int .i64 (k0 + 7 * n)) ∧ Marked w (some ⟨g, 0, none⟩) w' := by
  have H0 := Lib.hid (show MkRel w g n k0 0 (.int .i64 k0) 0 w from ⟨zs, by simp, Marked.refl _ _, hz, hr, hs⟩)
  clear hr hs hz
  go_enter Try.func19, Try.ntmps19
  go_wp2_with fail
  go_loopw [1, 5] (fun kk i wr => ∃ k : Nat, k ≤ n ∧ i = .int .i64 (k : Int) ∧ MkRel w g n k0 k kk 0 wr) (fun _ i _ => n - (intOf i).toNat)
  case atStart => exact ⟨0, Nat.zero_le _, rfl, H0.out⟩
  case round =>
    clear H0
    obtain ⟨k, hk, rfl, ys, rfl, hm, hy, hr, hs⟩ := hrel
    have HM := Lib.hid hm
    have HR1 := Lib.hid hr
    have HS1 := Lib.hid hs
    have HY := Lib.hid hy
    clear hm hr hs hy
    by_cases hlt : k < n
    · have hd1 : decide ((k : Int) < (n : Int)) = true := by simp; omega
      have hk1 : (k : Int) < (n : Int) := by omega
      obtain ⟨b, off, e, hb, -, hc⟩ := HR1.out.part HY.out hlt
      injection e with e; injection e with e1 e2; subst e1 e2
      rw [Nat.zero_add] at hc
      have c0 := hc 0 (by omega)
      have c1 := hc 1 (by omega)
      have c2 := hc 2 (by omega)
      rw [Nat.add_zero] at c0
      have f0 := HS1.out.hot rfl (k * 71)
      have f1 := HS1.out.hot rfl (k * 71 + 1)
      have f2 := HS1.out.hot rfl (k * 71 + 2)
      generalize (sub ys (k * 71) 71).getD 0 0 = a0 at c0
      generalize (sub ys (k * 71) 71).getD 1 0 = a1 at c1
      generalize (sub ys (k * 71) 71).getD 2 0 = a2 at c2
      clear hc
      go_wp2_with fail
      go_loopw [1, 6] (fun kk j wr => ∃ j' : Nat, j' ≤ 4 ∧ j = .int .i64 (j' : Int) ∧ MkRel w g n k0 k kk (3 + j') wr) (fun _ j _ => 4 - (intOf j).toNat)
      case atStart =>
        refine ⟨0, Nat.zero_le _, rfl, ((ys.set (k * 71) _).set (k * 71 + 1) _).set (k * 71 + 2) _, ?_, ((HM.out.set _ _).set _ _).set _ _, by rw [List.length_set, List.length_set, List.length_set]; exact HY.out, ((HR1.out.put0 (by rw [HY.out]; omega)).put0 (by rw [List.length_set, HY.out]; omega)).put0 (by rw [List.length_set, List.length_set, HY.out]; omega), ((HS1.out.set _ _).set _ _).set _ _⟩
        go_num
      case round =>
        clear HM HR1 HS1 HY c0 c1 c2 f0 f1 f2 hb
        obtain ⟨j, hj, rfl, ys, rfl, hm, hy, hr, hs⟩ := hrel
        have HM := Lib.hid hm
        have HR1 := Lib.hid hr
        have HS1 := Lib.hid hs
        have HY := Lib.hid hy
        clear hm hr hs hy
        by_cases hlt2 : j < 4
        · have hd2 : decide ((j : Int) < 4) = true := by simp; omega
          have hj1 : (j : Int) < 4 := by omega
          obtain ⟨b, off, e, hb, -, hc⟩ := HR1.out.part HY.out hlt
          injection e with e; injection e with e1 e2; subst e1 e2
          rw [Nat.zero_add] at hc
          have cj := hc (3 + j) (by omega)
          rw [← Nat.add_assoc] at cj
          have cj2 := cj
          rw [show k * 71 + 3 = k * 71 + 1 + 2 from rfl] at cj2
          have fj := HS1.out.hot rfl (k * 71 + 3 + j)
          generalize (sub ys (k * 71) 71).getD (3 + j) 0 = aj at cj cj2
          clear hc
          go_wp2_with fail
          refine ⟨⟨j + 1, by omega, by go_num, ys.set (k * 71 + 3 + j) _, by congr 1; omega, HM.out.set _ _, by rw [List.length_set]; exact HY.out, HR1.out.put0 (by rw [HY.out]; omega), HS1.out.set _ _⟩, by simp [intOf]; omega⟩
        · obtain rfl : j = 4 := by omega
          go_wp2_with fail
          go_roundw
          case rel => exact ⟨k + 1, by omega, by go_num, ys, by go_num, HM.out, HY.out, HR1.out, HS1.out⟩
          case measure => simp [intOf]; omega
    · obtain rfl : k = n := by omega
      go_wp2_with fail
      go_returns
      exact ⟨by simp, HM.out⟩

end Go.Proofs.Ytggkelehjdepkaa
