/- PROVED: the law laws.FnBinsValid returns true for every input: whatever decisions are drawn from the code, BinsValid answers as the reference does, refuses a list with a decision in an unknown context, and takes the first half of a valid list; no conditions. -/
import Derived.Test.YtmockpkddcnmiaaRows
import Derived.Test.YtmockpkddcnmiaaDrawE
import Derived.Test.YtmockpkddcnmiaaBins
import Derived.WalkKit
import Derived.ProofKit
import Derived.OpenShut
import Derived.ShutString
import Derived.ChangeOld
import Derived.Below
import Derived.Lib.SmallJoins
namespace Go.Proofs.Ytmockpkddcnmiaa.fnBinsValid
open Go.ChangeShapes Go.WideShapes Go.ChangeAt Go.RowKit
open Go.ChangeMaps (open_string shut_string)
set_option linter.unusedVariables false
set_option linter.unusedSimpArgs false

theorem own : ownKnob Try.prog.godebug = none := by kernel_rfl
theorem laidOut : laidOutB Try.prog = true := by kernel_rfl

attribute [local go_sem] size_addsW cell?_addsW frozen?_addsW setCell_addsW drew_addsW adds_addsW setCell_twice alloc_adds0 size_adds0 adds_adds0 sel2 sel3 sel4 sel5 sel6 sel7 sel8 sel9 lt_more lt_more2 lt_more3 lt_more4 adds_drew adds_drewN drewN_addsW ltA_1_1 ltA_1_2 ltA_1_3 ltA_1_4 ltA_1_5 ltA_1_6 ltA_2_1 ltA_2_2 ltA_2_3 ltA_2_4 ltA_2_5 ltA_2_6 ltA_3_1 ltA_3_2 ltA_3_3 ltA_3_4 ltA_3_5 ltA_3_6 ltA_4_1 ltA_4_2 ltA_4_3 ltA_4_4 ltA_4_5 ltA_4_6 ltA_5_1 ltA_5_2 ltA_5_3 ltA_5_4 ltA_5_5 ltA_5_6 ltA_6_1 ltA_6_2 ltA_6_3 ltA_6_4 ltA_6_5 ltA_6_6 ltA_7_1 ltA_7_2 ltA_7_3 ltA_7_4 ltA_7_5 ltA_7_6 ltA_8_1 ltA_8_2 ltA_8_3 ltA_8_4 ltA_8_5 ltA_8_6 ltA_9_1 ltA_9_2 ltA_9_3 ltA_9_4 ltA_9_5 ltA_9_6 ltA_10_1 ltA_10_2 ltA_10_3 ltA_10_4 ltA_10_5 ltA_10_6 ltA_11_1 ltA_11_2 ltA_11_3 ltA_11_4 ltA_11_5 ltA_11_6 ltA_12_1 ltA_12_2 ltA_12_3 ltA_12_4 ltA_12_5 ltA_12_6
theorem binOk_take {zs : List Int} {m i : Nat} (h : i * 2 + 1 < m) : binOk (zs.take m) i = binOk zs i := by
  simp [binOk, List.getD_eq_getElem?_getD, List.getElem?_take, h, show i * 2 < m by omega]
theorem binsB_half {zs : List Int} {n m : Nat} (h : binsB zs n = true) (hm : m ≤ n) : binsB (zs.take (m * 2)) m = true := by
  simp only [binsB, binsUp, Bool.and_eq_true, decide_eq_true_eq, List.all_eq_true, List.mem_range] at h ⊢
  exact ⟨by omega, fun i hi => by rw [binOk_take (by omega)]; exact h.2 i (by omega)⟩
theorem binsB_bad {zs : List Int} {n : Nat} (hz : zs.length = n * 2) : binsB (zs ++ [40, 0]) (n + 1) = false := by
  rw [binsB, binsUp_no (k := n) (by omega) (by simp [binOk, M.inB, List.getD_eq_getElem?_getD, List.getElem?_append, hz]), Bool.and_false]
theorem ints_one2 {k : IntKind} (zs : List Int) : ∀ u ∈ zs.map (Value.int k), u.oneCell' = true := by
  intro u hu
  obtain ⟨z, _, rfl⟩ := List.mem_map.1 hu
  rfl
theorem app_go {W0 W' w1 : World} {base E n s : Nat} {row : Option Nat} {v' : Value} {xs : List Value} (hown : w1.ownsRow base E s v' n xs) (hg : W'.grownBy w1 row) (hb : Below W0.heap.size W0 W') (hr : ∀ k, row = some k → W0.heap.size ≤ k) :
    ∃ (A : Option Addr) (c : Nat) (oo : Array Obj) (nn : Nat), v' = .slice A n c ∧ w1 = addsW W0 oo nn ∧ (addsW W0 oo nn).ownsRow base E s (.slice A n c) n xs := by
  obtain ⟨oo, nn, h⟩ := below_adds (hb.grown hg hb.size hr)
  obtain ⟨A, c, e, _⟩ := own_shape hown
  subst e
  subst h
  exact ⟨A, c, oo, nn, rfl, rfl, hown⟩
theorem own_cast {w : World} {base E s n : Nat} {v : Value} {xs xs' : List Value} (h : w.ownsRow base E s v n xs) (e : xs = xs') : w.ownsRow base E s v n xs' := e ▸ h
theorem rowbins {w : World} {base E m c : Nat} {A : Option Addr} {l : List Int} (h : w.ownsRow base E 2 (.slice A m c) m (l.map (Value.int .i64))) : RowAt .i64 w A l := by
  obtain ⟨A', c', e, _, _, _, hr, _⟩ := RowAt.of_ownS h
  simp only [Value.slice.injEq] at e
  rw [e.1]; exact hr

set_option maxHeartbeats 1000000 in
theorem walk (a_zs : Option Addr) (len_zs cap_zs : Nat) (zs : List Int) (w : World) (w_zs : IsRow .u8 w a_zs len_zs cap_zs zs) :
    Calls Try.prog 10 #[.slice a_zs len_zs cap_zs] w fun e w' => e = .returned (.bool true) ∧ Below w.heap.size w w' := by
  have hlm := (RowAt.of_row w_zs).2.2.1
  unfold maxLen at hlm
  have HI := Lib.hid w_zs
  clear w_zs
  obtain ⟨i0, hi, hz0, hz1, hz2⟩ := info_parts infoBinD
  by_cases hbig : 1048576 < len_zs
  · go_enter Try.func10, Try.ntmps10
    go_wp2
    go_returns
    exact ⟨rfl, (by repeat' (first | (with_reducible exact Below.refl _ _) | (with_reducible refine Below.adds_ ?_ ?_ _ _) | (with_reducible refine Below.alloc ?_ ?_ _) | (with_reducible refine Below.drew ?_) | (with_reducible refine Below.setCell ?_ ?_ _) | (with_reducible assumption) | go_size | (simp only [size_addsW, World.size_alloc, World.size_drew, World.size_setCell]; omega)))⟩
  · go_enter Try.func10, Try.ntmps10
    go_wp2_with (go_at_call 37; refine (S_DrawBinsValid _ _ _ zs _ (IsRow.keep HI.out (by repeat' (first | (with_reducible exact Below.refl _ _) | (with_reducible refine Below.adds_ ?_ ?_ _ _) | (with_reducible refine Below.alloc ?_ ?_ _) | (with_reducible refine Below.drew ?_) | (with_reducible refine Below.setCell ?_ ?_ _) | (with_reducible assumption) | go_size | (simp only [size_addsW, World.size_alloc, World.size_drew, World.size_setCell]; omega))))).mono ?_; rintro e w' ⟨A, n, c, ys, rfl, hnc, hcm, hl, hn, hr, hA, hb⟩; obtain ⟨o1, n1, rfl⟩ := below_adds hb; clear hb; have HR := Lib.hid hr; have HL := Lib.hid hl; clear hr hl)
    unfold maxLen at hcm
    refine (I_BinsValid _ _ _ ys _ HR.out HL.out (by omega)).mono ?_
    rintro e w' ⟨rfl, hb⟩
    obtain ⟨o2, n2, rfl⟩ := below_adds hb
    clear hb
    have HR2 := Lib.hid (HR.out.keep (addsW_below _ o2 n2))
    go_wp2_with fail
    refine (S_BinsValid _ _ _ ys _ (by rw [← adds_addsW]; exact HR2.out) HL.out (by omega)).mono ?_
    rintro e w' ⟨rfl, rfl⟩
    have hrr := HR2.out
    rw [adds_addsW] at hrr
    simp only [adds_addsW]
    generalize o1 ++ o2 = OO at hrr ⊢
    obtain ⟨Wx, hWx⟩ : ∃ Wx, Wx = addsW w OO n2 := ⟨_, rfl⟩
    have hbx : Below w.heap.size w Wx := by rw [hWx]; exact addsW_below _ _ _
    have hsx := hbx.size
    rw [← hWx] at hrr ⊢
    clear hWx HR HR2 HI
    have HR := Lib.hid hrr
    clear hrr
    have HB := Lib.hid (show binsB (ys ++ [40, 0]) (n + 1) = false from binsB_bad HL.out)
    have HL1 := Lib.hid (show (Wx.alloc (.cells #[] 55)).ownsRow Wx.heap.size 55 2 (.slice (some ⟨Wx.heap.size, 0, none⟩) 0 0) 0 [] from World.ownsRow_lit (base := Wx.heap.size) (e := 55) (size := 2) Wx #[] 0 (Nat.le_refl _) (by decide) rfl)
    cases hv : binsB ys n
    all_goals
      rcases hA with ⟨rfl, rfl⟩ | ⟨g, rfl⟩
      · obtain rfl : ys = [] := List.length_eq_zero_iff.1 (by simpa using HL.out)
        go_wp2_with (first | (at_builtin; refine wpList_append_own_none _ rfl (.tmp 16) (.tmp 17) 30 rfl Wx.heap.size 55 i0 2 Try.underlying30 hi _ _ _ rfl HL1.out rfl ?_) | (at_builtin; refine wpList_append_own _ rfl (.tmp 18) (.tmp 20) 30 rfl Wx.heap.size 55 i0 (.agg #[.int .i64 0, .int .i64 0]) 2 16 Try.underlying30 hi hz0 hz1 hz2 rfl (by decide) _ _ _ rfl (HL1.out.alloc _) ⟨Wx.heap.size + 1, 0, none⟩ 1 1 [.int .i64 40, .int .i64 0] rfl rfl (news2 (by go_simp; done) (by go_simp; done)) (one2 rfl rfl) (by unfold maxLen; omega) (by omega) (by simp only [World.size_alloc]; omega) ?_; intro v' w1 hown1 hgrow1 _; obtain ⟨A1, c1, oo1, nn1, rfl, rfl, ho1⟩ := app_go (W0 := Wx) hown1 hgrow1 (by repeat' (first | (with_reducible exact Below.refl _ _) | (with_reducible refine Below.adds_ ?_ ?_ _ _) | (with_reducible refine Below.alloc ?_ ?_ _) | (with_reducible refine Below.drew ?_) | (with_reducible refine Below.setCell ?_ ?_ _) | (with_reducible assumption) | go_size | (simp only [size_addsW, World.size_alloc, World.size_drew, World.size_setCell]; omega))) (fun k e => (HL1.out.lt k e).1); clear hown1 hgrow1))
        refine (I_BinsValid _ _ _ (([] : List Int) ++ [40, 0]) _ (rowbins (own_cast ho1 (by simp))) (by simp [HL.out]; try omega) (by omega)).mono ?_
        rintro e w' ⟨rfl, hb⟩
        obtain ⟨o3, n3, rfl⟩ := below_adds hb
        clear hb
        rw [show binsB (([] : List Int) ++ [40, 0]) (0 + 1) = false from HB.out]
        go_wp2_with (first | (go_at_call 27; refine (L_alive _).mono ?_; rintro e w' ⟨rfl, hb⟩; obtain ⟨o1, n1, rfl⟩ := below_adds hb; clear hb) | (go_at_call 21; refine (I_BinsValid _ _ _ (([] : List Int).take (0 * 2)) _ ((HR.out.take _).keep (by repeat' (first | (with_reducible exact Below.refl _ _) | (with_reducible refine Below.adds_ ?_ ?_ _ _) | (with_reducible refine Below.alloc ?_ ?_ _) | (with_reducible refine Below.drew ?_) | (with_reducible refine Below.setCell ?_ ?_ _) | (with_reducible assumption) | go_size | (simp only [size_addsW, World.size_alloc, World.size_drew, World.size_setCell]; omega)))) (by simp [HL.out]; try omega) (by omega)).mono ?_; rintro e w' ⟨rfl, hb⟩; obtain ⟨o4, n4, rfl⟩ := below_adds hb; clear hb; rw [binsB_half hv (by omega)]))
        go_returns
        exact ⟨rfl, (by repeat' (first | (with_reducible exact Below.refl _ _) | (with_reducible refine Below.adds_ ?_ ?_ _ _) | (with_reducible refine Below.alloc ?_ ?_ _) | (with_reducible refine Below.drew ?_) | (with_reducible refine Below.setCell ?_ ?_ _) | (with_reducible assumption) | go_size | (simp only [size_addsW, World.size_alloc, World.size_drew, World.size_setCell]; omega)))⟩
      · go_wp2_with (first | (at_builtin; refine wpList_append_own _ rfl (.tmp 16) (.tmp 17) 30 rfl Wx.heap.size 55 i0 (.agg #[.int .i64 0, .int .i64 0]) 2 16 Try.underlying30 hi hz0 hz1 hz2 rfl (by decide) _ _ _ rfl HL1.out ⟨g, 0, none⟩ n c (ys.map (Value.int .i64)) rfl (by simp [HL.out]) (HR.out.keep (by repeat' (first | (with_reducible exact Below.refl _ _) | (with_reducible refine Below.adds_ ?_ ?_ _ _) | (with_reducible refine Below.alloc ?_ ?_ _) | (with_reducible refine Below.drew ?_) | (with_reducible refine Below.setCell ?_ ?_ _) | (with_reducible assumption) | go_size | (simp only [size_addsW, World.size_alloc, World.size_drew, World.size_setCell]; omega)))).news (ints_one2 ys) (by unfold maxLen; omega) (by omega) (by simp only [World.size_alloc]; omega) ?_; intro v0 w0 hown0 hgrow0 _; obtain ⟨A0, c0, oo, nn, rfl, rfl, ho0⟩ := app_go hown0 hgrow0 (show Below Wx.heap.size Wx (Wx.alloc (.cells #[] 55)) from (by repeat' (first | (with_reducible exact Below.refl _ _) | (with_reducible refine Below.adds_ ?_ ?_ _ _) | (with_reducible refine Below.alloc ?_ ?_ _) | (with_reducible refine Below.drew ?_) | (with_reducible refine Below.setCell ?_ ?_ _) | (with_reducible assumption) | go_size | (simp only [size_addsW, World.size_alloc, World.size_drew, World.size_setCell]; omega)))) (fun k e => (HL1.out.lt k e).1); clear hown0 hgrow0; simp only [Nat.zero_add, List.nil_append] at ho0) | (at_builtin; refine wpList_append_own _ rfl (.tmp 18) (.tmp 20) 30 rfl Wx.heap.size 55 i0 (.agg #[.int .i64 0, .int .i64 0]) 2 16 Try.underlying30 hi hz0 hz1 hz2 rfl (by decide) _ _ _ rfl (ho0.alloc _) ⟨Wx.heap.size + oo.size, 0, none⟩ 1 1 [.int .i64 40, .int .i64 0] rfl rfl (news2 (by go_simp; done) (by go_simp; done)) (one2 rfl rfl) (by unfold maxLen; omega) (by omega) (by simp only [World.size_alloc, size_addsW]; omega) ?_; intro v' w1 hown1 hgrow1 _; obtain ⟨A1, c1, oo1, nn1, rfl, rfl, ho1⟩ := app_go (W0 := Wx) hown1 hgrow1 (by repeat' (first | (with_reducible exact Below.refl _ _) | (with_reducible refine Below.adds_ ?_ ?_ _ _) | (with_reducible refine Below.alloc ?_ ?_ _) | (with_reducible refine Below.drew ?_) | (with_reducible refine Below.setCell ?_ ?_ _) | (with_reducible assumption) | go_size | (simp only [size_addsW, World.size_alloc, World.size_drew, World.size_setCell]; omega))) (fun k e => (ho0.lt k e).1); clear hown1 hgrow1))
        refine (I_BinsValid _ _ _ (ys ++ [40, 0]) _ (rowbins (own_cast ho1 (by simp))) (by simp [HL.out]; try omega) (by omega)).mono ?_
        rintro e w' ⟨rfl, hb⟩
        obtain ⟨o3, n3, rfl⟩ := below_adds hb
        clear hb
        rw [show binsB (ys ++ [40, 0]) (n + 1) = false from HB.out]
        go_wp2_with (first | (go_at_call 27; refine (L_alive _).mono ?_; rintro e w' ⟨rfl, hb⟩; obtain ⟨o1, n1, rfl⟩ := below_adds hb; clear hb) | (go_at_call 21; refine (I_BinsValid _ _ _ (ys.take ((n / 2) * 2)) _ ((HR.out.take _).keep (by repeat' (first | (with_reducible exact Below.refl _ _) | (with_reducible refine Below.adds_ ?_ ?_ _ _) | (with_reducible refine Below.alloc ?_ ?_ _) | (with_reducible refine Below.drew ?_) | (with_reducible refine Below.setCell ?_ ?_ _) | (with_reducible assumption) | go_size | (simp only [size_addsW, World.size_alloc, World.size_drew, World.size_setCell]; omega)))) (by simp [HL.out]; try omega) (by omega)).mono ?_; rintro e w' ⟨rfl, hb⟩; obtain ⟨o4, n4, rfl⟩ := below_adds hb; clear hb; rw [binsB_half hv (by omega)]))
        go_returns
        exact ⟨rfl, (by repeat' (first | (with_reducible exact Below.refl _ _) | (with_reducible refine Below.adds_ ?_ ?_ _ _) | (with_reducible refine Below.alloc ?_ ?_ _) | (with_reducible refine Below.drew ?_) | (with_reducible refine Below.setCell ?_ ?_ _) | (with_reducible assumption) | go_size | (simp only [size_addsW, World.size_alloc, World.size_drew, World.size_setCell]; omega)))⟩

set_option maxRecDepth 100000 in
theorem lifted (os : Os) (started : os.Started) (H : Type) (enc : TypeId × Value → H) :
    ReturnsInHanded {} Try.checked os 10 .any (Rows.fnBinsValidSpec.pre6 enc Try.prog Try.f10 Rows.fnBinsValidRow.domain false) (Rows.fnBinsValidSpec.post enc Try.prog Try.f10 false true false false) := by
  refine returnsInHanded_of_change (C := Try.checked) own started (by kernel_rfl) Try.func10
    (ChangeSpec.witness6 (enc := enc) (C := Try.checked) false ⟨#[], #[.slice none 0 0], []⟩ 8 (by kernel_rfl) (by kernel_rfl) (by kernel_rfl) (by kernel_rfl)) ?_
  intro W base args ds gs before hval0 hW hcnd _
  have hval : ∀ (j : Nat) t v, Try.f10.params[j]? = some t → args[j]? = some v → Value.okWide Try.prog W .any base t v := hval0
  have hW' := hW
  obtain ⟨p, q, hA0, hV, rfl, hfz, hnd⟩ := hW
  have hA : DataW.TrodAll enc Try.prog W 0 (fun _ => true) true Try.f10.params.toList args.toList ds p := hA0
  rw [Try.params10] at hA hval
  obtain ⟨v0, vs0, d0, ds0, p0, q0, hargs, rfl, rfl, h0, r0⟩ := trodAll_cons hA
  obtain ⟨rfl, rfl, rfl⟩ := trodAll_nil r0
  obtain rfl : args = #[v0] := by cases args; simp_all
  obtain ⟨rfl, rfl⟩ := trodVars_none hV
  have k0 := h0
  have lt0 : ∀ x ∈ p0, x.block < W.heap.size := by obtain ⟨m, hm⟩ := k0; exact DataW.trod_lt m _ _ _ hm
  obtain ⟨aa0, ll0, cc0, rfl⟩ := okWide_slice Try.underlying22 (hval 0 22 v0 rfl rfl)
  obtain ⟨f0, hf0⟩ := h0
  simp only [Value.cells] at hf0
  obtain ⟨a_zs, len_zs, cap_zs, zs, e_zs, w_zs⟩ : ∃ a l c zs, (.slice aa0 ll0 cc0 : Value) = .slice a l c ∧ IsRow .u8 W a l c zs := by
    rcases open_ints Try.underlying22 Try.underlying5 (by kernel_rfl) hf0 with ⟨hcs, _⟩ | ⟨x, l, c, zs, hcs, _, hl, hm, hz, _, hcell, hwz⟩
    · simp only [List.cons.injEq, and_true] at hcs; exact ⟨none, 0, 0, [], hcs, .inl ⟨rfl, rfl, rfl, rfl⟩⟩
    · simp only [List.cons.injEq, and_true] at hcs; exact ⟨some x, l, c, zs, hcs, .inr ⟨x, rfl, hl, hm, by simpa using hz, hcell, hwz⟩⟩
  simp only [Value.slice.injEq] at e_zs
  obtain ⟨rfl, rfl, rfl⟩ := e_zs
  clear hA0 hval0
  refine (walk _ _ _ zs W w_zs).mono fun e W' ⟨he, bel⟩ => ?_
  subst he
  exact ⟨_, rfl, _, _, _, [], _, [], hW', trodAll_mk1 (shut_bool Try.underlying4 _), (trodAll_cons_mk (Below.trod laidOut (by kernel_rfl) (of_decide_eq_true (by kernel_rfl)) k0 bel lt0) trodAll_mk0), rfl, bel.frame _, fun h => by cases h⟩

theorem over : Rows.fnBinsValidRow.holds Try.pinned (OpenSpec.ofChange Rows.fnBinsValidSpec) :=
  OpenClaim.holds_of_wide 10 Try.f10 rfl rfl rfl rfl rfl rfl rfl ⟨rfl, rfl, rfl, rfl, rfl⟩ rfl rfl rfl rfl rfl (by kernel_rfl) Try.func10 (by kernel_rfl)
    (of_decide_eq_true (by kernel_rfl)) (by unfold Func.isWrapper; first | (rw [if_pos (by decide +kernel)]; kernel_rfl) | (rw [if_neg (by decide +kernel)]; exact ⟨rfl, rfl⟩))
    (fun os started H enc _ => lifted os started H enc)

theorem proved : Rows.FnBinsValidSaid := over
#print axioms proved
end Go.Proofs.Ytmockpkddcnmiaa.fnBinsValid
