/- PROVED: the law laws.FnBinsAdapt returns true for every input: whatever decisions are drawn from the code, a thousand times the first one becomes at least four and fewer than forty bytes; no conditions. -/
import Derived.Test.YtndbdfbjiaaloaaRows
import Derived.Test.YtndbdfbjiaaloaaAdapt
import Derived.Test.YtndbdfbjiaaloaaDrawEB
import Derived.LoopTactic
import Derived.Deep.DeepCutAuto
import Derived.Lib.SmallJoins
import Derived.WalkKit
import Derived.ProofKit
import Derived.OpenShut
import Derived.ShutString
import Derived.ChangeOld
import Derived.Below
import Derived.Lib.SmallJoins
namespace Go.Proofs.Ytndbdfbjiaaloaa.fnBinsAdapt
open Go.ChangeShapes Go.WideShapes Go.ChangeAt Go.RowKit
open Go.ChangeMaps (open_string shut_string)
set_option linter.unusedVariables false
set_option linter.unusedSimpArgs false

theorem own : ownKnob Try.prog.godebug = none := by kernel_rfl
theorem laidOut : laidOutB Try.prog = true := by kernel_rfl

attribute [local go_sem] size_addsW cell?_addsW frozen?_addsW setCell_addsW drew_addsW adds_addsW setCell_twice alloc_adds0 size_adds0 adds_adds0 sel2 sel3 sel4 sel5 sel6 sel7 sel8 sel9 lt_more lt_more2 lt_more3 lt_more4 adds_drew adds_drewN drewN_addsW ltA_1_1 ltA_1_2 ltA_1_3 ltA_1_4 ltA_1_5 ltA_1_6 ltA_2_1 ltA_2_2 ltA_2_3 ltA_2_4 ltA_2_5 ltA_2_6 ltA_3_1 ltA_3_2 ltA_3_3 ltA_3_4 ltA_3_5 ltA_3_6 ltA_4_1 ltA_4_2 ltA_4_3 ltA_4_4 ltA_4_5 ltA_4_6 ltA_5_1 ltA_5_2 ltA_5_3 ltA_5_4 ltA_5_5 ltA_5_6 ltA_6_1 ltA_6_2 ltA_6_3 ltA_6_4 ltA_6_5 ltA_6_6 ltA_7_1 ltA_7_2 ltA_7_3 ltA_7_4 ltA_7_5 ltA_7_6 ltA_8_1 ltA_8_2 ltA_8_3 ltA_8_4 ltA_8_5 ltA_8_6 ltA_9_1 ltA_9_2 ltA_9_3 ltA_9_4 ltA_9_5 ltA_9_6 ltA_10_1 ltA_10_2 ltA_10_3 ltA_10_4 ltA_10_5 ltA_10_6 ltA_11_1 ltA_11_2 ltA_11_3 ltA_11_4 ltA_11_5 ltA_11_6 ltA_12_1 ltA_12_2 ltA_12_3 ltA_12_4 ltA_12_5 ltA_12_6

def BACut (w : World) (s4 s5 : Value) (wx : World) : Prop := ∃ (c b : Int) (oo : Array Obj) (nn : Nat), s4 = .int .i64 c ∧ s5 = .int .i64 b ∧ (0 ≤ c ∧ c < 40) ∧ (b = 0 ∨ b = 1) ∧ wx = addsW w oo nn
def BARel (w : World) (c b : Int) (v j : Value) (wr : World) : Prop := ∃ (k : Nat) (oo : Array Obj) (nn : Nat), k ≤ 1000 ∧ j = .int .i64 (k : Int) ∧ wr = addsW w oo nn ∧ wr.ownsRow w.heap.size 35 2 v k ((flat2 c b k).map (Value.int .i64))
theorem own_lit2 (W : World) (e : TypeId) (g : Nat) (hg : g = W.heap.size) : (W.alloc (.cells #[] e)).ownsRow W.heap.size e 2 (.slice (some ⟨g, 0, none⟩) 0 0) 0 [] := by
  subst hg; exact World.ownsRow_lit (base := W.heap.size) (e := e) (size := 2) W #[] 0 (Nat.le_refl _) (by decide) rfl

set_option maxHeartbeats 4000000 in
set_option maxRecDepth 100000 in
theorem walk (a_zs : Option Addr) (len_zs cap_zs : Nat) (zs : List Int) (w : World) (w_zs : IsRow .u8 w a_zs len_zs cap_zs zs) :
    Calls Try.prog 7 #[.slice a_zs len_zs cap_zs] w fun e w' => e = .returned (.bool true) ∧ Below w.heap.size w w' := by
  have hlm := (RowAt.of_row w_zs).2.2.1
  unfold maxLen at hlm
  have HI := Lib.hid w_zs
  clear w_zs
  obtain ⟨i0, hi, hz0, hz1, hz2⟩ := info_parts infoBin
  by_cases hbig : 1048576 < len_zs
  · go_enter Try.func7, Try.ntmps7
    go_wp2
    go_returns
    exact ⟨rfl, (by repeat' (first | (with_reducible exact Below.refl _ _) | (with_reducible refine Below.adds_ ?_ ?_ _ _) | (with_reducible refine Below.alloc ?_ ?_ _) | (with_reducible refine Below.drew ?_) | (with_reducible refine Below.setCell ?_ ?_ _) | (with_reducible assumption) | go_size | (simp only [size_addsW, World.size_alloc, World.size_drew, World.size_setCell]; omega)))⟩
  · go_enter Try.func7, Try.ntmps7
    go_wp2_with fail
    refine (S_DrawEncodeBins _ _ _ zs _ (IsRow.keep HI.out (by repeat' (first | (with_reducible exact Below.refl _ _) | (with_reducible refine Below.adds_ ?_ ?_ _ _) | (with_reducible refine Below.alloc ?_ ?_ _) | (with_reducible refine Below.drew ?_) | (with_reducible refine Below.setCell ?_ ?_ _) | (with_reducible assumption) | go_size | (simp only [size_addsW, World.size_alloc, World.size_drew, World.size_setCell]; omega))))).mono ?_
    rintro e w' ⟨A, n, c0, ys, rfl, h1, h2, hl, h4, hr, -, hb⟩
    obtain ⟨o0, n0, rfl⟩ := below_adds hb
    have HR := Lib.hid hr
    have HL := Lib.hid hl
    clear hb hr hl
    by_cases hn : 0 < n
    · cases hv : binsB ys n
      · have HE := Lib.hid (encL_flat (c := 0) (b := 0) (by omega) (.inl rfl))
        go_wp2_with (go_at_call 37; refine (S_BinsValid _ _ _ ys _ (HR.out.keep (by repeat' (first | (with_reducible exact Below.refl _ _) | (with_reducible refine Below.adds_ ?_ ?_ _ _) | (with_reducible refine Below.alloc ?_ ?_ _) | (with_reducible refine Below.drew ?_) | (with_reducible refine Below.setCell ?_ ?_ _) | (with_reducible assumption) | go_size | (simp only [size_addsW, World.size_alloc, World.size_drew, World.size_setCell]; omega)))) HL.out (by omega)).mono ?_; rintro e w' ⟨rfl, rfl⟩)
        go_loopw [6, 7] (fun v j wr => BARel w 0 0 v j wr) (fun _ i _ => 1000 - (intOf i).toNat)
        case atStart => exact ⟨0, o0.push (.cells #[] 35), n0, by omega, rfl, alloc_addsW_ _ _ _ _, Joins.ownsRow_le (own_lit2 (addsW w o0 n0) 35 _ (by rw [size_addsW])) (by rw [size_addsW]; omega)⟩
        case round =>
          obtain ⟨k, oo, nn, hk, rfl, rfl, hown⟩ := hrel
          have HO := Lib.hid hown
          clear hown
          by_cases hlt : k < 1000
          · have hd1 : decide ((k : Int) < 1000) = true := by simp; omega
            go_wp2_with ((at_builtin; refine wpList_append_own _ rfl _ _ 32 rfl w.heap.size 35 i0 (.agg #[.int .i64 0, .int .i64 0]) 2 16 Try.underlying32 hi hz0 hz1 hz2 rfl (by decide) _ _ _ rfl (HO.out.alloc _) ⟨_, 0, none⟩ 1 1 [.int .i64 0, .int .i64 0] rfl rfl (news2 (by go_simp; done) (by go_simp; done)) (one2 rfl rfl) (by unfold maxLen; omega) (by omega) (by simp only [size_adds0, size_addsW, World.size_alloc, World.size_setCell]; omega) ?_; intro v' w1 hown1 hgrow1 _); obtain ⟨A1, c1, oo3, nn3, rfl, rfl, ho3⟩ := app_go (W0 := w) hown1 hgrow1 (by repeat' (first | (with_reducible exact Below.refl _ _) | (with_reducible refine Below.adds_ ?_ ?_ _ _) | (with_reducible refine Below.alloc ?_ ?_ _) | (with_reducible refine Below.drew ?_) | (with_reducible refine Below.setCell ?_ ?_ _) | (with_reducible assumption) | go_size | (simp only [size_addsW, World.size_alloc, World.size_drew, World.size_setCell]; omega))) (fun q e => (HO.out.lt q e).1); clear hown1 hgrow1)
            go_roundw
            case rel =>
              refine ⟨k + 1, oo3, nn3, by omega, by go_num, rfl, ?_⟩
              rw [flat2, List.map_append]
              exact ho3
            case measure => simp [intOf]; omega
          · obtain rfl : k = 1000 := by omega
            obtain ⟨A1, c1, e1, hl1, -, -, hr1, -⟩ := RowAt.of_ownS HO.out
            subst e1
            have HR1 := Lib.hid hr1
            have HL1 := Lib.hid hl1
            clear hr1 hl1 HO
            generalize flat2 0 0 1000 = F at HE HR1 HL1
            go_wp2_with fail
            refine (I_EncodeBins _ 1000 _ F _ HR1.out HL1.out (by omega)).mono ?_
            rintro e w' ⟨A2, c2, rfl, -, -, -, hb⟩
            obtain ⟨o2, n2, rfl⟩ := below_adds hb
            clear hb
            obtain ⟨L, hL⟩ : ∃ L, L = (encL F 1000).length := ⟨_, rfl⟩
            have h4 : 4 ≤ L ∧ L < 40 := by rw [hL]; exact HE.out
            have h5 : (L : Int) < 40 := by omega
            have h6 : (4 : Int) ≤ (L : Int) := by omega
            rw [← hL]
            clear hL
            go_wp2_with fail
            go_returns
            exact ⟨rfl, (by repeat' (first | (with_reducible exact Below.refl _ _) | (with_reducible refine Below.adds_ ?_ ?_ _ _) | (with_reducible refine Below.alloc ?_ ?_ _) | (with_reducible refine Below.drew ?_) | (with_reducible refine Below.setCell ?_ ?_ _) | (with_reducible assumption) | go_size | (simp only [size_addsW, World.size_alloc, World.size_drew, World.size_setCell]; omega)))⟩
      · obtain ⟨b', off, x, y, rfl, hb, hx, hy, hc, hc2⟩ := HR.out.two HL.out hn
        have hxy := (binsB_ok hv).2 0 hn
        unfold bnC bnB at hxy
        rw [← hx, ← hy] at hxy
        rw [Nat.zero_mul, Nat.add_zero] at hc hc2
        have HXY := Lib.hid hxy
        clear hx hy hxy
        have HE := Lib.hid (encL_flat (c := x) (b := y) HXY.out.1 HXY.out.2)
        go_wp2_with (go_at_call 37; refine (S_BinsValid _ _ _ ys _ (HR.out.keep (by repeat' (first | (with_reducible exact Below.refl _ _) | (with_reducible refine Below.adds_ ?_ ?_ _ _) | (with_reducible refine Below.alloc ?_ ?_ _) | (with_reducible refine Below.drew ?_) | (with_reducible refine Below.setCell ?_ ?_ _) | (with_reducible assumption) | go_size | (simp only [size_addsW, World.size_alloc, World.size_drew, World.size_setCell]; omega)))) HL.out (by omega)).mono ?_; rintro e w' ⟨rfl, rfl⟩)
        go_loopw [6, 7] (fun v j wr => BARel w x y v j wr) (fun _ i _ => 1000 - (intOf i).toNat)
        case atStart => exact ⟨0, o0.push (.cells #[] 35), n0, by omega, rfl, alloc_addsW_ _ _ _ _, Joins.ownsRow_le (own_lit2 (addsW w o0 n0) 35 _ (by rw [size_addsW])) (by rw [size_addsW]; omega)⟩
        case round =>
          obtain ⟨k, oo, nn, hk, rfl, rfl, hown⟩ := hrel
          have HO := Lib.hid hown
          clear hown
          by_cases hlt : k < 1000
          · have hd1 : decide ((k : Int) < 1000) = true := by simp; omega
            go_wp2_with ((at_builtin; refine wpList_append_own _ rfl _ _ 32 rfl w.heap.size 35 i0 (.agg #[.int .i64 0, .int .i64 0]) 2 16 Try.underlying32 hi hz0 hz1 hz2 rfl (by decide) _ _ _ rfl (HO.out.alloc _) ⟨_, 0, none⟩ 1 1 [.int .i64 x, .int .i64 y] rfl rfl (news2 (by go_simp; done) (by go_simp; done)) (one2 rfl rfl) (by unfold maxLen; omega) (by omega) (by simp only [size_adds0, size_addsW, World.size_alloc, World.size_setCell]; omega) ?_; intro v' w1 hown1 hgrow1 _); obtain ⟨A1, c1, oo3, nn3, rfl, rfl, ho3⟩ := app_go (W0 := w) hown1 hgrow1 (by repeat' (first | (with_reducible exact Below.refl _ _) | (with_reducible refine Below.adds_ ?_ ?_ _ _) | (with_reducible refine Below.alloc ?_ ?_ _) | (with_reducible refine Below.drew ?_) | (with_reducible refine Below.setCell ?_ ?_ _) | (with_reducible assumption) | go_size | (simp only [size_addsW, World.size_alloc, World.size_drew, World.size_setCell]; omega))) (fun q e => (HO.out.lt q e).1); clear hown1 hgrow1)
            go_roundw
            case rel =>
              refine ⟨k + 1, oo3, nn3, by omega, by go_num, rfl, ?_⟩
              rw [flat2, List.map_append]
              exact ho3
            case measure => simp [intOf]; omega
          · obtain rfl : k = 1000 := by omega
            obtain ⟨A1, c1, e1, hl1, -, -, hr1, -⟩ := RowAt.of_ownS HO.out
            subst e1
            have HR1 := Lib.hid hr1
            have HL1 := Lib.hid hl1
            clear hr1 hl1 HO
            generalize flat2 x y 1000 = F at HE HR1 HL1
            go_wp2_with fail
            refine (I_EncodeBins _ 1000 _ F _ HR1.out HL1.out (by omega)).mono ?_
            rintro e w' ⟨A2, c2, rfl, -, -, -, hb⟩
            obtain ⟨o2, n2, rfl⟩ := below_adds hb
            clear hb
            obtain ⟨L, hL⟩ : ∃ L, L = (encL F 1000).length := ⟨_, rfl⟩
            have h4 : 4 ≤ L ∧ L < 40 := by rw [hL]; exact HE.out
            have h5 : (L : Int) < 40 := by omega
            have h6 : (4 : Int) ≤ (L : Int) := by omega
            rw [← hL]
            clear hL
            go_wp2_with fail
            go_returns
            exact ⟨rfl, (by repeat' (first | (with_reducible exact Below.refl _ _) | (with_reducible refine Below.adds_ ?_ ?_ _ _) | (with_reducible refine Below.alloc ?_ ?_ _) | (with_reducible refine Below.drew ?_) | (with_reducible refine Below.setCell ?_ ?_ _) | (with_reducible assumption) | go_size | (simp only [size_addsW, World.size_alloc, World.size_drew, World.size_setCell]; omega)))⟩
    · obtain rfl : n = 0 := by omega
      have HE := Lib.hid (encL_flat (c := 0) (b := 0) (by omega) (.inl rfl))
      go_wp2_with (go_at_call 37; refine (S_BinsValid _ _ _ ys _ (HR.out.keep (by repeat' (first | (with_reducible exact Below.refl _ _) | (with_reducible refine Below.adds_ ?_ ?_ _ _) | (with_reducible refine Below.alloc ?_ ?_ _) | (with_reducible refine Below.drew ?_) | (with_reducible refine Below.setCell ?_ ?_ _) | (with_reducible assumption) | go_size | (simp only [size_addsW, World.size_alloc, World.size_drew, World.size_setCell]; omega)))) HL.out (by omega)).mono ?_; rintro e w' ⟨rfl, rfl⟩)
      go_loopw [6, 7] (fun v j wr => BARel w 0 0 v j wr) (fun _ i _ => 1000 - (intOf i).toNat)
      case atStart => exact ⟨0, o0.push (.cells #[] 35), n0, by omega, rfl, alloc_addsW_ _ _ _ _, Joins.ownsRow_le (own_lit2 (addsW w o0 n0) 35 _ (by rw [size_addsW])) (by rw [size_addsW]; omega)⟩
      case round =>
        obtain ⟨k, oo, nn, hk, rfl, rfl, hown⟩ := hrel
        have HO := Lib.hid hown
        clear hown
        by_cases hlt : k < 1000
        · have hd1 : decide ((k : Int) < 1000) = true := by simp; omega
          go_wp2_with ((at_builtin; refine wpList_append_own _ rfl _ _ 32 rfl w.heap.size 35 i0 (.agg #[.int .i64 0, .int .i64 0]) 2 16 Try.underlying32 hi hz0 hz1 hz2 rfl (by decide) _ _ _ rfl (HO.out.alloc _) ⟨_, 0, none⟩ 1 1 [.int .i64 0, .int .i64 0] rfl rfl (news2 (by go_simp; done) (by go_simp; done)) (one2 rfl rfl) (by unfold maxLen; omega) (by omega) (by simp only [size_adds0, size_addsW, World.size_alloc, World.size_setCell]; omega) ?_; intro v' w1 hown1 hgrow1 _); obtain ⟨A1, c1, oo3, nn3, rfl, rfl, ho3⟩ := app_go (W0 := w) hown1 hgrow1 (by repeat' (first | (with_reducible exact Below.refl _ _) | (with_reducible refine Below.adds_ ?_ ?_ _ _) | (with_reducible refine Below.alloc ?_ ?_ _) | (with_reducible refine Below.drew ?_) | (with_reducible refine Below.setCell ?_ ?_ _) | (with_reducible assumption) | go_size | (simp only [size_addsW, World.size_alloc, World.size_drew, World.size_setCell]; omega))) (fun q e => (HO.out.lt q e).1); clear hown1 hgrow1)
          go_roundw
          case rel =>
            refine ⟨k + 1, oo3, nn3, by omega, by go_num, rfl, ?_⟩
            rw [flat2, List.map_append]
            exact ho3
          case measure => simp [intOf]; omega
        · obtain rfl : k = 1000 := by omega
          obtain ⟨A1, c1, e1, hl1, -, -, hr1, -⟩ := RowAt.of_ownS HO.out
          subst e1
          have HR1 := Lib.hid hr1
          have HL1 := Lib.hid hl1
          clear hr1 hl1 HO
          generalize flat2 0 0 1000 = F at HE HR1 HL1
          go_wp2_with fail
          refine (I_EncodeBins _ 1000 _ F _ HR1.out HL1.out (by omega)).mono ?_
          rintro e w' ⟨A2, c2, rfl, -, -, -, hb⟩
          obtain ⟨o2, n2, rfl⟩ := below_adds hb
          clear hb
          obtain ⟨L, hL⟩ : ∃ L, L = (encL F 1000).length := ⟨_, rfl⟩
          have h4 : 4 ≤ L ∧ L < 40 := by rw [hL]; exact HE.out
          have h5 : (L : Int) < 40 := by omega
          have h6 : (4 : Int) ≤ (L : Int) := by omega
          rw [← hL]
          clear hL
          go_wp2_with fail
          go_returns
          exact ⟨rfl, (by repeat' (first | (with_reducible exact Below.refl _ _) | (with_reducible refine Below.adds_ ?_ ?_ _ _) | (with_reducible refine Below.alloc ?_ ?_ _) | (with_reducible refine Below.drew ?_) | (with_reducible refine Below.setCell ?_ ?_ _) | (with_reducible assumption) | go_size | (simp only [size_addsW, World.size_alloc, World.size_drew, World.size_setCell]; omega)))⟩

set_option maxRecDepth 100000 in
theorem lifted (os : Os) (started : os.Started) (H : Type) (enc : TypeId × Value → H) :
    ReturnsInHanded {} Try.checked os 7 .any (Rows.fnBinsAdaptSpec.pre6 enc Try.prog Try.f7 Rows.fnBinsAdaptRow.domain false) (Rows.fnBinsAdaptSpec.post enc Try.prog Try.f7 false true false false) := by
  refine returnsInHanded_of_change (C := Try.checked) own started (by kernel_rfl) Try.func7
    (ChangeSpec.witness6 (enc := enc) (C := Try.checked) false ⟨#[], #[.slice none 0 0], []⟩ 8 (by kernel_rfl) (by kernel_rfl) (by kernel_rfl) (by kernel_rfl)) ?_
  intro W base args ds gs before hval0 hW hcnd _
  have hval : ∀ (j : Nat) t v, Try.f7.params[j]? = some t → args[j]? = some v → Value.okWide Try.prog W .any base t v := hval0
  have hW' := hW
  obtain ⟨p, q, hA0, hV, rfl, hfz, hnd⟩ := hW
  have hA : DataW.TrodAll enc Try.prog W 0 (fun _ => true) true Try.f7.params.toList args.toList ds p := hA0
  rw [Try.params7] at hA hval
  obtain ⟨v0, vs0, d0, ds0, p0, q0, hargs, rfl, rfl, h0, r0⟩ := trodAll_cons hA
  obtain ⟨rfl, rfl, rfl⟩ := trodAll_nil r0
  obtain rfl : args = #[v0] := by cases args; simp_all
  obtain ⟨rfl, rfl⟩ := trodVars_none hV
  have k0 := h0
  have lt0 : ∀ x ∈ p0, x.block < W.heap.size := by obtain ⟨m, hm⟩ := k0; exact DataW.trod_lt m _ _ _ hm
  obtain ⟨aa0, ll0, cc0, rfl⟩ := okWide_slice Try.underlying22 (hval 0 22 v0 rfl rfl)
  obtain ⟨f0, hf0⟩ := h0
  simp only [Value.cells] at hf0
  obtain ⟨a_zs, len_zs, cap_zs, zs, e_zs, w_zs⟩ : ∃ a l c zs, (.slice aa0 ll0 cc0 : Value) = .slice a l c ∧ IsRow .u8 W a l c zs := by
    rcases open_ints Try.underlying22 Try.underlying5 (by kernel_rfl) hf0 with ⟨hcs, _⟩ | ⟨x, l, c, zs, hcs, _, hl, hm, hz, _, hcell, hwz⟩
    · simp only [List.cons.injEq, and_true] at hcs; exact ⟨none, 0, 0, [], hcs, .inl ⟨rfl, rfl, rfl, rfl⟩⟩
    · simp only [List.cons.injEq, and_true] at hcs; exact ⟨some x, l, c, zs, hcs, .inr ⟨x, rfl, hl, hm, by simpa using hz, hcell, hwz⟩⟩
  simp only [Value.slice.injEq] at e_zs
  obtain ⟨rfl, rfl, rfl⟩ := e_zs
  clear hA0 hval0
  refine (walk _ _ _ zs W w_zs).mono fun e W' ⟨he, bel⟩ => ?_
  subst he
  exact ⟨_, rfl, _, _, _, [], _, [], hW', trodAll_mk1 (shut_bool Try.underlying4 _), (trodAll_cons_mk (Below.trod laidOut (by kernel_rfl) (of_decide_eq_true (by kernel_rfl)) k0 bel lt0) trodAll_mk0), rfl, bel.frame _, fun h => by cases h⟩

theorem over : Rows.fnBinsAdaptRow.holds Try.pinned (OpenSpec.ofChange Rows.fnBinsAdaptSpec) :=
  OpenClaim.holds_of_wide 7 Try.f7 rfl rfl rfl rfl rfl rfl rfl ⟨rfl, rfl, rfl, rfl, rfl⟩ rfl rfl rfl rfl rfl (by kernel_rfl) Try.func7 (by kernel_rfl)
    (of_decide_eq_true (by kernel_rfl)) (by unfold Func.isWrapper; first | (rw [if_pos (by decide +kernel)]; kernel_rfl) | (rw [if_neg (by decide +kernel)]; exact ⟨rfl, rfl⟩))
    (fun os started H enc _ => lifted os started H enc)

theorem proved : Rows.FnBinsAdaptSaid := over
#print axioms proved
end Go.Proofs.Ytndbdfbjiaaloaa.fnBinsAdapt
