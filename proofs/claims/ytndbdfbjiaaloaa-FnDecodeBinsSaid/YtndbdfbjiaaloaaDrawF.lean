/- What the draw of bytes and of contexts answers. -/
import Derived.Test.YtndbdfbjiaaloaaDrawE
import Derived.Test.YtndbdfbjiaaloaaDrawD
import Derived.Test.YtndbdfbjiaaloaaEncS
import Derived.Test.YtndbdfbjiaaloaaRound
import Derived.Test.YtndbdfbjiaaloaaTwo
namespace Go.Proofs.Ytndbdfbjiaaloaa
open Go.RowKit
set_option linter.unusedVariables false
set_option linter.unusedSimpArgs false

attribute [local go_sem] size_addsW cell?_addsW frozen?_addsW setCell_addsW drew_addsW adds_addsW setCell_twice alloc_adds0 size_adds0 adds_adds0 sel2 sel3 sel4 sel5 sel6 sel7 sel8 sel9 lt_more lt_more2 lt_more3 lt_more4 adds_drew adds_drewN drewN_addsW ltA_1_1 ltA_1_2 ltA_1_3 ltA_1_4 ltA_1_5 ltA_1_6 ltA_2_1 ltA_2_2 ltA_2_3 ltA_2_4 ltA_2_5 ltA_2_6 ltA_3_1 ltA_3_2 ltA_3_3 ltA_3_4 ltA_3_5 ltA_3_6 ltA_4_1 ltA_4_2 ltA_4_3 ltA_4_4 ltA_4_5 ltA_4_6 ltA_5_1 ltA_5_2 ltA_5_3 ltA_5_4 ltA_5_5 ltA_5_6 ltA_6_1 ltA_6_2 ltA_6_3 ltA_6_4 ltA_6_5 ltA_6_6 ltA_7_1 ltA_7_2 ltA_7_3 ltA_7_4 ltA_7_5 ltA_7_6 ltA_8_1 ltA_8_2 ltA_8_3 ltA_8_4 ltA_8_5 ltA_8_6 ltA_9_1 ltA_9_2 ltA_9_3 ltA_9_4 ltA_9_5 ltA_9_6 ltA_10_1 ltA_10_2 ltA_10_3 ltA_10_4 ltA_10_5 ltA_10_6 ltA_11_1 ltA_11_2 ltA_11_3 ltA_11_4 ltA_11_5 ltA_11_6 ltA_12_1 ltA_12_2 ltA_12_3 ltA_12_4 ltA_12_5 ltA_12_6

theorem RowAt.moved {kd : IntKind} {W w' : World} {B p K : Nat} {A : Option Addr} {zs : List Int} (hM : Moved W B p K w') (h : RowAt kd W A zs) (hne : ∀ d, A = some d → d.block ≠ B) : RowAt kd w' A zs := fun hz => by
  obtain ⟨b, off, rfl, hb, hc⟩ := h hz
  exact ⟨b, off, rfl, by have := hM.size; omega, fun i hi => (hM.oldcell (a := ⟨b, off + i, none⟩) hb (fun e => hne _ rfl e)).trans (hc i hi)⟩

/-- bytes and numbers that a draw has made -/
def DecGot (W : World) (e : Ending) (w' : World) : Prop :=
  ∃ (A B : Option Addr) (ca cb : Nat) (ds xs : List Int), e = .returned (.tuple #[.slice A ds.length ca, .slice B xs.length cb]) ∧ ds.length ≤ ca ∧ ds.length ≤ 100000 ∧ xs.length ≤ 100 ∧ xs.length ≤ cb ∧ cb ≤ maxLen ∧ RowAt .u8 w' A ds ∧ RowAt .i64 w' B xs ∧ (∀ d, A = some d → d.block < w'.heap.size) ∧ (∀ i, 0 ≤ ds.getD i 0 ∧ ds.getD i 0 ≤ 255) ∧ Below W.heap.size W w'

def DDRel (W : World) (zs : List Int) (n : Nat) (v i : Value) (wr : World) : Prop := ∃ k : Nat, k ≤ n ∧ i = .int .i64 (k : Int) ∧ wr.ownsRow W.heap.size 3 1 v k ((ctxL zs k).map (Value.int .i64)) ∧ Below W.heap.size W wr
theorem byte_mem {zs : List Int} (h : ∀ z ∈ zs, 0 ≤ z ∧ z ≤ 255) : ∀ i, 0 ≤ zs.getD i 0 ∧ zs.getD i 0 ≤ 255 := by
  intro i
  rw [List.getD_eq_getElem?_getD]
  by_cases hi : i < zs.length
  · rw [List.getElem?_eq_getElem hi]; exact h _ (List.getElem_mem hi)
  · rw [List.getElem?_eq_none (by omega)]; decide
theorem encL_mem (zs : List Int) (n : Nat) : ∀ z ∈ encL zs n, 0 ≤ z ∧ z ≤ 255 := by
  unfold encL
  split
  · exact M.dig_bytes _ _
  · intro x hx; simp at hx
/-- the row of contexts at the end -/
theorem row_end {W w' : World} {base E n : Nat} {v : Value} {xs : List Int} (h : W.ownsRow base E 1 v n (xs.map (Value.int .i64))) (hb : Below W.heap.size W w') : ∃ (A : Option Addr) (c : Nat), v = .slice A xs.length c ∧ xs.length ≤ c ∧ c ≤ maxLen ∧ RowAt .i64 w' A xs := by
  obtain ⟨A, c, e, hl, hc, hm, hr, -⟩ := RowAt.of_ownS h
  rw [Nat.mul_one] at hl
  exact ⟨A, c, by rw [e, hl], by omega, hm, hr.keep hb⟩

set_option maxHeartbeats 2000000 in
theorem S_DrawDecodeBins (a : Option Addr) (len cap : Nat) (zs : List Int) (w : World) (h : IsRow .u8 w a len cap zs) :
    Calls Try.prog 51 #[.slice a len cap] w (DecGot w) := by
  have HI := Lib.hid h
  clear h
  obtain ⟨i0, hi, hz0, hz1, hz2⟩ := info_parts infoIntE
  go_enter Try.func51, Try.ntmps51
  go_wp2_with (go_at_call 52; refine (S_l20Open _ _ _ zs _ (IsRow.keep HI.out (by repeat' (first | (with_reducible exact Below.refl _ _) | (with_reducible refine Below.adds_ ?_ ?_ _ _) | (with_reducible refine Below.alloc ?_ ?_ _) | (with_reducible refine Below.drew ?_) | (with_reducible refine Below.setCell ?_ ?_ _) | (with_reducible assumption) | go_size | (simp only [size_addsW, World.size_alloc, World.size_drew, World.size_setCell]; omega))))).mono ?_; rintro e w1 ⟨rfl, hR', hb, hB⟩; (try simp only [World.size_alloc] at hR' hB); have hR := Lib.hid hR'; clear hR'; have hbw : Below w.heap.size w w1 := Below.trans (by repeat' (first | (with_reducible exact Below.refl _ _) | (with_reducible refine Below.adds_ ?_ ?_ _ _) | (with_reducible refine Below.alloc ?_ ?_ _) | (with_reducible refine Below.drew ?_) | (with_reducible refine Below.setCell ?_ ?_ _) | (with_reducible assumption) | go_size | (simp only [size_addsW, World.size_alloc, World.size_drew, World.size_setCell]; omega))) (hb.mono (by simp <;> omega)); clear hb)
  refine (S_l20Bins w.heap.size _ _ _ (by repeat (first | (with_reducible exact hR.out) | (with_reducible apply RdAt.adds) | (with_reducible apply RdAt.alloc) | (with_reducible exact RdAt.set hR.out _) | (with_reducible apply RdAt.drew))) (by omega) (by omega)).mono ?_
  rintro e w2 ⟨v, rfl, n, ys, hl2, hn2, ⟨q, hq, hR2⟩, hM, hown⟩
  obtain ⟨A, c, rfl, h1, h2, h3, h4, h5⟩ := RowAt.of_ownS hown
  have BW2 := Lib.hid (show Below w.heap.size w w2 from hM.below hbw (Nat.le_refl _) (by omega))
  have HA := Lib.hid (show ∀ d, A = some d → d.block ≠ w.heap.size from fun d hd => by have := (hown.lt d.block (by rw [hd]; rfl)).1; omega)
  have HR := Lib.hid h4
  have HL := Lib.hid hl2
  have HRD := Lib.hid hR2
  have hs2 := hM.size
  clear hown hM h4 h5 h1 hl2 hR hR2
  go_wp2_with fail
  go_loopw [6, 7] (fun v i wr => DDRel w2 ys n v i wr) (fun _ i _ => n - (intOf i).toNat)
  case atStart => exact ⟨0, Nat.zero_le _, rfl, own_lit_b w2 3 _ _ rfl (Nat.le_refl _), (by repeat' (first | (with_reducible exact Below.refl _ _) | (with_reducible refine Below.adds_ ?_ ?_ _ _) | (with_reducible refine Below.alloc ?_ ?_ _) | (with_reducible refine Below.drew ?_) | (with_reducible refine Below.setCell ?_ ?_ _) | (with_reducible assumption) | go_size | (simp only [size_addsW, World.size_alloc, World.size_drew, World.size_setCell]; omega)))⟩
  case round =>
    obtain ⟨k, hk, rfl, hown, hbel⟩ := hrel
    have HO := Lib.hid hown
    have HB := Lib.hid hbel
    have hzr := hbel.size
    clear hown hbel
    by_cases hlt : k < n
    · obtain ⟨b, off, x, y, rfl, hb, hx, hy, hc, hc2⟩ := (HR.out.keep HB.out).two HL.out hlt
      have HX := Lib.hid (show x = bnC ys k from hx)
      clear hx hy
      go_wp2_with (at_builtin; refine wpList_append_own _ rfl _ _ 62 rfl w2.heap.size 3 i0 (.int .i64 0) 1 8 Try.underlying62 hi hz0 hz1 hz2 rfl (by decide) _ _ _ rfl (HO.out.alloc _) ⟨_, 0, none⟩ 1 1 [.int .i64 x] rfl rfl (news1 (by go_simp; done)) (one1 rfl) (by unfold maxLen; omega) (by omega) (by simp only [World.size_alloc]; omega) ?_; intro v' w1' hown1 hgrow1 _; have HB1 := Lib.hid (Below.grown (HB.out.trans (by rw [alloc_as]; exact (addsW_below _ _ _).mono hzr)) hgrow1 (by simp; omega) (fun q e => (HO.out.lt q e).1)); obtain ⟨A1, c1, e1, -⟩ := own_shape hown1; subst e1; have HO1 := Lib.hid hown1; clear hown1 hgrow1)
      go_roundw
      case rel =>
        refine ⟨k + 1, by omega, by go_num, ?_, HB1.out⟩
        rw [ctxL_succ, List.map_append, ← HX.out]
        exact HO1.out
      case measure => simp [intOf]; omega
    · obtain rfl : k = n := by omega
      have hR0 := HRD.out.below HB.out (by omega)
      have hR := Lib.hid hR0
      have HRr := Lib.hid (HR.out.keep HB.out)
      have BWr := Lib.hid (BW2.out.trans (HB.out.mono (by omega)))
      have hcl := ctxL_len ys k
      obtain ⟨X, hX⟩ : ∃ X, X = ctxL ys k := ⟨_, rfl⟩
      have hXl : X.length = k := by rw [hX, hcl]
      have HO' := HO.out
      rw [← hX] at HO'
      clear hR0 hcl hX HO
      have HO := Lib.hid HO'
      have HXl := Lib.hid hXl
      clear HO' hXl
      have hBb : w.heap.size < w2.heap.size := by omega
      have hBr : w.heap.size < wr.heap.size := by omega
      have hMr := Lib.hid ((Moved.start HRD.out 0).belo hBb HB.out)
      go_wp2_with fail
      refine (S_odd w.heap.size _ _ _ hR.out (by omega) (by omega)).mono ?_
      rintro e w6 ⟨bo, p6, k6, rfl, hp6, hw6⟩
      have hM6 : Moved w2 w.heap.size q 2 w6 := hMr.out.trans hBb (K' := 1) (p1 := q) (by rw [hw6]; exact Moved.adds (Moved.base (by omega)) _ _) (by omega)
      have HO6 := Lib.hid (ownsRow_moved (W' := w6) (B := w.heap.size) (q := q) (J := 1) HO.out (by rw [hw6]; exact Moved.adds (Moved.base (by omega)) _ _) hBb)
      clear hw6
      cases bo
      · obtain ⟨p8, hp8, hR8⟩ := Moved.at_ HRD.out hM6
        have hR := Lib.hid hR8
        have HM8 := Lib.hid hM6
        clear hR8 hM6
        go_wp2_with fail
        refine (S_pick w.heap.size _ _ _ hR.out (by omega)).mono ?_
        rintro e w9 ⟨v9, p9, k9, rfl, hv, hp9, hw9⟩
        have hv9 := hv.1 (by omega)
        have hM9 : Moved w2 w.heap.size q 5 w9 := HM8.out.trans hBb (K' := 1) (p1 := p8) (by rw [hw9]; exact Moved.adds (Moved.base (by omega)) _ _) (by omega)
        have HO9 := Lib.hid (ownsRow_moved (W' := w9) (B := w.heap.size) (q := p8) (J := 1) HO6.out (by rw [hw9]; exact Moved.adds (Moved.base (by omega)) _ _) hBb)
        obtain ⟨p10, hp10, hR10⟩ := Moved.at_ HRD.out hM9
        have hR := Lib.hid hR10
        have HM9 := Lib.hid hM9
        have HR9 := Lib.hid (RowAt.moved hM9 HR.out HA.out)
        have BW9 := Lib.hid (hM9.below BW2.out (Nat.le_refl _) (by omega))
        have hz9 := hM9.size
        clear hv hw9 hR10 hM9
        rcases (show v9 = 0 ∨ v9 = 1 by omega) with rfl | rfl
        · go_wp2_with fail
          refine (S_EncodeBins _ k c ys _ HR9.out HL.out (by omega)).mono ?_
          rintro e w' ⟨A3, c3, rfl, hr3, hA3, ⟨hs3, hc3⟩, hb3⟩
          obtain ⟨Ao, co, eo, hc1, hc2, hro⟩ := row_end HO9.out hb3
          subst eo
          have G := Lib.hid (show DecGot w (.returned (.tuple #[.slice A3 (encL ys k).length c3, .slice Ao X.length co])) w' from ⟨A3, Ao, c3, co, encL ys k, X, rfl, hc3, by have := encL_len ys k (by omega); omega, by have := HXl.out; omega, hc1, hc2, hr3, hro, fun d hd => by obtain ⟨cur, t, h⟩ := hs3 d hd; exact (Array.getElem?_eq_some_iff.1 h).1, byte_mem (encL_mem ys k), BW9.out.trans (hb3.mono (by omega))⟩)
          clear hr3 hA3 hs3 hb3 hro HO9
          go_wp2_with fail
          go_ret2
          exact G.out
        · go_wp2_with fail
          refine (S_l20Bytes w.heap.size p10 30 _ hR.out (by omega) (by omega)).mono ?_
          rintro e w' ⟨v, bs, rfl, hbl, hby, -, hM11, hown11⟩
          obtain ⟨Ao, co, eo, hc1, hc2, hro⟩ := row_end (ownsRow_moved HO9.out hM11 hBb) (Below.refl _ _)
          obtain ⟨A3, c3, rfl, -, hc3, -, hr3, -⟩ := RowAt.of_ownS hown11
          have hlt3 := hown11.lt
          subst eo
          have G := Lib.hid (show DecGot w (.returned (.tuple #[.slice A3 bs.length c3, .slice Ao X.length co])) w' from ⟨A3, Ao, c3, co, bs, X, rfl, hc3, by omega, by have := HXl.out; omega, hc1, hc2, hr3, hro, fun d hd => (hlt3 d.block (by rw [hd]; rfl)).2, byte_mem hby, hM11.below BW9.out (Nat.le_refl _) (by omega)⟩)
          clear hby hM11 hown11 hr3 hro HO9 hlt3
          go_wp2_with fail
          go_ret2
          exact G.out
      · obtain ⟨p17, hp17, hR7⟩ := Moved.at_ HRD.out hM6
        have hR := Lib.hid hR7
        have HM6 := Lib.hid hM6
        clear hR7 hM6
        go_wp2_with fail
        (refine (S_pick w.heap.size _ _ _ (by repeat (first | (with_reducible exact hR.out) | (with_reducible apply RdAt.adds) | (with_reducible apply RdAt.alloc) | (with_reducible exact RdAt.set hR.out _) | (with_reducible apply RdAt.drew))) (by omega)).mono ?_; rintro e w' ⟨v7, p7, k7, rfl, hv, hp7, rfl⟩; have hv7 := hv.1 (by omega); clear hv)
        have hz6 := HM6.out.size
        have hB6 : w.heap.size < w6.heap.size := by omega
        have hlist : ∀ x ∈ [(-1 : Int), 40], -1 ≤ x ∧ x ≤ 40 := by intro x hx; simp only [List.mem_cons, List.not_mem_nil, or_false] at hx; omega
        go_wp2_with (at_builtin; refine wpList_append_own _ rfl _ _ 62 rfl w2.heap.size 3 i0 (.int .i64 0) 1 8 Try.underlying62 hi hz0 hz1 hz2 rfl (by decide) _ _ _ rfl (ownsRow_moved (B := w.heap.size) (q := p17) (J := 1) HO6.out (by repeat (first | (with_reducible apply Moved.adds) | (with_reducible apply Moved.alloc) | (with_reducible apply Moved.drew) | (exact Moved.base (by omega)) | (exact Moved.again hB6 ((Moved.start hR.out 1).alloc _) (by omega)))) hBb) ⟨_, 0, none⟩ 1 1 [.int .i64 ([-1, 40][v7.toNat]'(by simp; omega))] rfl rfl (news1 (by go_simp; done)) (one1 rfl) (by unfold maxLen; omega) (by omega) (by simp only [size_adds0, size_addsW, World.size_alloc, World.size_setCell]; omega) ?_; intro v' w8 hown1 hgrow1 _; have hM8 : Moved w2 w.heap.size q 4 w8 := (HM6.out.trans hBb (K' := 1) (p1 := p17) (by repeat (first | (with_reducible apply Moved.adds) | (with_reducible apply Moved.alloc) | (with_reducible apply Moved.drew) | (exact Moved.base (by omega)) | (exact Moved.again hB6 ((Moved.start hR.out 1).alloc _) (by omega)))) (by omega)).step hBb hgrow1 (fun x e => (HO6.out.lt x e).1); have HO8 := Lib.hid hown1; clear hown1 hgrow1)
        obtain ⟨z7, hz7⟩ : ∃ z7 : Int, z7 = [-1, 40][v7.toNat]'(by simp; omega) := ⟨_, rfl⟩
        rw [← hz7] at HO8
        have HO8' : Hid (w8.ownsRow w2.heap.size 3 1 v' (k + 1) ((X ++ [z7]).map (Value.int .i64))) := by
          rw [List.map_append]; exact Lib.hid HO8.out
        clear HO8 hz7 hlist
        obtain ⟨p8, hp8, hR8⟩ := Moved.at_ HRD.out hM8
        have hR := Lib.hid hR8
        have HM8 := Lib.hid hM8
        clear hR8 hM8
        go_wp2_with fail
        refine (S_pick w.heap.size _ _ _ hR.out (by omega)).mono ?_
        rintro e w9 ⟨v9, p9, k9, rfl, hv, hp9, hw9⟩
        have hv9 := hv.1 (by omega)
        have hM9 : Moved w2 w.heap.size q 5 w9 := HM8.out.trans hBb (K' := 1) (p1 := p8) (by rw [hw9]; exact Moved.adds (Moved.base (by omega)) _ _) (by omega)
        have HO9 := Lib.hid (ownsRow_moved (W' := w9) (B := w.heap.size) (q := p8) (J := 1) HO8'.out (by rw [hw9]; exact Moved.adds (Moved.base (by omega)) _ _) hBb)
        obtain ⟨p10, hp10, hR10⟩ := Moved.at_ HRD.out hM9
        have hR := Lib.hid hR10
        have HM9 := Lib.hid hM9
        have HR9 := Lib.hid (RowAt.moved hM9 HR.out HA.out)
        have BW9 := Lib.hid (hM9.below BW2.out (Nat.le_refl _) (by omega))
        have hz9 := hM9.size
        clear hv hw9 hR10 hM9
        rcases (show v9 = 0 ∨ v9 = 1 by omega) with rfl | rfl
        · go_wp2_with fail
          refine (S_EncodeBins _ k c ys _ HR9.out HL.out (by omega)).mono ?_
          rintro e w' ⟨A3, c3, rfl, hr3, hA3, ⟨hs3, hc3⟩, hb3⟩
          obtain ⟨Ao, co, eo, hc1, hc2, hro⟩ := row_end HO9.out hb3
          subst eo
          have G := Lib.hid (show DecGot w (.returned (.tuple #[.slice A3 (encL ys k).length c3, .slice Ao (X ++ [z7]).length co])) w' from ⟨A3, Ao, c3, co, encL ys k, X ++ [z7], rfl, hc3, by have := encL_len ys k (by omega); omega, by have := HXl.out; rw [List.length_append]; simp; omega, hc1, hc2, hr3, hro, fun d hd => by obtain ⟨cur, t, h⟩ := hs3 d hd; exact (Array.getElem?_eq_some_iff.1 h).1, byte_mem (encL_mem ys k), BW9.out.trans (hb3.mono (by omega))⟩)
          clear hr3 hA3 hs3 hb3 hro HO9
          go_wp2_with fail
          go_ret2
          exact (by have g := G.out; simp only [List.length_append, List.length_cons, List.length_nil, Nat.zero_add] at g; exact g)
        · go_wp2_with fail
          refine (S_l20Bytes w.heap.size p10 30 _ hR.out (by omega) (by omega)).mono ?_
          rintro e w' ⟨v, bs, rfl, hbl, hby, -, hM11, hown11⟩
          obtain ⟨Ao, co, eo, hc1, hc2, hro⟩ := row_end (ownsRow_moved HO9.out hM11 hBb) (Below.refl _ _)
          obtain ⟨A3, c3, rfl, -, hc3, -, hr3, -⟩ := RowAt.of_ownS hown11
          have hlt3 := hown11.lt
          subst eo
          have G := Lib.hid (show DecGot w (.returned (.tuple #[.slice A3 bs.length c3, .slice Ao (X ++ [z7]).length co])) w' from ⟨A3, Ao, c3, co, bs, X ++ [z7], rfl, hc3, by omega, by have := HXl.out; rw [List.length_append]; simp; omega, hc1, hc2, hr3, hro, fun d hd => (hlt3 d.block (by rw [hd]; rfl)).2, byte_mem hby, hM11.below BW9.out (Nat.le_refl _) (by omega)⟩)
          clear hby hM11 hown11 hr3 hro HO9 hlt3
          go_wp2_with fail
          go_ret2
          exact (by have g := G.out; simp only [List.length_append, List.length_cons, List.length_nil, Nat.zero_add] at g; exact g)

end Go.Proofs.Ytndbdfbjiaaloaa
