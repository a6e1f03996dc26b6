/- What the draw of a picture similar to another one answers. -/
import Derived.Test.YtobphddjoebfjaaDrawJ
import Derived.Maps.AppendAt
namespace Go.Proofs.Ytobphddjoebfjaa
open Go.RowKit
set_option linter.unusedVariables false
set_option linter.unusedSimpArgs false

attribute [local go_sem] size_addsW cell?_addsW frozen?_addsW setCell_addsW drew_addsW adds_addsW setCell_twice alloc_adds0 size_adds0 adds_adds0 sel2 sel3 sel4 sel5 sel6 sel7 sel8 sel9 lt_more lt_more2 lt_more3 lt_more4 adds_drew adds_drewN drewN_addsW ltA_1_1 ltA_1_2 ltA_1_3 ltA_1_4 ltA_1_5 ltA_1_6 ltA_2_1 ltA_2_2 ltA_2_3 ltA_2_4 ltA_2_5 ltA_2_6 ltA_3_1 ltA_3_2 ltA_3_3 ltA_3_4 ltA_3_5 ltA_3_6 ltA_4_1 ltA_4_2 ltA_4_3 ltA_4_4 ltA_4_5 ltA_4_6 ltA_5_1 ltA_5_2 ltA_5_3 ltA_5_4 ltA_5_5 ltA_5_6 ltA_6_1 ltA_6_2 ltA_6_3 ltA_6_4 ltA_6_5 ltA_6_6 ltA_7_1 ltA_7_2 ltA_7_3 ltA_7_4 ltA_7_5 ltA_7_6 ltA_8_1 ltA_8_2 ltA_8_3 ltA_8_4 ltA_8_5 ltA_8_6 ltA_9_1 ltA_9_2 ltA_9_3 ltA_9_4 ltA_9_5 ltA_9_6 ltA_10_1 ltA_10_2 ltA_10_3 ltA_10_4 ltA_10_5 ltA_10_6 ltA_11_1 ltA_11_2 ltA_11_3 ltA_11_4 ltA_11_5 ltA_11_6 ltA_12_1 ltA_12_2 ltA_12_3 ltA_12_4 ltA_12_5 ltA_12_6

theorem RowAt.movedR {kd : IntKind} {W w' : World} {B p K : Nat} {A : Option Addr} {zs : List Int} (hM : Moved W B p K w') (h : RowAt kd W A zs) (hne : ∀ d, A = some d → d.block ≠ B) : RowAt kd w' A zs := fun hz => by
  obtain ⟨b, off, rfl, hb, hc⟩ := h hz
  exact ⟨b, off, rfl, by have := hM.size; omega, fun i hi => (hM.oldcell (a := ⟨b, off + i, none⟩) hb (fun e => hne _ rfl e)).trans (hc i hi)⟩

theorem cell_one_g (w : World) (x : Value) (t : TypeId) (g : Nat) (hg : g = w.heap.size) : ∀ j u, [x][j]? = some u → (w.alloc (.cells #[x] t)).cell? ((⟨g, 0, none⟩ : Addr).add j) = some u := by
  subst hg; exact cell_one_new w x t
theorem RowAt.drew_ {kd : IntKind} {w : World} {A : Option Addr} {zs : List Int} (h : RowAt kd w A zs) : RowAt kd w.drew A zs := h

/-- k samples are drawn: the box behind W holds the picture -/
def Nx (W : World) (B p K : Nat) (a b : Int) (k c : Nat) (A : Option Addr) (zs : List Int) (wr : World) : Prop :=
  zs.length = k ∧ Moved W B p K wr ∧ wr.heap[W.heap.size]? = some (.cells #[.int .i64 a, .int .i64 b, .slice A k c] 27 (0, 0)) ∧ wr.ownsRow (W.heap.size + 1) 3 1 (.slice A k c) k (zs.map (Value.int .i64))

theorem Nx.step {W wr W' w1 : World} {B p K q J k c c' : Nat} {a b z : Int} {A A' : Option Addr} {zs : List Int} (hB : B < W.heap.size) (h : Nx W B p K a b k c A zs wr) (hM : Moved wr B q J W') (hq : q + J ≤ p + (K + J))
    (hown : w1.ownsRow (W.heap.size + 1) 3 1 (.slice A' (k + 1) c') (k + 1) (zs.map (Value.int .i64) ++ [.int .i64 z])) (hg : W'.grownBy w1 (Value.slice A k c).ownBlock) :
    Nx W B p (K + J) a b (k + 1) c' A' (zs ++ [z]) (w1.setCell ⟨W.heap.size, 2, none⟩ (.slice A' (k + 1) c')) := by
  obtain ⟨h1, h2, h3, h4⟩ := h
  have hlt : W.heap.size < wr.heap.size := (Array.getElem?_eq_some_iff.1 h3).1
  have hM2 : Moved W B p (K + J) W' := h2.trans hB hM (by omega)
  have hM3 : Moved W B p (K + J) w1 := hM2.step hB hg (fun x e => by have := (h4.lt x e).1; omega)
  have hs2 := hM.size
  have hbox : w1.heap[W.heap.size]? = some (.cells #[.int .i64 a, .int .i64 b, .slice A k c] 27 (0, 0)) := by
    rw [hg.block _ (by omega) (fun e => by have := (h4.lt _ e.symm).1; omega)]
    exact ((moved_grown hM).block _ hlt (fun e => by injection e; omega)).trans h3
  refine ⟨by rw [List.length_append, h1]; rfl, hM3.own hB (a := ⟨W.heap.size, 2, none⟩) (Nat.le_refl _) _, ?_, ?_⟩
  · rw [heap_setCell_same w1 W.heap.size 2 _ _ _ hbox]; rfl
  · rw [List.map_append]
    refine hown.kept (grownBy_setCell w1 ⟨W.heap.size, 2, none⟩ _) ?_
    cases e : (Value.slice A' (k + 1) c').ownBlock with
    | none => exact .inl rfl
    | some x => exact .inr (fun e2 => by have h5 := (hown.lt x e).1; simp only [Option.some.injEq] at e2; omega)

theorem Nx.keep {W wr W' w1 : World} {B p K q J k c g : Nat} {a b : Int} {A : Option Addr} {zs : List Int} (h : Nx W B p K a b k c A zs wr) (hM : Moved wr B q J W') (hg : W'.grownBy w1 (Value.slice A k c).ownBlock) (hlt : g ≤ W.heap.size) (hne : g ≠ B) : w1.heap[g]? = wr.heap[g]? := by
  obtain ⟨h1, h2, h3, h4⟩ := h
  have hX : W.heap.size < wr.heap.size := (Array.getElem?_eq_some_iff.1 h3).1
  have hs2 := hM.size
  rw [hg.block _ (by omega) (fun e => by have := (h4.lt _ e.symm).1; omega)]
  exact (moved_grown hM).block _ (by omega) (fun e => hne (by injection e))
def NxRel (W : World) (B p : Nat) (a b : Int) (n : Nat) (i : Value) (wr : World) : Prop := ∃ (k c : Nat) (A : Option Addr) (zs : List Int), k ≤ n ∧ i = .int .i64 (k : Int) ∧ Nx W B p k a b k c A zs wr
def NxCut (w : World) (B p : Nat) (a b : Int) (A : Option Addr) (n c : Nat) (s7 : Value) (wx : World) : Prop :=
  ∃ ns : Int, s7 = .int .i64 ns ∧ 1 ≤ ns ∧ ns ≤ 40 ∧ Moved w B p 3 wx ∧ wx.heap[w.heap.size]? = some (.cells #[.int .i64 a, .int .i64 b, .slice A n c] 27 (0, 0)) ∧ wx.heap[w.heap.size + 1]? = some (.cells #[.int .i64 0, .int .i64 0, .slice none 0 0] 27 (0, 0))
theorem pic_cells {w : World} {g t : Nat} {x y z : Value} (h : w.heap[g]? = some (.cells #[x, y, z] t (0, 0))) : (w.cell? ⟨g, 0, none⟩ = some x ∧ w.cell? ⟨g, 1, none⟩ = some y ∧ w.cell? ⟨g, 2, none⟩ = some z) ∧ (w.frozen? ⟨g, 0, none⟩ = false ∧ w.frozen? ⟨g, 1, none⟩ = false ∧ w.frozen? ⟨g, 2, none⟩ = false) := by
  simp [World.cell?, World.frozen?, h]

theorem two_boxes {V : World} {x y l : Obj} {o1 : Array Obj} {k2 k3 N : Nat} (hN : V.heap.size = N) : (addsW ((addsW ((V.alloc x).alloc y) o1 k2).alloc l) #[] k3).heap[N]? = some x ∧ (addsW ((addsW ((V.alloc x).alloc y) o1 k2).alloc l) #[] k3).heap[N + 1]? = some y := by
  subst hN
  constructor
  · rw [heap_addsW _ _ _ _ (by simp [size_addsW]; omega), Below.heap_alloc _ _ _ (by simp [size_addsW]; omega), heap_addsW _ _ _ _ (by simp; omega), heap_alloc2_old]
  · rw [heap_addsW _ _ _ _ (by simp [size_addsW]; omega), Below.heap_alloc _ _ _ (by simp [size_addsW]; omega), heap_addsW _ _ _ _ (by simp), heap_alloc2_new]

set_option maxRecDepth 100000 in
set_option maxHeartbeats 4000000 in
theorem S_l20Next (B p : Nat) (a b : Int) (A : Option Addr) (c : Nat) (ps : List Int) (w : World) (h : RdAt w B p) (hp : p ≤ 700000000) (hr : RowAt .i64 w A ps) (hA : ∀ d, A = some d → d.block ≠ B) (hl : ps.length ≤ 1024) :
    Calls Try.prog 92 #[.pointer (some ⟨B, 0, none⟩), .agg #[.int .i64 a, .int .i64 b, .slice A ps.length c]] w (PicAny 1100 w B p) := by
  have hB := h.lt
  have hR := Lib.hid h
  have HR := Lib.hid hr
  have HA := Lib.hid hA
  clear h hr hA
  cases hv : picB a b ps
  · go_enter Try.func92, Try.ntmps92
    go_wp2_with fail
    refine (S_PictureValid a b _ _ ps _ (HR.out.keep (by repeat' (first | (with_reducible exact Below.refl _ _) | (with_reducible refine Below.adds_ ?_ ?_ _ _) | (with_reducible refine Below.alloc ?_ ?_ _) | (with_reducible refine Below.drew ?_) | (with_reducible refine Below.setCell ?_ ?_ _) | (with_reducible assumption) | go_size | (simp only [size_addsW, World.size_alloc, World.size_drew, World.size_setCell]; omega)))) (by omega)).mono ?_
    rw [hv]
    rintro e w' ⟨rfl, hb⟩
    obtain ⟨o1, n1, rfl⟩ := below_adds hb
    clear hb hv
    go_wp2_with fail
    refine (S_l20Picture B _ _ _ (by repeat (first | (with_reducible exact hR.out) | (with_reducible apply RdAt.adds) | (with_reducible apply RdAt.alloc) | (with_reducible exact RdAt.set hR.out _) | (with_reducible apply RdAt.drew))) (by omega) (by omega)).mono ?_
    rintro e w' ⟨a', b', A', c', zs, rfl, ha0, ha1, hb0, hb1, hz, hzc, hcm, hrow, hA', hM⟩
    have hMw : Moved w B p 1100 w' := ((((Moved.start hR.out 0).alloc _).alloc _).adds _ _).trans hB hM (by omega)
    have hsz := hM.size
    simp only [size_addsW, World.size_alloc] at hsz hA'
    have hbox2 : w'.heap[w.heap.size + 1]? = some (.cells #[.int .i64 0, .int .i64 0, .slice none 0 0] 27 (0, 0)) := by
      rw [(moved_grown hM).block _ (by simp [size_addsW]; omega) (fun e => by injection e; omega), heap_addsW _ _ _ _ (by simp), heap_alloc2_new]
    obtain ⟨⟨r0, r1, r2⟩, f0, f1, f2⟩ := pic_cells hbox2
    have HMw := Lib.hid hMw
    have HROW := Lib.hid hrow
    have HA' := Lib.hid hA'
    have hlt2 : w.heap.size + 1 < w'.heap.size := (Array.getElem?_eq_some_iff.1 hbox2).1
    clear hMw hM hrow hA' hbox2
    go_wp2_with fail
    refine bodyPost_ret (v := .agg #[.int .i64 a', .int .i64 b', .slice A' zs.length c']) (by simp [results, Try.results92, go_sem, r0, r1, r2, f0, f1, f2]) rfl ?_
    refine ⟨a', b', A', c', zs, rfl, ha0, ha1, hb0, hb1, hz, hzc, hcm, ?_, fun d hd => by have := HA'.out d hd; omega, ((HMw.out.own hB (show w.heap.size ≤ w.heap.size + 1 by omega) _).own hB (show w.heap.size ≤ w.heap.size + 1 by omega) _).own hB (show w.heap.size ≤ w.heap.size + 1 by omega) _⟩
    cases A' with
    | none =>
      intro hne
      obtain ⟨b9, o9, e9, _⟩ := HROW.out hne
      cases e9
    | some d =>
      intro hne
      obtain ⟨b9, o9, e9, hb9, hc9⟩ := HROW.out hne
      injection e9 with e9
      subst e9
      have hne2 : w.heap.size + 1 ≠ b9 := by have := HA'.out _ rfl; simp at this; omega
      exact ((((show RowAt .i64 w' (some ⟨b9, o9, none⟩) zs from fun _ => ⟨b9, o9, rfl, hb9, hc9⟩).far hne2).far hne2).far hne2) hne
  · obtain ⟨s1, s2, hpl, hps⟩ := picB_iff.1 hv
    have ha := sideB_bd s1
    have hb := sideB_bd s2
    obtain ⟨na, rfl⟩ := Int.eq_ofNat_of_zero_le (show 0 ≤ a by omega)
    have HV := Lib.hid hv
    have HPL := Lib.hid hpl
    have ha2 : 8 ≤ (na : Int) ∧ (na : Int) ≤ 32 := ⟨ha.1, ha.2.1⟩
    have hb2 : 8 ≤ b ∧ b ≤ 32 := ⟨hb.1, hb.2.1⟩
    obtain ⟨i0, hi, hz0, hz1, hz2⟩ := info_parts infoIntG
    clear hv s1 s2 hpl hps ha hb
    go_enter Try.func92, Try.ntmps92
    go_wp2_with fail
    refine (S_PictureValid (na : Int) b _ _ ps _ (HR.out.keep (by repeat' (first | (with_reducible exact Below.refl _ _) | (with_reducible refine Below.adds_ ?_ ?_ _ _) | (with_reducible refine Below.alloc ?_ ?_ _) | (with_reducible refine Below.drew ?_) | (with_reducible refine Below.setCell ?_ ?_ _) | (with_reducible assumption) | go_size | (simp only [size_addsW, World.size_alloc, World.size_drew, World.size_setCell]; omega)))) (by omega)).mono ?_
    rw [HV.out]
    rintro e w' ⟨rfl, hbl⟩
    obtain ⟨o1, n1, rfl⟩ := below_adds hbl
    clear hbl
    go_wp2_with fail
    (refine (S_pick B _ _ _ (by repeat (first | (with_reducible exact hR.out) | (with_reducible apply RdAt.adds) | (with_reducible apply RdAt.alloc) | (with_reducible exact RdAt.set hR.out _) | (with_reducible apply RdAt.drew))) (by omega)).mono ?_; rintro e w' ⟨v1, p1, k1, rfl, hv, hp1, rfl⟩; have hv1 := hv.1 (by omega); clear hv)
    go_wp2_with fail
    (refine (S_pick B _ _ _ (by repeat (first | (with_reducible exact hR.out) | (with_reducible apply RdAt.adds) | (with_reducible apply RdAt.alloc) | (with_reducible exact RdAt.set hR.out _) | (with_reducible apply RdAt.drew))) (by omega)).mono ?_; rintro e w' ⟨v2, p2, k2, rfl, hv, hp2, rfl⟩; have hv2 := hv.1 (by omega); clear hv)
    go_upto_region 5 with fail
    go_cut [7] (fun s7 wx => NxCut w B p (na : Int) b A ps.length c s7 wx)
    case first =>
      go_wp2_with fail
      (refine (S_pick B _ _ _ (by repeat (first | (with_reducible exact hR.out) | (with_reducible apply RdAt.adds) | (with_reducible apply RdAt.alloc) | (with_reducible exact RdAt.set hR.out _) | (with_reducible apply RdAt.drew))) (by omega)).mono ?_; rintro e w' ⟨v3, p3, k3, rfl, hv, hp3, rfl⟩; have hv3 := hv.1 (by omega); clear hv)
      obtain ⟨ns, hns⟩ : ∃ ns : Int, ns = [1, 1, 3, 40][v3.toNat]'(by simp; omega) := ⟨_, rfl⟩
      have hns0 : 1 ≤ ns ∧ ns ≤ 40 := by rw [hns]; exact selB _ 1 40 (by decide)
      go_wp2_with fail
      simp only [← hns]
      clear hns
      go_meet
      have h2 := two_boxes (V := w.setCell ⟨B, 1, none⟩ (.int .i64 (p3 : Int))) (x := .cells #[.int .i64 (na : Int), .int .i64 b, .slice A ps.length c] 27) (y := .cells #[.int .i64 0, .int .i64 0, .slice none 0 0] 27) (l := .cells #[.int .i64 1, .int .i64 1, .int .i64 3, .int .i64 40] 3) (o1 := o1) (k2 := k2) (k3 := k3) (World.size_setCell _ _ _)
      exact ⟨ns, rfl, hns0.1, hns0.2, (by repeat (first | (with_reducible apply Moved.adds) | (with_reducible apply Moved.alloc) | (with_reducible apply Moved.drew) | (exact Moved.base (by omega)))), h2.1, h2.2⟩
    case rest =>
      obtain ⟨ns, rfl, hn0, hn1, hM, hbox, hbox2⟩ := hcut
      obtain ⟨q0, hq0, hRq⟩ := Moved.at_ hR.out hM
      have hszw := hM.size
      have hlt1 : w.heap.size + 1 < wc.heap.size := (Array.getElem?_eq_some_iff.1 hbox2).1
      have HM := Lib.hid hM
      have HBX := Lib.hid hbox
      have HBX2 := Lib.hid hbox2
      have HRc := Lib.hid (RowAt.movedR hM HR.out HA.out)
      have hRc := Lib.hid hRq
      have hBc : B < wc.heap.size := by omega
      obtain ⟨⟨c0, c1, c2⟩, -⟩ := pic_cells hbox
      clear hM hbox hbox2 hRq hR HR
      go_wp2_with fail
      clear c0 c1 c2
      go_loopw [9] (fun i wr => NxRel wc B q0 (na : Int) b ps.length i wr) (fun i _ => ps.length - (intOf i).toNat)
      case atStart => exact ⟨0, 0, none, [], Nat.zero_le _, rfl, rfl, (Moved.start hRc.out 0).alloc _, heap_alloc_new _ _, World.ownsRow_nil _ _ _ _⟩
      case round =>
        obtain ⟨k, cx, Ax, zs, hk, rfl, hnx⟩ := hrel
        have HN := Lib.hid hnx
        obtain ⟨hzl, hM, hbx, hown⟩ := hnx
        obtain ⟨q, hq, hRq⟩ := Moved.at_ hRc.out hM
        have hR := Lib.hid hRq
        obtain ⟨⟨d0, d1, d2⟩, g0, g1, g2⟩ := pic_cells hbx
        have hX : wc.heap.size < wr.heap.size := (Array.getElem?_eq_some_iff.1 hbx).1
        have hBr : B < wr.heap.size := by omega
        have HRr := Lib.hid (RowAt.movedR hM HRc.out HA.out)
        have HPB := Lib.hid (((moved_grown hM).block w.heap.size (by omega) (fun e => by injection e; omega)).trans HBX.out)
        obtain ⟨⟨c0, c1, c2⟩, -⟩ := pic_cells (((moved_grown hM).block w.heap.size (by omega) (fun e => by injection e; omega)).trans HBX.out)
        clear hM hbx hown hRq hzl g0 g1
        have hwB : B ≠ wc.heap.size := by omega
        have hwX : ¬ w.heap.size = wc.heap.size := by omega
        have hwX2 : ¬ wc.heap.size = w.heap.size := by omega
        have hw0 : w.heap.size < wr.heap.size := by omega
        by_cases hlt : k < ps.length
        · go_wp2_with fail
          have hna : ¬ na = 0 := by omega
          refine wp_region_held_drew (S := (fun w' => w'.cell? ⟨w.heap.size, 0, none⟩ = some (.int .i64 (na : Int)) ∧ w'.cell? ⟨w.heap.size, 1, none⟩ = some (.int .i64 b) ∧ w'.cell? ⟨w.heap.size, 2, none⟩ = some (.slice A ps.length c))) (by kernel_rfl) ?_ (fun hHeld => ?_)
          · (first | (go_simp; done) | (go_keep; done) | exact ⟨x0, x1, x2⟩)
          refine wpAnyH_take (i := 0) (oi := _) (v := ?_) rfl (by kernel_rfl) (by kernel_rfl) (by kernel_rfl) (fun _ _ _ h => h) (Or.inl ⟨by rfl, ?_⟩) (by assumption) ?_
          rotate_left
          · intro w hSw; (try dsimp only at hSw); go_simp; (try with_reducible rfl)
          try dsimp only [List.getElem_toArray, List.getElem_cons_succ, List.getElem_cons_zero]
          simp only [Act.put, List.setIfInBounds_toArray, List.set_cons_zero, List.set_cons_succ]
          refine wpAnyH_take (i := 2) (oi := _) (v := ?_) rfl (by kernel_rfl) (by kernel_rfl) (by kernel_rfl) (fun _ _ _ h => h) (Or.inl ⟨by rfl, ?_⟩) (by assumption) ?_
          rotate_left
          · intro w hSw; (try dsimp only at hSw); go_simp; (try with_reducible rfl)
          try dsimp only [List.getElem_toArray, List.getElem_cons_succ, List.getElem_cons_zero]
          simp only [Act.put, List.setIfInBounds_toArray, List.set_cons_zero, List.set_cons_succ]
          refine wpAnyH_take (i := 3) (oi := _) (v := ?_) rfl (by kernel_rfl) (by kernel_rfl) (by kernel_rfl) (fun _ _ _ h => h) (Or.inl ⟨by rfl, ?_⟩) (by assumption) ?_
          rotate_left
          · intro w hSw; (try dsimp only at hSw); go_simp; (try with_reducible rfl)
          try dsimp only [List.getElem_toArray, List.getElem_cons_succ, List.getElem_cons_zero]
          simp only [Act.put, List.setIfInBounds_toArray, List.set_cons_zero, List.set_cons_succ]
          refine wpAnyH_take (i := 4) (oi := _) (v := ?_) rfl (by kernel_rfl) (by kernel_rfl) (by kernel_rfl) (fun _ _ _ h => h) (Or.inl ⟨by rfl, ?_⟩) (by assumption) ?_
          rotate_left
          · intro w hSw; (try dsimp only at hSw); go_simp; (try with_reducible rfl)
          try dsimp only [List.getElem_toArray, List.getElem_cons_succ, List.getElem_cons_zero]
          simp only [Act.put, List.setIfInBounds_toArray, List.set_cons_zero, List.set_cons_succ]
          refine wpAnyH_take (i := 5) (oi := _) (v := ?_) rfl (by kernel_rfl) (by kernel_rfl) (by kernel_rfl) (fun _ _ _ h => h) (Or.inl ⟨by rfl, ?_⟩) (by assumption) ?_
          rotate_left
          · intro w hSw; (try dsimp only at hSw); go_simp; (try with_reducible rfl)
          try dsimp only [List.getElem_toArray, List.getElem_cons_succ, List.getElem_cons_zero]
          simp only [Act.put, List.setIfInBounds_toArray, List.set_cons_zero, List.set_cons_succ]
          refine wpAnyH_take (i := 6) (oi := _) (v := ?_) rfl (by kernel_rfl) (by kernel_rfl) (by kernel_rfl) (fun _ _ _ h => h) (Or.inl ⟨by rfl, ?_⟩) (by assumption) ?_
          rotate_left
          · intro w hSw; (try dsimp only at hSw); go_simp; (try with_reducible rfl)
          try dsimp only [List.getElem_toArray, List.getElem_cons_succ, List.getElem_cons_zero]
          simp only [Act.put, List.setIfInBounds_toArray, List.set_cons_zero, List.set_cons_succ]
          refine wpAnyH_take (i := 7) (oi := _) (v := ?_) rfl (by kernel_rfl) (by kernel_rfl) (by kernel_rfl) (fun _ _ _ h => h) (Or.inl ⟨by rfl, ?_⟩) (by assumption) ?_
          rotate_left
          · intro w hSw; (try dsimp only at hSw); go_simp; (try with_reducible rfl)
          try dsimp only [List.getElem_toArray, List.getElem_cons_succ, List.getElem_cons_zero]
          simp only [Act.put, List.setIfInBounds_toArray, List.set_cons_zero, List.set_cons_succ]
          refine wpAnyH_take (i := 8) (oi := _) (v := ?_) rfl (by kernel_rfl) (by kernel_rfl) (by kernel_rfl) (fun _ _ _ h => h) (Or.inl ⟨by rfl, ?_⟩) (by assumption) ?_
          rotate_left
          · intro w hSw; (try dsimp only at hSw); go_simp; (try with_reducible rfl)
          try dsimp only [List.getElem_toArray, List.getElem_cons_succ, List.getElem_cons_zero]
          simp only [Act.put, List.setIfInBounds_toArray, List.set_cons_zero, List.set_cons_succ]
          refine wpAnyH_take (i := 9) (oi := _) (v := ?_) rfl (by kernel_rfl) (by kernel_rfl) (by kernel_rfl) (fun _ _ _ h => h) (Or.inl ⟨by rfl, ?_⟩) (by assumption) ?_
          rotate_left
          · intro w hSw; (try dsimp only at hSw); go_simp; (try with_reducible rfl)
          try dsimp only [List.getElem_toArray, List.getElem_cons_succ, List.getElem_cons_zero]
          simp only [Act.put, List.setIfInBounds_toArray, List.set_cons_zero, List.set_cons_succ]
          refine wpAnyH_take (i := 10) (oi := _) (v := ?_) rfl (by kernel_rfl) (by kernel_rfl) (by kernel_rfl) (fun _ _ _ h => h) (Or.inl ⟨by rfl, ?_⟩) (by assumption) ?_
          rotate_left
          · intro w hSw; (try dsimp only at hSw); go_simp; (try with_reducible rfl)
          try dsimp only [List.getElem_toArray, List.getElem_cons_succ, List.getElem_cons_zero]
          simp only [Act.put, List.setIfInBounds_toArray, List.set_cons_zero, List.set_cons_succ]
          refine wpAnyH_take (i := 11) (oi := _) (v := ?_) rfl (by kernel_rfl) (by kernel_rfl) (by kernel_rfl) (fun _ _ _ h => h) (Or.inl ⟨by rfl, ?_⟩) (by assumption) ?_
          rotate_left
          · intro w hSw; (try dsimp only at hSw); go_simp; (try with_reducible rfl)
          try dsimp only [List.getElem_toArray, List.getElem_cons_succ, List.getElem_cons_zero]
          simp only [Act.put, List.setIfInBounds_toArray, List.set_cons_zero, List.set_cons_succ]
          refine wpAnyH_take (i := 12) (oi := _) (v := ?_) rfl (by kernel_rfl) (by kernel_rfl) (by kernel_rfl) (fun _ _ _ h => h) (Or.inl ⟨by rfl, ?_⟩) (by assumption) ?_
          rotate_left
          · intro w hSw; (try dsimp only at hSw); go_simp; (try with_reducible rfl)
          try dsimp only [List.getElem_toArray, List.getElem_cons_succ, List.getElem_cons_zero]
          simp only [Act.put, List.setIfInBounds_toArray, List.set_cons_zero, List.set_cons_succ]
          refine wpAnyH_take (i := 13) (oi := _) (v := ?_) rfl (by kernel_rfl) (by kernel_rfl) (by kernel_rfl) (fun _ _ _ h => h) (Or.inl ⟨by rfl, ?_⟩) (by assumption) ?_
          rotate_left
          · intro w hSw; (try dsimp only at hSw); go_simp; (try with_reducible rfl)
          try dsimp only [List.getElem_toArray, List.getElem_cons_succ, List.getElem_cons_zero]
          simp only [Act.put, List.setIfInBounds_toArray, List.set_cons_zero, List.set_cons_succ]
          refine wpAnyH_take (i := 14) (oi := _) (v := ?_) rfl (by kernel_rfl) (by kernel_rfl) (by kernel_rfl) (fun _ _ _ h => h) (Or.inl ⟨by rfl, ?_⟩) (by assumption) ?_
          rotate_left
          · intro w hSw; (try dsimp only at hSw); go_simp; (try with_reducible rfl)
          try dsimp only [List.getElem_toArray, List.getElem_cons_succ, List.getElem_cons_zero]
          simp only [Act.put, List.setIfInBounds_toArray, List.set_cons_zero, List.set_cons_succ]
          refine wpAnyH_take (i := 16) (oi := _) (v := ?_) rfl (by kernel_rfl) (by kernel_rfl) (by kernel_rfl) (fun _ _ _ h => h) (Or.inl ⟨by rfl, ?_⟩) (by assumption) ?_
          rotate_left
          · intro w hSw; (try dsimp only at hSw); go_simp; (try with_reducible rfl)
          try dsimp only [List.getElem_toArray, List.getElem_cons_succ, List.getElem_cons_zero]
          simp only [Act.put, List.setIfInBounds_toArray, List.set_cons_zero, List.set_cons_succ]
          refine wpAnyH_take (i := 17) (oi := _) (v := ?_) rfl (by kernel_rfl) (by kernel_rfl) (by kernel_rfl) (fun _ _ _ h => h) (Or.inl ⟨by rfl, ?_⟩) (by assumption) ?_
          rotate_left
          · intro w hSw; (try dsimp only at hSw); go_simp; (try with_reducible rfl)
          try dsimp only [List.getElem_toArray, List.getElem_cons_succ, List.getElem_cons_zero]
          simp only [Act.put, List.setIfInBounds_toArray, List.set_cons_zero, List.set_cons_succ]
          refine wpAnyH_ready (rs := [1, 15]) (by kernel_rfl) (by simp) ?_
          refine AllReadyH.cons (o := _) rfl (fun K hK => ?_) ?_
          · (try dsimp only [List.getElem_toArray, List.getElem_cons_succ, List.getElem_cons_zero]); go_simp
            refine hK.out _ _ ?_ (fun hHeld => ?_)
            · (first | (go_simp; done) | (go_keep; done) | exact ⟨x0, x1, x2⟩)
            clear hK K
            try simp only [Act.put, List.setIfInBounds_toArray, List.set_cons_zero, List.set_cons_succ]
            refine wpAnyH_ready (rs := [15]) (by kernel_rfl) (by simp) ?_
            refine AllReadyH.cons (o := _) rfl (fun K hK => ?_) ?_
            · (try dsimp only [List.getElem_toArray, List.getElem_cons_succ, List.getElem_cons_zero]); go_simp
              (first | (go_at_call 86; refine (S_l1At (na : Int) b _ _ A c ps _ (by repeat (first | (with_reducible exact HRr.out) | (with_reducible apply RowAt.drew_) | (with_reducible apply RowAt.adds) | (with_reducible apply RowAt.alloc) | (exact RowAt.movedR (B := B) (p := q) (K := 1) (Moved.base (by omega)) HRr.out HA.out))) ha2 hb2 HPL.out).mono ?_; rintro e w' ⟨rfl, hb⟩; obtain ⟨o5, n5, rfl⟩ := below_adds hb; clear hb) | (go_at_call 60; refine (S_pick B _ _ _ (by repeat (first | (with_reducible exact hR.out) | (with_reducible apply RdAt.adds) | (with_reducible apply RdAt.alloc) | (with_reducible exact RdAt.set hR.out _) | (with_reducible apply RdAt.drew))) (by omega)).mono ?_; rintro e w' ⟨v, p1, k1, rfl, hv, hp1, rfl⟩; have hv' := hv.1 (by omega); clear hv))
              try go_wp2_with fail
              refine hK.out _ _ ?_ (fun hHeld => ?_)
              · (first | (go_simp; done) | (go_keep; done) | exact ⟨x0, x1, x2⟩)
              clear hK K
              try simp only [Act.put, List.setIfInBounds_toArray, List.set_cons_zero, List.set_cons_succ]
              refine wpAnyH_ready (rs := [18]) (by kernel_rfl) (by simp) ?_
              refine AllReadyH.cons (o := _) rfl (fun K hK => ?_) ?_
              · (try dsimp only [List.getElem_toArray, List.getElem_cons_succ, List.getElem_cons_zero]); go_simp
                (first | (go_at_call 86; refine (S_l1At (na : Int) b _ _ A c ps _ (by repeat (first | (with_reducible exact HRr.out) | (with_reducible apply RowAt.drew_) | (with_reducible apply RowAt.adds) | (with_reducible apply RowAt.alloc) | (exact RowAt.movedR (B := B) (p := q) (K := 1) (Moved.base (by omega)) HRr.out HA.out))) ha2 hb2 HPL.out).mono ?_; rintro e w' ⟨rfl, hb⟩; obtain ⟨o5, n5, rfl⟩ := below_adds hb; clear hb) | (go_at_call 60; refine (S_pick B _ _ _ (by repeat (first | (with_reducible exact hR.out) | (with_reducible apply RdAt.adds) | (with_reducible apply RdAt.alloc) | (with_reducible exact RdAt.set hR.out _) | (with_reducible apply RdAt.drew))) (by omega)).mono ?_; rintro e w' ⟨v, p1, k1, rfl, hv, hp1, rfl⟩; have hv' := hv.1 (by omega); clear hv))
                try go_wp2_with fail
                refine hK.out _ _ ?_ (fun hHeld => ?_)
                · (first | (go_simp; done) | (go_keep; done) | exact ⟨x0, x1, x2⟩)
                clear hK K
                try simp only [Act.put, List.setIfInBounds_toArray, List.set_cons_zero, List.set_cons_succ]
                refine wpAnyH_take (i := 19) (oi := _) (v := ?_) rfl (by kernel_rfl) (by kernel_rfl) (by kernel_rfl) (fun _ _ _ h => h) (Or.inl ⟨by rfl, ?_⟩) (by assumption) ?_
                rotate_left
                · intro w hSw; (try dsimp only at hSw); go_simp; (try with_reducible rfl)
                try dsimp only [List.getElem_toArray, List.getElem_cons_succ, List.getElem_cons_zero]
                simp only [Act.put, List.setIfInBounds_toArray, List.set_cons_zero, List.set_cons_succ]
                refine wpAnyH_take (i := 20) (oi := _) (v := ?_) rfl (by kernel_rfl) (by kernel_rfl) (by kernel_rfl) (fun _ _ _ h => h) (Or.inl ⟨by rfl, ?_⟩) (by assumption) ?_
                rotate_left
                · intro w hSw; (try dsimp only at hSw); go_simp; (try with_reducible rfl)
                try dsimp only [List.getElem_toArray, List.getElem_cons_succ, List.getElem_cons_zero]
                simp only [Act.put, List.setIfInBounds_toArray, List.set_cons_zero, List.set_cons_succ]
                refine wpAnyH_take (i := 21) (oi := _) (v := ?_) rfl (by kernel_rfl) (by kernel_rfl) (by kernel_rfl) (fun _ _ _ h => h) (Or.inl ⟨by rfl, ?_⟩) (by assumption) ?_
                rotate_left
                · intro w hSw; (try dsimp only at hSw); go_simp; (try with_reducible rfl)
                try dsimp only [List.getElem_toArray, List.getElem_cons_succ, List.getElem_cons_zero]
                simp only [Act.put, List.setIfInBounds_toArray, List.set_cons_zero, List.set_cons_succ]
                refine wpAnyH_ready (rs := [22]) (by kernel_rfl) (by simp) ?_
                refine AllReadyH.cons (o := _) rfl (fun K hK => ?_) ?_
                · (try dsimp only [List.getElem_toArray, List.getElem_cons_succ, List.getElem_cons_zero]); go_simp
                  refine hK.out _ _ ?_ (fun hHeld => ?_)
                  · (first | (go_simp; done) | (go_keep; done) | exact ⟨x0, x1, x2⟩)
                  clear hK K
                  try simp only [Act.put, List.setIfInBounds_toArray, List.set_cons_zero, List.set_cons_succ]
                  refine wpAnyH_ready (rs := [23]) (by kernel_rfl) (by simp) ?_
                  refine AllReadyH.cons (o := _) rfl (fun K hK => ?_) ?_
                  · (try dsimp only [List.getElem_toArray, List.getElem_cons_succ, List.getElem_cons_zero])
                    (rw [if_pos (by rfl)]; refine wp_append_own _ _ _ 22 rfl (wc.heap.size + 1) 3 i0 (.int .i64 0) 1 8 Try.underlying22 hi hz0 hz1 hz2 rfl (by decide) _ _ _ rfl ((ownsRow_moved (B := B) (q := q) (J := 1) HN.out.2.2.2 (by repeat (first | (with_reducible apply Moved.adds) | (with_reducible apply Moved.alloc) | (with_reducible apply Moved.drew) | (exact Moved.base (by omega)))) (by omega)).alloc _) ⟨_, 0, none⟩ 1 1 [_] rfl rfl (cell_one_g _ _ _ _ (by simp [size_addsW])) (by exact one1 rfl) (by unfold maxLen; omega) (by omega) (by simp [size_addsW]; omega) ?_; intro v' w1 hown1 hgrow1 _; obtain ⟨A1, c1, e1, -⟩ := own_shape hown1; subst e1; have HNX := Lib.hid (Nx.step (q := q) (J := 1) hBc HN.out (by repeat (first | (with_reducible apply Moved.adds) | (with_reducible apply Moved.alloc) | (with_reducible apply Moved.drew) | (exact Moved.base (by omega)))) (by omega) hown1 hgrow1); obtain ⟨⟨y0, y1, y2⟩, z0, z1, z2⟩ := pic_cells ((Nx.keep (q := q) (J := 1) HN.out (by repeat (first | (with_reducible apply Moved.adds) | (with_reducible apply Moved.alloc) | (with_reducible apply Moved.drew) | (exact Moved.base (by omega)))) hgrow1 (Nat.le_refl _) (by omega)).trans HN.out.2.2.1); obtain ⟨⟨x0, x1, x2⟩, -⟩ := pic_cells ((Nx.keep (q := q) (J := 1) (g := w.heap.size) HN.out (by repeat (first | (with_reducible apply Moved.adds) | (with_reducible apply Moved.alloc) | (with_reducible apply Moved.drew) | (exact Moved.base (by omega)))) hgrow1 (by omega) (by omega)).trans HPB.out); clear hown1 hgrow1)
                    refine hK.out _ _ ?_ (fun hHeld => ?_)
                    · (first | (go_simp; done) | (go_keep; done) | exact ⟨x0, x1, x2⟩)
                    clear hK K
                    try simp only [Act.put, List.setIfInBounds_toArray, List.set_cons_zero, List.set_cons_succ]
                    refine wpAnyH_take (i := 24) (oi := _) (v := ?_) rfl (by kernel_rfl) (by kernel_rfl) (by kernel_rfl) (fun _ _ _ h => h) (Or.inl ⟨by rfl, ?_⟩) (by assumption) ?_
                    rotate_left
                    · intro w hSw; (try dsimp only at hSw); go_simp; (try with_reducible rfl)
                    try dsimp only [List.getElem_toArray, List.getElem_cons_succ, List.getElem_cons_zero]
                    simp only [Act.put, List.setIfInBounds_toArray, List.set_cons_zero, List.set_cons_succ]
                    refine wpAnyH_ready (rs := [25]) (by kernel_rfl) (by simp) ?_
                    refine AllReadyH.cons (o := _) rfl (fun K hK => ?_) ?_
                    · (try dsimp only [List.getElem_toArray, List.getElem_cons_succ, List.getElem_cons_zero]); go_simp
                      refine hK.out _ _ ?_ (fun hHeld => ?_)
                      · (first | (go_simp; done) | (go_keep; done) | exact ⟨x0, x1, x2⟩)
                      clear hK K
                      try simp only [Act.put, List.setIfInBounds_toArray, List.set_cons_zero, List.set_cons_succ]
                      refine wpAnyH_done (by kernel_rfl) ?_ _
                      go_wp2_with fail
                      go_roundw
                      case rel => exact ⟨k + 1, c1, A1, _, by omega, by go_num, HNX.out⟩
                      case measure => simp [intOf]; omega
                    exact AllReadyH.nil
                  exact AllReadyH.nil
                exact AllReadyH.nil
              exact AllReadyH.nil
            exact AllReadyH.nil
          refine AllReadyH.cons (o := _) rfl (fun K hK => ?_) ?_
          · (try dsimp only [List.getElem_toArray, List.getElem_cons_succ, List.getElem_cons_zero]); go_simp
            (first | (go_at_call 86; refine (S_l1At (na : Int) b _ _ A c ps _ (by repeat (first | (with_reducible exact HRr.out) | (with_reducible apply RowAt.drew_) | (with_reducible apply RowAt.adds) | (with_reducible apply RowAt.alloc) | (exact RowAt.movedR (B := B) (p := q) (K := 1) (Moved.base (by omega)) HRr.out HA.out))) ha2 hb2 HPL.out).mono ?_; rintro e w' ⟨rfl, hb⟩; obtain ⟨o5, n5, rfl⟩ := below_adds hb; clear hb) | (go_at_call 60; refine (S_pick B _ _ _ (by repeat (first | (with_reducible exact hR.out) | (with_reducible apply RdAt.adds) | (with_reducible apply RdAt.alloc) | (with_reducible exact RdAt.set hR.out _) | (with_reducible apply RdAt.drew))) (by omega)).mono ?_; rintro e w' ⟨v, p1, k1, rfl, hv, hp1, rfl⟩; have hv' := hv.1 (by omega); clear hv))
            try go_wp2_with fail
            refine hK.out _ _ ?_ (fun hHeld => ?_)
            · (first | (go_simp; done) | (go_keep; done) | exact ⟨x0, x1, x2⟩)
            clear hK K
            try simp only [Act.put, List.setIfInBounds_toArray, List.set_cons_zero, List.set_cons_succ]
            refine wpAnyH_ready (rs := [1, 18]) (by kernel_rfl) (by simp) ?_
            refine AllReadyH.cons (o := _) rfl (fun K hK => ?_) ?_
            · (try dsimp only [List.getElem_toArray, List.getElem_cons_succ, List.getElem_cons_zero]); go_simp
              refine hK.out _ _ ?_ (fun hHeld => ?_)
              · (first | (go_simp; done) | (go_keep; done) | exact ⟨x0, x1, x2⟩)
              clear hK K
              try simp only [Act.put, List.setIfInBounds_toArray, List.set_cons_zero, List.set_cons_succ]
              refine wpAnyH_ready (rs := [18]) (by kernel_rfl) (by simp) ?_
              refine AllReadyH.cons (o := _) rfl (fun K hK => ?_) ?_
              · (try dsimp only [List.getElem_toArray, List.getElem_cons_succ, List.getElem_cons_zero]); go_simp
                (first | (go_at_call 86; refine (S_l1At (na : Int) b _ _ A c ps _ (by repeat (first | (with_reducible exact HRr.out) | (with_reducible apply RowAt.drew_) | (with_reducible apply RowAt.adds) | (with_reducible apply RowAt.alloc) | (exact RowAt.movedR (B := B) (p := q) (K := 1) (Moved.base (by omega)) HRr.out HA.out))) ha2 hb2 HPL.out).mono ?_; rintro e w' ⟨rfl, hb⟩; obtain ⟨o5, n5, rfl⟩ := below_adds hb; clear hb) | (go_at_call 60; refine (S_pick B _ _ _ (by repeat (first | (with_reducible exact hR.out) | (with_reducible apply RdAt.adds) | (with_reducible apply RdAt.alloc) | (with_reducible exact RdAt.set hR.out _) | (with_reducible apply RdAt.drew))) (by omega)).mono ?_; rintro e w' ⟨v, p1, k1, rfl, hv, hp1, rfl⟩; have hv' := hv.1 (by omega); clear hv))
                try go_wp2_with fail
                refine hK.out _ _ ?_ (fun hHeld => ?_)
                · (first | (go_simp; done) | (go_keep; done) | exact ⟨x0, x1, x2⟩)
                clear hK K
                try simp only [Act.put, List.setIfInBounds_toArray, List.set_cons_zero, List.set_cons_succ]
                refine wpAnyH_take (i := 19) (oi := _) (v := ?_) rfl (by kernel_rfl) (by kernel_rfl) (by kernel_rfl) (fun _ _ _ h => h) (Or.inl ⟨by rfl, ?_⟩) (by assumption) ?_
                rotate_left
                · intro w hSw; (try dsimp only at hSw); go_simp; (try with_reducible rfl)
                try dsimp only [List.getElem_toArray, List.getElem_cons_succ, List.getElem_cons_zero]
                simp only [Act.put, List.setIfInBounds_toArray, List.set_cons_zero, List.set_cons_succ]
                refine wpAnyH_take (i := 20) (oi := _) (v := ?_) rfl (by kernel_rfl) (by kernel_rfl) (by kernel_rfl) (fun _ _ _ h => h) (Or.inl ⟨by rfl, ?_⟩) (by assumption) ?_
                rotate_left
                · intro w hSw; (try dsimp only at hSw); go_simp; (try with_reducible rfl)
                try dsimp only [List.getElem_toArray, List.getElem_cons_succ, List.getElem_cons_zero]
                simp only [Act.put, List.setIfInBounds_toArray, List.set_cons_zero, List.set_cons_succ]
                refine wpAnyH_take (i := 21) (oi := _) (v := ?_) rfl (by kernel_rfl) (by kernel_rfl) (by kernel_rfl) (fun _ _ _ h => h) (Or.inl ⟨by rfl, ?_⟩) (by assumption) ?_
                rotate_left
                · intro w hSw; (try dsimp only at hSw); go_simp; (try with_reducible rfl)
                try dsimp only [List.getElem_toArray, List.getElem_cons_succ, List.getElem_cons_zero]
                simp only [Act.put, List.setIfInBounds_toArray, List.set_cons_zero, List.set_cons_succ]
                refine wpAnyH_ready (rs := [22]) (by kernel_rfl) (by simp) ?_
                refine AllReadyH.cons (o := _) rfl (fun K hK => ?_) ?_
                · (try dsimp only [List.getElem_toArray, List.getElem_cons_succ, List.getElem_cons_zero]); go_simp
                  refine hK.out _ _ ?_ (fun hHeld => ?_)
                  · (first | (go_simp; done) | (go_keep; done) | exact ⟨x0, x1, x2⟩)
                  clear hK K
                  try simp only [Act.put, List.setIfInBounds_toArray, List.set_cons_zero, List.set_cons_succ]
                  refine wpAnyH_ready (rs := [23]) (by kernel_rfl) (by simp) ?_
                  refine AllReadyH.cons (o := _) rfl (fun K hK => ?_) ?_
                  · (try dsimp only [List.getElem_toArray, List.getElem_cons_succ, List.getElem_cons_zero])
                    (rw [if_pos (by rfl)]; refine wp_append_own _ _ _ 22 rfl (wc.heap.size + 1) 3 i0 (.int .i64 0) 1 8 Try.underlying22 hi hz0 hz1 hz2 rfl (by decide) _ _ _ rfl ((ownsRow_moved (B := B) (q := q) (J := 1) HN.out.2.2.2 (by repeat (first | (with_reducible apply Moved.adds) | (with_reducible apply Moved.alloc) | (with_reducible apply Moved.drew) | (exact Moved.base (by omega)))) (by omega)).alloc _) ⟨_, 0, none⟩ 1 1 [_] rfl rfl (cell_one_g _ _ _ _ (by simp [size_addsW])) (by exact one1 rfl) (by unfold maxLen; omega) (by omega) (by simp [size_addsW]; omega) ?_; intro v' w1 hown1 hgrow1 _; obtain ⟨A1, c1, e1, -⟩ := own_shape hown1; subst e1; have HNX := Lib.hid (Nx.step (q := q) (J := 1) hBc HN.out (by repeat (first | (with_reducible apply Moved.adds) | (with_reducible apply Moved.alloc) | (with_reducible apply Moved.drew) | (exact Moved.base (by omega)))) (by omega) hown1 hgrow1); obtain ⟨⟨y0, y1, y2⟩, z0, z1, z2⟩ := pic_cells ((Nx.keep (q := q) (J := 1) HN.out (by repeat (first | (with_reducible apply Moved.adds) | (with_reducible apply Moved.alloc) | (with_reducible apply Moved.drew) | (exact Moved.base (by omega)))) hgrow1 (Nat.le_refl _) (by omega)).trans HN.out.2.2.1); obtain ⟨⟨x0, x1, x2⟩, -⟩ := pic_cells ((Nx.keep (q := q) (J := 1) (g := w.heap.size) HN.out (by repeat (first | (with_reducible apply Moved.adds) | (with_reducible apply Moved.alloc) | (with_reducible apply Moved.drew) | (exact Moved.base (by omega)))) hgrow1 (by omega) (by omega)).trans HPB.out); clear hown1 hgrow1)
                    refine hK.out _ _ ?_ (fun hHeld => ?_)
                    · (first | (go_simp; done) | (go_keep; done) | exact ⟨x0, x1, x2⟩)
                    clear hK K
                    try simp only [Act.put, List.setIfInBounds_toArray, List.set_cons_zero, List.set_cons_succ]
                    refine wpAnyH_take (i := 24) (oi := _) (v := ?_) rfl (by kernel_rfl) (by kernel_rfl) (by kernel_rfl) (fun _ _ _ h => h) (Or.inl ⟨by rfl, ?_⟩) (by assumption) ?_
                    rotate_left
                    · intro w hSw; (try dsimp only at hSw); go_simp; (try with_reducible rfl)
                    try dsimp only [List.getElem_toArray, List.getElem_cons_succ, List.getElem_cons_zero]
                    simp only [Act.put, List.setIfInBounds_toArray, List.set_cons_zero, List.set_cons_succ]
                    refine wpAnyH_ready (rs := [25]) (by kernel_rfl) (by simp) ?_
                    refine AllReadyH.cons (o := _) rfl (fun K hK => ?_) ?_
                    · (try dsimp only [List.getElem_toArray, List.getElem_cons_succ, List.getElem_cons_zero]); go_simp
                      refine hK.out _ _ ?_ (fun hHeld => ?_)
                      · (first | (go_simp; done) | (go_keep; done) | exact ⟨x0, x1, x2⟩)
                      clear hK K
                      try simp only [Act.put, List.setIfInBounds_toArray, List.set_cons_zero, List.set_cons_succ]
                      refine wpAnyH_done (by kernel_rfl) ?_ _
                      go_wp2_with fail
                      go_roundw
                      case rel => exact ⟨k + 1, c1, A1, _, by omega, by go_num, HNX.out⟩
                      case measure => simp [intOf]; omega
                    exact AllReadyH.nil
                  exact AllReadyH.nil
                exact AllReadyH.nil
              exact AllReadyH.nil
            refine AllReadyH.cons (o := _) rfl (fun K hK => ?_) ?_
            · (try dsimp only [List.getElem_toArray, List.getElem_cons_succ, List.getElem_cons_zero]); go_simp
              (first | (go_at_call 86; refine (S_l1At (na : Int) b _ _ A c ps _ (by repeat (first | (with_reducible exact HRr.out) | (with_reducible apply RowAt.drew_) | (with_reducible apply RowAt.adds) | (with_reducible apply RowAt.alloc) | (exact RowAt.movedR (B := B) (p := q) (K := 1) (Moved.base (by omega)) HRr.out HA.out))) ha2 hb2 HPL.out).mono ?_; rintro e w' ⟨rfl, hb⟩; obtain ⟨o5, n5, rfl⟩ := below_adds hb; clear hb) | (go_at_call 60; refine (S_pick B _ _ _ (by repeat (first | (with_reducible exact hR.out) | (with_reducible apply RdAt.adds) | (with_reducible apply RdAt.alloc) | (with_reducible exact RdAt.set hR.out _) | (with_reducible apply RdAt.drew))) (by omega)).mono ?_; rintro e w' ⟨v, p1, k1, rfl, hv, hp1, rfl⟩; have hv' := hv.1 (by omega); clear hv))
              try go_wp2_with fail
              refine hK.out _ _ ?_ (fun hHeld => ?_)
              · (first | (go_simp; done) | (go_keep; done) | exact ⟨x0, x1, x2⟩)
              clear hK K
              try simp only [Act.put, List.setIfInBounds_toArray, List.set_cons_zero, List.set_cons_succ]
              refine wpAnyH_take (i := 19) (oi := _) (v := ?_) rfl (by kernel_rfl) (by kernel_rfl) (by kernel_rfl) (fun _ _ _ h => h) (Or.inl ⟨by rfl, ?_⟩) (by assumption) ?_
              rotate_left
              · intro w hSw; (try dsimp only at hSw); go_simp; (try with_reducible rfl)
              try dsimp only [List.getElem_toArray, List.getElem_cons_succ, List.getElem_cons_zero]
              simp only [Act.put, List.setIfInBounds_toArray, List.set_cons_zero, List.set_cons_succ]
              refine wpAnyH_take (i := 20) (oi := _) (v := ?_) rfl (by kernel_rfl) (by kernel_rfl) (by kernel_rfl) (fun _ _ _ h => h) (Or.inl ⟨by rfl, ?_⟩) (by assumption) ?_
              rotate_left
              · intro w hSw; (try dsimp only at hSw); go_simp; (try with_reducible rfl)
              try dsimp only [List.getElem_toArray, List.getElem_cons_succ, List.getElem_cons_zero]
              simp only [Act.put, List.setIfInBounds_toArray, List.set_cons_zero, List.set_cons_succ]
              refine wpAnyH_take (i := 21) (oi := _) (v := ?_) rfl (by kernel_rfl) (by kernel_rfl) (by kernel_rfl) (fun _ _ _ h => h) (Or.inl ⟨by rfl, ?_⟩) (by assumption) ?_
              rotate_left
              · intro w hSw; (try dsimp only at hSw); go_simp; (try with_reducible rfl)
              try dsimp only [List.getElem_toArray, List.getElem_cons_succ, List.getElem_cons_zero]
              simp only [Act.put, List.setIfInBounds_toArray, List.set_cons_zero, List.set_cons_succ]
              refine wpAnyH_ready (rs := [1, 22]) (by kernel_rfl) (by simp) ?_
              refine AllReadyH.cons (o := _) rfl (fun K hK => ?_) ?_
              · (try dsimp only [List.getElem_toArray, List.getElem_cons_succ, List.getElem_cons_zero]); go_simp
                refine hK.out _ _ ?_ (fun hHeld => ?_)
                · (first | (go_simp; done) | (go_keep; done) | exact ⟨x0, x1, x2⟩)
                clear hK K
                try simp only [Act.put, List.setIfInBounds_toArray, List.set_cons_zero, List.set_cons_succ]
                refine wpAnyH_ready (rs := [22]) (by kernel_rfl) (by simp) ?_
                refine AllReadyH.cons (o := _) rfl (fun K hK => ?_) ?_
                · (try dsimp only [List.getElem_toArray, List.getElem_cons_succ, List.getElem_cons_zero]); go_simp
                  refine hK.out _ _ ?_ (fun hHeld => ?_)
                  · (first | (go_simp; done) | (go_keep; done) | exact ⟨x0, x1, x2⟩)
                  clear hK K
                  try simp only [Act.put, List.setIfInBounds_toArray, List.set_cons_zero, List.set_cons_succ]
                  refine wpAnyH_ready (rs := [23]) (by kernel_rfl) (by simp) ?_
                  refine AllReadyH.cons (o := _) rfl (fun K hK => ?_) ?_
                  · (try dsimp only [List.getElem_toArray, List.getElem_cons_succ, List.getElem_cons_zero])
                    (rw [if_pos (by rfl)]; refine wp_append_own _ _ _ 22 rfl (wc.heap.size + 1) 3 i0 (.int .i64 0) 1 8 Try.underlying22 hi hz0 hz1 hz2 rfl (by decide) _ _ _ rfl ((ownsRow_moved (B := B) (q := q) (J := 1) HN.out.2.2.2 (by repeat (first | (with_reducible apply Moved.adds) | (with_reducible apply Moved.alloc) | (with_reducible apply Moved.drew) | (exact Moved.base (by omega)))) (by omega)).alloc _) ⟨_, 0, none⟩ 1 1 [_] rfl rfl (cell_one_g _ _ _ _ (by simp [size_addsW])) (by exact one1 rfl) (by unfold maxLen; omega) (by omega) (by simp [size_addsW]; omega) ?_; intro v' w1 hown1 hgrow1 _; obtain ⟨A1, c1, e1, -⟩ := own_shape hown1; subst e1; have HNX := Lib.hid (Nx.step (q := q) (J := 1) hBc HN.out (by repeat (first | (with_reducible apply Moved.adds) | (with_reducible apply Moved.alloc) | (with_reducible apply Moved.drew) | (exact Moved.base (by omega)))) (by omega) hown1 hgrow1); obtain ⟨⟨y0, y1, y2⟩, z0, z1, z2⟩ := pic_cells ((Nx.keep (q := q) (J := 1) HN.out (by repeat (first | (with_reducible apply Moved.adds) | (with_reducible apply Moved.alloc) | (with_reducible apply Moved.drew) | (exact Moved.base (by omega)))) hgrow1 (Nat.le_refl _) (by omega)).trans HN.out.2.2.1); obtain ⟨⟨x0, x1, x2⟩, -⟩ := pic_cells ((Nx.keep (q := q) (J := 1) (g := w.heap.size) HN.out (by repeat (first | (with_reducible apply Moved.adds) | (with_reducible apply Moved.alloc) | (with_reducible apply Moved.drew) | (exact Moved.base (by omega)))) hgrow1 (by omega) (by omega)).trans HPB.out); clear hown1 hgrow1)
                    refine hK.out _ _ ?_ (fun hHeld => ?_)
                    · (first | (go_simp; done) | (go_keep; done) | exact ⟨x0, x1, x2⟩)
                    clear hK K
                    try simp only [Act.put, List.setIfInBounds_toArray, List.set_cons_zero, List.set_cons_succ]
                    refine wpAnyH_take (i := 24) (oi := _) (v := ?_) rfl (by kernel_rfl) (by kernel_rfl) (by kernel_rfl) (fun _ _ _ h => h) (Or.inl ⟨by rfl, ?_⟩) (by assumption) ?_
                    rotate_left
                    · intro w hSw; (try dsimp only at hSw); go_simp; (try with_reducible rfl)
                    try dsimp only [List.getElem_toArray, List.getElem_cons_succ, List.getElem_cons_zero]
                    simp only [Act.put, List.setIfInBounds_toArray, List.set_cons_zero, List.set_cons_succ]
                    refine wpAnyH_ready (rs := [25]) (by kernel_rfl) (by simp) ?_
                    refine AllReadyH.cons (o := _) rfl (fun K hK => ?_) ?_
                    · (try dsimp only [List.getElem_toArray, List.getElem_cons_succ, List.getElem_cons_zero]); go_simp
                      refine hK.out _ _ ?_ (fun hHeld => ?_)
                      · (first | (go_simp; done) | (go_keep; done) | exact ⟨x0, x1, x2⟩)
                      clear hK K
                      try simp only [Act.put, List.setIfInBounds_toArray, List.set_cons_zero, List.set_cons_succ]
                      refine wpAnyH_done (by kernel_rfl) ?_ _
                      go_wp2_with fail
                      go_roundw
                      case rel => exact ⟨k + 1, c1, A1, _, by omega, by go_num, HNX.out⟩
                      case measure => simp [intOf]; omega
                    exact AllReadyH.nil
                  exact AllReadyH.nil
                exact AllReadyH.nil
              refine AllReadyH.cons (o := _) rfl (fun K hK => ?_) ?_
              · (try dsimp only [List.getElem_toArray, List.getElem_cons_succ, List.getElem_cons_zero]); go_simp
                refine hK.out _ _ ?_ (fun hHeld => ?_)
                · (first | (go_simp; done) | (go_keep; done) | exact ⟨x0, x1, x2⟩)
                clear hK K
                try simp only [Act.put, List.setIfInBounds_toArray, List.set_cons_zero, List.set_cons_succ]
                refine wpAnyH_ready (rs := [1]) (by kernel_rfl) (by simp) ?_
                refine AllReadyH.cons (o := _) rfl (fun K hK => ?_) ?_
                · (try dsimp only [List.getElem_toArray, List.getElem_cons_succ, List.getElem_cons_zero]); go_simp
                  refine hK.out _ _ ?_ (fun hHeld => ?_)
                  · (first | (go_simp; done) | (go_keep; done) | exact ⟨x0, x1, x2⟩)
                  clear hK K
                  try simp only [Act.put, List.setIfInBounds_toArray, List.set_cons_zero, List.set_cons_succ]
                  refine wpAnyH_ready (rs := [23]) (by kernel_rfl) (by simp) ?_
                  refine AllReadyH.cons (o := _) rfl (fun K hK => ?_) ?_
                  · (try dsimp only [List.getElem_toArray, List.getElem_cons_succ, List.getElem_cons_zero])
                    (rw [if_pos (by rfl)]; refine wp_append_own _ _ _ 22 rfl (wc.heap.size + 1) 3 i0 (.int .i64 0) 1 8 Try.underlying22 hi hz0 hz1 hz2 rfl (by decide) _ _ _ rfl ((ownsRow_moved (B := B) (q := q) (J := 1) HN.out.2.2.2 (by repeat (first | (with_reducible apply Moved.adds) | (with_reducible apply Moved.alloc) | (with_reducible apply Moved.drew) | (exact Moved.base (by omega)))) (by omega)).alloc _) ⟨_, 0, none⟩ 1 1 [_] rfl rfl (cell_one_g _ _ _ _ (by simp [size_addsW])) (by exact one1 rfl) (by unfold maxLen; omega) (by omega) (by simp [size_addsW]; omega) ?_; intro v' w1 hown1 hgrow1 _; obtain ⟨A1, c1, e1, -⟩ := own_shape hown1; subst e1; have HNX := Lib.hid (Nx.step (q := q) (J := 1) hBc HN.out (by repeat (first | (with_reducible apply Moved.adds) | (with_reducible apply Moved.alloc) | (with_reducible apply Moved.drew) | (exact Moved.base (by omega)))) (by omega) hown1 hgrow1); obtain ⟨⟨y0, y1, y2⟩, z0, z1, z2⟩ := pic_cells ((Nx.keep (q := q) (J := 1) HN.out (by repeat (first | (with_reducible apply Moved.adds) | (with_reducible apply Moved.alloc) | (with_reducible apply Moved.drew) | (exact Moved.base (by omega)))) hgrow1 (Nat.le_refl _) (by omega)).trans HN.out.2.2.1); obtain ⟨⟨x0, x1, x2⟩, -⟩ := pic_cells ((Nx.keep (q := q) (J := 1) (g := w.heap.size) HN.out (by repeat (first | (with_reducible apply Moved.adds) | (with_reducible apply Moved.alloc) | (with_reducible apply Moved.drew) | (exact Moved.base (by omega)))) hgrow1 (by omega) (by omega)).trans HPB.out); clear hown1 hgrow1)
                    refine hK.out _ _ ?_ (fun hHeld => ?_)
                    · (first | (go_simp; done) | (go_keep; done) | exact ⟨x0, x1, x2⟩)
                    clear hK K
                    try simp only [Act.put, List.setIfInBounds_toArray, List.set_cons_zero, List.set_cons_succ]
                    refine wpAnyH_take (i := 24) (oi := _) (v := ?_) rfl (by kernel_rfl) (by kernel_rfl) (by kernel_rfl) (fun _ _ _ h => h) (Or.inl ⟨by rfl, ?_⟩) (by assumption) ?_
                    rotate_left
                    · intro w hSw; (try dsimp only at hSw); go_simp; (try with_reducible rfl)
                    try dsimp only [List.getElem_toArray, List.getElem_cons_succ, List.getElem_cons_zero]
                    simp only [Act.put, List.setIfInBounds_toArray, List.set_cons_zero, List.set_cons_succ]
                    refine wpAnyH_ready (rs := [25]) (by kernel_rfl) (by simp) ?_
                    refine AllReadyH.cons (o := _) rfl (fun K hK => ?_) ?_
                    · (try dsimp only [List.getElem_toArray, List.getElem_cons_succ, List.getElem_cons_zero]); go_simp
                      refine hK.out _ _ ?_ (fun hHeld => ?_)
                      · (first | (go_simp; done) | (go_keep; done) | exact ⟨x0, x1, x2⟩)
                      clear hK K
                      try simp only [Act.put, List.setIfInBounds_toArray, List.set_cons_zero, List.set_cons_succ]
                      refine wpAnyH_done (by kernel_rfl) ?_ _
                      go_wp2_with fail
                      go_roundw
                      case rel => exact ⟨k + 1, c1, A1, _, by omega, by go_num, HNX.out⟩
                      case measure => simp [intOf]; omega
                    exact AllReadyH.nil
                  exact AllReadyH.nil
                exact AllReadyH.nil
              exact AllReadyH.nil
            exact AllReadyH.nil
          exact AllReadyH.nil
        · obtain rfl : k = ps.length := by omega
          obtain ⟨hzl, hM, hbx, hown⟩ := HN.out
          obtain ⟨A5, c5, e5, -, hcc, hcm, hrow, hA5⟩ := RowAt.of_ownS hown
          injection e5 with e5 e6 e7
          subst e5 e7
          have hlt5 := hown.lt
          obtain ⟨⟨r0, r1, r2⟩, f0, f1, f2⟩ := pic_cells (((moved_grown hM).block (w.heap.size + 1) (by omega) (fun e => by injection e; omega)).trans HBX2.out)
          have hMw : Moved w B p 1100 wr := HM.out.trans hB hM (by omega)
          have HMw := Lib.hid hMw
          have HROW := Lib.hid hrow
          have hA6 : ∃ g, Ax = some ⟨g, 0, none⟩ ∧ wc.heap.size + 1 ≤ g := by
            rcases hA5 with ⟨-, h0⟩ | ⟨g, rfl⟩
            · have := HPL.out
              have h64 : (8 : Int) * 8 ≤ (na : Int) * b := Int.mul_le_mul ha2.1 hb2.1 (by omega) (by omega)
              omega
            · exact ⟨g, rfl, (hlt5 g rfl).1⟩
          obtain ⟨g, rfl, hg⟩ := hA6
          have HZL := Lib.hid hzl
          clear hzl hM hbx hown hrow hA5 hlt5 hMw
          go_wp2_with fail
          refine bodyPost_ret (v := .agg #[.int .i64 (na : Int), .int .i64 b, .slice (some ⟨g, 0, none⟩) ps.length cx]) (by simp [results, Try.results92, go_sem, r0, r1, r2, f0, f1, f2]) rfl ?_
          have hne : w.heap.size + 1 ≠ g := by omega
          have hl := HZL.out
          exact ⟨_, _, _, _, zs, by rw [hl], by omega, by omega, by omega, by omega, by omega, by omega, hcm, ((HROW.out.far hne).far hne).far hne, fun d hd => by cases hd; show w.heap.size ≤ g; omega, ((HMw.out.own hB (show w.heap.size ≤ w.heap.size + 1 by omega) _).own hB (show w.heap.size ≤ w.heap.size + 1 by omega) _).own hB (show w.heap.size ≤ w.heap.size + 1 by omega) _⟩

end Go.Proofs.Ytobphddjoebfjaa
