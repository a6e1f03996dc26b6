/- The edges of a block: by numbers; the program's walk. -/
import Derived.Test.YtobphddjoebfjaaTransM
import Derived.Test.YtobphddjoebfjaaSamp
namespace Go.Proofs.Ytobphddjoebfjaa
open Go.RowKit
set_option linter.unusedVariables false
set_option linter.unusedSimpArgs false

attribute [local go_sem] size_addsW cell?_addsW frozen?_addsW setCell_addsW drew_addsW adds_addsW setCell_twice alloc_adds0 size_adds0 adds_adds0 sel2 sel3 sel4 sel5 sel6 sel7 sel8 sel9 lt_more lt_more2 lt_more3 lt_more4 adds_drew adds_drewN drewN_addsW ltA_1_1 ltA_1_2 ltA_1_3 ltA_1_4 ltA_1_5 ltA_1_6 ltA_2_1 ltA_2_2 ltA_2_3 ltA_2_4 ltA_2_5 ltA_2_6 ltA_3_1 ltA_3_2 ltA_3_3 ltA_3_4 ltA_3_5 ltA_3_6 ltA_4_1 ltA_4_2 ltA_4_3 ltA_4_4 ltA_4_5 ltA_4_6 ltA_5_1 ltA_5_2 ltA_5_3 ltA_5_4 ltA_5_5 ltA_5_6 ltA_6_1 ltA_6_2 ltA_6_3 ltA_6_4 ltA_6_5 ltA_6_6 ltA_7_1 ltA_7_2 ltA_7_3 ltA_7_4 ltA_7_5 ltA_7_6 ltA_8_1 ltA_8_2 ltA_8_3 ltA_8_4 ltA_8_5 ltA_8_6 ltA_9_1 ltA_9_2 ltA_9_3 ltA_9_4 ltA_9_5 ltA_9_6 ltA_10_1 ltA_10_2 ltA_10_3 ltA_10_4 ltA_10_5 ltA_10_6 ltA_11_1 ltA_11_2 ltA_11_3 ltA_11_4 ltA_11_5 ltA_11_6 ltA_12_1 ltA_12_2 ltA_12_3 ltA_12_4 ltA_12_5 ltA_12_6

/-- the eleven cells of the edges -/
def eA (f g : Nat → Int) (c : Int) (u l : Bool) : Array Value :=
  #[.int .i64 (f 0), .int .i64 (f 1), .int .i64 (f 2), .int .i64 (f 3), .int .i64 (g 0), .int .i64 (g 1), .int .i64 (g 2), .int .i64 (g 3), .int .i64 c, .bool u, .bool l]
def upd (f : Nat → Int) (k : Nat) (v : Int) : Nat → Int := fun i => if i = k then v else f i
theorem eA_up {f g : Nat → Int} {c : Int} {u l : Bool} {k : Nat} (h : k < 4) : (eA f g c u l)[k]? = some (.int .i64 (f k)) := by
  match k, h with
  | 0, _ => rfl
  | 1, _ => rfl
  | 2, _ => rfl
  | 3, _ => rfl
theorem eA_left {f g : Nat → Int} {c : Int} {u l : Bool} {k : Nat} (h : k < 4) : (eA f g c u l)[4 + k]? = some (.int .i64 (g k)) := by
  match k, h with
  | 0, _ => rfl
  | 1, _ => rfl
  | 2, _ => rfl
  | 3, _ => rfl
theorem eA_setU {f g : Nat → Int} {c : Int} {u l : Bool} {k : Nat} (h : k < 4) (v : Int) : (eA f g c u l).setIfInBounds k (.int .i64 v) = eA (upd f k v) g c u l := by
  match k, h with
  | 0, _ => simp [eA, upd]
  | 1, _ => simp [eA, upd]
  | 2, _ => simp [eA, upd]
  | 3, _ => simp [eA, upd]
theorem eA_setL {f g : Nat → Int} {c : Int} {u l : Bool} {k : Nat} (h : k < 4) (v : Int) : (eA f g c u l).setIfInBounds (4 + k) (.int .i64 v) = eA f (upd g k v) c u l := by
  match k, h with
  | 0, _ => simp [eA, upd]
  | 1, _ => simp [eA, upd]
  | 2, _ => simp [eA, upd]
  | 3, _ => simp [eA, upd]
theorem upd_ok {f F : Nat → Int} {k : Nat} (h : ∀ i, i < k → f i = F i) {v : Int} (hv : v = F k) : ∀ i, i < k + 1 → upd f k v i = F i := fun i hi => by
  unfold upd
  by_cases e : i = k
  · rw [if_pos e, e, hv]
  · rw [if_neg e]; exact h i (by omega)
theorem upd_low {f F : Nat → Int} {k : Nat} (h : ∀ i, i < k → f i = F i) (v : Int) : ∀ i, i < k → upd f k v i = F i := fun i hi => by
  unfold upd
  rw [if_neg (by omega)]; exact h i hi

/-- what the edges are -/
def eUp (a b : Int) (zs : List Int) (x y t : Int) (i : Nat) : Int := if t < y then pix a b zs (x + i) (y - 1) else 128
def eLe (a b : Int) (zs : List Int) (x y : Int) (i : Nat) : Int := if 0 < x then pix a b zs (x - 1) (y + i) else 128
def eCo (a b : Int) (zs : List Int) (x y t : Int) : Int := if t < y ∧ 0 < x then pix a b zs (x - 1) (y - 1) else 128
def edB (a b : Int) (zs : List Int) (x y t : Int) : Bool := picB a b zs && decide (0 ≤ x ∧ x < a ∧ x % 4 = 0 ∧ 0 ≤ y ∧ y < b ∧ y % 4 = 0 ∧ 0 ≤ t ∧ t ≤ y)
def edA (a b : Int) (zs : List Int) (x y t : Int) : Array Value := eA (eUp a b zs x y t) (eLe a b zs x y) (eCo a b zs x y t) (decide (t < y)) (decide (0 < x))
def e0 : Array Value := eA (fun _ => 0) (fun _ => 0) 0 false false
def edV (a b : Int) (zs : List Int) (x y t : Int) : Array Value := if edB a b zs x y t then edA a b zs x y t else e0
theorem eA_congr {f g F G : Nat → Int} {c : Int} {u l : Bool} (h1 : ∀ i, i < 4 → f i = F i) (h2 : ∀ i, i < 4 → g i = G i) : eA f g c u l = eA F G c u l := by
  unfold eA
  rw [h1 0 (by decide), h1 1 (by decide), h1 2 (by decide), h1 3 (by decide), h2 0 (by decide), h2 1 (by decide), h2 2 (by decide), h2 3 (by decide)]

theorem Blk.put11 {W : World} {k : Nat} {t : TypeId} (h : Blk W k e0 t) (f g : Nat → Int) (c : Int) (u l : Bool) : Blk (((((((((((W.setCell ⟨k, 0, none⟩ (.int .i64 (f 0))).setCell ⟨k, 1, none⟩ (.int .i64 (f 1))).setCell ⟨k, 2, none⟩ (.int .i64 (f 2))).setCell ⟨k, 3, none⟩ (.int .i64 (f 3))).setCell ⟨k, 4, none⟩ (.int .i64 (g 0))).setCell ⟨k, 5, none⟩ (.int .i64 (g 1))).setCell ⟨k, 6, none⟩ (.int .i64 (g 2))).setCell ⟨k, 7, none⟩ (.int .i64 (g 3))).setCell ⟨k, 8, none⟩ (.int .i64 c)).setCell ⟨k, 9, none⟩ (.bool u)).setCell ⟨k, 10, none⟩ (.bool l)) k (eA f g c u l) t := by
  have := (((((((((((h.set 0 (.int .i64 (f 0))).set 1 (.int .i64 (f 1))).set 2 (.int .i64 (f 2))).set 3 (.int .i64 (f 3))).set 4 (.int .i64 (g 0))).set 5 (.int .i64 (g 1))).set 6 (.int .i64 (g 2))).set 7 (.int .i64 (g 3))).set 8 (.int .i64 c)).set 9 (.bool u)).set 10 (.bool l))
  have e : (((((((((((e0.setIfInBounds 0 (.int .i64 (f 0))).setIfInBounds 1 (.int .i64 (f 1))).setIfInBounds 2 (.int .i64 (f 2))).setIfInBounds 3 (.int .i64 (f 3))).setIfInBounds 4 (.int .i64 (g 0))).setIfInBounds 5 (.int .i64 (g 1))).setIfInBounds 6 (.int .i64 (g 2))).setIfInBounds 7 (.int .i64 (g 3))).setIfInBounds 8 (.int .i64 c)).setIfInBounds 9 (.bool u)).setIfInBounds 10 (.bool l)) = eA f g c u l := by simp [e0, eA]
  rw [e] at this
  exact this

structure EdS (gp : Nat) (a b : Int) (sl : Value) (w : World) (f g : Nat → Int) (c : Int) (u l : Bool) (W : World) : Prop where
  p : Blk W gp #[.int .i64 a, .int .i64 b, sl] 27
  r : Blk W (gp + 1) e0 38
  e : Blk W (gp + 1 + 1) (eA f g c u l) 38
  below : Below w.heap.size w W
theorem EdS.adds {gp : Nat} {a b c : Int} {sl : Value} {w W : World} {f g : Nat → Int} {u l : Bool} (h : EdS gp a b sl w f g c u l W) (os : Array Obj) (k : Nat) : EdS gp a b sl w f g c u l (addsW W os k) :=
  ⟨h.p.adds os k, h.r.adds os k, h.e.adds os k, Below.adds_ h.below h.below.size os k⟩
theorem EdS.setU {gp : Nat} {a b c : Int} {sl : Value} {w W : World} {f g : Nat → Int} {u l : Bool} (h : EdS gp a b sl w f g c u l W) (hg : w.heap.size ≤ gp) {k : Nat} (hk : k < 4) (v : Int) : EdS gp a b sl w (upd f k v) g c u l (W.setCell ⟨gp + 1 + 1, k, none⟩ (.int .i64 v)) :=
  ⟨h.p.other (by simp only; omega) _, h.r.other (by simp only; omega) _, by have := h.e.set k (.int .i64 v); rwa [eA_setU hk] at this, h.below.setCell (by simp only; omega) _⟩
theorem EdS.setL {gp : Nat} {a b c : Int} {sl : Value} {w W : World} {f g : Nat → Int} {u l : Bool} (h : EdS gp a b sl w f g c u l W) (hg : w.heap.size ≤ gp) {k : Nat} (hk : k < 4) (v : Int) : EdS gp a b sl w f (upd g k v) c u l (W.setCell ⟨gp + 1 + 1, 4 + k, none⟩ (.int .i64 v)) :=
  ⟨h.p.other (by simp only; omega) _, h.r.other (by simp only; omega) _, by have := h.e.set (4 + k) (.int .i64 v); rwa [eA_setL hk] at this, h.below.setCell (by simp only; omega) _⟩
theorem EdS.setC {gp : Nat} {a b c : Int} {sl : Value} {w W : World} {f g : Nat → Int} {u l : Bool} (h : EdS gp a b sl w f g c u l W) (hg : w.heap.size ≤ gp) (v : Int) : EdS gp a b sl w f g v u l (W.setCell ⟨gp + 1 + 1, 8, none⟩ (.int .i64 v)) :=
  ⟨h.p.other (by simp only; omega) _, h.r.other (by simp only; omega) _, h.e.set 8 (.int .i64 v), h.below.setCell (by simp only; omega) _⟩

set_option maxRecDepth 100000 in
set_option maxHeartbeats 4000000 in
theorem I_edges (a b x y t : Int) (A : Option Addr) (c : Nat) (zs : List Int) (w : World) (hr : RowAt .i64 w A zs) (ha : 8 ≤ a ∧ a ≤ 32) (hbb : 8 ≤ b ∧ b ≤ 32) (hz : (zs.length : Int) = a * b) (hx : 0 ≤ x ∧ x ≤ 40) (hy : 0 ≤ y ∧ y ≤ 40) :
    Calls Try.prog 62 #[.agg #[.int .i64 a, .int .i64 b, .slice A zs.length c], .int .i64 x, .int .i64 y, .int .i64 t] w fun e w' => e = .returned (.agg (edA a b zs x y t)) ∧ Below w.heap.size w w' := by
  have HR := Lib.hid hr
  have HZ := Lib.hid hz
  clear hr hz
  have hwg : w.heap.size ≤ w.heap.size := Nat.le_refl _
  have T0 : EdS w.heap.size a b (.slice A zs.length c) w (fun _ => 0) (fun _ => 0) 128 (decide (t < y)) (decide (0 < x)) (((w.alloc (.cells #[.int .i64 a, .int .i64 b, .slice A zs.length c] 27)).alloc (.cells e0 38)).alloc (.cells (eA (fun _ => 0) (fun _ => 0) 128 (decide (t < y)) (decide (0 < x))) 38)) :=
    ⟨((Blk.new w _ _ _ rfl).alloc _).alloc _, (Blk.new _ _ _ _ (by simp)).alloc _, Blk.new _ _ _ _ (by simp), (by repeat' (first | (with_reducible exact Below.refl _ _) | (with_reducible refine Below.adds_ ?_ ?_ _ _) | (with_reducible refine Below.alloc ?_ ?_ _) | (with_reducible refine Below.drew ?_) | (with_reducible refine Below.setCell ?_ ?_ _) | (with_reducible assumption) | go_size | (simp only [size_addsW, World.size_alloc, World.size_drew, World.size_setCell]; omega)))⟩
  have HT0 := Lib.hid T0
  clear T0
  go_enter Try.func62, Try.ntmps62
  go_wp2_with fail
  revert HT0
  obtain ⟨u, hu⟩ : ∃ u, u = decide (t < y) := ⟨_, rfl⟩
  obtain ⟨l, hl⟩ : ∃ l, l = decide (0 < x) := ⟨_, rfl⟩
  have HU := Lib.hid hu
  have HL := Lib.hid hl
  rw [← hu, ← hl]
  clear hu hl
  intro HT0
  go_loopw [17] (fun v wr => ∃ (k : Nat) (f g : Nat → Int), v = .int .i64 (k : Int) ∧ k ≤ 4 ∧ (∀ i, i < k → f i = eUp a b zs x y t i) ∧ (∀ i, i < k → g i = eLe a b zs x y i) ∧ EdS w.heap.size a b (.slice A zs.length c) w f g 128 u l wr) (fun v _ => 4 - (intOf v).toNat)
  case atStart => exact ⟨0, _, _, rfl, by omega, fun i hi => by omega, fun i hi => by omega, HT0.out⟩
  case round =>
    clear HT0
    obtain ⟨k, f, g, rfl, hk, hf, hg, hst⟩ := hrel
    have HF := Lib.hid hf
    have HG := Lib.hid hg
    have HST := Lib.hid hst
    clear hf hg
    have e9 : wr.cell? ⟨w.heap.size + 1 + 1, 9, none⟩ = some (.bool u) := hst.e.get rfl
    have e10 : wr.cell? ⟨w.heap.size + 1 + 1, 10, none⟩ = some (.bool l) := hst.e.get rfl
    have le := hst.e.lt
    have lp := hst.p.lt
    by_cases hlt : k < 4
    · have hd1 : (k : Int) < 4 := by omega
      have p0 := hst.p.get (i := 0) rfl
      have p1 := hst.p.get (i := 1) rfl
      have p2 := hst.p.get (i := 2) rfl
      have eu := hst.e.get (eA_up hlt)
      have el := hst.e.get (eA_left hlt)
      have fu := hst.e.hot k
      have fl := hst.e.hot (4 + k)
      have q1 : ¬ k = 9 := by omega
      have q2 : ¬ 9 = k := by omega
      have q3 : ¬ 4 + k = 9 := by omega
      have q4 : ¬ 9 = 4 + k := by omega
      have q5 : ¬ k = 10 := by omega
      have q6 : ¬ 10 = k := by omega
      have q7 : ¬ 4 + k = 10 := by omega
      have q8 : ¬ 10 = 4 + k := by omega
      have q9 : ¬ k = 4 + k := by omega
      have q0 : ¬ 4 + k = k := by omega
      have CAt := Lib.hid (show ∀ X Y W, Below w.heap.size w W → Calls Try.prog 64 #[.agg #[.int .i64 a, .int .i64 b, .slice A zs.length c], .int .i64 X, .int .i64 Y] W fun e w' => e = .returned (.int .i64 (pix a b zs X Y)) ∧ Below W.heap.size W w' from fun X Y W hb => I_at a b X Y A c zs W (HR.out.keep hb) ha hbb HZ.out)
      clear hst
      cases u
      · cases l
        · go_wp2_with fail
          go_roundw
          case rel => exact ⟨k + 1, _, _, by go_num, by omega, upd_ok HF.out (by have := HU.out; simp at this; rw [eUp, if_neg (by omega)]), upd_ok HG.out (by have := HL.out; simp at this; rw [eLe, if_neg (by omega)]), (HST.out.setU hwg hlt 128).setL hwg hlt 128⟩
          case measure => simp [intOf]; omega
        · go_wp2_with (go_at_call 64; refine (CAt.out _ _ _ ((HST.out.setU hwg hlt 128).setL hwg hlt 128).below).mono ?_; rintro e w' ⟨rfl, hb⟩; obtain ⟨o1, n1, rfl⟩ := below_adds hb; clear hb)
          go_roundw
          case rel => exact ⟨k + 1, _, _, by go_num, by omega, upd_ok HF.out (by have := HU.out; simp at this; rw [eUp, if_neg (by omega)]), upd_ok HG.out (by have := HL.out; simp at this; rw [eLe, if_pos (by omega)]), ((HST.out.setU hwg hlt 128).setL hwg hlt _).adds o1 n1⟩
          case measure => simp [intOf]; omega
      · cases l
        · go_wp2_with (go_at_call 64; refine (CAt.out _ _ _ ((HST.out.setU hwg hlt 128).setL hwg hlt 128).below).mono ?_; rintro e w' ⟨rfl, hb⟩; obtain ⟨o1, n1, rfl⟩ := below_adds hb; clear hb)
          go_roundw
          case rel => exact ⟨k + 1, _, _, by go_num, by omega, upd_ok (upd_low HF.out 128) (by have := HU.out; simp at this; rw [eUp, if_pos (by omega)]), upd_ok HG.out (by have := HL.out; simp at this; rw [eLe, if_neg (by omega)]), (((HST.out.setU hwg hlt 128).setL hwg hlt 128).setU hwg hlt _).adds o1 n1⟩
          case measure => simp [intOf]; omega
        · go_wp2_with (first | (go_at_call 64; (with_reducible refine (CAt.out _ (y - 1) _ ((HST.out.setU hwg hlt 128).setL hwg hlt 128).below).mono ?_); rintro e w' ⟨rfl, hb⟩; obtain ⟨o1, n1, rfl⟩ := below_adds hb; clear hb) | (go_at_call 64; refine (CAt.out _ _ _ ((((HST.out.setU hwg hlt 128).setL hwg hlt 128).setU hwg hlt _).adds o1 n1).below).mono ?_; rintro e w' ⟨rfl, hb⟩; obtain ⟨o2, n2, rfl⟩ := below_adds hb; clear hb))
          go_roundw
          case rel => exact ⟨k + 1, _, _, by go_num, by omega, upd_ok (upd_low HF.out 128) (by have := HU.out; simp at this; rw [eUp, if_pos (by omega)]), upd_ok (upd_low HG.out 128) (by have := HL.out; simp at this; rw [eLe, if_pos (by omega)]), ((((HST.out.setU hwg hlt 128).setL hwg hlt 128).setU hwg hlt _).setL hwg hlt _).adds (o1 ++ o2) n2⟩
          case measure => simp [intOf]; omega
    · obtain rfl : k = 4 := by omega
      have hbw := hst.below
      have e0 : wr.cell? ⟨w.heap.size + 1 + 1, 0, none⟩ = some (.int .i64 (f 0)) := hst.e.get rfl
      have e1 : wr.cell? ⟨w.heap.size + 1 + 1, 1, none⟩ = some (.int .i64 (f 1)) := hst.e.get rfl
      have e2 : wr.cell? ⟨w.heap.size + 1 + 1, 2, none⟩ = some (.int .i64 (f 2)) := hst.e.get rfl
      have e3 : wr.cell? ⟨w.heap.size + 1 + 1, 3, none⟩ = some (.int .i64 (f 3)) := hst.e.get rfl
      have e4 : wr.cell? ⟨w.heap.size + 1 + 1, 4, none⟩ = some (.int .i64 (g 0)) := hst.e.get rfl
      have e5 : wr.cell? ⟨w.heap.size + 1 + 1, 5, none⟩ = some (.int .i64 (g 1)) := hst.e.get rfl
      have e6 : wr.cell? ⟨w.heap.size + 1 + 1, 6, none⟩ = some (.int .i64 (g 2)) := hst.e.get rfl
      have e7 : wr.cell? ⟨w.heap.size + 1 + 1, 7, none⟩ = some (.int .i64 (g 3)) := hst.e.get rfl
      have e8 : wr.cell? ⟨w.heap.size + 1 + 1, 8, none⟩ = some (.int .i64 128) := hst.e.get rfl
      have r0 : wr.cell? ⟨w.heap.size + 1, 0, none⟩ = some (.int .i64 0) := hst.r.get rfl
      have r1 : wr.cell? ⟨w.heap.size + 1, 1, none⟩ = some (.int .i64 0) := hst.r.get rfl
      have r2 : wr.cell? ⟨w.heap.size + 1, 2, none⟩ = some (.int .i64 0) := hst.r.get rfl
      have r3 : wr.cell? ⟨w.heap.size + 1, 3, none⟩ = some (.int .i64 0) := hst.r.get rfl
      have r4 : wr.cell? ⟨w.heap.size + 1, 4, none⟩ = some (.int .i64 0) := hst.r.get rfl
      have r5 : wr.cell? ⟨w.heap.size + 1, 5, none⟩ = some (.int .i64 0) := hst.r.get rfl
      have r6 : wr.cell? ⟨w.heap.size + 1, 6, none⟩ = some (.int .i64 0) := hst.r.get rfl
      have r7 : wr.cell? ⟨w.heap.size + 1, 7, none⟩ = some (.int .i64 0) := hst.r.get rfl
      have r8 : wr.cell? ⟨w.heap.size + 1, 8, none⟩ = some (.int .i64 0) := hst.r.get rfl
      have r9 : wr.cell? ⟨w.heap.size + 1, 9, none⟩ = some (.bool false) := hst.r.get rfl
      have r10 : wr.cell? ⟨w.heap.size + 1, 10, none⟩ = some (.bool false) := hst.r.get rfl
      have s0 := hst.r.hot 0
      have s1 := hst.r.hot 1
      have s2 := hst.r.hot 2
      have s3 := hst.r.hot 3
      have s4 := hst.r.hot 4
      have s5 := hst.r.hot 5
      have s6 := hst.r.hot 6
      have s7 := hst.r.hot 7
      have s8 := hst.r.hot 8
      have s9 := hst.r.hot 9
      have s10 := hst.r.hot 10
      have s8e := hst.e.hot 8
      have p0 := hst.p.get (i := 0) rfl
      have p1 := hst.p.get (i := 1) rfl
      have p2 := hst.p.get (i := 2) rfl
      have lr := hst.r.lt
      have HE : ∀ c', c' = eCo a b zs x y t → eA f g c' u l = edA a b zs x y t := fun c' h => by
        rw [edA, h, ← HU.out, ← HL.out]; exact eA_congr HF.out HG.out
      have HEE := Lib.hid HE
      clear HE hst
      cases u
      · have hco : eCo a b zs x y t = 128 := by have := HU.out; simp at this; rw [eCo, if_neg (by omega)]
        go_wp2_with fail
        refine bodyPost_ret (v := .agg (edA a b zs x y t)) (by rw [← HEE.out 128 hco.symm]; exact results_cell_row Try.results62 _ _ (w.heap.size + 1) 38 _ (0, 0) _ rfl (HST.out.r.put11 f g 128 _ _) Try.underlying38 rfl (by kernel_rfl)) rfl ?_
        exact ⟨rfl, (by repeat' (first | (with_reducible exact Below.refl _ _) | (with_reducible refine Below.adds_ ?_ ?_ _ _) | (with_reducible refine Below.alloc ?_ ?_ _) | (with_reducible refine Below.drew ?_) | (with_reducible refine Below.setCell ?_ ?_ _) | (with_reducible assumption) | go_size | (simp only [size_addsW, World.size_alloc, World.size_drew, World.size_setCell]; omega)))⟩
      · cases l
        · have hco : eCo a b zs x y t = 128 := by have := HL.out; simp at this; rw [eCo, if_neg (by omega)]
          go_wp2_with fail
          refine bodyPost_ret (v := .agg (edA a b zs x y t)) (by rw [← HEE.out 128 hco.symm]; exact results_cell_row Try.results62 _ _ (w.heap.size + 1) 38 _ (0, 0) _ rfl (HST.out.r.put11 f g 128 _ _) Try.underlying38 rfl (by kernel_rfl)) rfl ?_
          exact ⟨rfl, (by repeat' (first | (with_reducible exact Below.refl _ _) | (with_reducible refine Below.adds_ ?_ ?_ _ _) | (with_reducible refine Below.alloc ?_ ?_ _) | (with_reducible refine Below.drew ?_) | (with_reducible refine Below.setCell ?_ ?_ _) | (with_reducible assumption) | go_size | (simp only [size_addsW, World.size_alloc, World.size_drew, World.size_setCell]; omega)))⟩
        · have hco : eCo a b zs x y t = pix a b zs (x - 1) (y - 1) := by have h1 := HL.out; have h2 := HU.out; simp at h1 h2; rw [eCo, if_pos ⟨h2, h1⟩]
          go_wp2_with (go_at_call 64; refine (I_at a b _ _ A c zs _ (HR.out.keep hbw) ha hbb HZ.out).mono ?_; rintro e w' ⟨rfl, hb⟩; obtain ⟨o1, n1, rfl⟩ := below_adds hb; clear hb)
          refine bodyPost_ret (v := .agg (edA a b zs x y t)) (by rw [← HEE.out _ hco.symm]; exact results_cell_row Try.results62 _ _ (w.heap.size + 1) 38 _ (0, 0) _ rfl (((HST.out.r.other (by simp) _).put11 f g _ _ _).adds o1 n1) Try.underlying38 rfl (by kernel_rfl)) rfl ?_
          exact ⟨rfl, (by repeat' (first | (with_reducible exact Below.refl _ _) | (with_reducible refine Below.adds_ ?_ ?_ _ _) | (with_reducible refine Below.alloc ?_ ?_ _) | (with_reducible refine Below.drew ?_) | (with_reducible refine Below.setCell ?_ ?_ _) | (with_reducible assumption) | go_size | (simp only [size_addsW, World.size_alloc, World.size_drew, World.size_setCell]; omega)))⟩

end Go.Proofs.Ytobphddjoebfjaa
