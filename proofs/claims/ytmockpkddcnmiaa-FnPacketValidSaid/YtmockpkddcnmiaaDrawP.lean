/- What the draws of packets answer. -/
import Derived.Test.YtmockpkddcnmiaaDrawD
import Derived.Laws.AppendOwnNone
namespace Go.Proofs.Ytmockpkddcnmiaa
open Go.RowKit
set_option linter.unusedVariables false
set_option linter.unusedSimpArgs false

attribute [local go_sem] size_addsW cell?_addsW frozen?_addsW setCell_addsW drew_addsW adds_addsW setCell_twice alloc_adds0 size_adds0 adds_adds0 sel2 sel3 sel4 sel5 sel6 sel7 sel8 sel9 lt_more lt_more2 lt_more3 lt_more4 adds_drew adds_drewN drewN_addsW ltA_1_1 ltA_1_2 ltA_1_3 ltA_1_4 ltA_1_5 ltA_1_6 ltA_2_1 ltA_2_2 ltA_2_3 ltA_2_4 ltA_2_5 ltA_2_6 ltA_3_1 ltA_3_2 ltA_3_3 ltA_3_4 ltA_3_5 ltA_3_6 ltA_4_1 ltA_4_2 ltA_4_3 ltA_4_4 ltA_4_5 ltA_4_6 ltA_5_1 ltA_5_2 ltA_5_3 ltA_5_4 ltA_5_5 ltA_5_6 ltA_6_1 ltA_6_2 ltA_6_3 ltA_6_4 ltA_6_5 ltA_6_6 ltA_7_1 ltA_7_2 ltA_7_3 ltA_7_4 ltA_7_5 ltA_7_6 ltA_8_1 ltA_8_2 ltA_8_3 ltA_8_4 ltA_8_5 ltA_8_6 ltA_9_1 ltA_9_2 ltA_9_3 ltA_9_4 ltA_9_5 ltA_9_6 ltA_10_1 ltA_10_2 ltA_10_3 ltA_10_4 ltA_10_5 ltA_10_6 ltA_11_1 ltA_11_2 ltA_11_3 ltA_11_4 ltA_11_5 ltA_11_6 ltA_12_1 ltA_12_2 ltA_12_3 ltA_12_4 ltA_12_5 ltA_12_6

theorem ints_one {k : IntKind} (zs : List Int) : ∀ u ∈ zs.map (Value.int k), u.oneCell' = true := by
  intro u hu
  obtain ⟨z, _, rfl⟩ := List.mem_map.1 hu
  rfl

/-- a packet drawn -/
def PktDrawn (K : Nat) (W : World) (B p : Nat) (e : Ending) (w' : World) : Prop :=
  ∃ (n f r q : Int) (l : Bool) (A : Option Addr) (len c : Nat), e = .returned (.agg #[.int .i64 n, .int .i64 f, .int .i64 r, .int .i64 q, .bool l, .slice A len c]) ∧ len ≤ 1000 ∧ Moved W B p K w'

theorem app_explicit {W0 W' w1 : World} {base E n : Nat} {row : Option Nat} {v' : Value} {xs : List Value} (hown : w1.ownsRow base E 1 v' n xs) (hn : n ≠ 0) (hg : W'.grownBy w1 row) (hb : Below W0.heap.size W0 W') (hr : ∀ k, row = some k → W0.heap.size ≤ k) :
    ∃ (A : Option Addr) (c : Nat) (oo : Array Obj) (nn : Nat), v' = .slice A n c ∧ w1 = addsW W0 oo nn := by
  obtain ⟨oo, nn, h⟩ := below_adds (hb.grown hg hb.size hr)
  rcases hown.2 with ⟨_, h0⟩ | ⟨g, cap, cur, h1, _⟩
  · exact absurd h0 hn
  · exact ⟨_, _, oo, nn, h1, h⟩

theorem adds_alloc (w : World) (o : Obj) (os : Array Obj) (n : Nat) : addsW (w.alloc o) os n = addsW w (#[o] ++ os) n := by
  show (⟨w.heap.push o ++ os, w.tape, n, w.os, w.output⟩ : World) = ⟨w.heap ++ (#[o] ++ os), w.tape, n, w.os, w.output⟩
  rw [Array.push_eq_append, Array.append_assoc]
theorem ptr_eq {a b : Nat} (h : a = b) : Value.pointer (some ⟨a, 0, none⟩) = .pointer (some ⟨b, 0, none⟩) := by rw [h]

/-- where l20Packet stands with its packet laid -/
def PktCut (w : World) (B p : Nat) (s5 : Value) (wx : World) : Prop :=
  ∃ (n f r q : Int) (l : Bool) (A : Option Addr) (len c : Nat) (oo : Array Obj) (nn Q : Nat), len ≤ 1000 ∧ Q ≤ p + 60 ∧ s5 = .pointer (some ⟨w.heap.size + 1 + oo.size, 0, none⟩) ∧
    wx = (addsW ((w.setCell ⟨B, 1, none⟩ (.int .i64 (Q : Int))).alloc (.cells #[.int .i64 0, .int .i64 0, .int .i64 0, .int .i64 0, .bool false, .slice none 0 0] 48)) oo nn).alloc (.cells #[.int .i64 n, .int .i64 f, .int .i64 r, .int .i64 q, .bool l, .slice A len c] 48)

set_option maxHeartbeats 1000000 in
theorem S_l20Packet (B p : Nat) (n : Int) (w : World) (h : RdAt w B p) (hp : p ≤ 800000000) (hn : -1000000 ≤ n) :
    Calls Try.prog 61 #[.pointer (some ⟨B, 0, none⟩), .int .i64 n] w (PktDrawn 70 w B p) := by
  have hB := h.lt
  have hR := Lib.hid h
  clear h
  obtain ⟨i0, hi, hz0, hz1, hz2⟩ := info_parts infoU8
  go_enter Try.func61, Try.ntmps61
  go_upto_region 1 with fail
  go_cut [5] (fun s5 wx => PktCut w B p s5 wx)
  case first =>
    go_wp2_with fail
    (refine (S_pick B _ _ _ (by repeat (first | (with_reducible exact hR.out) | (with_reducible apply RdAt.adds) | (with_reducible apply RdAt.alloc) | (with_reducible exact RdAt.set hR.out _) | (with_reducible apply RdAt.drew))) (by omega)).mono ?_; rintro e w' ⟨v1, p1, k1, rfl, hv, hp1, rfl⟩; have hv1 := hv.1 (by omega); clear hv)
    go_wp2_with fail
    (refine (S_pick B _ _ _ (by repeat (first | (with_reducible exact hR.out) | (with_reducible apply RdAt.adds) | (with_reducible apply RdAt.alloc) | (with_reducible exact RdAt.set hR.out _) | (with_reducible apply RdAt.drew))) (by omega)).mono ?_; rintro e w' ⟨v2, p2, k2, rfl, hv, hp2, rfl⟩; have hv2 := hv.1 (by omega); clear hv)
    go_wp2_with fail
    (refine (S_pick B _ _ _ (by repeat (first | (with_reducible exact hR.out) | (with_reducible apply RdAt.adds) | (with_reducible apply RdAt.alloc) | (with_reducible exact RdAt.set hR.out _) | (with_reducible apply RdAt.drew))) (by omega)).mono ?_; rintro e w' ⟨v3, p3, k3, rfl, hv, hp3, rfl⟩; have hv3 := hv.1 (by omega); clear hv)
    go_wp2_with fail
    (refine (S_pick B _ _ _ (by repeat (first | (with_reducible exact hR.out) | (with_reducible apply RdAt.adds) | (with_reducible apply RdAt.alloc) | (with_reducible exact RdAt.set hR.out _) | (with_reducible apply RdAt.drew))) (by omega)).mono ?_; rintro e w' ⟨v4, p4, k4, rfl, hv, hp4, rfl⟩; have hv4 := hv.1 (by omega); clear hv)
    go_wp2_with fail
    (refine (S_pick B _ _ _ (by repeat (first | (with_reducible exact hR.out) | (with_reducible apply RdAt.adds) | (with_reducible apply RdAt.alloc) | (with_reducible exact RdAt.set hR.out _) | (with_reducible apply RdAt.drew))) (by omega)).mono ?_; rintro e w' ⟨v5, p5, k5, rfl, hv, hp5, rfl⟩; have hv5 := hv.1 (by omega); clear hv)
    go_wp2_with fail
    (refine (S_pick B _ _ _ (by repeat (first | (with_reducible exact hR.out) | (with_reducible apply RdAt.adds) | (with_reducible apply RdAt.alloc) | (with_reducible exact RdAt.set hR.out _) | (with_reducible apply RdAt.drew))) (by omega)).mono ?_; rintro e w' ⟨v6, p6, k6, rfl, hv, hp6, rfl⟩; have hv6 := hv.1 (by omega); clear hv)
    go_wp2_with fail
    refine (S_l20Bytes B _ 12 _ (by repeat (first | (with_reducible exact hR.out) | (with_reducible apply RdAt.adds) | (with_reducible apply RdAt.alloc) | (with_reducible exact RdAt.set hR.out _) | (with_reducible apply RdAt.drew))) (by omega) (by omega)).mono ?_
    rintro e w' ⟨v, zs, rfl, hzl, hzb, -, hM7, hown7⟩
    obtain ⟨p7, o7, k7, hp7, rfl⟩ := hM7
    clear hzb
    have hv7 : (v = .slice none 0 0 ∧ zs.length = 0) ∨ ∃ g cap, v = .slice (some ⟨g, 0, none⟩) zs.length cap := by
      rcases hown7.2 with h | ⟨g, cap, cur, h, _⟩
      · exact .inl h
      · exact .inr ⟨g, cap, h⟩
    have eW : (addsW (((w.setCell ⟨B, 1, none⟩ (.int .i64 (p6 : Int))).alloc (.cells #[.int .i64 0, .int .i64 0, .int .i64 0, .int .i64 0, .bool false, .slice none 0 0] 48)).alloc (.cells #[.int .u8 v6] 5)) #[] k6).setCell ⟨B, 1, none⟩ (.int .i64 (p7 : Int)) = addsW (((w.setCell ⟨B, 1, none⟩ (.int .i64 (p7 : Int))).alloc (.cells #[.int .i64 0, .int .i64 0, .int .i64 0, .int .i64 0, .bool false, .slice none 0 0] 48)).alloc (.cells #[.int .u8 v6] 5)) #[] k6 := by
      simp [go_sem, hB]
    rw [eW, adds_addsW, Array.empty_append] at hown7 ⊢
    clear eW
    have HO := Lib.hid hown7
    clear hown7
    have HL := Lib.hid (World.ownsRow_lit (base := w.heap.size + 1) (e := 5) (size := 1) ((w.setCell ⟨B, 1, none⟩ (.int .i64 (p7 : Int))).alloc (.cells #[.int .i64 0, .int .i64 0, .int .i64 0, .int .i64 0, .bool false, .slice none 0 0] 48)) #[.int .u8 v6] 1 (by simp) (by decide) rfl)
    rw [World.size_alloc, World.size_setCell] at HL
    rcases hv7 with ⟨rfl, h0⟩ | ⟨g, cap, rfl⟩
    · go_wp2_with (at_builtin; refine wpList_append_own_none _ rfl _ _ 22 rfl (w.heap.size + 1) 5 i0 1 Try.underlying22 hi _ _ _ rfl (ownsRow_below HL.out (by repeat' (first | (with_reducible exact Below.refl _ _) | (with_reducible refine Below.adds_ ?_ ?_ _ _) | (with_reducible refine Below.alloc ?_ ?_ _) | (with_reducible refine Below.drew ?_) | (with_reducible refine Below.setCell ?_ ?_ _) | (with_reducible assumption) | go_size | (simp only [size_addsW, World.size_alloc, World.size_drew, World.size_setCell]; omega)))) rfl ?_)
      rw [adds_alloc]
      go_meet
      exact ⟨_, _, _, _, _, _, _, _, _, _, _, by omega, by omega, ptr_eq (by simp; omega), rfl⟩
    · go_wp2_with (at_builtin; refine wpList_append_own _ rfl _ _ 22 rfl (w.heap.size + 1) 5 i0 (.int .u8 0) 1 1 Try.underlying22 hi hz0 hz1 hz2 rfl (by decide) _ _ _ rfl (ownsRow_below HL.out (by repeat' (first | (with_reducible exact Below.refl _ _) | (with_reducible refine Below.adds_ ?_ ?_ _ _) | (with_reducible refine Below.alloc ?_ ?_ _) | (with_reducible refine Below.drew ?_) | (with_reducible refine Below.setCell ?_ ?_ _) | (with_reducible assumption) | go_size | (simp only [size_addsW, World.size_alloc, World.size_drew, World.size_setCell]; omega)))) ⟨g, 0, none⟩ zs.length cap (zs.map (Value.int .u8)) rfl (by simp) (HO.out.cells rfl) (ints_one zs) (by unfold maxLen; omega) (by omega) (by simp only [size_adds0, size_addsW, World.size_alloc, World.size_setCell]; omega) ?_; intro v' w1 hown1 hgrow1 _; obtain ⟨A', c', oo, nn, rfl, rfl⟩ := app_explicit (W0 := ((w.setCell ⟨B, 1, none⟩ (.int .i64 (p7 : Int))).alloc (.cells #[.int .i64 0, .int .i64 0, .int .i64 0, .int .i64 0, .bool false, .slice none 0 0] 48))) hown1 (by omega) hgrow1 (by repeat' (first | (with_reducible exact Below.refl _ _) | (with_reducible refine Below.adds_ ?_ ?_ _ _) | (with_reducible refine Below.alloc ?_ ?_ _) | (with_reducible refine Below.drew ?_) | (with_reducible refine Below.setCell ?_ ?_ _) | (with_reducible assumption) | go_size | (simp only [size_addsW, World.size_alloc, World.size_drew, World.size_setCell]; omega))) (fun k e => by have e2 : w.heap.size + 1 = k := (by injection e); simp; omega); clear hown1 hgrow1)
      go_meet
      exact ⟨_, _, _, _, _, _, _, _, _, _, _, by omega, by omega, rfl, rfl⟩
  case rest =>
    obtain ⟨n', f, r, q, l, A, len, c, oo, nn, Q, hlen, hQ, rfl, rfl⟩ := hcut
    go_wp2_with (first | (go_at_call 65; refine (S_pick B _ _ _ (by repeat (first | (with_reducible exact hR.out) | (with_reducible apply RdAt.adds) | (with_reducible apply RdAt.alloc) | (with_reducible exact RdAt.set hR.out _) | (with_reducible apply RdAt.drew))) (by omega)).mono ?_; rintro e w' ⟨v, p1, k1, rfl, hv, hp1, rfl⟩; have hv' := hv.1 (by omega); clear hv) | (go_at_call 72; refine (S_odd B _ _ _ (by repeat (first | (with_reducible exact hR.out) | (with_reducible apply RdAt.adds) | (with_reducible apply RdAt.alloc) | (with_reducible exact RdAt.set hR.out _) | (with_reducible apply RdAt.drew))) (by omega) (by omega)).mono ?_; rintro e w' ⟨v, p1, k1, rfl, hp1, rfl⟩))
    all_goals
      go_returns
      exact ⟨_, _, _, _, _, _, _, _, rfl, by omega, (by repeat (first | (with_reducible apply Moved.adds) | (with_reducible apply Moved.alloc) | (with_reducible apply Moved.drew) | (exact Moved.base (by omega))))⟩

def PktGotD (W : World) (e : Ending) (w' : World) : Prop :=
  ∃ (n f r q : Int) (l : Bool) (A : Option Addr) (len c : Nat), e = .returned (.agg #[.int .i64 n, .int .i64 f, .int .i64 r, .int .i64 q, .bool l, .slice A len c]) ∧ len ≤ 1000 ∧ Below W.heap.size W w'

theorem S_DrawPacketValid (a : Option Addr) (len cap : Nat) (zs : List Int) (w : World) (h : IsRow .u8 w a len cap zs) :
    Calls Try.prog 36 #[.slice a len cap] w (PktGotD w) := by
  have HI := Lib.hid h
  clear h
  go_enter Try.func36, Try.ntmps36
  go_wp2_with (go_at_call 53; refine (S_l20Open _ _ _ zs _ (IsRow.keep HI.out (by repeat' (first | (with_reducible exact Below.refl _ _) | (with_reducible refine Below.adds_ ?_ ?_ _ _) | (with_reducible refine Below.alloc ?_ ?_ _) | (with_reducible refine Below.drew ?_) | (with_reducible refine Below.setCell ?_ ?_ _) | (with_reducible assumption) | go_size | (simp only [size_addsW, World.size_alloc, World.size_drew, World.size_setCell]; omega))))).mono ?_; rintro e w1 ⟨rfl, hR', hb, hB⟩; (try simp only [World.size_alloc] at hR' hB); have hR := Lib.hid hR'; clear hR'; have hbw : Below w.heap.size w w1 := Below.trans (by repeat' (first | (with_reducible exact Below.refl _ _) | (with_reducible refine Below.adds_ ?_ ?_ _ _) | (with_reducible refine Below.alloc ?_ ?_ _) | (with_reducible refine Below.drew ?_) | (with_reducible refine Below.setCell ?_ ?_ _) | (with_reducible assumption) | go_size | (simp only [size_addsW, World.size_alloc, World.size_drew, World.size_setCell]; omega))) (hb.mono (by simp <;> omega)); have hx0 := hb.cell (p := ⟨w.heap.size, 0, none⟩) (by simp <;> omega); have hy0 := hb.frozen (p := ⟨w.heap.size, 0, none⟩) (by simp <;> omega); simp [go_sem] at hx0 hy0; have hx1 := hb.cell (p := ⟨w.heap.size, 1, none⟩) (by simp <;> omega); have hy1 := hb.frozen (p := ⟨w.heap.size, 1, none⟩) (by simp <;> omega); simp [go_sem] at hx1 hy1; have hx2 := hb.cell (p := ⟨w.heap.size, 2, none⟩) (by simp <;> omega); have hy2 := hb.frozen (p := ⟨w.heap.size, 2, none⟩) (by simp <;> omega); simp [go_sem] at hx2 hy2; have hx3 := hb.cell (p := ⟨w.heap.size, 3, none⟩) (by simp <;> omega); have hy3 := hb.frozen (p := ⟨w.heap.size, 3, none⟩) (by simp <;> omega); simp [go_sem] at hx3 hy3; have hx4 := hb.cell (p := ⟨w.heap.size, 4, none⟩) (by simp <;> omega); have hy4 := hb.frozen (p := ⟨w.heap.size, 4, none⟩) (by simp <;> omega); simp [go_sem] at hx4 hy4; have hx5 := hb.cell (p := ⟨w.heap.size, 5, none⟩) (by simp <;> omega); have hy5 := hb.frozen (p := ⟨w.heap.size, 5, none⟩) (by simp <;> omega); simp [go_sem] at hx5 hy5; have hB0 : w.heap.size < w1.heap.size := (by omega); clear hb)
  go_wp2_with (go_at_call 61; refine (S_l20Packet (w.heap.size + 1) _ _ _ (by repeat (first | (with_reducible exact hR.out) | (with_reducible apply RdAt.adds) | (with_reducible apply RdAt.alloc) | (with_reducible exact RdAt.set hR.out _) | (with_reducible apply RdAt.drew))) (by omega) (by omega)).mono ?_; rintro e w' ⟨n, f, r, q, l, A, le, c, rfl, hle, p1, o2, k1, hp1, rfl⟩)
  refine bodyPost_ret (v := .agg #[.int .i64 n, .int .i64 f, .int .i64 r, .int .i64 q, .bool l, .slice A le c]) (by simp [results, Try.results36, go_sem, hx0, hx1, hx2, hx3, hx4, hx5, hB0]) rfl ?_
  exact ⟨n, f, r, q, l, A, le, c, rfl, hle, (by repeat' (first | (with_reducible exact Below.refl _ _) | (with_reducible refine Below.adds_ ?_ ?_ _ _) | (with_reducible refine Below.alloc ?_ ?_ _) | (with_reducible refine Below.drew ?_) | (with_reducible refine Below.setCell ?_ ?_ _) | (with_reducible assumption) | go_size | (simp only [size_addsW, World.size_alloc, World.size_drew, World.size_setCell]; omega)))⟩

end Go.Proofs.Ytmockpkddcnmiaa
