/- Packets: their validity, copies and comparisons. -/
import Derived.Test.YtmockpkddcnmiaaEq
import Derived.Deep.RegionHeld3
namespace Go.Proofs.Ytmockpkddcnmiaa
open Go.RowKit
set_option linter.unusedVariables false
set_option linter.unusedSimpArgs false

attribute [local go_sem] size_addsW cell?_addsW frozen?_addsW setCell_addsW drew_addsW adds_addsW setCell_twice alloc_adds0 size_adds0 adds_adds0 sel2 sel3 sel4 sel5 sel6 sel7 sel8 sel9 lt_more lt_more2 lt_more3 lt_more4 adds_drew adds_drewN drewN_addsW ltA_1_1 ltA_1_2 ltA_1_3 ltA_1_4 ltA_1_5 ltA_1_6 ltA_2_1 ltA_2_2 ltA_2_3 ltA_2_4 ltA_2_5 ltA_2_6 ltA_3_1 ltA_3_2 ltA_3_3 ltA_3_4 ltA_3_5 ltA_3_6 ltA_4_1 ltA_4_2 ltA_4_3 ltA_4_4 ltA_4_5 ltA_4_6 ltA_5_1 ltA_5_2 ltA_5_3 ltA_5_4 ltA_5_5 ltA_5_6 ltA_6_1 ltA_6_2 ltA_6_3 ltA_6_4 ltA_6_5 ltA_6_6 ltA_7_1 ltA_7_2 ltA_7_3 ltA_7_4 ltA_7_5 ltA_7_6 ltA_8_1 ltA_8_2 ltA_8_3 ltA_8_4 ltA_8_5 ltA_8_6 ltA_9_1 ltA_9_2 ltA_9_3 ltA_9_4 ltA_9_5 ltA_9_6 ltA_10_1 ltA_10_2 ltA_10_3 ltA_10_4 ltA_10_5 ltA_10_6 ltA_11_1 ltA_11_2 ltA_11_3 ltA_11_4 ltA_11_5 ltA_11_6 ltA_12_1 ltA_12_2 ltA_12_3 ltA_12_4 ltA_12_5 ltA_12_6

def pktB (n f r p : Int) (len : Nat) : Bool := decide (0 ≤ n ∧ n ≤ 9999 ∧ 0 ≤ f ∧ f ≤ 9999 ∧ 0 ≤ r ∧ r ≤ 3 ∧ 0 ≤ p ∧ p ≤ 255 ∧ 1 ≤ len ∧ len ≤ 200)

theorem below_more (w : World) (os os' : Array Obj) (n n' : Nat) : Below (addsW w os n).heap.size (addsW w os n) (addsW w (os ++ os') n') := by
  rw [← adds_addsW]; exact addsW_below _ _ _

theorem RowAt.new_ (k : IntKind) {w : World} (zs : List Int) (t : TypeId) (g : Nat) (hg : g = w.heap.size) : RowAt k (w.alloc (.cells (zs.map (Value.int k)).toArray t)) (some ⟨g, 0, none⟩) zs := by
  subst hg; exact RowAt.new k w zs t

theorem I_PacketValid (n f r p : Int) (l : Bool) (A : Option Addr) (len c : Nat) (w : World) (hl : len ≤ 1000000000000) :
    Calls Try.prog 34 #[.agg #[.int .i64 n, .int .i64 f, .int .i64 r, .int .i64 p, .bool l, .slice A len c]] w fun e w' => e = .returned (.bool (pktB n f r p len)) ∧ Below w.heap.size w w' := by
  cases h1 : M.inB n 0 9999
  all_goals
    cases h2 : M.inB f 0 9999
    all_goals
      have g1 := h1
      have g2 := h2
      simp only [M.inB_iff, M.inB_no] at g1 g2
      go_enter Try.func34, Try.ntmps34
      go_wp2_with (go_at_call 60; refine (I_numberValid _ _).mono ?_; rintro e w' ⟨rfl, rfl⟩)
      all_goals
        go_returns
        exact ⟨M.ret_bool (by rw [Bool.eq_iff_iff]; simp [pktB] <;> omega), (by repeat' (first | (with_reducible exact Below.refl _ _) | (with_reducible refine Below.adds_ ?_ ?_ _ _) | (with_reducible refine Below.alloc ?_ ?_ _) | (with_reducible refine Below.drew ?_) | (with_reducible refine Below.setCell ?_ ?_ _) | (with_reducible assumption) | go_size | (simp only [size_addsW, World.size_alloc, World.size_drew, World.size_setCell]; omega)))⟩

theorem S_PacketValid (n f r p : Int) (l : Bool) (A : Option Addr) (len c : Nat) (w : World) (hl : len ≤ 1000000000000) :
    Calls Try.prog 32 #[.agg #[.int .i64 n, .int .i64 f, .int .i64 r, .int .i64 p, .bool l, .slice A len c]] w fun e w' => e = .returned (.bool (pktB n f r p len)) ∧ Below w.heap.size w w' := by
  have hor : M.inB n 0 9999 = false ∨ (M.inB n 0 9999 = true ∧ M.inB f 0 9999 = false) ∨ (M.inB n 0 9999 = true ∧ M.inB f 0 9999 = true ∧ M.inB r 0 3 = false) ∨ (M.inB n 0 9999 = true ∧ M.inB f 0 9999 = true ∧ M.inB r 0 3 = true ∧ M.inB p 0 255 = false) ∨ (M.inB n 0 9999 = true ∧ M.inB f 0 9999 = true ∧ M.inB r 0 3 = true ∧ M.inB p 0 255 = true ∧ M.inB len 1 200 = false) ∨ (M.inB n 0 9999 = true ∧ M.inB f 0 9999 = true ∧ M.inB r 0 3 = true ∧ M.inB p 0 255 = true ∧ M.inB len 1 200 = true) := by
    cases M.inB n 0 9999 <;> cases M.inB f 0 9999 <;> cases M.inB r 0 3 <;> cases M.inB p 0 255 <;> cases M.inB len 1 200 <;> simp
  have key : pktB n f r p len = (M.inB n 0 9999 && M.inB f 0 9999 && M.inB r 0 3 && M.inB p 0 255 && M.inB len 1 200) := by
    rw [Bool.eq_iff_iff]; simp [pktB, M.inB]; omega
  rw [key]
  clear key
  rcases hor with h1 | ⟨h1, h2⟩ | ⟨h1, h2, h3⟩ | ⟨h1, h2, h3, h4⟩ | ⟨h1, h2, h3, h4, h5⟩ | ⟨h1, h2, h3, h4, h5⟩
  all_goals
    simp only [*, Bool.and_true, Bool.and_false, Bool.false_and, Bool.true_and]
    go_enter Try.func32, Try.ntmps32
    go_wp2_with (go_at_call 49; refine (S_l1In _ _ _ _).mono ?_; rintro e w' ⟨rfl, rfl⟩)
    go_returns
    exact ⟨rfl, (by repeat' (first | (with_reducible exact Below.refl _ _) | (with_reducible refine Below.adds_ ?_ ?_ _ _) | (with_reducible refine Below.alloc ?_ ?_ _) | (with_reducible refine Below.drew ?_) | (with_reducible refine Below.setCell ?_ ?_ _) | (with_reducible assumption) | go_size | (simp only [size_addsW, World.size_alloc, World.size_drew, World.size_setCell]; omega)))⟩

theorem L_szPacket (n f r p : Int) (l : Bool) (A : Option Addr) (len c : Nat) (left : Int) (w : World) (hn : len ≤ 9223372036854775807) (hl : 0 ≤ left ∧ left ≤ 1048576) :
    Calls Try.prog 31 #[.agg #[.int .i64 n, .int .i64 f, .int .i64 r, .int .i64 p, .bool l, .slice A len c], .int .i64 left] w fun e w' => e = .returned (.int .i64 (if left < len then -1 else left - len)) ∧ Below w.heap.size w w' := by
  by_cases hc : left < len
  · rw [if_pos hc]
    go_enter Try.func31, Try.ntmps31
    go_wp2_with (go_at_call 59; refine (L_szByteS _ _ _ _ _ hn hl).mono ?_; rintro e w' ⟨rfl, rfl⟩; rw [if_pos hc])
    go_returns
    exact ⟨rfl, (by repeat' (first | (with_reducible exact Below.refl _ _) | (with_reducible refine Below.adds_ ?_ ?_ _ _) | (with_reducible refine Below.alloc ?_ ?_ _) | (with_reducible refine Below.drew ?_) | (with_reducible refine Below.setCell ?_ ?_ _) | (with_reducible assumption) | go_size | (simp only [size_addsW, World.size_alloc, World.size_drew, World.size_setCell]; omega)))⟩
  · rw [if_neg hc]
    go_enter Try.func31, Try.ntmps31
    go_wp2_with (go_at_call 59; refine (L_szByteS _ _ _ _ _ hn hl).mono ?_; rintro e w' ⟨rfl, rfl⟩; rw [if_neg hc])
    go_returns
    exact ⟨rfl, (by repeat' (first | (with_reducible exact Below.refl _ _) | (with_reducible refine Below.adds_ ?_ ?_ _ _) | (with_reducible refine Below.alloc ?_ ?_ _) | (with_reducible refine Below.drew ?_) | (with_reducible refine Below.setCell ?_ ?_ _) | (with_reducible assumption) | go_size | (simp only [size_addsW, World.size_alloc, World.size_drew, World.size_setCell]; omega)))⟩

/-- a copy of a packet: its bytes lie in new memory -/
def PktGot (n f r p : Int) (l : Bool) (zs : List Int) (w : World) (e : Ending) (w' : World) : Prop :=
  ∃ g : Nat, e = .returned (.agg #[.int .i64 n, .int .i64 f, .int .i64 r, .int .i64 p, .bool l, .slice (some ⟨g, 0, none⟩) zs.length zs.length]) ∧ RowAt .u8 w' (some ⟨g, 0, none⟩) zs ∧ w.heap.size ≤ g ∧ Below w.heap.size w w'

theorem L_toPacket (n f r p : Int) (l : Bool) (A : Option Addr) (c : Nat) (zs : List Int) (w : World) (hr : RowAt .u8 w A zs) (hl : zs.length ≤ 1048576) :
    Calls Try.prog 33 #[.agg #[.int .i64 n, .int .i64 f, .int .i64 r, .int .i64 p, .bool l, .slice A zs.length c]] w (PktGot n f r p l zs w) := by
  have HR := Lib.hid hr
  clear hr
  go_enter Try.func33, Try.ntmps33
  go_wp2_with (go_at_call 15; refine (L_toByteS _ _ zs _ (HR.out.keep (by repeat' (first | (with_reducible exact Below.refl _ _) | (with_reducible refine Below.adds_ ?_ ?_ _ _) | (with_reducible refine Below.alloc ?_ ?_ _) | (with_reducible refine Below.drew ?_) | (with_reducible refine Below.setCell ?_ ?_ _) | (with_reducible assumption) | go_size | (simp only [size_addsW, World.size_alloc, World.size_drew, World.size_setCell]; omega)))) hl).mono ?_; rintro e w' ⟨rfl, o, ho, rfl⟩; have HO := Lib.hid ho; clear ho)
  go_returns
  refine ⟨_, rfl, ?_, ?_, (by repeat' (first | (with_reducible exact Below.refl _ _) | (with_reducible refine Below.adds_ ?_ ?_ _ _) | (with_reducible refine Below.alloc ?_ ?_ _) | (with_reducible refine Below.drew ?_) | (with_reducible refine Below.setCell ?_ ?_ _) | (with_reducible assumption) | go_size | (simp only [size_addsW, World.size_alloc, World.size_drew, World.size_setCell]; omega)))⟩
  · rw [HO.out]
    exact RowAt.new_ .u8 _ _ _ (by simp)
  · omega

theorem L_eqPacket (n f r p : Int) (l : Bool) (A A' : Option Addr) (c c' : Nat) (zs : List Int) (w : World) (hr : RowAt .u8 w A zs) (hr' : RowAt .u8 w A' zs) (hl : zs.length ≤ 1048576) :
    Calls Try.prog 35 #[.agg #[.int .i64 n, .int .i64 f, .int .i64 r, .int .i64 p, .bool l, .slice A zs.length c], .agg #[.int .i64 n, .int .i64 f, .int .i64 r, .int .i64 p, .bool l, .slice A' zs.length c']] w fun e w' => e = .returned (.bool true) ∧ Below w.heap.size w w' := by
  have HR := Lib.hid hr
  have HR' := Lib.hid hr'
  clear hr hr'
  go_enter Try.func35, Try.ntmps35
  go_wp2_with (go_at_call 17; refine (L_eqByteS _ _ _ _ zs _ (HR.out.keep (by repeat' (first | (with_reducible exact Below.refl _ _) | (with_reducible refine Below.adds_ ?_ ?_ _ _) | (with_reducible refine Below.alloc ?_ ?_ _) | (with_reducible refine Below.drew ?_) | (with_reducible refine Below.setCell ?_ ?_ _) | (with_reducible assumption) | go_size | (simp only [size_addsW, World.size_alloc, World.size_drew, World.size_setCell]; omega)))) (HR'.out.keep (by repeat' (first | (with_reducible exact Below.refl _ _) | (with_reducible refine Below.adds_ ?_ ?_ _ _) | (with_reducible refine Below.alloc ?_ ?_ _) | (with_reducible refine Below.drew ?_) | (with_reducible refine Below.setCell ?_ ?_ _) | (with_reducible assumption) | go_size | (simp only [size_addsW, World.size_alloc, World.size_drew, World.size_setCell]; omega)))) (by omega)).mono ?_; rintro e w' ⟨rfl, hb⟩; obtain ⟨o1, n1, rfl⟩ := below_adds hb; clear hb)
  go_returns
  exact ⟨rfl, (by repeat' (first | (with_reducible exact Below.refl _ _) | (with_reducible refine Below.adds_ ?_ ?_ _ _) | (with_reducible refine Below.alloc ?_ ?_ _) | (with_reducible refine Below.drew ?_) | (with_reducible refine Below.setCell ?_ ?_ _) | (with_reducible assumption) | go_size | (simp only [size_addsW, World.size_alloc, World.size_drew, World.size_setCell]; omega)))⟩

end Go.Proofs.Ytmockpkddcnmiaa
