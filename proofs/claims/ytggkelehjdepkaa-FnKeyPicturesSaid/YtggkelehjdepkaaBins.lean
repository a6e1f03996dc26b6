/- Lists of decisions: their validity, copies and comparisons. A list of n decisions is told by its 2 n numbers. -/
import Derived.Test.YtggkelehjdepkaaEq
import Derived.Deep.RegionHeld3
import Derived.Deep.DeepCutAuto
import Derived.Laws.MakeOwn
namespace Go.Proofs.Ytggkelehjdepkaa
open Go.RowKit
set_option linter.unusedVariables false
set_option linter.unusedSimpArgs false

attribute [local go_sem] size_addsW cell?_addsW frozen?_addsW setCell_addsW drew_addsW adds_addsW setCell_twice alloc_adds0 size_adds0 adds_adds0 sel2 sel3 sel4 sel5 sel6 sel7 sel8 sel9 lt_more lt_more2 lt_more3 lt_more4 adds_drew adds_drewN drewN_addsW ltA_1_1 ltA_1_2 ltA_1_3 ltA_1_4 ltA_1_5 ltA_1_6 ltA_2_1 ltA_2_2 ltA_2_3 ltA_2_4 ltA_2_5 ltA_2_6 ltA_3_1 ltA_3_2 ltA_3_3 ltA_3_4 ltA_3_5 ltA_3_6 ltA_4_1 ltA_4_2 ltA_4_3 ltA_4_4 ltA_4_5 ltA_4_6 ltA_5_1 ltA_5_2 ltA_5_3 ltA_5_4 ltA_5_5 ltA_5_6 ltA_6_1 ltA_6_2 ltA_6_3 ltA_6_4 ltA_6_5 ltA_6_6 ltA_7_1 ltA_7_2 ltA_7_3 ltA_7_4 ltA_7_5 ltA_7_6 ltA_8_1 ltA_8_2 ltA_8_3 ltA_8_4 ltA_8_5 ltA_8_6 ltA_9_1 ltA_9_2 ltA_9_3 ltA_9_4 ltA_9_5 ltA_9_6 ltA_10_1 ltA_10_2 ltA_10_3 ltA_10_4 ltA_10_5 ltA_10_6 ltA_11_1 ltA_11_2 ltA_11_3 ltA_11_4 ltA_11_5 ltA_11_6 ltA_12_1 ltA_12_2 ltA_12_3 ltA_12_4 ltA_12_5 ltA_12_6

/-- decision i is valid -/
def binOk (zs : List Int) (i : Nat) : Bool := M.inB (zs.getD (i * 2) 0) 0 39 && M.inB (zs.getD (i * 2 + 1) 0) 0 1
def binsUp (zs : List Int) (k : Nat) : Bool := (List.range k).all (binOk zs)
theorem alloc_addsW_ (w : World) (os : Array Obj) (n : Nat) (o : Obj) : (addsW w os n).alloc o = addsW w (os.push o) n := by simp [addsW, World.alloc]
def binsB (zs : List Int) (n : Nat) : Bool := decide (n ≤ 20000) && binsUp zs n
theorem binsUp_zero (zs : List Int) : binsUp zs 0 = true := rfl
theorem binsUp_succ (zs : List Int) (k : Nat) : binsUp zs (k + 1) = (binsUp zs k && binOk zs k) := by
  simp [binsUp, List.range_succ]
theorem binsUp_no {zs : List Int} {k n : Nat} (h : k < n) (hk : binOk zs k = false) : binsUp zs n = false := by
  simp only [binsUp, List.all_eq_false]
  exact ⟨k, List.mem_range.2 h, by simp [hk]⟩

theorem RowAt.two {w : World} {A : Option Addr} {zs : List Int} {n i : Nat} (h : RowAt .i64 w A zs) (hz : zs.length = n * 2) (hi : i < n) :
    ∃ (b off : Nat) (x y : Int), A = some ⟨b, off, none⟩ ∧ b < w.heap.size ∧ x = zs.getD (i * 2) 0 ∧ y = zs.getD (i * 2 + 1) 0 ∧ w.cell? ⟨b, off + i * 2, none⟩ = some (.int .i64 x) ∧ w.cell? ⟨b, off + i * 2 + 1, none⟩ = some (.int .i64 y) := by
  obtain ⟨b, off, rfl, hb, hc⟩ := h (by intro e; subst e; simp at hz; omega)
  exact ⟨b, off, _, _, rfl, hb, rfl, rfl, hc (i * 2) (by omega), hc (i * 2 + 1) (by omega)⟩

theorem S_BinsValid (A : Option Addr) (n c : Nat) (zs : List Int) (w : World) (hr : RowAt .i64 w A zs) (hz : zs.length = n * 2) (hl : n ≤ 1000000000) :
    Calls Try.prog 63 #[.slice A n c] w fun e w' => e = .returned (.bool (binsB zs n)) ∧ w = w' := by
  have HR := Lib.hid hr
  have HL := Lib.hid hz
  clear hr hz
  go_enter Try.func63, Try.ntmps63
  go_wp2
  go_loop [3] (fun i => ∃ k : Nat, k ≤ n ∧ i = .int .i64 k ∧ binsUp zs k = true) (fun i => n - (intOf i).toNat)
  case atStart => exact ⟨0, Nat.zero_le _, rfl, rfl⟩
  case round =>
    obtain ⟨k, hk, rfl, ht⟩ := hrel
    have HT := Lib.hid ht
    clear ht
    by_cases hlt : k < n
    · obtain ⟨b, off, x, y, rfl, hb, hx, hy, hc, hc2⟩ := HR.out.two HL.out hlt
      have HX := Lib.hid hx
      have HY := Lib.hid hy
      clear hx hy
      cases h1 : M.inB x 0 39
      all_goals
        cases h2 : M.inB y 0 1
        all_goals
          go_wp2_with (go_at_call 36; refine (S_l1In _ _ _ _).mono ?_; rintro e w' ⟨rfl, rfl⟩)
      · go_ret
        exact ⟨M.ret_bool (by rw [binsB, binsUp_no hlt (by rw [binOk, ← HX.out, ← HY.out, h1]; rfl), Bool.and_false]), rfl⟩
      · go_ret
        exact ⟨M.ret_bool (by rw [binsB, binsUp_no hlt (by rw [binOk, ← HX.out, ← HY.out, h1]; rfl), Bool.and_false]), rfl⟩
      · go_ret
        exact ⟨M.ret_bool (by rw [binsB, binsUp_no hlt (by rw [binOk, ← HX.out, ← HY.out, h1, h2]; rfl), Bool.and_false]), rfl⟩
      · go_round
        case rel => exact ⟨k + 1, by omega, by go_num, by rw [binsUp_succ, HT.out, binOk, ← HX.out, ← HY.out, h1, h2]; rfl⟩
        case measure => simp [intOf]; omega
    · obtain rfl : k = n := by omega
      go_wp2
      go_ret
      exact ⟨M.ret_bool (by rw [binsB, HT.out, Bool.and_true]; rw [Bool.eq_iff_iff]; simp; omega), rfl⟩

theorem I_BinsValid (A : Option Addr) (n c : Nat) (zs : List Int) (w : World) (hr : RowAt .i64 w A zs) (hz : zs.length = n * 2) (hl : n ≤ 1000000000) :
    Calls Try.prog 12 #[.slice A n c] w fun e w' => e = .returned (.bool (binsB zs n)) ∧ Below w.heap.size w w' := by
  have HR := Lib.hid hr
  have HL := Lib.hid hz
  clear hr hz
  by_cases hbig : 20000 < n
  · go_enter Try.func12, Try.ntmps12
    go_wp2
    go_ret
    exact ⟨M.ret_bool (by rw [binsB, decide_eq_false (by omega), Bool.false_and]), (by repeat' (first | (with_reducible exact Below.refl _ _) | (with_reducible refine Below.adds_ ?_ ?_ _ _) | (with_reducible refine Below.alloc ?_ ?_ _) | (with_reducible refine Below.drew ?_) | (with_reducible refine Below.setCell ?_ ?_ _) | (with_reducible assumption) | go_size | (simp only [size_addsW, World.size_alloc, World.size_drew, World.size_setCell]; omega)))⟩
  · go_enter Try.func12, Try.ntmps12
    go_wp2
    go_loopw [10] (fun i wr => ∃ (k m : Nat) (os : Array Obj), k ≤ n ∧ i = .int .i64 k ∧ binsUp zs k = true ∧ wr = addsW w os m) (fun i _ => n - (intOf i).toNat)
    case atStart => exact ⟨0, _, #[], Nat.zero_le _, rfl, rfl, self_adds w⟩
    case round =>
      obtain ⟨k, m, os, hk, rfl, ht, rfl⟩ := hrel
      have HT := Lib.hid ht
      clear ht
      by_cases hlt : k < n
      · obtain ⟨b, off, x, y, rfl, hb, hx, hy, hc, hc2⟩ := HR.out.two HL.out hlt
        have HX := Lib.hid hx
        have HY := Lib.hid hy
        clear hx hy
        by_cases hok : 0 ≤ x ∧ x ≤ 39 ∧ 0 ≤ y ∧ y ≤ 1
        · obtain ⟨x0, x1, y0, y1⟩ := hok
          have hyy : y = 0 ∨ y = 1 := by omega
          have hk1 : binOk zs k = true := by rw [binOk, ← HX.out, ← HY.out]; simp [M.inB]; omega
          have HK := Lib.hid hk1
          clear hk1
          rcases hyy with rfl | rfl
          all_goals
            go_wp2
            go_roundw
            case rel => exact ⟨k + 1, _, _, by omega, by go_num, by rw [binsUp_succ, HT.out, HK.out]; rfl, alloc_addsW_ _ _ _ _⟩
            case measure => simp [intOf]; omega
        · have hk1 : binsUp zs n = false := binsUp_no hlt (by rw [binOk, ← HX.out, ← HY.out]; simp [M.inB]; omega)
          have HK := Lib.hid hk1
          clear hk1
          rcases (show x < 0 ∨ (0 ≤ x ∧ 39 < x) ∨ (0 ≤ x ∧ x ≤ 39 ∧ y < 0) ∨ (0 ≤ x ∧ x ≤ 39 ∧ 1 < y) by omega) with h1 | ⟨h1, h2⟩ | ⟨h1, h2, h3⟩ | ⟨h1, h2, h3⟩
          all_goals
            (try have b0 : (y != 0) = true := (by simp; omega))
            (try have b1 : (y != 1) = true := (by simp; omega))
            go_wp2
            go_ret
            exact ⟨M.ret_bool (by rw [binsB, HK.out, Bool.and_false]), (by repeat' (first | (with_reducible exact Below.refl _ _) | (with_reducible refine Below.adds_ ?_ ?_ _ _) | (with_reducible refine Below.alloc ?_ ?_ _) | (with_reducible refine Below.drew ?_) | (with_reducible refine Below.setCell ?_ ?_ _) | (with_reducible assumption) | go_size | (simp only [size_addsW, World.size_alloc, World.size_drew, World.size_setCell]; omega)))⟩
      · obtain rfl : k = n := by omega
        go_wp2
        go_ret
        exact ⟨M.ret_bool (by rw [binsB, HT.out, Bool.and_true]; rw [Bool.eq_iff_iff]; simp; omega), (by repeat' (first | (with_reducible exact Below.refl _ _) | (with_reducible refine Below.adds_ ?_ ?_ _ _) | (with_reducible refine Below.alloc ?_ ?_ _) | (with_reducible refine Below.drew ?_) | (with_reducible refine Below.setCell ?_ ?_ _) | (with_reducible assumption) | go_size | (simp only [size_addsW, World.size_alloc, World.size_drew, World.size_setCell]; omega)))⟩

theorem infoBin : (Try.prog.info? 35).map (fun i => (i.zero, i.size, i.bytes)) = some (some (.agg #[.int .i64 0, .int .i64 0]), 2, 16) := by kernel_rfl

theorem made_copy2 (n : Nat) (zs : List Int) : madeCells #[.int .i64 0, .int .i64 0] (n * 2) = copyA .i64 (n * 2) 0 zs := by
  apply Array.ext_getElem?
  intro i
  simp only [madeCells, copyA, Array.getElem?_map, List.getElem?_toArray, List.getElem?_map, List.take_zero, List.nil_append, Nat.sub_zero, List.getElem?_replicate, Array.getElem?_range]
  by_cases h : i < n * 2
  · have : i % 2 = 0 ∨ i % 2 = 1 := by omega
    rcases this with e | e <;> simp [h, e]
  · simp [h]

theorem L_eqBin (x y : Int) (w : World) : Calls Try.prog 46 #[.agg #[.int .i64 x, .int .i64 y], .agg #[.int .i64 x, .int .i64 y]] w fun e w' => e = .returned (.bool true) ∧ Below w.heap.size w w' := by
  go_enter Try.func46, Try.ntmps46
  go_wp2
  go_returns
  exact ⟨rfl, (by repeat' (first | (with_reducible exact Below.refl _ _) | (with_reducible refine Below.adds_ ?_ ?_ _ _) | (with_reducible refine Below.alloc ?_ ?_ _) | (with_reducible refine Below.drew ?_) | (with_reducible refine Below.setCell ?_ ?_ _) | (with_reducible assumption) | go_size | (simp only [size_addsW, World.size_alloc, World.size_drew, World.size_setCell]; omega)))⟩

/-- a copy of a list of decisions in new memory -/
def BinsGot (n : Nat) (zs : List Int) (w : World) (e : Ending) (w' : World) : Prop :=
  ∃ g : Nat, e = .returned (.slice (some ⟨g, 0, none⟩) n n) ∧ RowAt .i64 w' (some ⟨g, 0, none⟩) zs ∧ w.heap.size ≤ g ∧ Below w.heap.size w w'

theorem L_eqBinS (A A' : Option Addr) (n c c' : Nat) (zs : List Int) (w : World) (hr : RowAt .i64 w A zs) (hr' : RowAt .i64 w A' zs) (hz : zs.length = n * 2) (hl : n ≤ 1000000000000) :
    Calls Try.prog 23 #[.slice A n c, .slice A' n c'] w fun e w' => e = .returned (.bool true) ∧ Below w.heap.size w w' := by
  have HR := Lib.hid hr
  have HR' := Lib.hid hr'
  have HN := Lib.hid hz
  clear hr hr' hz
  go_enter Try.func23, Try.ntmps23
  go_wp2
  go_loopw [5] (fun i wr => ∃ (k m : Nat) (os : Array Obj), k ≤ n ∧ i = .int .i64 k ∧ wr = addsW w os m) (fun i _ => n - (intOf i).toNat)
  case atStart => exact ⟨0, _, #[], Nat.zero_le _, rfl, self_adds w⟩
  case round =>
    obtain ⟨k, m, os, hk, rfl, rfl⟩ := hrel
    by_cases hlt : k < n
    · obtain ⟨b, off, x, y, rfl, hb, hx, hy, hc, hc2⟩ := HR.out.two HN.out hlt
      obtain ⟨b', off', x', y', rfl, hb', hx', hy', hc', hc2'⟩ := HR'.out.two HN.out hlt
      obtain rfl : x = x' := hx.trans hx'.symm
      obtain rfl : y = y' := hy.trans hy'.symm
      clear hx hx' hy hy'
      have hk0 : (0 : Int) ≤ (k : Int) := by omega
      have hk1 : (k : Int) < (n : Int) := by omega
      go_wp2
      go_region_held3 (fun w' => w'.cell? ⟨b, off + k * 2, none⟩ = some (.int .i64 x) ∧ w'.cell? ⟨b, off + k * 2 + 1, none⟩ = some (.int .i64 y) ∧ w'.cell? ⟨b', off' + k * 2, none⟩ = some (.int .i64 x) ∧ w'.cell? ⟨b', off' + k * 2 + 1, none⟩ = some (.int .i64 y)) (first | (go_simp; done) | (go_keep; done)) (first | (go_at_call 46; refine (L_eqBin _ _ _).mono ?_; rintro e w' ⟨rfl, hb⟩; obtain ⟨o1, n1, rfl⟩ := below_adds hb; clear hb))
      go_wp2
      go_roundw
      case rel => exact ⟨k + 1, _, _, by omega, by go_num, rfl⟩
      case measure => simp [intOf]; omega
    · go_wp2
      go_ret
      exact ⟨rfl, (by repeat' (first | (with_reducible exact Below.refl _ _) | (with_reducible refine Below.adds_ ?_ ?_ _ _) | (with_reducible refine Below.alloc ?_ ?_ _) | (with_reducible refine Below.drew ?_) | (with_reducible refine Below.setCell ?_ ?_ _) | (with_reducible assumption) | go_size | (simp only [size_addsW, World.size_alloc, World.size_drew, World.size_setCell]; omega)))⟩

end Go.Proofs.Ytggkelehjdepkaa
