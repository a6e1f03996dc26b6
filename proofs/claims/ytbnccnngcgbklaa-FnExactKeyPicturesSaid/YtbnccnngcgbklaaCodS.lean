/- Lists of coded pictures: sizes, comparisons. -/
import Derived.Test.YtbnccnngcgbklaaCodedO
namespace Go.Proofs.Ytbnccnngcgbklaa
open Go.RowKit Go.Deep
set_option linter.unusedVariables false
set_option linter.unusedSimpArgs false

attribute [local go_sem] size_addsW cell?_addsW frozen?_addsW setCell_addsW drew_addsW adds_addsW setCell_twice alloc_adds0 size_adds0 adds_adds0 sel2 sel3 sel4 sel5 sel6 sel7 sel8 sel9 lt_more lt_more2 lt_more3 lt_more4 adds_drew adds_drewN drewN_addsW ltA_1_1 ltA_1_2 ltA_1_3 ltA_1_4 ltA_1_5 ltA_1_6 ltA_2_1 ltA_2_2 ltA_2_3 ltA_2_4 ltA_2_5 ltA_2_6 ltA_3_1 ltA_3_2 ltA_3_3 ltA_3_4 ltA_3_5 ltA_3_6 ltA_4_1 ltA_4_2 ltA_4_3 ltA_4_4 ltA_4_5 ltA_4_6 ltA_5_1 ltA_5_2 ltA_5_3 ltA_5_4 ltA_5_5 ltA_5_6 ltA_6_1 ltA_6_2 ltA_6_3 ltA_6_4 ltA_6_5 ltA_6_6 ltA_7_1 ltA_7_2 ltA_7_3 ltA_7_4 ltA_7_5 ltA_7_6 ltA_8_1 ltA_8_2 ltA_8_3 ltA_8_4 ltA_8_5 ltA_8_6 ltA_9_1 ltA_9_2 ltA_9_3 ltA_9_4 ltA_9_5 ltA_9_6 ltA_10_1 ltA_10_2 ltA_10_3 ltA_10_4 ltA_10_5 ltA_10_6 ltA_11_1 ltA_11_2 ltA_11_3 ltA_11_4 ltA_11_5 ltA_11_6 ltA_12_1 ltA_12_2 ltA_12_3 ltA_12_4 ltA_12_5 ltA_12_6

/-- a coded picture: its five cells, and its slices -/
structure CdE where
  x : Int
  y : Int
  i : Bool
  q : Int
  A : Option Addr
  n : Nat
  cap : Nat
  a : Nat → Option Addr
  l : Nat → Nat
  c : Nat → Nat
  z : Nat → List Int
def CdE.tot (e : CdE) : Nat := e.n + sm e.l e.n
def totS (E : Nat → CdE) (i : Nat) : Nat := (E i).tot
/-- n coded pictures lie from A on -/
def CSAt (W : World) (A : Option Addr) (n : Nat) (E : Nat → CdE) : Prop :=
  (n ≠ 0 → ∃ b off, A = some ⟨b, off, none⟩ ∧ b < W.heap.size ∧ ∀ i, i < n → ∀ j, j < 5 → W.cell? ⟨b, off + i * 5 + j, none⟩ = (cdA (E i).x (E i).y (E i).i (E i).q (E i).A (E i).n (E i).cap)[j]?) ∧
  ∀ i, i < n → SSAt W (E i).A (E i).n (E i).a (E i).l (E i).c (E i).z ∧ (E i).n ≤ 9223372036854775807
theorem CSAt.keep {W W' : World} {A : Option Addr} {n : Nat} {E : Nat → CdE} (h : CSAt W A n E) (hb : Below W.heap.size W W') : CSAt W' A n E := by
  refine ⟨fun hn => ?_, fun i hi => ⟨(h.2 i hi).1.keep hb, (h.2 i hi).2⟩⟩
  obtain ⟨b, off, rfl, hlt, hc⟩ := h.1 hn
  exact ⟨b, off, rfl, by have := hb.size; omega, fun i hi j hj => (hb.cell (p := ⟨b, off + i * 5 + j, none⟩) hlt).trans (hc i hi j hj)⟩
theorem CSAt.at_ {W : World} {A : Option Addr} {n : Nat} {E : Nat → CdE} (h : CSAt W A n E) {k : Nat} (hk : k < n) :
    ∃ b off, A = some ⟨b, off, none⟩ ∧ b < W.heap.size ∧ W.cell? ⟨b, off + k * 5, none⟩ = some (.int .i64 (E k).x) ∧ W.cell? ⟨b, off + k * 5 + 1, none⟩ = some (.int .i64 (E k).y) ∧ W.cell? ⟨b, off + k * 5 + 2, none⟩ = some (.bool (E k).i) ∧ W.cell? ⟨b, off + k * 5 + 3, none⟩ = some (.int .i64 (E k).q) ∧ W.cell? ⟨b, off + k * 5 + 4, none⟩ = some (.slice (E k).A (E k).n (E k).cap) := by
  obtain ⟨b, off, rfl, hlt, hc⟩ := h.1 (by omega)
  exact ⟨b, off, rfl, hlt, hc k hk 0 (by omega), hc k hk 1 (by omega), hc k hk 2 (by omega), hc k hk 3 (by omega), hc k hk 4 (by omega)⟩
theorem CdE.ex (e : CdE) : ∃ x y i q A n cap a l c z, e = ⟨x, y, i, q, A, n, cap, a, l, c, z⟩ := ⟨_, _, _, _, _, _, _, _, _, _, _, rfl⟩

set_option maxRecDepth 100000 in
set_option maxHeartbeats 1000000 in
theorem L_szCodedS (A : Option Addr) (n cap : Nat) (E : Nat → CdE) (left : Int) (w : World) (h : CSAt w A n E) (hn : n ≤ 9223372036854775807) (hl : 0 ≤ left ∧ left ≤ 1048576) :
    Calls Try.prog 11 #[.slice A n cap, .int .i64 left] w fun e w' => e = .returned (.int .i64 (if left < (n : Int) + (sm (totS E) n : Nat) then -1 else left - ((n : Int) + (sm (totS E) n : Nat)))) ∧ Below w.heap.size w w' := by
  have HS := Lib.hid h
  clear h
  by_cases h0 : left < (n : Int)
  · rw [if_pos (by omega)]
    go_enter Try.func11, Try.ntmps11
    go_wp2
    go_returns
    exact ⟨rfl, (by repeat' (first | (with_reducible exact Below.refl _ _) | (with_reducible refine Below.adds_ ?_ ?_ _ _) | (with_reducible refine Below.alloc ?_ ?_ _) | (with_reducible refine Below.drew ?_) | (with_reducible refine Below.setCell ?_ ?_ _) | (with_reducible assumption) | go_size | (simp only [size_addsW, World.size_alloc, World.size_drew, World.size_setCell]; omega)))⟩
  · obtain ⟨r, hr⟩ : ∃ r : Int, r = if left < (n : Int) + (sm (totS E) n : Nat) then -1 else left - ((n : Int) + (sm (totS E) n : Nat)) := ⟨_, rfl⟩
    rw [← hr]
    have HR := Lib.hid hr
    clear hr
    go_enter Try.func11, Try.ntmps11
    go_wp2
    go_loopw [1, 5] (fun x i wr => ∃ k : Nat, k ≤ n ∧ x = .int .i64 (left - (n : Int) - (sm (totS E) k : Nat)) ∧ i = .int .i64 (k : Int) ∧ 0 ≤ left - (n : Int) - (sm (totS E) k : Nat) ∧ Below w.heap.size w wr) (fun _ i _ => n - (intOf i).toNat)
    case atStart => exact ⟨0, by omega, by simp [sm], rfl, by simp [sm]; omega, Below.refl _ _⟩
    case round =>
      obtain ⟨k, hk, rfl, rfl, h1, hb⟩ := hrel
      have HB := Lib.hid hb
      clear hb
      by_cases hlt : k < n
      · obtain ⟨b, off, rfl, hbl, c0, c1, c2, c3, c4⟩ := (HS.out.keep HB.out).at_ hlt
        have hss := (HS.out.keep HB.out).2 k hlt
        have hmono := sm_le (totS E) (show k + 1 ≤ n by omega)
        have hmono2 : sm (totS E) (k + 1) = sm (totS E) k + totS E k := rfl
        have HK := Lib.hid (show (if left < (n : Int) + (sm (totS E) n : Nat) then (-1 : Int) else left - ((n : Int) + (sm (totS E) n : Nat))) = r from HR.out.symm)
        unfold totS CdE.tot at hmono2
        obtain ⟨x, y, ii, q, AE, m, ce, a, l, c, z, hE⟩ := (E k).ex
        rw [hE] at c0 c1 c2 c3 c4 hss hmono2
        simp only at c0 c1 c2 c3 c4 hss hmono2
        change sm (totS E) (k + 1) = sm (totS E) k + (m + sm l m) at hmono2
        by_cases hd : left - (n : Int) - (sm (totS E) k : Nat) < ((m + sm l m : Nat) : Int)
        · have HR1 := Lib.hid (show r = -1 by rw [← HK.out, if_pos (by omega)])
          clear hmono hmono2 hE
          generalize hx : left - (n : Int) - (sm (totS E) k : Nat) = X at *
          have CZ := Lib.hid (show ∀ W, Below wr.heap.size wr W → Calls Try.prog 6 #[.agg #[.int .i64 x, .int .i64 y, .bool ii, .int .i64 q, .slice AE m ce], .int .i64 X] W fun e w' => e = .returned (.int .i64 (-1)) ∧ Below W.heap.size W w' from fun W hW => by have := L_szCoded x y ii q AE m ce a l c z X W (hss.1.keep hW) hss.2 (by omega); unfold cdA at this; rwa [if_pos (by omega)] at this)
          clear hx hss
          go_wp2_with (go_at_call 6; refine (CZ.out _ (by repeat' (first | (with_reducible exact Below.refl _ _) | (with_reducible refine Below.adds_ ?_ ?_ _ _) | (with_reducible refine Below.alloc ?_ ?_ _) | (with_reducible refine Below.drew ?_) | (with_reducible refine Below.setCell ?_ ?_ _) | (with_reducible assumption) | go_size | (simp only [size_addsW, World.size_alloc, World.size_drew, World.size_setCell]; omega)))).mono ?_; rintro e w' ⟨rfl, hb⟩; obtain ⟨o2, n2, rfl⟩ := below_adds hb; clear hb)
          go_returns
          exact ⟨by rw [HR1.out]; rfl, HB.out.trans ((show Below wr.heap.size wr _ from (by repeat' (first | (with_reducible exact Below.refl _ _) | (with_reducible refine Below.adds_ ?_ ?_ _ _) | (with_reducible refine Below.alloc ?_ ?_ _) | (with_reducible refine Below.drew ?_) | (with_reducible refine Below.setCell ?_ ?_ _) | (with_reducible assumption) | go_size | (simp only [size_addsW, World.size_alloc, World.size_drew, World.size_setCell]; omega)))).mono HB.out.size)⟩
        · clear hmono hE
          have HX := Lib.hid (show left - (n : Int) - (sm (totS E) (k + 1) : Nat) = left - (n : Int) - (sm (totS E) k : Nat) - ((m : Int) + (sm l m : Nat)) by omega)
          clear hmono2
          generalize hx : left - (n : Int) - (sm (totS E) k : Nat) = X at *
          have CZ := Lib.hid (show ∀ W, Below wr.heap.size wr W → Calls Try.prog 6 #[.agg #[.int .i64 x, .int .i64 y, .bool ii, .int .i64 q, .slice AE m ce], .int .i64 X] W fun e w' => e = .returned (.int .i64 (X - ((m : Int) + (sm l m : Nat)))) ∧ Below W.heap.size W w' from fun W hW => by have := L_szCoded x y ii q AE m ce a l c z X W (hss.1.keep hW) hss.2 (by omega); unfold cdA at this; rwa [if_neg (by omega)] at this)
          have hx0 : 0 ≤ X - ((m : Int) + (sm l m : Nat)) := by omega
          clear hx hss
          generalize X - ((m : Int) + (sm l m : Nat)) = Y at *
          go_wp2_with (go_at_call 6; refine (CZ.out _ (by repeat' (first | (with_reducible exact Below.refl _ _) | (with_reducible refine Below.adds_ ?_ ?_ _ _) | (with_reducible refine Below.alloc ?_ ?_ _) | (with_reducible refine Below.drew ?_) | (with_reducible refine Below.setCell ?_ ?_ _) | (with_reducible assumption) | go_size | (simp only [size_addsW, World.size_alloc, World.size_drew, World.size_setCell]; omega)))).mono ?_; rintro e w' ⟨rfl, hb⟩; obtain ⟨o2, n2, rfl⟩ := below_adds hb; clear hb)
          go_roundw
          case rel => exact ⟨k + 1, by omega, by rw [HX.out], by go_num, by rw [HX.out]; exact hx0, HB.out.trans ((show Below wr.heap.size wr _ from (by repeat' (first | (with_reducible exact Below.refl _ _) | (with_reducible refine Below.adds_ ?_ ?_ _ _) | (with_reducible refine Below.alloc ?_ ?_ _) | (with_reducible refine Below.drew ?_) | (with_reducible refine Below.setCell ?_ ?_ _) | (with_reducible assumption) | go_size | (simp only [size_addsW, World.size_alloc, World.size_drew, World.size_setCell]; omega)))).mono HB.out.size)⟩
          case measure => simp [intOf]; omega
      · obtain rfl : k = n := by omega
        have HR1 := Lib.hid (show r = left - (k : Int) - (sm (totS E) k : Nat) by rw [HR.out, if_neg (by omega)]; omega)
        generalize left - (k : Int) - (sm (totS E) k : Nat) = x at *
        go_wp2
        go_returns
        exact ⟨by rw [HR1.out]; rfl, HB.out⟩

end Go.Proofs.Ytbnccnngcgbklaa
