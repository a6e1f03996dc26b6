/- Lists of coded pictures, by their heads. The intra pictures of a list, of which the heads alone are known. A slice built of one struct of many cells. Lists of macroblocks drawn. A coded picture drawn. A stream of coded pictures drawn. -/
import Derived.Test.YtggkelehjdepkaaTwo
import Derived.Test.YtggkelehjdepkaaGrow
import Derived.Test.YtggkelehjdepkaaRange
import Derived.Maps.AppendAt
import Derived.Deep.DeepCutAuto
import Derived.LoopTactic
import Derived.Test.YtggkelehjdepkaaBase
import Derived.Laws.MakeOwn
import Derived.Test.YtggkelehjdepkaaDrawO
import Derived.Test.YtggkelehjdepkaaApp
import Derived.Test.YtggkelehjdepkaaMsl
import Derived.Test.YtggkelehjdepkaaSlE
import Derived.Test.YtggkelehjdepkaaDrawD
import Derived.Test.YtggkelehjdepkaaAmL
import Derived.Deep.RegionHeld3
namespace Go.Proofs.Ytggkelehjdepkaa
section
open Go.RowKit
set_option linter.unusedVariables false
set_option linter.unusedSimpArgs false

/-- a coded picture's five cells -/
structure CdE where
  x : Int
  y : Int
  i : Bool
  q : Int
  A : Option Addr
  n : Nat
  cap : Nat
def hdV (e : CdE) : List Value := [.int .i64 e.x, .int .i64 e.y, .bool e.i, .int .i64 e.q, .slice e.A e.n e.cap]
/-- n coded pictures lie from A on -/
def CSAt (W : World) (A : Option Addr) (n : Nat) (E : Nat → CdE) : Prop :=
  n ≠ 0 → ∃ b off, A = some ⟨b, off, none⟩ ∧ b < W.heap.size ∧ ∀ i, i < n → ∀ j, j < 5 → W.cell? ⟨b, off + i * 5 + j, none⟩ = (hdV (E i))[j]?
theorem CSAt.keep {W W' : World} {A : Option Addr} {n : Nat} {E : Nat → CdE} (h : CSAt W A n E) (hb : Below W.heap.size W W') : CSAt W' A n E := fun hn => by
  obtain ⟨b, off, rfl, hlt, hc⟩ := h hn
  exact ⟨b, off, rfl, by have := hb.size; omega, fun i hi j hj => (hb.cell (p := ⟨b, off + i * 5 + j, none⟩) hlt).trans (hc i hi j hj)⟩
theorem CSAt.at_ {W : World} {A : Option Addr} {n : Nat} {E : Nat → CdE} (h : CSAt W A n E) {k : Nat} (hk : k < n) :
    ∃ b off, A = some ⟨b, off, none⟩ ∧ b < W.heap.size ∧ W.cell? ⟨b, off + k * 5, none⟩ = some (.int .i64 (E k).x) ∧ W.cell? ⟨b, off + k * 5 + 1, none⟩ = some (.int .i64 (E k).y) ∧ W.cell? ⟨b, off + k * 5 + 2, none⟩ = some (.bool (E k).i) ∧ W.cell? ⟨b, off + k * 5 + 3, none⟩ = some (.int .i64 (E k).q) ∧ W.cell? ⟨b, off + k * 5 + 4, none⟩ = some (.slice (E k).A (E k).n (E k).cap) := by
  obtain ⟨b, off, rfl, hlt, hc⟩ := h (by omega)
  exact ⟨b, off, rfl, hlt, hc k hk 0 (by omega), hc k hk 1 (by omega), hc k hk 2 (by omega), hc k hk 3 (by omega), hc k hk 4 (by omega)⟩
def hdsV (l : List CdE) : List Value := l.flatMap hdV
theorem hdV_len (e : CdE) : (hdV e).length = 5 := rfl
theorem hdsV_len : ∀ l : List CdE, (hdsV l).length = l.length * 5
  | [] => rfl
  | e :: l => by rw [hdsV, List.flatMap_cons, List.length_append, hdV_len, show (l.flatMap hdV).length = l.length * 5 from hdsV_len l, List.length_cons]; omega
theorem hdsV_at : ∀ (l : List CdE) (i j : Nat) (e : CdE), l[i]? = some e → j < 5 → (hdsV l)[i * 5 + j]? = (hdV e)[j]?
  | [], i, j, e, h, _ => by simp at h
  | e' :: l, 0, j, e, h, hj => by
    simp at h; subst h
    rw [hdsV, List.flatMap_cons, Nat.zero_mul, Nat.zero_add, List.getElem?_append_left (by rw [hdV_len]; exact hj)]
  | e' :: l, i + 1, j, e, h, hj => by
    simp at h
    rw [hdsV, List.flatMap_cons, List.getElem?_append_right (by rw [hdV_len]; omega), hdV_len, show (i + 1) * 5 + j - 5 = i * 5 + j by omega]
    exact hdsV_at l i j e h hj
theorem hdsV_snoc (l : List CdE) (e : CdE) : hdsV (l ++ [e]) = hdsV l ++ hdV e := by simp [hdsV]
def e0 : CdE := ⟨0, 0, false, 0, none, 0, 0⟩
theorem CSAt.of_own {w : World} {base T : Nat} {v : Value} {l : List CdE} (h : w.ownsRow base T 5 v l.length (hdsV l)) : ∃ (A : Option Addr) (c : Nat), v = .slice A l.length c ∧ CSAt w A l.length (fun i => l.getD i e0) := by
  obtain ⟨hl, h⟩ := h
  rcases h with ⟨rfl, h0⟩ | ⟨g, cap, cur, rfl, hb, hg, hn, hm, hs, ht⟩
  · exact ⟨none, 0, by rw [h0], fun hne => absurd h0 hne⟩
  · refine ⟨some ⟨g, 0, none⟩, cap, rfl, fun _ => ⟨g, 0, rfl, ?_, fun i hi j hj => ?_⟩⟩
    · rcases Nat.lt_or_ge g w.heap.size with h | h
      · exact h
      · rw [Array.getElem?_eq_none h] at hg; cases hg
    · have e1 : w.cell? ⟨g, 0 + i * 5 + j, none⟩ = cur[i * 5 + j]? := by simp [World.cell?, hg]
      rw [e1]
      have e2 : (cur.toList.take (l.length * 5))[i * 5 + j]? = (hdsV l)[i * 5 + j]? := by rw [ht]
      rw [List.getElem?_take, if_pos (by omega)] at e2
      rw [← Array.getElem?_toList, e2]
      have e3 : l[i]? = some (l.getD i e0) := by rw [List.getD_eq_getElem?_getD, List.getElem?_eq_getElem hi]; rfl
      exact hdsV_at l i j _ e3 hj

end

section
open Go.RowKit Go.Deep
set_option linter.unusedVariables false
set_option linter.unusedSimpArgs false

attribute [local go_sem] size_addsW cell?_addsW frozen?_addsW setCell_addsW drew_addsW adds_addsW setCell_twice alloc_adds0 size_adds0 adds_adds0 sel2 sel3 sel4 sel5 sel6 sel7 sel8 sel9 lt_more lt_more2 lt_more3 lt_more4 adds_drew adds_drewN drewN_addsW ltA_1_1 ltA_1_2 ltA_1_3 ltA_1_4 ltA_1_5 ltA_1_6 ltA_2_1 ltA_2_2 ltA_2_3 ltA_2_4 ltA_2_5 ltA_2_6 ltA_3_1 ltA_3_2 ltA_3_3 ltA_3_4 ltA_3_5 ltA_3_6 ltA_4_1 ltA_4_2 ltA_4_3 ltA_4_4 ltA_4_5 ltA_4_6 ltA_5_1 ltA_5_2 ltA_5_3 ltA_5_4 ltA_5_5 ltA_5_6 ltA_6_1 ltA_6_2 ltA_6_3 ltA_6_4 ltA_6_5 ltA_6_6 ltA_7_1 ltA_7_2 ltA_7_3 ltA_7_4 ltA_7_5 ltA_7_6 ltA_8_1 ltA_8_2 ltA_8_3 ltA_8_4 ltA_8_5 ltA_8_6 ltA_9_1 ltA_9_2 ltA_9_3 ltA_9_4 ltA_9_5 ltA_9_6 ltA_10_1 ltA_10_2 ltA_10_3 ltA_10_4 ltA_10_5 ltA_10_6 ltA_11_1 ltA_11_2 ltA_11_3 ltA_11_4 ltA_11_5 ltA_11_6 ltA_12_1 ltA_12_2 ltA_12_3 ltA_12_4 ltA_12_5 ltA_12_6

theorem all_add' {P : Program} {C : Code} {Q : Exit → Act → World → Prop} {a : Act} {W : World}
    (H : ∀ (X : World), X = W → Code.wp P C Q a X) : Code.wp P C Q a W := H _ rfl
/-- the numbers below k that f chooses -/
def keysU (f : Nat → Bool) : Nat → List Int
  | 0 => []
  | k + 1 => if f k then keysU f k ++ [(k : Int)] else keysU f k
def keysL (f : Nat → Bool) (n : Nat) : List Int := if n ≤ 8 then keysU f n else []
theorem keysU_len (f : Nat → Bool) : ∀ k, (keysU f k).length ≤ k
  | 0 => Nat.le_refl _
  | k + 1 => by have := keysU_len f k; rw [keysU]; split <;> simp <;> omega
theorem keysL_len (f : Nat → Bool) (n : Nat) : (keysL f n).length ≤ 8 := by
  unfold keysL
  split
  · have := keysU_len f n; omega
  · simp
theorem infoIntK : (Try.prog.info? 3).map (fun i => (i.zero, i.size, i.bytes)) = some (some (.int .i64 0), 1, 8) := by kernel_rfl
/-- a list of numbers that the call has made -/
def IntsGotK (l : List Int) (w : World) (e : Ending) (w' : World) : Prop :=
  ∃ (A : Option Addr) (c : Nat), e = .returned (.slice A l.length c) ∧ RowAt .i64 w' A l ∧ (∀ d, A = some d → w.heap.size ≤ d.block) ∧ (Soft w' A ∧ l.length ≤ c) ∧ Below w.heap.size w w'
/-- the numbers so far -/
def KeyRel (w : World) (f : Nat → Bool) (n : Nat) (v i : Value) (wr : World) : Prop :=
  ∃ k : Nat, k ≤ n ∧ i = .int .i64 (k : Int) ∧ wr.ownsRow w.heap.size 3 1 v (keysU f k).length ((keysU f k).map (Value.int .i64)) ∧ Below w.heap.size w wr

set_option maxRecDepth 100000 in
set_option maxHeartbeats 1000000 in
theorem S_KeyPictures (A : Option Addr) (n cap : Nat) (E : Nat → CdE) (f : Nat → Bool) (w : World) (h : CSAt w A n E) (hf : ∀ k, k < n → (E k).i = f k) (hn : n ≤ 1048576) :
    Calls Try.prog 29 #[.slice A n cap] w (IntsGotK (keysL f n) w) := by
  have HS := Lib.hid h
  have HF := Lib.hid hf
  clear h hf
  obtain ⟨i0, hi, hz0, hz1, hz2⟩ := info_parts infoIntK
  by_cases h8 : 8 < n
  · rw [show keysL f n = [] from if_neg (by omega)]
    have hd : ¬ (n : Int) ≤ 8 := by omega
    go_enter Try.func29, Try.ntmps29
    go_wp2_with fail
    go_loop [3, 4] (fun v i => i = .int .i64 0 ∧ v = .slice (some ⟨w.heap.size, 0, none⟩) 0 0) (fun _ i => 0)
    case atStart => exact ⟨rfl, rfl⟩
    case round =>
      obtain ⟨rfl, rfl⟩ := hrel
      have hd2 : (0 : Int) < (n : Int) := by omega
      go_wp2_with fail
      go_returns
      exact ⟨_, 0, rfl, (fun h => absurd rfl h), (fun d hd => by cases hd; exact Nat.le_refl _), ⟨Soft.new_ _ _ _ rfl, Nat.le_refl _⟩, (by repeat' (first | (with_reducible exact Below.refl _ _) | (with_reducible refine Below.adds_ ?_ ?_ _ _) | (with_reducible refine Below.alloc ?_ ?_ _) | (with_reducible refine Below.drew ?_) | (with_reducible refine Below.setCell ?_ ?_ _) | (with_reducible assumption) | go_size | (simp only [size_addsW, World.size_alloc, World.size_drew, World.size_setCell]; omega)))⟩
  · have hd8 : (n : Int) ≤ 8 := by omega
    have hkl : keysL f n = keysU f n := if_pos (by omega)
    have HKL := Lib.hid hkl
    clear hkl
    go_enter Try.func29, Try.ntmps29
    go_wp2_with fail
    go_loopw [3, 4] (fun v i wr => KeyRel w f n v i wr) (fun _ i _ => n - (intOf i).toNat)
    case atStart => exact ⟨0, Nat.zero_le _, rfl, own_lit_g w 3 _ rfl, (by repeat' (first | (with_reducible exact Below.refl _ _) | (with_reducible refine Below.adds_ ?_ ?_ _ _) | (with_reducible refine Below.alloc ?_ ?_ _) | (with_reducible refine Below.drew ?_) | (with_reducible refine Below.setCell ?_ ?_ _) | (with_reducible assumption) | go_size | (simp only [size_addsW, World.size_alloc, World.size_drew, World.size_setCell]; omega)))⟩
    case round =>
      obtain ⟨k, hk, rfl, hown, hb⟩ := hrel
      have HO := Lib.hid hown
      have HB := Lib.hid hb
      clear hown hb
      obtain ⟨A1, c1, e1, hlc, -⟩ := own_shape HO.out
      subst e1
      have hlen := keysU_len f k
      by_cases hlt : k < n
      · obtain ⟨b, off, rfl, hbl, -, -, c2, -, -⟩ := (HS.out.keep HB.out).at_ hlt
        rw [HF.out k hlt] at c2
        have hsz := HB.out.size
        have HK1 := Lib.hid (show keysU f (k + 1) = if f k then keysU f k ++ [(k : Int)] else keysU f k from rfl)
        generalize f k = fk at c2 HK1
        cases fk
        · go_wp2_with fail
          go_roundw
          case rel => exact ⟨k + 1, by omega, by go_num, by rw [HK1.out, if_neg (by decide)]; exact HO.out, HB.out⟩
          case measure => simp [intOf]; omega
        · obtain ⟨m, hm⟩ : ∃ m, m = (keysU f k).length := ⟨_, rfl⟩
          rw [← hm] at HO hlen hlc ⊢
          have HM := Lib.hid hm
          clear hm
          go_wp2_with (at_builtin; refine wpList_append_own_at _ rfl _ _ 59 rfl w.heap.size 3 i0 (.int .i64 0) 1 8 Try.underlying59 hi hz0 hz1 hz2 rfl (by decide) _ _ _ rfl (ownsRow_below HO.out (by rw [alloc_as]; exact addsW_below _ _ _)) ⟨_, 0, none⟩ 1 1 [.int .i64 (k : Int)] rfl rfl (news1 (by go_simp; done)) (one1 rfl) (by unfold maxLen; omega) (by omega) (by simp only [World.size_alloc]; omega) ?_; intro v' w1 hown1 hgrow1 _ hat1; obtain ⟨A2, cc2, e2, -⟩ := own_shape hown1; subst e2; have HO1 := Lib.hid hown1; have HG1 := Lib.hid hgrow1; clear hown1 hgrow1 hat1)
          go_roundw
          case rel => exact ⟨k + 1, by omega, by go_num, by rw [HK1.out, if_pos rfl, List.length_append, List.map_append, ← HM.out]; exact HO1.out, Below.grown (HB.out.trans (by rw [alloc_as]; exact (addsW_below _ _ _).mono hsz)) HG1.out (by simp only [World.size_alloc]; omega) (fun q e => (HO.out.lt q e).1)⟩
          case measure => simp [intOf]; omega
      · obtain rfl : k = n := by omega
        obtain ⟨A3, c3, e3, -, hcc, -, hr1, -⟩ := RowAt.of_ownS HO.out
        have hsf := Soft.of_own (e3 ▸ HO.out)
        have hA2 : ∀ d, A3 = some d → w.heap.size ≤ d.block := fun d hd => (HO.out.lt d.block (by rw [e3, hd]; rfl)).1
        injection e3 with e3 e4 e5
        subst e3
        subst e5
        have HR1 := Lib.hid hr1
        have HSF := Lib.hid hsf
        have HA2 := Lib.hid hA2
        clear hr1 hsf hA2
        go_wp2_with fail
        go_returns
        rw [HKL.out]
        exact ⟨_, _, rfl, HR1.out, HA2.out, ⟨HSF.out, hlc⟩, HB.out⟩

set_option maxRecDepth 100000 in
set_option maxHeartbeats 1000000 in
theorem I_KeyPictures (A : Option Addr) (n cap : Nat) (E : Nat → CdE) (f : Nat → Bool) (w : World) (h : CSAt w A n E) (hf : ∀ k, k < n → (E k).i = f k) (hn : n ≤ 1048576) :
    Calls Try.prog 27 #[.slice A n cap] w (IntsGotK (keysL f n) w) := by
  have HS := Lib.hid h
  have HF := Lib.hid hf
  clear h hf
  obtain ⟨i0, hi, hz0, hz1, hz2⟩ := info_parts infoIntK
  by_cases h8 : 8 < n
  · rw [show keysL f n = [] from if_neg (by omega)]
    have hd : (8 : Int) < (n : Int) := by omega
    go_enter Try.func27, Try.ntmps27
    go_wp2_with fail
    go_returns
    exact ⟨none, 0, rfl, (fun h => absurd rfl h), (fun d hd => by cases hd), ⟨(fun d hd => by cases hd), Nat.le_refl _⟩, (by repeat' (first | (with_reducible exact Below.refl _ _) | (with_reducible refine Below.adds_ ?_ ?_ _ _) | (with_reducible refine Below.alloc ?_ ?_ _) | (with_reducible refine Below.drew ?_) | (with_reducible refine Below.setCell ?_ ?_ _) | (with_reducible assumption) | go_size | (simp only [size_addsW, World.size_alloc, World.size_drew, World.size_setCell]; omega)))⟩
  · have hd8 : ¬ (8 : Int) < (n : Int) := by omega
    have hkl : keysL f n = keysU f n := if_pos (by omega)
    have HKL := Lib.hid hkl
    clear hkl
    go_enter Try.func27, Try.ntmps27
    go_wp2_with fail
    go_loopw [3, 11] (fun v i wr => KeyRel w f n v i wr) (fun _ i _ => n - (intOf i).toNat)
    case atStart => exact ⟨0, Nat.zero_le _, rfl, World.ownsRow_nil _ _ _ _, Below.refl _ _⟩
    case round =>
      obtain ⟨k, hk, rfl, hown, hb⟩ := hrel
      have HO := Lib.hid hown
      have HB := Lib.hid hb
      clear hown hb
      obtain ⟨A1, c1, e1, hlc, -⟩ := own_shape HO.out
      subst e1
      have hlen := keysU_len f k
      by_cases hlt : k < n
      · obtain ⟨b, off, rfl, hbl, d0, d1, d2, d3, d4⟩ := (HS.out.keep HB.out).at_ hlt
        rw [HF.out k hlt] at d2
        have hsz := HB.out.size
        have HK1 := Lib.hid (show keysU f (k + 1) = if f k then keysU f k ++ [(k : Int)] else keysU f k from rfl)
        generalize f k = fk at d2 HK1
        generalize (E k).x = x at *
        generalize (E k).y = y at *
        generalize (E k).q = q at *
        generalize (E k).A = AE at *
        generalize (E k).n = nE at *
        generalize (E k).cap = ce at *
        cases fk
        · go_wp2_with fail
          go_roundw
          case rel => exact ⟨k + 1, by omega, by go_num, by rw [HK1.out, if_neg (by decide)]; exact ownsRow_below HO.out (by rw [alloc_as]; exact addsW_below _ _ _), HB.out.trans (by rw [alloc_as]; exact (addsW_below _ _ _).mono hsz)⟩
          case measure => simp [intOf]; omega
        · obtain ⟨m, hm⟩ : ∃ m, m = (keysU f k).length := ⟨_, rfl⟩
          rw [← hm] at HO hlen hlc ⊢
          have HM := Lib.hid hm
          clear hm
          go_upto_region 8 with fail
          refine all_add' ?_
          intro Y hY
          have HB2 := Lib.hid (show Below wr.heap.size wr Y from by rw [hY]; exact (by repeat' (first | (with_reducible exact Below.refl _ _) | (with_reducible refine Below.adds_ ?_ ?_ _ _) | (with_reducible refine Below.alloc ?_ ?_ _) | (with_reducible refine Below.drew ?_) | (with_reducible refine Below.setCell ?_ ?_ _) | (with_reducible assumption) | go_size | (simp only [size_addsW, World.size_alloc, World.size_drew, World.size_setCell]; omega))))
          clear hY d0 d1 d2 d3 d4
          have hsz2 := HB2.out.size
          go_wp2_with (at_builtin; refine wpList_append_own_at _ rfl _ _ 59 rfl w.heap.size 3 i0 (.int .i64 0) 1 8 Try.underlying59 hi hz0 hz1 hz2 rfl (by decide) _ _ _ rfl (ownsRow_below (ownsRow_below HO.out HB2.out) (by rw [alloc_as]; exact addsW_below _ _ _)) ⟨_, 0, none⟩ 1 1 [.int .i64 (k : Int)] rfl rfl (news1 (by go_simp; done)) (one1 rfl) (by unfold maxLen; omega) (by omega) (by simp only [World.size_alloc]; omega) ?_; intro v' w1 hown1 hgrow1 _ hat1; obtain ⟨A2, cc2, e2, -⟩ := own_shape hown1; subst e2; have HO1 := Lib.hid hown1; have HG1 := Lib.hid hgrow1; clear hown1 hgrow1 hat1)
          go_roundw
          case rel => exact ⟨k + 1, by omega, by go_num, by rw [HK1.out, if_pos rfl, List.length_append, List.map_append, ← HM.out]; exact HO1.out, Below.grown ((HB.out.trans (HB2.out.mono hsz)).trans (by rw [alloc_as]; exact (addsW_below _ _ _).mono (by omega))) HG1.out (by simp only [World.size_alloc]; omega) (fun q e => (HO.out.lt q e).1)⟩
          case measure => simp [intOf]; omega
      · obtain rfl : k = n := by omega
        obtain ⟨A3, c3, e3, -, hcc, -, hr1, -⟩ := RowAt.of_ownS HO.out
        have hsf := Soft.of_own (e3 ▸ HO.out)
        have hA2 : ∀ d, A3 = some d → w.heap.size ≤ d.block := fun d hd => (HO.out.lt d.block (by rw [e3, hd]; rfl)).1
        injection e3 with e3 e4 e5
        subst e3
        subst e5
        have HR1 := Lib.hid hr1
        have HSF := Lib.hid hsf
        have HA2 := Lib.hid hA2
        clear hr1 hsf hA2
        go_wp2_with fail
        go_returns
        rw [HKL.out]
        exact ⟨_, _, rfl, HR1.out, HA2.out, ⟨HSF.out, hlc⟩, HB.out⟩

end

section
open Go.RowKit
set_option linter.unusedVariables false
set_option linter.unusedSimpArgs false

theorem foldl_set_at : ∀ (l : List Value) (o : Nat) (cells : Array Value) (i : Nat), ((l.zipIdx o).foldl (fun (cs : Array Value) (p : Value × Nat) => cs.setIfInBounds p.2 p.1) cells)[i]? = if o ≤ i ∧ i < o + l.length ∧ i < cells.size then l[i - o]? else cells[i]?
  | [], o, cells, i => by
    have : ¬ (o ≤ i ∧ i < o + ([] : List Value).length ∧ i < cells.size) := by simp; omega
    rw [if_neg this]; rfl
  | c :: l, o, cells, i => by
    rw [List.zipIdx_cons, List.foldl_cons, foldl_set_at l (o + 1) _ i]
    simp only [Array.size_setIfInBounds, Array.getElem?_setIfInBounds, List.length_cons]
    by_cases h1 : o = i
    · subst h1
      by_cases h2 : o < cells.size
      · simp [h2]; intro hh; omega
      · have hn : cells[o]? = none := Array.getElem?_eq_none (by omega)
        simp [h2, hn]
    · by_cases h2 : o + 1 ≤ i ∧ i < o + 1 + l.length ∧ i < cells.size
      · rw [if_pos h2, if_pos (by omega), show i - o = (i - (o + 1)) + 1 by omega, List.getElem?_cons_succ]
      · rw [if_neg h2, if_neg h1, if_neg (by omega)]
theorem fill_one (s : Nat) (cells vs : Array Value) (hc : cells.size = s) (hv : vs.size = s) : Instr.fill (fun i => some (i * s, s)) cells [(0, .agg vs)] = some vs := by
  have e : (Value.agg vs).cells = vs := rfl
  have h2 : (vs.zipIdx.foldl (fun (cs : Array Value) (x : Value × Nat) => cs.setIfInBounds (0 + x.2) x.1) cells) = vs := by
    rw [← Array.foldl_toList]
    have e3 : vs.zipIdx.toList = vs.toList.zipIdx := by simp
    rw [e3]
    apply Array.ext_getElem?
    intro i
    have := foldl_set_at vs.toList 0 cells i
    simp only [Nat.zero_add] at this ⊢
    rw [this]
    by_cases h : i < s
    · rw [if_pos (by simp; omega)]; simp
    · rw [if_neg (by simp; omega), Array.getElem?_eq_none (by omega), Array.getElem?_eq_none (by omega)]
  simp only [Instr.fill, e, Nat.zero_mul, hv, hc, Nat.zero_add, Nat.lt_irrefl, ne_eq, not_true_eq_false, decide_false, Bool.or_self, if_false]
  simp only [Nat.zero_add] at h2
  rw [if_neg (by decide)]
  exact congrArg some h2
theorem run_buildSlice_one {P : Program} (W : World) (t e : TypeId) (i : TypeInfo) (z : Value) (ht : P.underlying t = some (.slice e)) (hi : P.info? e = some i) (hz : i.zero = some z) (vs : Array Value) (s : Nat) (hs : i.size = s) (h0 : 0 < s) (hm : s ≤ 16777216) (hv : vs.size = s) :
    (Instr.buildSlice t 1 #[(0, .agg vs)]).run P W = .ok (.slice (some ⟨W.heap.size, 0, none⟩) 1 1) (W.alloc (.cells vs e)) := by
  have hf := fill_one s ((Array.range (1 * s)).map (fun k => z.cells[k % z.cells.size]!)) vs (by simp) hv
  have n1 : ¬ (1 * s > 2 ^ 24) := by omega
  have n2 : ¬ (1 * s = 0) := by omega
  simp only [Nat.one_mul] at hf n1 n2
  simp [Instr.buildSlice, run_underlying ht, typeInfo, hi, sizeOf, hs, zeroValue, hz, n1, n2, hf, newRow]

theorem wp_build_one {P : Program} {o : Oper} {a : Act} {W : World} {K : Act → World → Prop} {Q : Exit → Act → World → Prop} (t : TypeId) (x : Operand) (ho : o.op = .buildSlice t 1 #[(0, x)])
    (e : TypeId) (i : TypeInfo) (z : Value) (ht : P.underlying t = some (.slice e)) (hi : P.info? e = some i) (hz : i.zero = some z) (vs : Array Value) (s : Nat) (hs : i.size = s) (h0 : 0 < s) (hm : s ≤ 16777216) (hv : vs.size = s)
    (hx : a.eval x = .agg vs) (h : K (a.put o.dst (.slice (some ⟨W.heap.size, 0, none⟩) 1 1)) (W.alloc (.cells vs e))) : o.wp P a W K Q := by
  have hr := run_buildSlice_one (P := P) W t e i z ht hi hz vs s hs h0 hm hv
  unfold Oper.wp execOp
  simp only [ho, List.map_toArray, List.map_cons, List.map_nil, hx, Sem.run_bind, hr, Result.andThen_ok, Sem.run_pure]
  exact h

end

section
open Go.RowKit
set_option linter.unusedVariables false
set_option linter.unusedSimpArgs false

attribute [local go_sem] size_addsW cell?_addsW frozen?_addsW setCell_addsW drew_addsW adds_addsW setCell_twice alloc_adds0 size_adds0 adds_adds0 sel2 sel3 sel4 sel5 sel6 sel7 sel8 sel9 lt_more lt_more2 lt_more3 lt_more4 adds_drew adds_drewN drewN_addsW ltA_1_1 ltA_1_2 ltA_1_3 ltA_1_4 ltA_1_5 ltA_1_6 ltA_2_1 ltA_2_2 ltA_2_3 ltA_2_4 ltA_2_5 ltA_2_6 ltA_3_1 ltA_3_2 ltA_3_3 ltA_3_4 ltA_3_5 ltA_3_6 ltA_4_1 ltA_4_2 ltA_4_3 ltA_4_4 ltA_4_5 ltA_4_6 ltA_5_1 ltA_5_2 ltA_5_3 ltA_5_4 ltA_5_5 ltA_5_6 ltA_6_1 ltA_6_2 ltA_6_3 ltA_6_4 ltA_6_5 ltA_6_6 ltA_7_1 ltA_7_2 ltA_7_3 ltA_7_4 ltA_7_5 ltA_7_6 ltA_8_1 ltA_8_2 ltA_8_3 ltA_8_4 ltA_8_5 ltA_8_6 ltA_9_1 ltA_9_2 ltA_9_3 ltA_9_4 ltA_9_5 ltA_9_6 ltA_10_1 ltA_10_2 ltA_10_3 ltA_10_4 ltA_10_5 ltA_10_6 ltA_11_1 ltA_11_2 ltA_11_3 ltA_11_4 ltA_11_5 ltA_11_6 ltA_12_1 ltA_12_2 ltA_12_3 ltA_12_4 ltA_12_5 ltA_12_6

theorem S_l20Small (B p : Nat) (w : World) (h : RdAt w B p) (hp : p ≤ 900000000) :
    Calls Try.prog 74 #[.pointer (some ⟨B, 0, none⟩)] w fun e w' => ∃ x : Int, e = .returned (.int .i64 (8 * x)) ∧ 1 ≤ x ∧ x ≤ 3 ∧ Moved w B p 1 w' := by
  have hB := h.lt
  have hR := Lib.hid h
  clear h
  go_enter Try.func74, Try.ntmps74
  go_wp2_with (go_at_call 31; refine (S_pick B _ _ _ (by repeat (first | (with_reducible exact hR.out) | (with_reducible apply RdAt.adds) | (with_reducible apply RdAt.alloc) | (with_reducible exact RdAt.set hR.out _) | (with_reducible apply RdAt.drew))) (by omega)).mono ?_; rintro e w' ⟨v, p1, k1, rfl, hv, hp1, rfl⟩; have hv' := hv.1 (by omega); clear hv)
  go_returns
  have hs := selB (l := ([1, 1, 2, 2, 3] : List Int)) (i := v.toNat) (by simp; omega) 1 3 (by decide)
  generalize ([1, 1, 2, 2, 3] : List Int)[v.toNat]'(by simp; omega) = x at hs ⊢
  have hw8 : wrap64 (8 * x) = 8 * x := IntWalk.wrap64_in _ (by omega)
  simp only [hw8]
  exact ⟨x, rfl, hs.1, hs.2, (by repeat (first | (with_reducible apply Moved.adds) | (with_reducible apply Moved.alloc) | (with_reducible apply Moved.drew) | (exact Moved.base (by omega))))⟩

theorem row_news (W : World) (ys : List Int) (t : TypeId) : ∀ (j : Nat) (u : Value), (ys.map (Value.int .i64))[j]? = some u → (W.alloc (.cells (rowI ys) t)).cell? ((⟨W.heap.size, 0, none⟩ : Addr).add j) = some u := by
  intro j u hj
  rw [show (⟨W.heap.size, 0, none⟩ : Addr).add j = ⟨W.heap.size, 0 + j, none⟩ by unfold Addr.add; split <;> simp_all, Nat.zero_add, World.cell?_alloc_new]
  simpa [rowI] using hj
/-- macroblocks drawn -/
def MacsRel (w : World) (B p : Nat) (v i : Value) (wr : World) : Prop :=
  ∃ (k : Nat) (zs : List Int), i = .int .i64 (k : Int) ∧ k ≤ 3 ∧ AppInv w B p (1000 * k) 29 71 v k (zs.map (Value.int .i64)) wr

set_option maxRecDepth 100000 in
set_option maxHeartbeats 1000000 in
theorem S_l20Macros (B p m : Nat) (b : Bool) (w : World) (h : RdAt w B p) (hp : p ≤ 790000000) (hm : m ≤ 3) :
    Calls Try.prog 85 #[.pointer (some ⟨B, 0, none⟩), .int .i64 (m : Int), .bool b] w fun e w' => ∃ (A : Option Addr) (c : Nat) (zs : List Int), e = .returned (.slice A m c) ∧ RowAt .i64 w' A zs ∧ zs.length = m * 71 ∧ Moved w B p 3000 w' := by
  have hB := h.lt
  have hR := Lib.hid h
  clear h
  obtain ⟨i0, hi, hz0, hz1, hz2⟩ := info_parts infoMacZ
  go_enter Try.func85, Try.ntmps85
  go_wp2_with fail
  go_loopw [7, 8] (fun v i wr => (∃ k : Nat, i = .int .i64 (k : Int) ∧ k ≤ m) ∧ MacsRel w B p v i wr) (fun _ i _ => m - (intOf i).toNat)
  case atStart =>
    refine ⟨⟨0, rfl, Nat.zero_le _⟩, 0, [], rfl, by omega, AppInv.mk0 (by repeat (first | (with_reducible exact hR.out) | (with_reducible apply RdAt.adds) | (with_reducible apply RdAt.alloc) | (with_reducible exact RdAt.set hR.out _) | (with_reducible apply RdAt.drew))) (by omega) (by simpa using (Moved.start hR.out 0).alloc _) ?_⟩
    exact World.ownsRow_lit (base := w.heap.size) (e := 29) (size := 71) w #[] 0 (Nat.le_refl _) (by decide) rfl
  case round =>
    obtain ⟨⟨k, rfl, hkm⟩, k', zs, hkk, hk, hinv⟩ := hrel
    obtain rfl : k = k' := by injection hkk with _ hkk; omega
    clear hkk
    have HV := Lib.hid hinv
    obtain ⟨⟨q, hq, hRq⟩, hM0, hown0⟩ := hinv
    have hsz := hM0.size
    have hBr : B < wr.heap.size := by omega
    have hR := Lib.hid hRq
    have HO := Lib.hid hown0
    clear hRq hM0 hown0
    obtain ⟨A1, c1, rfl, hlc, -⟩ := own_shape HO.out
    by_cases hlt : k < m
    · have hd1 : decide ((k : Int) < (m : Int)) = true := by simp; omega
      go_wp2_with fail
      refine (S_l20Macro B _ _ _ _ (by repeat (first | (with_reducible exact hR.out) | (with_reducible apply RdAt.adds) | (with_reducible apply RdAt.alloc) | (with_reducible exact RdAt.set hR.out _) | (with_reducible apply RdAt.drew))) (by omega) (by omega)).mono ?_
      rintro e w1 ⟨ys, rfl, hy, hM⟩
      have HY := Lib.hid hy
      have HM := Lib.hid hM
      clear hy hM
      obtain ⟨q1, hq1, hR1⟩ := Moved.at_ hR.out HM.out
      have hs1 := HM.out.size
      go_wp2_with (first | (focus ((with_reducible refine wpList_wanted ?_ (fun K hK => ?_)); rotate_left; (refine wp_build_one 43 (.tmp 18) ?ho 29 i0 _ Try.underlying43 hi hz0 (rowI ys) 71 hz1 (by decide) (by decide) ?hv ?hx (hK _ _ ?_)); (case ho => with_reducible rfl); (case hv => rw [rowI_size, HY.out]); (case hx => rfl); rotate_left; rfl)) | (at_builtin; refine wpList_append_own_at _ rfl _ _ 43 rfl w.heap.size 29 i0 (.agg (rowI (zL 71))) 71 568 Try.underlying43 hi hz0 hz1 hz2 (by rw [show (Value.agg (rowI (zL 71))).cells = rowI (zL 71) from rfl, rowI_size, zL_len]) (by decide) _ _ _ rfl ((ownsRow_moved HO.out HM.out hB).alloc _) ⟨w1.heap.size, 0, none⟩ 1 1 (ys.map (Value.int .i64)) rfl (by rw [List.length_map, HY.out]) (row_news _ _ _) (fun u hu => by obtain ⟨z, -, rfl⟩ := List.mem_map.1 hu; rfl) (by unfold maxLen; omega) (by omega) (by simp only [World.size_alloc]; omega) ?_; intro v' w2 hown1 hgrow1 _ _; obtain ⟨A2, c2, rfl, -, -⟩ := own_shape hown1; have HO1 := Lib.hid hown1; have HG1 := Lib.hid hgrow1; clear hown1 hgrow1))
      go_roundw
      case rel =>
        refine ⟨⟨k + 1, by go_num, by omega⟩, k + 1, zs ++ ys, by go_num, by omega, ?_⟩
        have hst := HV.out.step (J := 1000) hB hR.out hq (HM.out.belo hBr (Below.alloc (Below.refl _ _) (Nat.le_refl _) _)) HG1.out HO1.out
        rw [List.map_append]
        exact hst.weak (by omega)
      case measure => simp [intOf]; omega
    · obtain rfl : k = m := by omega
      obtain ⟨A2, c2, e2, hl2, -, -, hrow, -⟩ := RowAt.of_ownS HO.out
      injection e2 with e3 e4 e5
      subst e3 e5
      have HRow := Lib.hid hrow
      have HL := Lib.hid hl2
      clear hrow hl2
      go_wp2_with fail
      go_returns
      exact ⟨_, ⟨_, rfl⟩, zs, HRow.out, HL.out, HV.out.2.1.weak (by omega)⟩

end

section
open Go.RowKit
set_option linter.unusedVariables false
set_option linter.unusedSimpArgs false

attribute [local go_sem] size_addsW cell?_addsW frozen?_addsW setCell_addsW drew_addsW adds_addsW setCell_twice alloc_adds0 size_adds0 adds_adds0 sel2 sel3 sel4 sel5 sel6 sel7 sel8 sel9 lt_more lt_more2 lt_more3 lt_more4 adds_drew adds_drewN drewN_addsW ltA_1_1 ltA_1_2 ltA_1_3 ltA_1_4 ltA_1_5 ltA_1_6 ltA_2_1 ltA_2_2 ltA_2_3 ltA_2_4 ltA_2_5 ltA_2_6 ltA_3_1 ltA_3_2 ltA_3_3 ltA_3_4 ltA_3_5 ltA_3_6 ltA_4_1 ltA_4_2 ltA_4_3 ltA_4_4 ltA_4_5 ltA_4_6 ltA_5_1 ltA_5_2 ltA_5_3 ltA_5_4 ltA_5_5 ltA_5_6 ltA_6_1 ltA_6_2 ltA_6_3 ltA_6_4 ltA_6_5 ltA_6_6 ltA_7_1 ltA_7_2 ltA_7_3 ltA_7_4 ltA_7_5 ltA_7_6 ltA_8_1 ltA_8_2 ltA_8_3 ltA_8_4 ltA_8_5 ltA_8_6 ltA_9_1 ltA_9_2 ltA_9_3 ltA_9_4 ltA_9_5 ltA_9_6 ltA_10_1 ltA_10_2 ltA_10_3 ltA_10_4 ltA_10_5 ltA_10_6 ltA_11_1 ltA_11_2 ltA_11_3 ltA_11_4 ltA_11_5 ltA_11_6 ltA_12_1 ltA_12_2 ltA_12_3 ltA_12_4 ltA_12_5 ltA_12_6

def cd5 (x y : Int) (i : Bool) (q : Int) (A : Option Addr) (n c : Nat) : Array Value := #[.int .i64 x, .int .i64 y, .bool i, .int .i64 q, .slice A n c]
/-- while a coded picture is drawn: the reader, the result's box, the picture's box, its slices -/
structure CdSt (w : World) (B p K g1 : Nat) (x y : Int) (i : Bool) (q : Int) (A : Option Addr) (n c : Nat) (xs : List Value) (wr : World) : Prop where
  v : AppInv w B p K 22 1 (.slice A n c) n xs wr
  r : Blk wr w.heap.size (cd5 0 0 false 0 none 0 0) 64
  c : Blk wr g1 (cd5 x y i q A n c) 64
  g : w.heap.size < g1
theorem Blk.moved {W W' : World} {k B p K : Nat} {cs : Array Value} {t : TypeId} (h : Blk W k cs t) (hM : Moved W B p K W') (hk : k ≠ B) : Blk W' k cs t := h.grown (moved_grown hM) (fun e => by injection e with e; exact hk e.symm)
theorem AppInv.belo {w wr W' : World} {B p K E size n : Nat} {v : Value} {xs : List Value} (hB : B < w.heap.size) (h : AppInv w B p K E size v n xs wr) (hb : Below wr.heap.size wr W') : AppInv w B p K E size v n xs W' := by
  obtain ⟨⟨q, hq, hR⟩, h2, h3⟩ := h
  exact ⟨⟨q, hq, hR.below hb hR.lt⟩, h2.belo hB hb, ownsRow_below h3 hb⟩
section
variable {w wr W' w1 : World} {B p K J g1 q' : Nat} {x y q : Int} {i : Bool} {A A' : Option Addr} {n c n' c' : Nat} {xs xs' : List Value}
theorem CdSt.move (hB : B < w.heap.size) (h : CdSt w B p K g1 x y i q A n c xs wr) (hR : RdAt wr B q') (hq : q' ≤ p + K) (hM : Moved wr B q' J W') : CdSt w B p (K + J) g1 x y i q A n c xs W' :=
  ⟨h.v.move hB hR hq hM, h.r.moved hM (by omega), h.c.moved hM (by have := h.g; omega), h.g⟩
theorem CdSt.belo (hB : B < w.heap.size) (h : CdSt w B p K g1 x y i q A n c xs wr) (hb : Below wr.heap.size wr W') : CdSt w B p K g1 x y i q A n c xs W' :=
  ⟨h.v.belo hB hb, h.r.below hb h.r.lt, h.c.below hb h.c.lt, h.g⟩
theorem CdSt.drew (hB : B < w.heap.size) (h : CdSt w B p K g1 x y i q A n c xs wr) : CdSt w B p K g1 x y i q A n c xs wr.drew := h.belo hB ((Below.refl _ _).drew)
theorem CdSt.app (hB : B < w.heap.size) (h : CdSt w B p K g1 x y i q A n c xs wr) (hg : wr.grownBy w1 (Value.slice A n c).ownBlock) (hown : w1.ownsRow w.heap.size 22 1 (.slice A' n' c') n' xs') :
    CdSt w B p K g1 x y i q A' n' c' xs' (w1.setCell ⟨g1, 4, none⟩ (.slice A' n' c')) := by
  have hne1 := own_ne h.v.2.2 h.r (by decide)
  have hne2 := own_ne h.v.2.2 h.c (by decide)
  have hr1 := h.r.grown hg hne1
  have hc1 := h.c.grown hg hne2
  have hg1 := h.g
  obtain ⟨⟨p', hp', hR⟩, hM, hO⟩ := h.v
  have hR1 := hR.grown hg (fun k e => by have := (hO.lt k e).1; omega)
  have hM1 := hM.step hB hg (fun k e => (hO.lt k e).1)
  refine ⟨⟨⟨p', hp', hR1.far (by simp only; omega) _⟩, hM1.own hB (by simp only; omega) _, hown.kept (grownBy_setCell _ _ _) (.inr (own_ne hown hc1 (by decide)))⟩, hr1.other (by simp only; omega) _, hc1.set 4 _, hg1⟩
theorem CdSt.cell (h : CdSt w B p K g1 x y i q A n c xs wr) (hg : wr.grownBy w1 (Value.slice A n c).ownBlock) : w1.cell? ⟨g1, 4, none⟩ = some (.slice A n c) ∧ w1.frozen? ⟨g1, 4, none⟩ = false :=
  have h1 := h.c.grown hg (own_ne h.v.2.2 h.c (by decide))
  ⟨h1.get (i := 4) rfl, h1.hot 4⟩
end
/-- behind the changes: the boxes alone -/
def CdFin (w : World) (B p g1 : Nat) (wr : World) : Prop := ∃ (x y : Int) (i : Bool) (q : Int) (A : Option Addr) (n c : Nat), Moved w B p 10000 wr ∧ Blk wr w.heap.size (cd5 0 0 false 0 none 0 0) 64 ∧ Blk wr g1 (cd5 x y i q A n c) 64 ∧ w.heap.size < g1
theorem all_z {P : Program} {C : Code} {Q : Exit → Act → World → Prop} {a : Act} {W : World}
    (H : ∀ (X : World), X = W → Code.wp P C Q a X) : Code.wp P C Q a W := H _ rfl
theorem infoSl : (Try.prog.info? 22).map (fun i => (i.zero, i.size, i.bytes)) = some (some (.slice none 0 0), 1, 24) := by kernel_rfl
theorem infoCd5 : (Try.prog.info? 64).map (·.size) = some 5 := by kernel_rfl

set_option maxRecDepth 100000 in
set_option maxHeartbeats 2000000 in
theorem S_l20Coded (B p X Y : Nat) (b : Bool) (n0 : Int) (w : World) (h : RdAt w B p) (hp : p ≤ 700000000) (hX : 1 ≤ X ∧ X ≤ 3) (hY : 1 ≤ Y ∧ Y ≤ 3) (hn : -1000000 ≤ n0) :
    Calls Try.prog 75 #[.pointer (some ⟨B, 0, none⟩), .int .i64 (8 * (X : Int)), .int .i64 (8 * (Y : Int)), .bool b, .int .i64 n0] w fun e w' => ∃ (x y : Int) (i : Bool) (q : Int) (A : Option Addr) (n c : Nat), e = .returned (.agg #[.int .i64 x, .int .i64 y, .bool i, .int .i64 q, .slice A n c]) ∧ Moved w B p 10000 w' := by
  have hB := h.lt
  have hR := Lib.hid h
  clear h
  obtain ⟨i0, hi, hz0, hz1, hz2⟩ := info_parts infoSl
  go_enter Try.func75, Try.ntmps75
  go_upto_region 2 with (go_at_call 84; refine (S_l20Q B _ _ _ (hR.out.alloc _) (by omega) (by omega)).mono ?_; rintro e w1 ⟨q, rfl, hq0, hq1, hM⟩; have HM := Lib.hid hM; clear hM)
  obtain ⟨q1, hq1, hR1⟩ := Moved.at_ (hR.out.alloc _) HM.out
  have hs1 := HM.out.size
  simp only [World.size_alloc] at hs1
  have hM1 := ((Moved.start hR.out 0).alloc _).trans (K'' := 4) hB HM.out (by omega)
  have hr1 : Blk w1 w.heap.size (cd5 0 0 false 0 none 0 0) 64 := (Blk.new w _ _ _ rfl).moved HM.out (by omega)
  have HC0 := Lib.hid (show CdSt w B p (4 + 3000 * 0) w1.heap.size (8 * (X : Int)) (8 * (Y : Int)) b q none 0 0 [] (w1.alloc (.cells (cd5 (8 * (X : Int)) (8 * (Y : Int)) b q none 0 0) 64)) from
    ⟨AppInv.mk0 (hR1.alloc _) (by omega) (hM1.alloc _) (World.ownsRow_nil _ _ _ _), hr1.alloc _, Blk.new _ _ _ _ rfl, by omega⟩)
  clear HM hR1 hM1 hr1 hq1
  change Code.wp _ _ _ _ (w1.alloc (.cells (cd5 (8 * (X : Int)) (8 * (Y : Int)) b q none 0 0) 64))
  generalize w1.alloc (.cells (cd5 (8 * (X : Int)) (8 * (Y : Int)) b q none 0 0) 64) = W0 at *
  generalize w1.heap.size = g1 at *
  clear w1 hR
  have hqX : (8 * (X : Int)).tdiv 8 = (X : Int) := by rw [Int.mul_tdiv_cancel_left _ (by decide)]
  have hqY : (8 * (Y : Int)).tdiv 8 = (Y : Int) := by rw [Int.mul_tdiv_cancel_left _ (by decide)]
  go_wp2_with fail
  go_loopw [12] (fun i wr => ∃ (k : Nat) (A : Option Addr) (c : Nat) (xs : List Value), i = .int .i64 (k : Int) ∧ k ≤ Y ∧ CdSt w B p (4 + 3000 * k) g1 (8 * (X : Int)) (8 * (Y : Int)) b q A k c xs wr) (fun i _ => Y - (intOf i).toNat)
  case atStart => exact ⟨0, none, 0, [], rfl, Nat.zero_le _, HC0.out⟩
  case round =>
    clear HC0
    clear W0
    obtain ⟨k, A, c, xs, rfl, hk, hC⟩ := hrel
    have HC := Lib.hid hC
    obtain ⟨⟨q', hq', hRq⟩, hMv, hOw⟩ := hC.v
    have hR := Lib.hid hRq
    have hl1 := hC.c.lt
    have hgg := hC.g
    have hsw := hMv.size
    clear hC hRq hMv hOw
    by_cases hlt : k < Y
    · have hd1 : decide ((k : Int) < (Y : Int)) = true := by simp; omega
      have c4 : wr.cell? ⟨g1, 4, none⟩ = some (.slice A k c) := HC.out.c.get (i := 4) rfl
      have hqb : q' ≤ 790000000 := by omega
      have hwX : IntKind.i64.wrap (X : Int) = (X : Int) := IntWalk.i64_in _ (by omega)
      go_upto_region 5 with fail
      refine wp_region_held_drew (S := (fun w' => True)) (by kernel_rfl) ?_ (fun hHeld => ?_)
      · trivial
      refine wpAnyH_take (i := 0) (oi := _) (v := ?_) rfl (by kernel_rfl) (by kernel_rfl) (by kernel_rfl) (fun _ _ _ h => h) (Or.inl ⟨by rfl, ?_⟩) (by assumption) ?_
      rotate_left
      · intro w hSw; (try dsimp only at hSw); go_simp; (try with_reducible rfl)
      try dsimp only [List.getElem_toArray, List.getElem_cons_succ, List.getElem_cons_zero]
      simp only [Act.put, List.setIfInBounds_toArray, List.set_cons_zero, List.set_cons_succ]
      refine wpAnyH_take (i := 2) (oi := _) (v := ?_) rfl (by kernel_rfl) (by kernel_rfl) (by kernel_rfl) (fun _ _ _ h => h) (Or.inl ⟨by rfl, ?_⟩) (by assumption) ?_
      rotate_left
      · intro w hSw; (try dsimp only at hSw); go_simp; (try with_reducible rfl)
      try dsimp only [List.getElem_toArray, List.getElem_cons_succ, List.getElem_cons_zero]
      simp only [Act.put, List.setIfInBounds_toArray, List.set_cons_zero, List.set_cons_succ]
      refine wpAnyH_take (i := 3) (oi := _) (v := ?_) rfl (by kernel_rfl) (by kernel_rfl) (by kernel_rfl) (fun _ _ _ h => h) (Or.inl ⟨by rfl, ?_⟩) (by assumption) ?_
      rotate_left
      · intro w hSw; (try dsimp only at hSw); go_simp; (try with_reducible rfl)
      try dsimp only [List.getElem_toArray, List.getElem_cons_succ, List.getElem_cons_zero]
      simp only [Act.put, List.setIfInBounds_toArray, List.set_cons_zero, List.set_cons_succ]
      refine wpAnyH_take (i := 4) (oi := _) (v := ?_) rfl (by kernel_rfl) (by kernel_rfl) (by kernel_rfl) (fun _ _ _ h => h) (Or.inl ⟨by rfl, ?_⟩) (by assumption) ?_
      rotate_left
      · intro w hSw; (try dsimp only at hSw); go_simp; (try with_reducible rfl)
      try dsimp only [List.getElem_toArray, List.getElem_cons_succ, List.getElem_cons_zero]
      simp only [Act.put, List.setIfInBounds_toArray, List.set_cons_zero, List.set_cons_succ]
      refine wpAnyH_take (i := 5) (oi := _) (v := ?_) rfl (by kernel_rfl) (by kernel_rfl) (by kernel_rfl) (fun _ _ _ h => h) (Or.inl ⟨by rfl, ?_⟩) (by assumption) ?_
      rotate_left
      · intro w hSw; (try dsimp only at hSw); go_simp; (try with_reducible rfl)
      try dsimp only [List.getElem_toArray, List.getElem_cons_succ, List.getElem_cons_zero]
      simp only [Act.put, List.setIfInBounds_toArray, List.set_cons_zero, List.set_cons_succ]
      refine wpAnyH_take (i := 7) (oi := _) (v := ?_) rfl (by kernel_rfl) (by kernel_rfl) (by kernel_rfl) (fun _ _ _ h => h) (Or.inl ⟨by rfl, ?_⟩) (by assumption) ?_
      rotate_left
      · intro w hSw; (try dsimp only at hSw); go_simp; (try with_reducible rfl)
      try dsimp only [List.getElem_toArray, List.getElem_cons_succ, List.getElem_cons_zero]
      simp only [Act.put, List.setIfInBounds_toArray, List.set_cons_zero, List.set_cons_succ]
      refine wpAnyH_ready (rs := [1, 6]) (by kernel_rfl) (by simp) ?_
      refine AllReadyH.cons (o := _) rfl (fun K hK => ?_) ?_
      · (try dsimp only [List.getElem_toArray, List.getElem_cons_succ, List.getElem_cons_zero]); go_simp
        refine hK.out _ _ ?_ (fun hHeld => ?_)
        · trivial
        clear hK K
        try simp only [Act.put, List.setIfInBounds_toArray, List.set_cons_zero, List.set_cons_succ]
        refine wpAnyH_ready (rs := [6]) (by kernel_rfl) (by simp) ?_
        refine AllReadyH.cons (o := _) rfl (fun K hK => ?_) ?_
        · (try dsimp only [List.getElem_toArray, List.getElem_cons_succ, List.getElem_cons_zero]); go_simp
          (first | (go_at_call 85; refine (S_l20Macros B q' X b _ hR.out.drew (by omega) (by omega)).mono ?_; rintro e w1 ⟨A1, cc1, zs, rfl, hr1, hz1', hM⟩; have HC1 := Lib.hid ((HC.out.drew hB).move hB hR.out.drew hq' hM); have HR1 := Lib.hid hr1; have HZ1 := Lib.hid hz1'; have c41 := HC1.out.c.get (i := 4) rfl; have l41 := HC1.out.c.lt; clear hr1 hz1' hM) | (go_at_call 14; refine (S_EncodeSlice A1 X cc1 zs b _ HR1.out HZ1.out (by omega)).mono ?_; rintro e w2 ⟨A2, cc2, rfl, -, -, -, hb⟩; have HC2 := Lib.hid (HC1.out.belo hB hb); have c42 := HC2.out.c.get (i := 4) rfl; have l42 := HC2.out.c.lt; clear hb))
          try go_wp2_with fail
          refine hK.out _ _ ?_ (fun hHeld => ?_)
          · trivial
          clear hK K
          try simp only [Act.put, List.setIfInBounds_toArray, List.set_cons_zero, List.set_cons_succ]
          refine wpAnyH_ready (rs := [8]) (by kernel_rfl) (by simp) ?_
          refine AllReadyH.cons (o := _) rfl (fun K hK => ?_) ?_
          · (try dsimp only [List.getElem_toArray, List.getElem_cons_succ, List.getElem_cons_zero]); go_simp
            (first | (go_at_call 85; refine (S_l20Macros B q' X b _ hR.out.drew (by omega) (by omega)).mono ?_; rintro e w1 ⟨A1, cc1, zs, rfl, hr1, hz1', hM⟩; have HC1 := Lib.hid ((HC.out.drew hB).move hB hR.out.drew hq' hM); have HR1 := Lib.hid hr1; have HZ1 := Lib.hid hz1'; have c41 := HC1.out.c.get (i := 4) rfl; have l41 := HC1.out.c.lt; clear hr1 hz1' hM) | (go_at_call 14; refine (S_EncodeSlice A1 X cc1 zs b _ HR1.out HZ1.out (by omega)).mono ?_; rintro e w2 ⟨A2, cc2, rfl, -, -, -, hb⟩; have HC2 := Lib.hid (HC1.out.belo hB hb); have c42 := HC2.out.c.get (i := 4) rfl; have l42 := HC2.out.c.lt; clear hb))
            try go_wp2_with fail
            refine hK.out _ _ ?_ (fun hHeld => ?_)
            · trivial
            clear hK K
            try simp only [Act.put, List.setIfInBounds_toArray, List.set_cons_zero, List.set_cons_succ]
            refine wpAnyH_ready (rs := [9]) (by kernel_rfl) (by simp) ?_
            refine AllReadyH.cons (o := _) rfl (fun K hK => ?_) ?_
            · (try dsimp only [List.getElem_toArray, List.getElem_cons_succ, List.getElem_cons_zero]); go_simp
              refine hK.out _ _ ?_ (fun hHeld => ?_)
              · trivial
              clear hK K
              try simp only [Act.put, List.setIfInBounds_toArray, List.set_cons_zero, List.set_cons_succ]
              refine wpAnyH_ready (rs := [10]) (by kernel_rfl) (by simp) ?_
              refine AllReadyH.cons (o := _) rfl (fun K hK => ?_) ?_
              · (try dsimp only [List.getElem_toArray, List.getElem_cons_succ, List.getElem_cons_zero])
                (rw [if_pos (by rfl)]; refine wp_append_own _ _ _ 62 rfl w.heap.size 22 i0 (.slice none 0 0) 1 24 Try.underlying62 hi hz0 hz1 hz2 rfl (by decide) _ _ _ rfl (HC2.out.v.2.2.alloc _) ⟨_, 0, none⟩ 1 1 [_] rfl rfl (cell_one_new _ _ _) (by exact one1 rfl) (by unfold maxLen; omega) (by omega) (by have := HC2.out.c.lt; simp only [World.size_alloc]; omega) ?_; intro v' w3 hown1 hgrow1 _; obtain ⟨A3, cc3, e3, -⟩ := own_shape hown1; subst e3; have HC3 := Lib.hid ((HC2.out.belo hB (Below.alloc (Below.refl _ _) (Nat.le_refl _) _)).app hB hgrow1 hown1); obtain ⟨c43, f43⟩ := (HC2.out.belo hB (Below.alloc (Below.refl _ _) (Nat.le_refl _) _)).cell hgrow1)
                refine hK.out _ _ ?_ (fun hHeld => ?_)
                · trivial
                clear hK K
                try simp only [Act.put, List.setIfInBounds_toArray, List.set_cons_zero, List.set_cons_succ]
                refine wpAnyH_take (i := 11) (oi := _) (v := ?_) rfl (by kernel_rfl) (by kernel_rfl) (by kernel_rfl) (fun _ _ _ h => h) (Or.inl ⟨by rfl, ?_⟩) (by assumption) ?_
                rotate_left
                · intro w hSw; (try dsimp only at hSw); go_simp; (try with_reducible rfl)
                try dsimp only [List.getElem_toArray, List.getElem_cons_succ, List.getElem_cons_zero]
                simp only [Act.put, List.setIfInBounds_toArray, List.set_cons_zero, List.set_cons_succ]
                refine wpAnyH_ready (rs := [12]) (by kernel_rfl) (by simp) ?_
                refine AllReadyH.cons (o := _) rfl (fun K hK => ?_) ?_
                · (try dsimp only [List.getElem_toArray, List.getElem_cons_succ, List.getElem_cons_zero]); go_simp
                  refine hK.out _ _ ?_ (fun hHeld => ?_)
                  · trivial
                  clear hK K
                  try simp only [Act.put, List.setIfInBounds_toArray, List.set_cons_zero, List.set_cons_succ]
                  refine wpAnyH_done (by kernel_rfl) ?_ _
                  go_wp2_with fail
                  go_roundw
                  case rel => exact ⟨k + 1, _, _, _, by go_num, by omega, by rw [show 4 + 3000 * (k + 1) = 4 + 3000 * k + 3000 by omega]; exact HC3.out⟩
                  case measure => simp [intOf]; omega
                exact AllReadyH.nil
              exact AllReadyH.nil
            exact AllReadyH.nil
          exact AllReadyH.nil
        exact AllReadyH.nil
      refine AllReadyH.cons (o := _) rfl (fun K hK => ?_) ?_
      · (try dsimp only [List.getElem_toArray, List.getElem_cons_succ, List.getElem_cons_zero]); go_simp
        (first | (go_at_call 85; refine (S_l20Macros B q' X b _ hR.out.drew (by omega) (by omega)).mono ?_; rintro e w1 ⟨A1, cc1, zs, rfl, hr1, hz1', hM⟩; have HC1 := Lib.hid ((HC.out.drew hB).move hB hR.out.drew hq' hM); have HR1 := Lib.hid hr1; have HZ1 := Lib.hid hz1'; have c41 := HC1.out.c.get (i := 4) rfl; have l41 := HC1.out.c.lt; clear hr1 hz1' hM) | (go_at_call 14; refine (S_EncodeSlice A1 X cc1 zs b _ HR1.out HZ1.out (by omega)).mono ?_; rintro e w2 ⟨A2, cc2, rfl, -, -, -, hb⟩; have HC2 := Lib.hid (HC1.out.belo hB hb); have c42 := HC2.out.c.get (i := 4) rfl; have l42 := HC2.out.c.lt; clear hb))
        try go_wp2_with fail
        refine hK.out _ _ ?_ (fun hHeld => ?_)
        · trivial
        clear hK K
        try simp only [Act.put, List.setIfInBounds_toArray, List.set_cons_zero, List.set_cons_succ]
        refine wpAnyH_ready (rs := [1, 8]) (by kernel_rfl) (by simp) ?_
        refine AllReadyH.cons (o := _) rfl (fun K hK => ?_) ?_
        · (try dsimp only [List.getElem_toArray, List.getElem_cons_succ, List.getElem_cons_zero]); go_simp
          refine hK.out _ _ ?_ (fun hHeld => ?_)
          · trivial
          clear hK K
          try simp only [Act.put, List.setIfInBounds_toArray, List.set_cons_zero, List.set_cons_succ]
          refine wpAnyH_ready (rs := [8]) (by kernel_rfl) (by simp) ?_
          refine AllReadyH.cons (o := _) rfl (fun K hK => ?_) ?_
          · (try dsimp only [List.getElem_toArray, List.getElem_cons_succ, List.getElem_cons_zero]); go_simp
            (first | (go_at_call 85; refine (S_l20Macros B q' X b _ hR.out.drew (by omega) (by omega)).mono ?_; rintro e w1 ⟨A1, cc1, zs, rfl, hr1, hz1', hM⟩; have HC1 := Lib.hid ((HC.out.drew hB).move hB hR.out.drew hq' hM); have HR1 := Lib.hid hr1; have HZ1 := Lib.hid hz1'; have c41 := HC1.out.c.get (i := 4) rfl; have l41 := HC1.out.c.lt; clear hr1 hz1' hM) | (go_at_call 14; refine (S_EncodeSlice A1 X cc1 zs b _ HR1.out HZ1.out (by omega)).mono ?_; rintro e w2 ⟨A2, cc2, rfl, -, -, -, hb⟩; have HC2 := Lib.hid (HC1.out.belo hB hb); have c42 := HC2.out.c.get (i := 4) rfl; have l42 := HC2.out.c.lt; clear hb))
            try go_wp2_with fail
            refine hK.out _ _ ?_ (fun hHeld => ?_)
            · trivial
            clear hK K
            try simp only [Act.put, List.setIfInBounds_toArray, List.set_cons_zero, List.set_cons_succ]
            refine wpAnyH_ready (rs := [9]) (by kernel_rfl) (by simp) ?_
            refine AllReadyH.cons (o := _) rfl (fun K hK => ?_) ?_
            · (try dsimp only [List.getElem_toArray, List.getElem_cons_succ, List.getElem_cons_zero]); go_simp
              refine hK.out _ _ ?_ (fun hHeld => ?_)
              · trivial
              clear hK K
              try simp only [Act.put, List.setIfInBounds_toArray, List.set_cons_zero, List.set_cons_succ]
              refine wpAnyH_ready (rs := [10]) (by kernel_rfl) (by simp) ?_
              refine AllReadyH.cons (o := _) rfl (fun K hK => ?_) ?_
              · (try dsimp only [List.getElem_toArray, List.getElem_cons_succ, List.getElem_cons_zero])
                (rw [if_pos (by rfl)]; refine wp_append_own _ _ _ 62 rfl w.heap.size 22 i0 (.slice none 0 0) 1 24 Try.underlying62 hi hz0 hz1 hz2 rfl (by decide) _ _ _ rfl (HC2.out.v.2.2.alloc _) ⟨_, 0, none⟩ 1 1 [_] rfl rfl (cell_one_new _ _ _) (by exact one1 rfl) (by unfold maxLen; omega) (by omega) (by have := HC2.out.c.lt; simp only [World.size_alloc]; omega) ?_; intro v' w3 hown1 hgrow1 _; obtain ⟨A3, cc3, e3, -⟩ := own_shape hown1; subst e3; have HC3 := Lib.hid ((HC2.out.belo hB (Below.alloc (Below.refl _ _) (Nat.le_refl _) _)).app hB hgrow1 hown1); obtain ⟨c43, f43⟩ := (HC2.out.belo hB (Below.alloc (Below.refl _ _) (Nat.le_refl _) _)).cell hgrow1)
                refine hK.out _ _ ?_ (fun hHeld => ?_)
                · trivial
                clear hK K
                try simp only [Act.put, List.setIfInBounds_toArray, List.set_cons_zero, List.set_cons_succ]
                refine wpAnyH_take (i := 11) (oi := _) (v := ?_) rfl (by kernel_rfl) (by kernel_rfl) (by kernel_rfl) (fun _ _ _ h => h) (Or.inl ⟨by rfl, ?_⟩) (by assumption) ?_
                rotate_left
                · intro w hSw; (try dsimp only at hSw); go_simp; (try with_reducible rfl)
                try dsimp only [List.getElem_toArray, List.getElem_cons_succ, List.getElem_cons_zero]
                simp only [Act.put, List.setIfInBounds_toArray, List.set_cons_zero, List.set_cons_succ]
                refine wpAnyH_ready (rs := [12]) (by kernel_rfl) (by simp) ?_
                refine AllReadyH.cons (o := _) rfl (fun K hK => ?_) ?_
                · (try dsimp only [List.getElem_toArray, List.getElem_cons_succ, List.getElem_cons_zero]); go_simp
                  refine hK.out _ _ ?_ (fun hHeld => ?_)
                  · trivial
                  clear hK K
                  try simp only [Act.put, List.setIfInBounds_toArray, List.set_cons_zero, List.set_cons_succ]
                  refine wpAnyH_done (by kernel_rfl) ?_ _
                  go_wp2_with fail
                  go_roundw
                  case rel => exact ⟨k + 1, _, _, _, by go_num, by omega, by rw [show 4 + 3000 * (k + 1) = 4 + 3000 * k + 3000 by omega]; exact HC3.out⟩
                  case measure => simp [intOf]; omega
                exact AllReadyH.nil
              exact AllReadyH.nil
            exact AllReadyH.nil
          exact AllReadyH.nil
        refine AllReadyH.cons (o := _) rfl (fun K hK => ?_) ?_
        · (try dsimp only [List.getElem_toArray, List.getElem_cons_succ, List.getElem_cons_zero]); go_simp
          (first | (go_at_call 85; refine (S_l20Macros B q' X b _ hR.out.drew (by omega) (by omega)).mono ?_; rintro e w1 ⟨A1, cc1, zs, rfl, hr1, hz1', hM⟩; have HC1 := Lib.hid ((HC.out.drew hB).move hB hR.out.drew hq' hM); have HR1 := Lib.hid hr1; have HZ1 := Lib.hid hz1'; have c41 := HC1.out.c.get (i := 4) rfl; have l41 := HC1.out.c.lt; clear hr1 hz1' hM) | (go_at_call 14; refine (S_EncodeSlice A1 X cc1 zs b _ HR1.out HZ1.out (by omega)).mono ?_; rintro e w2 ⟨A2, cc2, rfl, -, -, -, hb⟩; have HC2 := Lib.hid (HC1.out.belo hB hb); have c42 := HC2.out.c.get (i := 4) rfl; have l42 := HC2.out.c.lt; clear hb))
          try go_wp2_with fail
          refine hK.out _ _ ?_ (fun hHeld => ?_)
          · trivial
          clear hK K
          try simp only [Act.put, List.setIfInBounds_toArray, List.set_cons_zero, List.set_cons_succ]
          refine wpAnyH_ready (rs := [1, 9]) (by kernel_rfl) (by simp) ?_
          refine AllReadyH.cons (o := _) rfl (fun K hK => ?_) ?_
          · (try dsimp only [List.getElem_toArray, List.getElem_cons_succ, List.getElem_cons_zero]); go_simp
            refine hK.out _ _ ?_ (fun hHeld => ?_)
            · trivial
            clear hK K
            try simp only [Act.put, List.setIfInBounds_toArray, List.set_cons_zero, List.set_cons_succ]
            refine wpAnyH_ready (rs := [9]) (by kernel_rfl) (by simp) ?_
            refine AllReadyH.cons (o := _) rfl (fun K hK => ?_) ?_
            · (try dsimp only [List.getElem_toArray, List.getElem_cons_succ, List.getElem_cons_zero]); go_simp
              refine hK.out _ _ ?_ (fun hHeld => ?_)
              · trivial
              clear hK K
              try simp only [Act.put, List.setIfInBounds_toArray, List.set_cons_zero, List.set_cons_succ]
              refine wpAnyH_ready (rs := [10]) (by kernel_rfl) (by simp) ?_
              refine AllReadyH.cons (o := _) rfl (fun K hK => ?_) ?_
              · (try dsimp only [List.getElem_toArray, List.getElem_cons_succ, List.getElem_cons_zero])
                (rw [if_pos (by rfl)]; refine wp_append_own _ _ _ 62 rfl w.heap.size 22 i0 (.slice none 0 0) 1 24 Try.underlying62 hi hz0 hz1 hz2 rfl (by decide) _ _ _ rfl (HC2.out.v.2.2.alloc _) ⟨_, 0, none⟩ 1 1 [_] rfl rfl (cell_one_new _ _ _) (by exact one1 rfl) (by unfold maxLen; omega) (by omega) (by have := HC2.out.c.lt; simp only [World.size_alloc]; omega) ?_; intro v' w3 hown1 hgrow1 _; obtain ⟨A3, cc3, e3, -⟩ := own_shape hown1; subst e3; have HC3 := Lib.hid ((HC2.out.belo hB (Below.alloc (Below.refl _ _) (Nat.le_refl _) _)).app hB hgrow1 hown1); obtain ⟨c43, f43⟩ := (HC2.out.belo hB (Below.alloc (Below.refl _ _) (Nat.le_refl _) _)).cell hgrow1)
                refine hK.out _ _ ?_ (fun hHeld => ?_)
                · trivial
                clear hK K
                try simp only [Act.put, List.setIfInBounds_toArray, List.set_cons_zero, List.set_cons_succ]
                refine wpAnyH_take (i := 11) (oi := _) (v := ?_) rfl (by kernel_rfl) (by kernel_rfl) (by kernel_rfl) (fun _ _ _ h => h) (Or.inl ⟨by rfl, ?_⟩) (by assumption) ?_
                rotate_left
                · intro w hSw; (try dsimp only at hSw); go_simp; (try with_reducible rfl)
                try dsimp only [List.getElem_toArray, List.getElem_cons_succ, List.getElem_cons_zero]
                simp only [Act.put, List.setIfInBounds_toArray, List.set_cons_zero, List.set_cons_succ]
                refine wpAnyH_ready (rs := [12]) (by kernel_rfl) (by simp) ?_
                refine AllReadyH.cons (o := _) rfl (fun K hK => ?_) ?_
                · (try dsimp only [List.getElem_toArray, List.getElem_cons_succ, List.getElem_cons_zero]); go_simp
                  refine hK.out _ _ ?_ (fun hHeld => ?_)
                  · trivial
                  clear hK K
                  try simp only [Act.put, List.setIfInBounds_toArray, List.set_cons_zero, List.set_cons_succ]
                  refine wpAnyH_done (by kernel_rfl) ?_ _
                  go_wp2_with fail
                  go_roundw
                  case rel => exact ⟨k + 1, _, _, _, by go_num, by omega, by rw [show 4 + 3000 * (k + 1) = 4 + 3000 * k + 3000 by omega]; exact HC3.out⟩
                  case measure => simp [intOf]; omega
                exact AllReadyH.nil
              exact AllReadyH.nil
            exact AllReadyH.nil
          refine AllReadyH.cons (o := _) rfl (fun K hK => ?_) ?_
          · (try dsimp only [List.getElem_toArray, List.getElem_cons_succ, List.getElem_cons_zero]); go_simp
            refine hK.out _ _ ?_ (fun hHeld => ?_)
            · trivial
            clear hK K
            try simp only [Act.put, List.setIfInBounds_toArray, List.set_cons_zero, List.set_cons_succ]
            refine wpAnyH_ready (rs := [1]) (by kernel_rfl) (by simp) ?_
            refine AllReadyH.cons (o := _) rfl (fun K hK => ?_) ?_
            · (try dsimp only [List.getElem_toArray, List.getElem_cons_succ, List.getElem_cons_zero]); go_simp
              refine hK.out _ _ ?_ (fun hHeld => ?_)
              · trivial
              clear hK K
              try simp only [Act.put, List.setIfInBounds_toArray, List.set_cons_zero, List.set_cons_succ]
              refine wpAnyH_ready (rs := [10]) (by kernel_rfl) (by simp) ?_
              refine AllReadyH.cons (o := _) rfl (fun K hK => ?_) ?_
              · (try dsimp only [List.getElem_toArray, List.getElem_cons_succ, List.getElem_cons_zero])
                (rw [if_pos (by rfl)]; refine wp_append_own _ _ _ 62 rfl w.heap.size 22 i0 (.slice none 0 0) 1 24 Try.underlying62 hi hz0 hz1 hz2 rfl (by decide) _ _ _ rfl (HC2.out.v.2.2.alloc _) ⟨_, 0, none⟩ 1 1 [_] rfl rfl (cell_one_new _ _ _) (by exact one1 rfl) (by unfold maxLen; omega) (by omega) (by have := HC2.out.c.lt; simp only [World.size_alloc]; omega) ?_; intro v' w3 hown1 hgrow1 _; obtain ⟨A3, cc3, e3, -⟩ := own_shape hown1; subst e3; have HC3 := Lib.hid ((HC2.out.belo hB (Below.alloc (Below.refl _ _) (Nat.le_refl _) _)).app hB hgrow1 hown1); obtain ⟨c43, f43⟩ := (HC2.out.belo hB (Below.alloc (Below.refl _ _) (Nat.le_refl _) _)).cell hgrow1)
                refine hK.out _ _ ?_ (fun hHeld => ?_)
                · trivial
                clear hK K
                try simp only [Act.put, List.setIfInBounds_toArray, List.set_cons_zero, List.set_cons_succ]
                refine wpAnyH_take (i := 11) (oi := _) (v := ?_) rfl (by kernel_rfl) (by kernel_rfl) (by kernel_rfl) (fun _ _ _ h => h) (Or.inl ⟨by rfl, ?_⟩) (by assumption) ?_
                rotate_left
                · intro w hSw; (try dsimp only at hSw); go_simp; (try with_reducible rfl)
                try dsimp only [List.getElem_toArray, List.getElem_cons_succ, List.getElem_cons_zero]
                simp only [Act.put, List.setIfInBounds_toArray, List.set_cons_zero, List.set_cons_succ]
                refine wpAnyH_ready (rs := [12]) (by kernel_rfl) (by simp) ?_
                refine AllReadyH.cons (o := _) rfl (fun K hK => ?_) ?_
                · (try dsimp only [List.getElem_toArray, List.getElem_cons_succ, List.getElem_cons_zero]); go_simp
                  refine hK.out _ _ ?_ (fun hHeld => ?_)
                  · trivial
                  clear hK K
                  try simp only [Act.put, List.setIfInBounds_toArray, List.set_cons_zero, List.set_cons_succ]
                  refine wpAnyH_done (by kernel_rfl) ?_ _
                  go_wp2_with fail
                  go_roundw
                  case rel => exact ⟨k + 1, _, _, _, by go_num, by omega, by rw [show 4 + 3000 * (k + 1) = 4 + 3000 * k + 3000 by omega]; exact HC3.out⟩
                  case measure => simp [intOf]; omega
                exact AllReadyH.nil
              exact AllReadyH.nil
            exact AllReadyH.nil
          exact AllReadyH.nil
        exact AllReadyH.nil
      exact AllReadyH.nil
    · obtain rfl : k = Y := by omega
      have hne : g1 ≠ B := by omega
      have hne2 : B ≠ g1 := by omega
      have hlB : B < wr.heap.size := by omega
      go_upto_if 39 with (go_at_call 50; refine (S_odd B _ _ _ (by repeat (first | (with_reducible exact hR.out) | (with_reducible apply RdAt.adds) | (with_reducible apply RdAt.alloc) | (with_reducible exact RdAt.set hR.out _) | (with_reducible apply RdAt.drew))) (by omega) (by omega)).mono ?_; rintro e w' ⟨v, p1, k1, rfl, hp1, rfl⟩)
      go_cut [] from 13 to 75 (fun wx => CdFin w B p g1 wx)
      case first =>
        have hM0 := HC.out.v.2.1
        cases v
        · go_wp2_with fail
          go_meet
          exact ⟨_, _, _, _, _, _, _, ((hM0.again hB (q := p1) (K' := 10000) (by omega)).adds _ _), (HC.out.r.other (by simp only; omega) _).adds _ _, (HC.out.c.other (by simp only; omega) _).adds _ _, hgg⟩
        · go_upto_region 9 with (go_at_call 31; refine (S_pick B _ _ _ (by repeat (first | (with_reducible exact hR.out) | (with_reducible apply RdAt.adds) | (with_reducible apply RdAt.alloc) | (with_reducible exact RdAt.set hR.out _) | (with_reducible apply RdAt.drew))) (by omega)).mono ?_; rintro e w' ⟨v, p1, k1, rfl, hv, hp1, rfl⟩; have hv' := hv.1 (by omega); clear hv)
          have hMZ : Moved wr B q' 2 (addsW (wr.setCell ⟨B, 1, none⟩ (.int .i64 (p1 : Int))) #[] k1) := (Moved.base (by omega)).adds _ _
          have HCZ := Lib.hid (HC.out.move hB hR.out hq' hMZ)
          have HRZ := Lib.hid (show RdAt (addsW (wr.setCell ⟨B, 1, none⟩ (.int .i64 (p1 : Int))) #[] k1) B p1 from (hR.out.set _).adds _ _)
          have hpb : p1 ≤ 750000000 := by omega
          clear hMZ hM0 HC hR
          generalize addsW (wr.setCell ⟨B, 1, none⟩ (.int .i64 (p1 : Int))) #[] k1 = Z at *
          have hR := HRZ
          have hM0 := HCZ.out.v.2.1
          have d0 : Z.cell? ⟨g1, 0, none⟩ = some (.int .i64 (8 * (X : Int))) := HCZ.out.c.get (i := 0) rfl
          have d2 : Z.cell? ⟨g1, 2, none⟩ = some (.bool b) := HCZ.out.c.get (i := 2) rfl
          have d3 : Z.cell? ⟨g1, 3, none⟩ = some (.int .i64 q) := HCZ.out.c.get (i := 3) rfl
          have d4 : Z.cell? ⟨g1, 4, none⟩ = some (.slice A k c) := HCZ.out.c.get (i := 4) rfl
          have f0 := HCZ.out.c.hot 0
          have f2 := HCZ.out.c.hot 2
          have f3 := HCZ.out.c.hot 3
          have f4 := HCZ.out.c.hot 4
          have hlz := HCZ.out.c.lt
          have hlBz : B < Z.heap.size := HRZ.out.lt
          rcases (show v = 0 ∨ v = 1 ∨ v = 2 ∨ v = 3 ∨ v = 4 by omega) with rfl | rfl | rfl | rfl | rfl
          · go_wp2_with (go_at_call 31; refine (S_pick B _ _ _ (by repeat (first | (with_reducible exact hR.out) | (with_reducible apply RdAt.adds) | (with_reducible apply RdAt.alloc) | (with_reducible exact RdAt.set hR.out _) | (with_reducible apply RdAt.drew))) (by omega)).mono ?_; rintro e w' ⟨v, p1, k1, rfl, hv, hp1, rfl⟩; have hv' := hv.1 (by omega); clear hv)
            go_meet
            exact ⟨_, 8 * (k : Int), b, q, A, k, c, ((((hM0.again hB (q := p1) (K' := 10000) (by omega)).own hB (a := ⟨g1, 0, none⟩) (by simp only; omega) _).alloc _).adds _ _), (((HCZ.out.r.other (by simp only; omega) _).other (by simp only; omega) _).alloc _).adds _ _, ((((HCZ.out.c.other (by simp only; omega) _).set 0 _).alloc _).adds _ _), hgg⟩
          · go_wp2_with (go_at_call 31; refine (S_pick B _ _ _ (by repeat (first | (with_reducible exact hR.out) | (with_reducible apply RdAt.adds) | (with_reducible apply RdAt.alloc) | (with_reducible exact RdAt.set hR.out _) | (with_reducible apply RdAt.drew))) (by omega)).mono ?_; rintro e w' ⟨v, p1, k1, rfl, hv, hp1, rfl⟩; have hv' := hv.1 (by omega); clear hv)
            go_meet
            exact ⟨8 * (X : Int), 8 * (k : Int), b, _, A, k, c, ((((hM0.again hB (q := p1) (K' := 10000) (by omega)).own hB (a := ⟨g1, 3, none⟩) (by simp only; omega) _).alloc _).adds _ _), (((HCZ.out.r.other (by simp only; omega) _).other (by simp only; omega) _).alloc _).adds _ _, ((((HCZ.out.c.other (by simp only; omega) _).set 3 _).alloc _).adds _ _), hgg⟩
          · obtain ⟨A9, c9, e9, hlc9, hA9⟩ := own_shape HCZ.out.v.2.2
            injection e9 with e91 e92 e93
            subst e91 e93
            rcases hA9 with ⟨-, h0⟩ | ⟨ga, rfl, hga, -⟩
            · omega
            · have HS := Lib.hid (fun (W : World) (hRW : RdAt W B p1) => S_l20Bytes B p1 9 W hRW (by omega) (by decide))
              have hk1 : (0 : Int) < (k : Int) := by omega
              have hkn : 0 < k := by omega
              go_upto_region 14 with fail
              refine wp_region_held_drew (S := (fun w' => True)) (by kernel_rfl) ?_ (fun hHeld => ?_)
              · trivial
              refine wpAnyH_take (i := 0) (oi := _) (v := ?_) rfl (by kernel_rfl) (by kernel_rfl) (by kernel_rfl) (fun _ _ _ h => h) (Or.inl ⟨by rfl, ?_⟩) (by assumption) ?_
              rotate_left
              · intro w hSw; (try dsimp only at hSw); go_simp; (try with_reducible rfl)
              try dsimp only [List.getElem_toArray, List.getElem_cons_succ, List.getElem_cons_zero]
              simp only [Act.put, List.setIfInBounds_toArray, List.set_cons_zero, List.set_cons_succ]
              refine wpAnyH_take (i := 2) (oi := _) (v := ?_) rfl (by kernel_rfl) (by kernel_rfl) (by kernel_rfl) (fun _ _ _ h => h) (Or.inl ⟨by rfl, ?_⟩) (by assumption) ?_
              rotate_left
              · intro w hSw; (try dsimp only at hSw); go_simp; (try with_reducible rfl)
              try dsimp only [List.getElem_toArray, List.getElem_cons_succ, List.getElem_cons_zero]
              simp only [Act.put, List.setIfInBounds_toArray, List.set_cons_zero, List.set_cons_succ]
              refine wpAnyH_ready (rs := [1, 3]) (by kernel_rfl) (by simp) ?_
              refine AllReadyH.cons (o := _) rfl (fun K hK => ?_) ?_
              · (try dsimp only [List.getElem_toArray, List.getElem_cons_succ, List.getElem_cons_zero]); go_simp
                refine hK.out _ _ ?_ (fun hHeld => ?_)
                · trivial
                clear hK K
                try simp only [Act.put, List.setIfInBounds_toArray, List.set_cons_zero, List.set_cons_succ]
                refine wpAnyH_ready (rs := [3]) (by kernel_rfl) (by simp) ?_
                refine AllReadyH.cons (o := _) rfl (fun K hK => ?_) ?_
                · (try dsimp only [List.getElem_toArray, List.getElem_cons_succ, List.getElem_cons_zero]); go_simp
                  (go_at_call 86; refine (HS.out _ hR.out.drew).mono ?_; rintro e w1 ⟨v1, zs1, rfl, -, -, hAI⟩; have HCW := Lib.hid ((HCZ.out.drew hB).move hB hR.out.drew (by omega) hAI.2.1); obtain ⟨A10, c10, e10, -⟩ := own_shape hAI.2.2; subst e10; have c41 : w1.cell? ⟨g1, 4, none⟩ = some (.slice (some ⟨ga, 0, none⟩) k c) := HCW.out.c.get (i := 4) rfl; have l41 := HCW.out.c.lt; have hcu := HCW.out.v.2.2.cellAt 0 (by omega); have hfu := HCW.out.v.2.2.frozenAt 0; have hlu := (HCW.out.v.2.2.lt ga rfl).2; have hxl := HCW.out.v.2.2.1; rw [List.getElem?_eq_getElem (by omega)] at hcu; generalize xs[0]'(by omega) = u0 at hcu; clear hAI)
                  try go_wp2_with fail
                  refine hK.out _ _ ?_ (fun hHeld => ?_)
                  · trivial
                  clear hK K
                  try simp only [Act.put, List.setIfInBounds_toArray, List.set_cons_zero, List.set_cons_succ]
                  refine wpAnyH_take (i := 4) (oi := _) (v := ?_) rfl (by kernel_rfl) (by kernel_rfl) (by kernel_rfl) (fun _ _ _ h => h) (Or.inl ⟨by rfl, ?_⟩) (by assumption) ?_
                  rotate_left
                  · intro w hSw; (try dsimp only at hSw); go_simp; (try with_reducible rfl)
                  try dsimp only [List.getElem_toArray, List.getElem_cons_succ, List.getElem_cons_zero]
                  simp only [Act.put, List.setIfInBounds_toArray, List.set_cons_zero, List.set_cons_succ]
                  refine wpAnyH_ready (rs := [5]) (by kernel_rfl) (by simp) ?_
                  refine AllReadyH.cons (o := _) rfl (fun K hK => ?_) ?_
                  · (try dsimp only [List.getElem_toArray, List.getElem_cons_succ, List.getElem_cons_zero]); go_simp
                    refine hK.out _ _ ?_ (fun hHeld => ?_)
                    · trivial
                    clear hK K
                    try simp only [Act.put, List.setIfInBounds_toArray, List.set_cons_zero, List.set_cons_succ]
                    refine wpAnyH_done (by kernel_rfl) ?_ _
                    go_wp2_with fail
                    go_meet
                    exact ⟨8 * (X : Int), 8 * (k : Int), b, q, some ⟨ga, 0, none⟩, k, c, (HCW.out.v.2.1.weak (by omega)).own hB (a := ⟨ga, 0, none⟩) (by simp only; omega) _, HCW.out.r.other (fun e => own_ne HCW.out.v.2.2 HCW.out.r (by decide) (by simp only at e; rw [e]; rfl)) _, HCW.out.c.other (fun e => own_ne HCW.out.v.2.2 HCW.out.c (by decide) (by simp only at e; rw [e]; rfl)) _, hgg⟩
                  exact AllReadyH.nil
                exact AllReadyH.nil
              refine AllReadyH.cons (o := _) rfl (fun K hK => ?_) ?_
              · (try dsimp only [List.getElem_toArray, List.getElem_cons_succ, List.getElem_cons_zero]); go_simp
                (go_at_call 86; refine (HS.out _ hR.out.drew).mono ?_; rintro e w1 ⟨v1, zs1, rfl, -, -, hAI⟩; have HCW := Lib.hid ((HCZ.out.drew hB).move hB hR.out.drew (by omega) hAI.2.1); obtain ⟨A10, c10, e10, -⟩ := own_shape hAI.2.2; subst e10; have c41 : w1.cell? ⟨g1, 4, none⟩ = some (.slice (some ⟨ga, 0, none⟩) k c) := HCW.out.c.get (i := 4) rfl; have l41 := HCW.out.c.lt; have hcu := HCW.out.v.2.2.cellAt 0 (by omega); have hfu := HCW.out.v.2.2.frozenAt 0; have hlu := (HCW.out.v.2.2.lt ga rfl).2; have hxl := HCW.out.v.2.2.1; rw [List.getElem?_eq_getElem (by omega)] at hcu; generalize xs[0]'(by omega) = u0 at hcu; clear hAI)
                try go_wp2_with fail
                refine hK.out _ _ ?_ (fun hHeld => ?_)
                · trivial
                clear hK K
                try simp only [Act.put, List.setIfInBounds_toArray, List.set_cons_zero, List.set_cons_succ]
                refine wpAnyH_ready (rs := [1]) (by kernel_rfl) (by simp) ?_
                refine AllReadyH.cons (o := _) rfl (fun K hK => ?_) ?_
                · (try dsimp only [List.getElem_toArray, List.getElem_cons_succ, List.getElem_cons_zero]); go_simp
                  refine hK.out _ _ ?_ (fun hHeld => ?_)
                  · trivial
                  clear hK K
                  try simp only [Act.put, List.setIfInBounds_toArray, List.set_cons_zero, List.set_cons_succ]
                  refine wpAnyH_take (i := 4) (oi := _) (v := ?_) rfl (by kernel_rfl) (by kernel_rfl) (by kernel_rfl) (fun _ _ _ h => h) (Or.inl ⟨by rfl, ?_⟩) (by assumption) ?_
                  rotate_left
                  · intro w hSw; (try dsimp only at hSw); go_simp; (try with_reducible rfl)
                  try dsimp only [List.getElem_toArray, List.getElem_cons_succ, List.getElem_cons_zero]
                  simp only [Act.put, List.setIfInBounds_toArray, List.set_cons_zero, List.set_cons_succ]
                  refine wpAnyH_ready (rs := [5]) (by kernel_rfl) (by simp) ?_
                  refine AllReadyH.cons (o := _) rfl (fun K hK => ?_) ?_
                  · (try dsimp only [List.getElem_toArray, List.getElem_cons_succ, List.getElem_cons_zero]); go_simp
                    refine hK.out _ _ ?_ (fun hHeld => ?_)
                    · trivial
                    clear hK K
                    try simp only [Act.put, List.setIfInBounds_toArray, List.set_cons_zero, List.set_cons_succ]
                    refine wpAnyH_done (by kernel_rfl) ?_ _
                    go_wp2_with fail
                    go_meet
                    exact ⟨8 * (X : Int), 8 * (k : Int), b, q, some ⟨ga, 0, none⟩, k, c, (HCW.out.v.2.1.weak (by omega)).own hB (a := ⟨ga, 0, none⟩) (by simp only; omega) _, HCW.out.r.other (fun e => own_ne HCW.out.v.2.2 HCW.out.r (by decide) (by simp only at e; rw [e]; rfl)) _, HCW.out.c.other (fun e => own_ne HCW.out.v.2.2 HCW.out.c (by decide) (by simp only at e; rw [e]; rfl)) _, hgg⟩
                  exact AllReadyH.nil
                exact AllReadyH.nil
              exact AllReadyH.nil
          · obtain ⟨A9, c9, e9, hlc9, hA9⟩ := own_shape HCZ.out.v.2.2
            injection e9 with e91 e92 e93
            subst e91 e93
            rcases hA9 with ⟨-, h0⟩ | ⟨ga, rfl, hga, -⟩
            · omega
            · have hk1 : (1 : Int) ≤ (k : Int) := by omega
              have hk2 : (k : Int) ≤ (c : Int) := by omega
              by_cases hc1 : c = 1
              · have hc1i : (c : Int) = 1 := by omega
                go_wp2_with fail
                go_meet
                exact ⟨8 * (X : Int), 8 * (k : Int), b, q, some ⟨ga, 0, none⟩, k - 1, 0, (hM0.weak (by omega)).own hB (a := ⟨g1, 4, none⟩) (by simp only; omega) _, HCZ.out.r.other (by simp only; omega) _, HCZ.out.c.set 4 _, hgg⟩
              · have hc1i : ¬ (c : Int) = 1 := by omega
                go_wp2_with fail
                go_meet
                exact ⟨8 * (X : Int), 8 * (k : Int), b, q, some ⟨ga, 1, none⟩, k - 1, c - 1, (hM0.weak (by omega)).own hB (a := ⟨g1, 4, none⟩) (by simp only; omega) _, HCZ.out.r.other (by simp only; omega) _, HCZ.out.c.set 4 _, hgg⟩
          · go_wp2_with fail
            go_meet
            exact ⟨8 * (X : Int), 8 * (k : Int), !b, q, A, k, c, (hM0.weak (by omega)).own hB (a := ⟨g1, 2, none⟩) (by simp only; omega) _, HCZ.out.r.other (by simp only; omega) _, HCZ.out.c.set 2 _, hgg⟩
      case rest =>
        clear HC hne hne2 hlB hl1 hsw hR hqX hqY
        obtain ⟨x, y, i, q5, A5, n5, c5, hM5, hr5, hc5, hg5⟩ := hcut
        have HM5 := Lib.hid hM5
        have HR5 := Lib.hid hr5
        have d0 : wc.cell? ⟨g1, 0, none⟩ = some (.int .i64 x) := hc5.get (i := 0) rfl
        have d1 : wc.cell? ⟨g1, 1, none⟩ = some (.int .i64 y) := hc5.get (i := 1) rfl
        have d2 : wc.cell? ⟨g1, 2, none⟩ = some (.bool i) := hc5.get (i := 2) rfl
        have d3 : wc.cell? ⟨g1, 3, none⟩ = some (.int .i64 q5) := hc5.get (i := 3) rfl
        have d4 : wc.cell? ⟨g1, 4, none⟩ = some (.slice A5 n5 c5) := hc5.get (i := 4) rfl
        have e0 : wc.cell? ⟨w.heap.size, 0, none⟩ = some (.int .i64 0) := hr5.get (i := 0) rfl
        have e1 : wc.cell? ⟨w.heap.size, 1, none⟩ = some (.int .i64 0) := hr5.get (i := 1) rfl
        have e2 : wc.cell? ⟨w.heap.size, 2, none⟩ = some (.bool false) := hr5.get (i := 2) rfl
        have e3 : wc.cell? ⟨w.heap.size, 3, none⟩ = some (.int .i64 0) := hr5.get (i := 3) rfl
        have e4 : wc.cell? ⟨w.heap.size, 4, none⟩ = some (.slice none 0 0) := hr5.get (i := 4) rfl
        have f0 := hr5.hot 0
        have f1 := hr5.hot 1
        have f2 := hr5.hot 2
        have f3 := hr5.hot 3
        have f4 := hr5.hot 4
        have l5 := hr5.lt
        have l6 := hc5.lt
        clear hM5 hr5 hc5
        go_wp2_with fail
        have hF : Blk (((((wc.setCell ⟨w.heap.size, 0, none⟩ (.int .i64 x)).setCell ⟨w.heap.size, 1, none⟩ (.int .i64 y)).setCell ⟨w.heap.size, 2, none⟩ (.bool i)).setCell ⟨w.heap.size, 3, none⟩ (.int .i64 q5)).setCell ⟨w.heap.size, 4, none⟩ (.slice A5 n5 c5)) w.heap.size #[.int .i64 x, .int .i64 y, .bool i, .int .i64 q5, .slice A5 n5 c5] 64 := ((((HR5.out.set 0 _).set 1 _).set 2 _).set 3 _).set 4 _
        refine bodyPost_ret (v := .agg #[.int .i64 x, .int .i64 y, .bool i, .int .i64 q5, .slice A5 n5 c5]) (by exact results_cell_row Try.results75 _ _ w.heap.size 64 #[.int .i64 x, .int .i64 y, .bool i, .int .i64 q5, .slice A5 n5 c5] (0, 0) _ rfl hF Try.underlying64 rfl infoCd5) rfl ?_
        exact ⟨x, y, i, q5, A5, n5, c5, rfl, ((((HM5.out.own hB (a := ⟨w.heap.size, 0, none⟩) (Nat.le_refl _) _).own hB (a := ⟨w.heap.size, 1, none⟩) (Nat.le_refl _) _).own hB (a := ⟨w.heap.size, 2, none⟩) (Nat.le_refl _) _).own hB (a := ⟨w.heap.size, 3, none⟩) (Nat.le_refl _) _).own hB (a := ⟨w.heap.size, 4, none⟩) (Nat.le_refl _) _⟩

end

section
open Go.RowKit
set_option linter.unusedVariables false
set_option linter.unusedSimpArgs false

attribute [local go_sem] size_addsW cell?_addsW frozen?_addsW setCell_addsW drew_addsW adds_addsW setCell_twice alloc_adds0 size_adds0 adds_adds0 sel2 sel3 sel4 sel5 sel6 sel7 sel8 sel9 lt_more lt_more2 lt_more3 lt_more4 adds_drew adds_drewN drewN_addsW ltA_1_1 ltA_1_2 ltA_1_3 ltA_1_4 ltA_1_5 ltA_1_6 ltA_2_1 ltA_2_2 ltA_2_3 ltA_2_4 ltA_2_5 ltA_2_6 ltA_3_1 ltA_3_2 ltA_3_3 ltA_3_4 ltA_3_5 ltA_3_6 ltA_4_1 ltA_4_2 ltA_4_3 ltA_4_4 ltA_4_5 ltA_4_6 ltA_5_1 ltA_5_2 ltA_5_3 ltA_5_4 ltA_5_5 ltA_5_6 ltA_6_1 ltA_6_2 ltA_6_3 ltA_6_4 ltA_6_5 ltA_6_6 ltA_7_1 ltA_7_2 ltA_7_3 ltA_7_4 ltA_7_5 ltA_7_6 ltA_8_1 ltA_8_2 ltA_8_3 ltA_8_4 ltA_8_5 ltA_8_6 ltA_9_1 ltA_9_2 ltA_9_3 ltA_9_4 ltA_9_5 ltA_9_6 ltA_10_1 ltA_10_2 ltA_10_3 ltA_10_4 ltA_10_5 ltA_10_6 ltA_11_1 ltA_11_2 ltA_11_3 ltA_11_4 ltA_11_5 ltA_11_6 ltA_12_1 ltA_12_2 ltA_12_3 ltA_12_4 ltA_12_5 ltA_12_6

theorem infoCdZ : (Try.prog.info? 64).map (fun i => (i.zero, i.size, i.bytes)) = some (some (.agg (cd5 0 0 false 0 none 0 0)), 5, 56) := by kernel_rfl
theorem news_lit (W : World) (l : List Value) (t : TypeId) : ∀ (j : Nat) (u : Value), l[j]? = some u → (W.alloc (.cells l.toArray t)).cell? ((⟨W.heap.size, 0, none⟩ : Addr).add j) = some u := by
  intro j u hj
  rw [show (⟨W.heap.size, 0, none⟩ : Addr).add j = ⟨W.heap.size, 0 + j, none⟩ by unfold Addr.add; split <;> simp_all, Nat.zero_add, World.cell?_alloc_new]
  simpa using hj
theorem one5 (e : CdE) : ∀ u ∈ hdV e, u.oneCell' = true := by
  intro u hu
  simp only [hdV, List.mem_cons, List.not_mem_nil, or_false] at hu
  rcases hu with rfl | rfl | rfl | rfl | rfl <;> rfl

/-- the pictures so far -/
def StRel (w : World) (B p k : Nat) (v : Value) (wr : World) : Prop :=
  ∃ l : List CdE, l.length = k ∧ AppInv w B p (2 + 10002 * k) 64 5 v k (hdsV l) wr

set_option maxRecDepth 100000 in
set_option maxHeartbeats 2000000 in
theorem S_l20Stream (B p : Nat) (n0 : Int) (w : World) (h : RdAt w B p) (hp : p ≤ 600000000) (hn : -1000000 ≤ n0) :
    Calls Try.prog 47 #[.pointer (some ⟨B, 0, none⟩), .int .i64 n0] w fun e w' => ∃ (A : Option Addr) (c : Nat) (l : List CdE), e = .returned (.slice A l.length c) ∧ l.length ≤ 5 ∧ CSAt w' A l.length (fun i => l.getD i e0) ∧ Moved w B p 60000 w' := by
  have hB := h.lt
  have hR := Lib.hid h
  clear h
  obtain ⟨i0, hi, hz0, hz1, hz2⟩ := info_parts infoCdZ
  go_enter Try.func47, Try.ntmps47
  go_wp2_with fail
  refine (S_l20Small B p _ (hR.out.alloc _) (by omega)).mono ?_
  rintro e w1 ⟨x, rfl, hx1, hx2, hM1⟩
  obtain ⟨q1, hq1, hR1⟩ := Moved.at_ (hR.out.alloc _) hM1
  have HR1 := Lib.hid hR1
  have HM1 := Lib.hid hM1
  have hs1 := hM1.size
  simp only [World.size_alloc] at hs1
  clear hR1 hM1
  go_wp2_with fail
  refine (S_l20Small B q1 _ HR1.out (by omega)).mono ?_
  rintro e w2 ⟨y, rfl, hy1, hy2, hM2⟩
  obtain ⟨q2, hq2, hR2⟩ := Moved.at_ HR1.out hM2
  have hMw := ((Moved.start hR.out 0).alloc (.cells #[] 64)).trans (K'' := 1) hB HM1.out (by omega)
  have hMw2 := hMw.trans (K'' := 2) hB hM2 (by omega)
  have ho := World.ownsRow_lit (base := w.heap.size) (e := 64) (size := 5) w #[] 0 (Nat.le_refl _) (by decide) rfl
  have ho2 := ownsRow_moved (ownsRow_moved ho HM1.out hB) hM2 hB
  have HA := Lib.hid (show AppInv w B p (2 + 10002 * 0) 64 5 (.slice (some ⟨w.heap.size, 0, none⟩) 0 0) 0 (hdsV []) w2 from AppInv.mk0 hR2 (by omega) hMw2 ho2)
  obtain ⟨X, rfl⟩ := Int.eq_ofNat_of_zero_le (show 0 ≤ x by omega)
  obtain ⟨Y, rfl⟩ := Int.eq_ofNat_of_zero_le (show 0 ≤ y by omega)
  clear HM1 HR1 hR2 hM2 hMw hMw2 ho ho2 hR hs1 hq1 hq2
  go_wp2_with fail
  go_loopw [5, 8] (fun v i wr => ∃ k : Nat, k ≤ 4 ∧ i = .int .i64 (k : Int) ∧ StRel w B p k v wr) (fun _ i _ => 4 - (intOf i).toNat)
  case atStart => exact ⟨0, by omega, rfl, [], rfl, HA.out⟩
  case round =>
    clear HA
    clear w1 w2
    obtain ⟨k, hk, rfl, l, hl, hA⟩ := hrel
    have HA := Lib.hid hA
    have HL := Lib.hid hl
    obtain ⟨⟨q, hq, hRq⟩, hMv, hOw⟩ := hA
    have hR := Lib.hid hRq
    have hsw := hMv.size
    have hlB : B < wr.heap.size := by omega
    obtain ⟨A1, c1, rfl, hlc, -⟩ := own_shape hOw
    clear hRq hMv hOw hl
    go_upto_if 17 with (go_at_call 31; refine (S_pick B _ _ _ (by repeat (first | (with_reducible exact hR.out) | (with_reducible apply RdAt.adds) | (with_reducible apply RdAt.alloc) | (with_reducible exact RdAt.set hR.out _) | (with_reducible apply RdAt.drew))) (by omega)).mono ?_; rintro e w' ⟨v, p1, k1, rfl, hv, hp1, rfl⟩; have hv' := hv.1 (by omega); clear hv)
    have hMZ : Moved wr B q 1 (addsW (wr.setCell ⟨B, 1, none⟩ (.int .i64 (p1 : Int))) #[] k1) := (Moved.base (by omega)).adds _ _
    have HAZ := Lib.hid (HA.out.move hB hR.out hq hMZ)
    have HRZ := Lib.hid (show RdAt (addsW (wr.setCell ⟨B, 1, none⟩ (.int .i64 (p1 : Int))) #[] k1) B p1 from (hR.out.set _).adds _ _)
    have hpb : p1 ≤ 610000000 := by omega
    clear hMZ HA hR hlB hsw
    generalize addsW (wr.setCell ⟨B, 1, none⟩ (.int .i64 (p1 : Int))) #[] k1 = Z at *
    clear wr k1
    have hsz := HAZ.out.2.1.size
    have hlB : B < Z.heap.size := by omega
    obtain ⟨pz, hpz⟩ : ∃ pz, pz = p1 := ⟨_, rfl⟩
    subst hpz
    by_cases hle : (k : Int) ≤ v
    · have hd1 : decide ((k : Int) ≤ v) = true := by simp; omega
      by_cases hk0 : k = 0
      · subst hk0
        go_wp2_with fail
        refine (S_l20Coded B pz X Y _ n0 _ HRZ.out (by omega) (by omega) (by omega) hn).mono ?_
        rintro e w3 ⟨x, y, ii, qq, A, n, c, rfl, hM3⟩
        have HA3 := Lib.hid (HAZ.out.move hB HRZ.out (by omega) hM3)
        obtain ⟨q3, hq3, hR3⟩ := Moved.at_ HRZ.out hM3
        have HR3 := Lib.hid hR3
        clear hM3 hR3
        go_wp2_with (at_builtin; refine wpList_append_own_at _ rfl _ _ 57 rfl w.heap.size 64 i0 (.agg (cd5 0 0 false 0 none 0 0)) 5 56 Try.underlying57 hi hz0 hz1 hz2 rfl (by decide) _ _ _ rfl (HA3.out.2.2.alloc _) ⟨w3.heap.size, 0, none⟩ 1 1 (hdV ⟨x, y, ii, qq, A, n, c⟩) rfl rfl (news_lit _ _ _) (one5 _) (by unfold maxLen; omega) (by omega) (by have := HA3.out.2.1.size; simp only [World.size_alloc]; omega) ?_; intro v' w4 hown1 hgrow1 _ _; obtain ⟨A2, c2, rfl, -, -⟩ := own_shape hown1; have HA4 := Lib.hid (HA3.out.step (J := 0) hB HR3.out (by omega) ((Moved.start HR3.out 0).alloc _) hgrow1 hown1); clear hown1 hgrow1)
        refine ⟨⟨1, by omega, rfl, l ++ [⟨x, y, ii, qq, A, n, c⟩], by simp [HL.out], ?_⟩, by simp [intOf]⟩
        rw [hdsV_snoc]
        exact HA4.out.weak (by omega)
      · have hk0b : ((k : Int) == 0) = false := by simp; omega
        have hR := HRZ
        go_wp2_with (go_at_call 31; refine (S_pick B _ _ _ (by repeat (first | (with_reducible exact hR.out) | (with_reducible apply RdAt.adds) | (with_reducible apply RdAt.alloc) | (with_reducible exact RdAt.set hR.out _) | (with_reducible apply RdAt.drew))) (by omega)).mono ?_; rintro e w' ⟨v, p1, k1, rfl, hv, hp1, rfl⟩; have hv' := hv.1 (by omega); clear hv)
        all_goals
          have hMY : Moved Z B pz 1 (addsW (Z.setCell ⟨B, 1, none⟩ (.int .i64 (p1 : Int))) #[] k1) := (Moved.base (by omega)).adds _ _
          have HAY := Lib.hid (HAZ.out.move hB HRZ.out (by omega) hMY)
          have HRY := Lib.hid (show RdAt (addsW (Z.setCell ⟨B, 1, none⟩ (.int .i64 (p1 : Int))) #[] k1) B p1 from (hR.out.set _).adds _ _)
          clear hMY
          refine (S_l20Coded B p1 X Y _ n0 _ HRY.out (by omega) (by omega) (by omega) hn).mono ?_
          rintro e w3 ⟨x, y, ii, qq, A, n, c, rfl, hM3⟩
          have HA3 := Lib.hid (HAY.out.move hB HRY.out (by omega) hM3)
          obtain ⟨q3, hq3, hR3⟩ := Moved.at_ HRY.out hM3
          have HR3 := Lib.hid hR3
          clear hM3 hR3
          go_wp2_with (at_builtin; refine wpList_append_own_at _ rfl _ _ 57 rfl w.heap.size 64 i0 (.agg (cd5 0 0 false 0 none 0 0)) 5 56 Try.underlying57 hi hz0 hz1 hz2 rfl (by decide) _ _ _ rfl (HA3.out.2.2.alloc _) ⟨w3.heap.size, 0, none⟩ 1 1 (hdV ⟨x, y, ii, qq, A, n, c⟩) rfl rfl (news_lit _ _ _) (one5 _) (by unfold maxLen; omega) (by omega) (by have := HA3.out.2.1.size; simp only [World.size_alloc]; omega) ?_; intro v' w4 hown1 hgrow1 _ _; obtain ⟨A2, c2, rfl, -, -⟩ := own_shape hown1; have HA4 := Lib.hid (HA3.out.step (J := 0) hB HR3.out (by omega) ((Moved.start HR3.out 0).alloc _) hgrow1 hown1); clear hown1 hgrow1)
          refine ⟨⟨k + 1, by omega, by go_num, l ++ [⟨x, y, ii, qq, A, n, c⟩], by simp [HL.out], ?_⟩, by simp [intOf]; omega⟩
          rw [hdsV_snoc]
          exact HA4.out.weak (by omega)
    · have hd1 : decide ((k : Int) ≤ v) = false := by simp; omega
      have hR := HRZ
      go_upto_if 37 with (go_at_call 50; refine (S_odd B _ _ _ (by repeat (first | (with_reducible exact hR.out) | (with_reducible apply RdAt.adds) | (with_reducible apply RdAt.alloc) | (with_reducible exact RdAt.set hR.out _) | (with_reducible apply RdAt.drew))) (by omega) (by omega)).mono ?_; rintro e w' ⟨v, p1, k1, rfl, hp1, rfl⟩)
      have hMY : Moved Z B pz 1 (addsW (Z.setCell ⟨B, 1, none⟩ (.int .i64 (p1 : Int))) #[] k1) := (Moved.base (by omega)).adds _ _
      have HAY := Lib.hid (HAZ.out.move hB HRZ.out (by omega) hMY)
      have HRY := Lib.hid (show RdAt (addsW (Z.setCell ⟨B, 1, none⟩ (.int .i64 (p1 : Int))) #[] k1) B p1 from (hR.out.set _).adds _ _)
      clear hMY hR HAZ HRZ hlB hsz
      generalize addsW (Z.setCell ⟨B, 1, none⟩ (.int .i64 (p1 : Int))) #[] k1 = Y1 at *
      cases v
      · go_wp2_with fail
        go_returns
        have ho := HAY.out.2.2
        rw [← HL.out] at ho
        obtain ⟨A', c', e', hcs⟩ := CSAt.of_own ho
        rw [HL.out] at e'
        injection e' with e1 e2 e3
        subst e1 e3
        exact ⟨_, _, l, by rw [HL.out]; rfl, by rw [HL.out]; omega, hcs, HAY.out.2.1.weak (by omega)⟩
      · go_wp2_with fail
        have h8 := S_l20Coded B p1 X 1 false 3 Y1 HRY.out (by omega) (by omega) (by omega) (by omega)
        rw [show (8 : Int) * ((1 : Nat) : Int) = 8 by decide] at h8
        refine h8.mono ?_
        rintro e w3 ⟨x, y, ii, qq, A, n, c, rfl, hM3⟩
        have HA3 := Lib.hid (HAY.out.move hB HRY.out (by omega) hM3)
        obtain ⟨q3, hq3, hR3⟩ := Moved.at_ HRY.out hM3
        have HR3 := Lib.hid hR3
        clear hM3 hR3
        go_wp2_with (at_builtin; refine wpList_append_own_at _ rfl _ _ 57 rfl w.heap.size 64 i0 (.agg (cd5 0 0 false 0 none 0 0)) 5 56 Try.underlying57 hi hz0 hz1 hz2 rfl (by decide) _ _ _ rfl (HA3.out.2.2.alloc _) ⟨w3.heap.size, 0, none⟩ 1 1 (hdV ⟨x, y, ii, qq, A, n, c⟩) rfl rfl (news_lit _ _ _) (one5 _) (by unfold maxLen; omega) (by omega) (by have := HA3.out.2.1.size; simp only [World.size_alloc]; omega) ?_; intro v' w4 hown1 hgrow1 _ _; obtain ⟨A2, c2, rfl, -, -⟩ := own_shape hown1; have HA4 := Lib.hid (HA3.out.step (J := 0) hB HR3.out (by omega) ((Moved.start HR3.out 0).alloc _) hgrow1 hown1); clear hown1 hgrow1)
        go_returns
        have hl2 : (l ++ [(⟨x, y, ii, qq, A, n, c⟩ : CdE)]).length = k + 1 := by simp [HL.out]
        have ho := HA4.out.2.2
        rw [← hdsV_snoc, ← hl2] at ho
        obtain ⟨A', c', e', hcs⟩ := CSAt.of_own ho
        rw [hl2] at e'
        injection e' with e1 e2 e3
        subst e1 e3
        exact ⟨_, _, _, by rw [hl2]; rfl, by rw [hl2]; omega, hcs, HA4.out.2.1.weak (by omega)⟩

set_option maxRecDepth 100000 in
set_option maxHeartbeats 1000000 in
theorem S_DrawKeyPictures (a : Option Addr) (len cap : Nat) (zs : List Int) (w : World) (h : IsRow .u8 w a len cap zs) :
    Calls Try.prog 26 #[.slice a len cap] w fun e w' => ∃ (A : Option Addr) (c : Nat) (l : List CdE), e = .returned (.slice A l.length c) ∧ l.length ≤ 5 ∧ CSAt w' A l.length (fun i => l.getD i e0) ∧ Below w.heap.size w w' := by
  have HI := Lib.hid h
  clear h
  go_enter Try.func26, Try.ntmps26
  go_wp2_with fail
  refine (S_l20Open _ _ _ zs _ HI.out).mono ?_
  rintro e w1 ⟨rfl, hR, hb, hB⟩
  have HR := Lib.hid hR
  have HB := Lib.hid hb
  have hs := hb.size
  clear hR hb
  go_wp2_with fail
  refine (S_l20Stream w.heap.size 0 9 _ HR.out (by omega) (by omega)).mono ?_
  rintro e w2 ⟨A, c, l, rfl, hl, hC, hM⟩
  have HC := Lib.hid hC
  have HM := Lib.hid hM
  clear hC hM
  go_wp2_with fail
  go_returns
  exact ⟨A, c, l, rfl, hl, HC.out, HM.out.below HB.out (Nat.le_refl _) hs⟩

end

end Go.Proofs.Ytggkelehjdepkaa
