/- Lists of coded pictures copied. -/
import Derived.Test.YtbnccnngcgbklaaCodS
namespace Go.Proofs.Ytbnccnngcgbklaa
open Go.RowKit Go.Deep
set_option linter.unusedVariables false
set_option linter.unusedSimpArgs false

attribute [local go_sem] size_addsW cell?_addsW frozen?_addsW setCell_addsW drew_addsW adds_addsW setCell_twice alloc_adds0 size_adds0 adds_adds0 sel2 sel3 sel4 sel5 sel6 sel7 sel8 sel9 lt_more lt_more2 lt_more3 lt_more4 adds_drew adds_drewN drewN_addsW ltA_1_1 ltA_1_2 ltA_1_3 ltA_1_4 ltA_1_5 ltA_1_6 ltA_2_1 ltA_2_2 ltA_2_3 ltA_2_4 ltA_2_5 ltA_2_6 ltA_3_1 ltA_3_2 ltA_3_3 ltA_3_4 ltA_3_5 ltA_3_6 ltA_4_1 ltA_4_2 ltA_4_3 ltA_4_4 ltA_4_5 ltA_4_6 ltA_5_1 ltA_5_2 ltA_5_3 ltA_5_4 ltA_5_5 ltA_5_6 ltA_6_1 ltA_6_2 ltA_6_3 ltA_6_4 ltA_6_5 ltA_6_6 ltA_7_1 ltA_7_2 ltA_7_3 ltA_7_4 ltA_7_5 ltA_7_6 ltA_8_1 ltA_8_2 ltA_8_3 ltA_8_4 ltA_8_5 ltA_8_6 ltA_9_1 ltA_9_2 ltA_9_3 ltA_9_4 ltA_9_5 ltA_9_6 ltA_10_1 ltA_10_2 ltA_10_3 ltA_10_4 ltA_10_5 ltA_10_6 ltA_11_1 ltA_11_2 ltA_11_3 ltA_11_4 ltA_11_5 ltA_11_6 ltA_12_1 ltA_12_2 ltA_12_3 ltA_12_4 ltA_12_5 ltA_12_6

def z5 : Array Value := cdA 0 0 false 0 none 0 0
def r5 (E : Nat → CdE) (tb : Nat → Nat) (i : Nat) : Array Value := cdA (E i).x (E i).y (E i).i (E i).q (some ⟨tb i, 0, none⟩) (E i).n (E i).n
/-- n coded pictures of which the first k are E's, their slices' tables in the blocks tb -/
def csA (n k : Nat) (tb : Nat → Nat) (E : Nat → CdE) : Array Value := ((List.range (n * 5)).map fun c => if c / 5 < k then (r5 E tb (c / 5))[c % 5]! else z5[c % 5]!).toArray
theorem csA_size (n k : Nat) (tb : Nat → Nat) (E : Nat → CdE) : (csA n k tb E).size = n * 5 := by simp [csA]
theorem made_csA (n : Nat) (tb : Nat → Nat) (E : Nat → CdE) : madeCells z5 (n * 5) = csA n 0 tb E := by
  apply Array.ext_getElem?
  intro i
  simp only [madeCells, csA, Array.getElem?_map, List.getElem?_toArray, List.getElem?_map, Array.getElem?_range]
  by_cases h : i < n * 5 <;> simp [h, z5, cdA]
theorem csA_hi {n k i j : Nat} {tb : Nat → Nat} {E : Nat → CdE} (hi : i < n) (hk : k ≤ i) (hj : j < 5) : (csA n k tb E)[i * 5 + j]? = some z5[j]! := by
  have e1 : (i * 5 + j) / 5 = i := by omega
  have e2 : (i * 5 + j) % 5 = j := by omega
  simp only [csA, List.getElem?_toArray, List.getElem?_map]
  rw [List.getElem?_range (by omega)]
  simp only [Option.map_some, e1, e2]
  rw [if_neg (by omega)]
theorem csA_lo {n k i j : Nat} {tb : Nat → Nat} {E : Nat → CdE} (hi : i < n) (hk : i < k) (hj : j < 5) : (csA n k tb E)[i * 5 + j]? = some (r5 E tb i)[j]! := by
  have e1 : (i * 5 + j) / 5 = i := by omega
  have e2 : (i * 5 + j) % 5 = j := by omega
  simp only [csA, List.getElem?_toArray, List.getElem?_map]
  rw [List.getElem?_range (by omega)]
  simp only [Option.map_some, e1, e2]
  rw [if_pos (by omega)]
def updF {α : Type} (p : Nat → α) (k : Nat) (x : α) : Nat → α := fun i => if i = k then x else p i
theorem updF_at {α : Type} (p : Nat → α) (k : Nat) (x : α) : updF p k x k = x := if_pos rfl
theorem updF_lo {α : Type} (p : Nat → α) {k i : Nat} (x : α) (h : i < k) : updF p k x i = p i := if_neg (by omega)
theorem csA_set {n k : Nat} (tb : Nat → Nat) (E : Nat → CdE) (h : k < n) (g : Nat) :
    (((((csA n k tb E).setIfInBounds (k * 5) (.int .i64 (E k).x)).setIfInBounds (k * 5 + 1) (.int .i64 (E k).y)).setIfInBounds (k * 5 + 2) (.bool (E k).i)).setIfInBounds (k * 5 + 3) (.int .i64 (E k).q)).setIfInBounds (k * 5 + 4) (.slice (some ⟨g, 0, none⟩) (E k).n (E k).n) = csA n (k + 1) (updF tb k g) E := by
  apply Array.ext_getElem?
  intro c
  simp only [Array.getElem?_setIfInBounds, Array.size_setIfInBounds, csA_size]
  by_cases hc : c < n * 5
  · obtain ⟨i, j, hj, rfl⟩ : ∃ i j, j < 5 ∧ c = i * 5 + j := ⟨c / 5, c % 5, by omega, by omega⟩
    have hi : i < n := by omega
    by_cases e : i = k
    · subst e
      rw [csA_lo (k := i + 1) hi (by omega) hj, csA_hi (k := i) hi (by omega) hj]
      have : j = 0 ∨ j = 1 ∨ j = 2 ∨ j = 3 ∨ j = 4 := by omega
      rcases this with rfl | rfl | rfl | rfl | rfl
      · simp [r5, cdA, updF_at, h] <;> omega
      · simp [r5, cdA, updF_at, h] <;> omega
      · simp [r5, cdA, updF_at, h] <;> omega
      · simp [r5, cdA, updF_at, h] <;> omega
      · simp [r5, cdA, updF_at, h] <;> omega
    · rw [if_neg (by omega), if_neg (by omega), if_neg (by omega), if_neg (by omega), if_neg (by omega)]
      by_cases h2 : i < k
      · rw [csA_lo (k := k) hi h2 hj, csA_lo (k := k + 1) hi (by omega) hj]
        simp only [r5, updF_lo tb g h2]
      · rw [csA_hi (k := k) hi (by omega) hj, csA_hi (k := k + 1) hi (by omega) hj]
  · rw [if_neg (by omega), if_neg (by omega), if_neg (by omega), if_neg (by omega), if_neg (by omega)]
    rw [Array.getElem?_eq_none (by rw [csA_size]; omega), Array.getElem?_eq_none (by rw [csA_size]; omega)]
theorem infoCodedZ : (Try.prog.info? 27).map (fun i => (i.zero, i.size, i.bytes)) = some (some (.agg z5), 5, 56) := by kernel_rfl

/-- the pictures lie in blocks of their own: the list in g, the tables of the first k in tb, their bytes in p -/
structure COwn (W : World) (g n k : Nat) (tb : Nat → Nat) (p : Nat → Nat → Nat) (E : Nat → CdE) : Prop where
  b : Blk W g (csA n k tb E) 27
  r : ∀ i, i < k → SSOwn W (tb i) (E i).n (E i).n (p i) (E i).l (E i).z ∧ g < tb i
  inc : ∀ i j, i < j → j < k → tb i < tb j ∧ ∀ s, s < (E i).n → p i s < tb j
theorem COwn.below {W W' : World} {g n k : Nat} {tb : Nat → Nat} {p : Nat → Nat → Nat} {E : Nat → CdE} (h : COwn W g n k tb p E) (hb : Below W.heap.size W W') : COwn W' g n k tb p E :=
  ⟨h.b.below hb h.b.lt, fun i hi => ⟨(h.r i hi).1.below hb, (h.r i hi).2⟩, h.inc⟩
theorem COwn.step {W W0 : World} {g n k t : Nat} {tb : Nat → Nat} {p : Nat → Nat → Nat} {P : Nat → Nat} {E : Nat → CdE} (h0 : COwn W0 g n k tb p E) (hb : Below W0.heap.size W0 W) (hk : k < n)
    (hn : SSOwn W t (E k).n (E k).n P (E k).l (E k).z) (ht : W0.heap.size ≤ t) :
    COwn (((((W.setCell ⟨g, k * 5, none⟩ (.int .i64 (E k).x)).setCell ⟨g, k * 5 + 1, none⟩ (.int .i64 (E k).y)).setCell ⟨g, k * 5 + 2, none⟩ (.bool (E k).i)).setCell ⟨g, k * 5 + 3, none⟩ (.int .i64 (E k).q)).setCell ⟨g, k * 5 + 4, none⟩ (.slice (some ⟨t, 0, none⟩) (E k).n (E k).n)) g n (k + 1) (updF tb k t) (updF p k P) E := by
  have hg : g < W0.heap.size := h0.b.lt
  have h := h0.below hb
  refine ⟨?_, fun i hi => ?_, fun i j hij hj => ?_⟩
  · have := ((((h.b.set (k * 5) (.int .i64 (E k).x)).set (k * 5 + 1) (.int .i64 (E k).y)).set (k * 5 + 2) (.bool (E k).i)).set (k * 5 + 3) (.int .i64 (E k).q)).set (k * 5 + 4) (.slice (some ⟨t, 0, none⟩) (E k).n (E k).n)
    rw [csA_set tb E hk] at this
    exact this
  · by_cases e : i = k
    · subst e
      rw [updF_at, updF_at]
      have hgt : g < t := by omega
      exact ⟨((((hn.set (by simpa using hgt) _).set (by simpa using hgt) _).set (by simpa using hgt) _).set (by simpa using hgt) _).set (by simpa using hgt) _, hgt⟩
    · have hi' : i < k := by omega
      rw [updF_lo _ _ hi', updF_lo _ _ hi']
      have hgt := (h.r i hi').2
      exact ⟨(((((h.r i hi').1.set (by simpa using hgt) _).set (by simpa using hgt) _).set (by simpa using hgt) _).set (by simpa using hgt) _).set (by simpa using hgt) _, hgt⟩
  · by_cases e : j = k
    · subst e
      rw [updF_at, updF_lo _ _ hij, updF_lo _ _ hij]
      have h1 := (h0.r i hij).1
      exact ⟨by have := h1.b.lt; omega, fun s hs => by have := (h1.r s hs).1.lt; omega⟩
    · rw [updF_lo _ _ (show j < k by omega), updF_lo _ _ (show i < k by omega), updF_lo _ _ (show i < k by omega)]
      exact h.inc i j hij (by omega)
/-- the same list, opened -/
def CdE.own (e : CdE) (t : Nat) (p : Nat → Nat) : CdE := ⟨e.x, e.y, e.i, e.q, some ⟨t, 0, none⟩, e.n, e.n, fun i => some ⟨p i, 0, none⟩, e.l, e.l, e.z⟩
theorem COwn.cs {W : World} {g n : Nat} {tb : Nat → Nat} {p : Nat → Nat → Nat} {E : Nat → CdE} (h : COwn W g n n tb p E) (hz : ∀ i, i < n → (E i).n ≤ 1048576 ∧ ∀ j, j < (E i).n → ((E i).z j).length = (E i).l j ∧ (E i).l j ≤ 1048576) : CSAt W (some ⟨g, 0, none⟩) n (fun i => (E i).own (tb i) (p i)) := by
  refine ⟨fun _ => ⟨g, 0, rfl, h.b.lt, fun i hi j hj => ?_⟩, fun i hi => ⟨(h.r i hi).1.ss (hz i hi).2, by have := (hz i hi).1; simp only [CdE.own]; omega⟩⟩
  have h1 := h.b.get (csA_lo (tb := tb) (E := E) hi hi hj)
  rw [Nat.zero_add, h1]
  have : j = 0 ∨ j = 1 ∨ j = 2 ∨ j = 3 ∨ j = 4 := by omega
  rcases this with rfl | rfl | rfl | rfl | rfl <;> rfl
theorem totS_own (n : Nat) (tb : Nat → Nat) (p : Nat → Nat → Nat) (E : Nat → CdE) : totS (fun i => (E i).own (tb i) (p i)) = totS E := rfl

set_option maxRecDepth 100000 in
set_option maxHeartbeats 1000000 in
theorem L_toCodedS (A : Option Addr) (n cap : Nat) (E : Nat → CdE) (w : World) (h : CSAt w A n E) (hn : n + sm (totS E) n ≤ 1048576) :
    Calls Try.prog 13 #[.slice A n cap] w fun e w' => ∃ tb p, e = .returned (.slice (some ⟨w.heap.size, 0, none⟩) n n) ∧ COwn w' w.heap.size n n tb p E ∧ Below w.heap.size w w' := by
  have HS := Lib.hid h
  have HN := Lib.hid hn
  have hn1 : n ≤ 1048576 := by omega
  have hmk : ∀ W : World, (Instr.makeSlice 35 (.int .i64 (n : Int)) (.int .i64 (n : Int))).run Try.prog W = .ok (.slice (some ⟨W.heap.size, 0, none⟩) n n) (W.alloc (.cells (csA n 0 (fun _ => 0) E) 27)) := by
    intro W
    obtain ⟨i0, hi, hz0, hz1, hz2⟩ := info_parts infoCodedZ
    have hh := run_make (P := Try.prog) W 35 27 i0 (.agg z5) Try.underlying35 hi hz0 .i64 .i64 n n (by omega) (Int.le_refl _) (by rw [hz2]; omega) (by omega)
    rw [← made_csA n (fun _ => 0) E]
    simpa [hz1, Value.cells] using hh
  clear h hn
  have HT0 := Lib.hid (⟨⟨Blk.new w _ _ _ rfl, fun i hi => by omega, fun i j _ hj => by omega⟩, (by repeat' (first | (with_reducible exact Below.refl _ _) | (with_reducible refine Below.adds_ ?_ ?_ _ _) | (with_reducible refine Below.alloc ?_ ?_ _) | (with_reducible refine Below.drew ?_) | (with_reducible refine Below.setCell ?_ ?_ _) | (with_reducible assumption) | go_size | (simp only [size_addsW, World.size_alloc, World.size_drew, World.size_setCell]; omega)))⟩ : COwn (w.alloc (.cells (csA n 0 (fun _ => 0) E) 27)) w.heap.size n 0 (fun _ => 0) (fun _ _ => 0) E ∧ Below w.heap.size w (w.alloc (.cells (csA n 0 (fun _ => 0) E) 27)))
  go_enter Try.func13, Try.ntmps13
  go_wp2_with fail
  go_loopw [4] (fun v wr => ∃ (k : Nat) (tb : Nat → Nat) (p : Nat → Nat → Nat), k ≤ n ∧ v = .int .i64 (k : Int) ∧ COwn wr w.heap.size n k tb p E ∧ Below w.heap.size w wr) (fun v _ => n - (intOf v).toNat)
  case atStart => exact ⟨0, fun _ => 0, fun _ _ => 0, by omega, rfl, HT0.out.1, HT0.out.2⟩
  case round =>
    clear HT0
    obtain ⟨k, tb, p, hk, rfl, ho, hb⟩ := hrel
    have HO := Lib.hid ho
    have HB := Lib.hid hb
    by_cases hlt : k < n
    · have hd1 : (k : Int) < (n : Int) := by omega
      obtain ⟨b, off, rfl, hbl, c0, c1, c2, c3, c4⟩ := (HS.out.keep HB.out).at_ hlt
      have hss := (HS.out.keep HB.out).2 k hlt
      have hlm : (E k).n + sm (E k).l (E k).n ≤ sm (totS E) n := sm_at (totS E) hlt
      have hnn := HN.out
      have hsz : w.heap.size < wr.heap.size := ho.b.lt
      have hss2 : ∀ W t P, Below wr.heap.size wr W → SSOwn W t (E k).n (E k).n P (E k).l (E k).z → wr.heap.size ≤ t → COwn (((((W.setCell ⟨w.heap.size, k * 5, none⟩ (.int .i64 (E k).x)).setCell ⟨w.heap.size, k * 5 + 1, none⟩ (.int .i64 (E k).y)).setCell ⟨w.heap.size, k * 5 + 2, none⟩ (.bool (E k).i)).setCell ⟨w.heap.size, k * 5 + 3, none⟩ (.int .i64 (E k).q)).setCell ⟨w.heap.size, k * 5 + 4, none⟩ (.slice (some ⟨t, 0, none⟩) (E k).n (E k).n)) w.heap.size n (k + 1) (updF tb k t) (updF p k P) E := fun W t P hbW hS ht => HO.out.step hbW hlt hS ht
      have CT := Lib.hid (show Calls Try.prog 8 #[.agg (cdA (E k).x (E k).y (E k).i (E k).q (E k).A (E k).n (E k).cap)] wr fun e w' => ∃ g P, e = .returned (.agg (cdA (E k).x (E k).y (E k).i (E k).q (some ⟨g, 0, none⟩) (E k).n (E k).n)) ∧ SSOwn w' g (E k).n (E k).n P (E k).l (E k).z ∧ wr.heap.size ≤ g ∧ Below wr.heap.size wr w' from L_toCoded _ _ _ _ _ _ _ _ _ _ _ wr hss.1 (by omega))
      have HZ := Lib.hid hss2
      clear hss hss2 hlm hnn
      unfold cdA at CT
      generalize (E k).x = x at *
      generalize (E k).y = y at *
      generalize (E k).i = ii at *
      generalize (E k).q = q at *
      generalize (E k).A = AE at *
      generalize (E k).n = m at *
      generalize (E k).cap = ce at *
      generalize (E k).l = l at *
      generalize (E k).z = z at *
      have hbw : b < wr.heap.size := hbl
      have HW : ∀ W, Below wr.heap.size wr W → (W.cell? ⟨w.heap.size, k * 5, none⟩ = some (.int .i64 0) ∧ W.cell? ⟨w.heap.size, k * 5 + 1, none⟩ = some (.int .i64 0) ∧ W.cell? ⟨w.heap.size, k * 5 + 2, none⟩ = some (.bool false) ∧ W.cell? ⟨w.heap.size, k * 5 + 3, none⟩ = some (.int .i64 0) ∧ W.cell? ⟨w.heap.size, k * 5 + 4, none⟩ = some (.slice none 0 0)) ∧ (W.frozen? ⟨w.heap.size, k * 5, none⟩ = false ∧ W.frozen? ⟨w.heap.size, k * 5 + 1, none⟩ = false ∧ W.frozen? ⟨w.heap.size, k * 5 + 2, none⟩ = false ∧ W.frozen? ⟨w.heap.size, k * 5 + 3, none⟩ = false ∧ W.frozen? ⟨w.heap.size, k * 5 + 4, none⟩ = false) := fun W hW => by
        have hB := (HO.out.below hW).b
        exact ⟨⟨hB.get (csA_hi (j := 0) hlt (Nat.le_refl _) (by omega)), hB.get (csA_hi (j := 1) hlt (Nat.le_refl _) (by omega)), hB.get (csA_hi (j := 2) hlt (Nat.le_refl _) (by omega)), hB.get (csA_hi (j := 3) hlt (Nat.le_refl _) (by omega)), hB.get (csA_hi (j := 4) hlt (Nat.le_refl _) (by omega))⟩, hB.hot _, hB.hot _, hB.hot _, hB.hot _, hB.hot _⟩
      have HW2 := Lib.hid HW
      clear HW ho hb
      go_wp2_with (go_at_call 8; refine (CT.out).mono ?_; rintro e W1 ⟨t, P, rfl, hs1, ht1, hb1⟩; have HS1 := Lib.hid hs1; have HT1 := Lib.hid ht1; have HB1 := Lib.hid hb1; clear hs1 ht1 hb1; obtain ⟨⟨d0, d1, d2, d3, d4⟩, f0, f1, f2, f3, f4⟩ := HW2.out _ HB1.out)
      go_roundw
      case rel => exact ⟨k + 1, _, _, by omega, by go_num, HZ.out _ _ _ HB1.out HS1.out HT1.out, (by refine Below.setCell (Below.setCell (Below.setCell (Below.setCell (Below.setCell (HB.out.trans (HB1.out.mono (by omega))) ?_ _) ?_ _) ?_ _) ?_ _) ?_ _ <;> exact Nat.le_refl _)⟩
      case measure => simp [intOf]; omega
    · obtain rfl : k = n := by omega
      clear ho hb
      go_wp2_with fail
      go_returns
      exact ⟨tb, p, rfl, HO.out, HB.out⟩

end Go.Proofs.Ytbnccnngcgbklaa
