/- The reference's DecodeBins. -/
import Derived.Test.YtndbdfbjiaaloaaDecO
import Derived.Maps.AppendAt
namespace Go.Proofs.Ytndbdfbjiaaloaa
open Go.RowKit
set_option linter.unusedVariables false
set_option linter.unusedSimpArgs false

attribute [local go_sem] size_addsW cell?_addsW frozen?_addsW setCell_addsW drew_addsW adds_addsW setCell_twice alloc_adds0 size_adds0 adds_adds0 sel2 sel3 sel4 sel5 sel6 sel7 sel8 sel9 lt_more lt_more2 lt_more3 lt_more4 adds_drew adds_drewN drewN_addsW ltA_1_1 ltA_1_2 ltA_1_3 ltA_1_4 ltA_1_5 ltA_1_6 ltA_2_1 ltA_2_2 ltA_2_3 ltA_2_4 ltA_2_5 ltA_2_6 ltA_3_1 ltA_3_2 ltA_3_3 ltA_3_4 ltA_3_5 ltA_3_6 ltA_4_1 ltA_4_2 ltA_4_3 ltA_4_4 ltA_4_5 ltA_4_6 ltA_5_1 ltA_5_2 ltA_5_3 ltA_5_4 ltA_5_5 ltA_5_6 ltA_6_1 ltA_6_2 ltA_6_3 ltA_6_4 ltA_6_5 ltA_6_6 ltA_7_1 ltA_7_2 ltA_7_3 ltA_7_4 ltA_7_5 ltA_7_6 ltA_8_1 ltA_8_2 ltA_8_3 ltA_8_4 ltA_8_5 ltA_8_6 ltA_9_1 ltA_9_2 ltA_9_3 ltA_9_4 ltA_9_5 ltA_9_6 ltA_10_1 ltA_10_2 ltA_10_3 ltA_10_4 ltA_10_5 ltA_10_6 ltA_11_1 ltA_11_2 ltA_11_3 ltA_11_4 ltA_11_5 ltA_11_6 ltA_12_1 ltA_12_2 ltA_12_3 ltA_12_4 ltA_12_5 ltA_12_6

/-- the first k contexts are valid -/
def ctxUp (xs : List Int) (k : Nat) : Bool := (List.range k).all (fun i => M.inB (xs.getD i 0) 0 39)
def ctxB (xs : List Int) : Bool := decide (xs.length ≤ 20000) && ctxUp xs xs.length
/-- the contexts by number -/
def cxF (xs : List Int) (i : Nat) : Int := xs.getD i 0
/-- the first k decoded decisions -/
def decL (ds xs : List Int) (k : Nat) : List Int := (List.range k).map (M.decB (byD ds) (cxF xs))
def decOut (ds xs : List Int) : List Int := if ctxB xs then decL ds xs xs.length else []
theorem ctxUp_zero (xs : List Int) : ctxUp xs 0 = true := rfl
theorem ctxUp_succ (xs : List Int) (k : Nat) : ctxUp xs (k + 1) = (ctxUp xs k && M.inB (xs.getD k 0) 0 39) := by simp [ctxUp, List.range_succ]
theorem ctxUp_no {xs : List Int} {k n : Nat} (h : k < n) (hk : M.inB (xs.getD k 0) 0 39 = false) : ctxUp xs n = false := by
  simp only [ctxUp, List.all_eq_false]
  exact ⟨k, List.mem_range.2 h, by rw [hk]; decide⟩
theorem ctxUp_at {xs : List Int} {n : Nat} (h : ctxUp xs n = true) : ∀ i, i < n → 0 ≤ cxF xs i ∧ cxF xs i < 40 := fun i hi => by
  have := List.all_eq_true.1 h i (List.mem_range.2 hi)
  simp [M.inB] at this
  unfold cxF
  simp
  omega
theorem decL_len (ds xs : List Int) (k : Nat) : (decL ds xs k).length = k := by simp [decL]
theorem decL_succ (ds xs : List Int) (k : Nat) : decL ds xs (k + 1) = decL ds xs k ++ [M.decB (byD ds) (cxF xs) k] := by simp [decL, List.range_succ]
theorem decK_at (d c : Nat → Int) : ∀ k, (M.decK d c k).at_ ≤ 4 + 2 * k
  | 0 => by simp [M.decK, M.dec0]
  | k + 1 => by
    have := decK_at d c k
    rw [M.decK]
    simp only [M.dec1]
    have h2 := M.nrm_two (M.cutS (M.decK d c k).s ((M.decK d c k).ch.getD (c k).toNat 0) (M.decBit (M.decK d c k) (c k).toNat))
    omega

/-- a list of numbers that the call has made -/
def IntsGotD (l : List Int) (w : World) (e : Ending) (w' : World) : Prop :=
  ∃ (A : Option Addr) (c : Nat), e = .returned (.slice A l.length c) ∧ RowAt .i64 w' A l ∧ (∀ d, A = some d → w.heap.size ≤ d.block) ∧ (Soft w' A ∧ l.length ≤ c) ∧ Below w.heap.size w w'

theorem DecS.grown {w w1 : World} {C D c n ca : Nat} {A : Option Addr} {k : M.Dec} {row : Option Nat} (h : DecS w C D c A n ca k) (hg : w.grownBy w1 row) (h1 : row ≠ some C) (h2 : row ≠ some D) : DecS w1 C D c A n ca k := by
  have hC := h.lt
  have hD := h.dc
  refine ⟨(hg.block C hC (fun e => h1 e.symm)).trans h.blk, h.dc, fun hne => ?_, fun d hd => ?_⟩
  · obtain ⟨b', off', e, hb', hc⟩ := h.chb hne
    injection e with e; injection e with e1 e2; subst e1 e2
    exact ⟨D, 0, rfl, by have := hg.size; omega, fun j hj => (World.cell?_of_block (w := w) (a := ⟨D, 0 + j, none⟩) (hg.block D (by omega) (fun e => h2 e.symm))).trans (hc j hj)⟩
  · obtain ⟨cur, t, hc⟩ := h.soft d hd
    cases hd
    exact ⟨cur, t, (hg.block D (by omega) (fun e => h2 e.symm)).trans hc⟩

/-- the decisions so far -/
def DcRel (w : World) (C D c : Nat) (A : Option Addr) (ca : Nat) (ds xs : List Int) (v i : Value) (wr : World) : Prop :=
  ∃ k : Nat, k ≤ xs.length ∧ i = .int .i64 (k : Int) ∧ DecS wr C D c A ds.length ca (M.decK (byD ds) (cxF xs) k) ∧ wr.ownsRow w.heap.size 3 1 v k ((decL ds xs k).map (Value.int .i64)) ∧ v.ownBlock ≠ some C ∧ v.ownBlock ≠ some D ∧ Below w.heap.size w wr

set_option maxRecDepth 100000 in
set_option maxHeartbeats 1000000 in
theorem S_DecodeBins (A B : Option Addr) (ca cb : Nat) (ds xs : List Int) (w : World) (hd : RowAt .u8 w A ds) (hx : RowAt .i64 w B xs) (hA : ∀ d, A = some d → d.block < w.heap.size) (hby : ∀ i, 0 ≤ ds.getD i 0 ∧ ds.getD i 0 ≤ 255) (hln : ds.length ≤ 1000000000000) (hlx : xs.length ≤ 1000000000) :
    Calls Try.prog 40 #[.slice A ds.length ca, .slice B xs.length cb] w (IntsGotD (decOut ds xs) w) := by
  have HD := Lib.hid hd
  have HX := Lib.hid hx
  have HA := Lib.hid hA
  have HBY := Lib.hid hby
  clear hd hx hA hby
  obtain ⟨i0, hi, hz0, hz1, hz2⟩ := info_parts infoIntE
  by_cases hbig : 20000 < xs.length
  · rw [show decOut ds xs = [] by rw [decOut, ctxB, decide_eq_false (by omega), Bool.false_and]; rfl]
    go_enter Try.func40, Try.ntmps40
    go_wp2_with fail
    go_returns
    exact ⟨_, 0, rfl, (fun h => absurd rfl h), (fun d hd => by cases hd; exact Nat.le_refl _), ⟨Soft.new_ _ _ _ rfl, Nat.le_refl _⟩, (by repeat' (first | (with_reducible exact Below.refl _ _) | (with_reducible refine Below.adds_ ?_ ?_ _ _) | (with_reducible refine Below.alloc ?_ ?_ _) | (with_reducible refine Below.drew ?_) | (with_reducible refine Below.setCell ?_ ?_ _) | (with_reducible assumption) | go_size | (simp only [size_addsW, World.size_alloc, World.size_drew, World.size_setCell]; omega)))⟩
  · go_enter Try.func40, Try.ntmps40
    go_wp2_with fail
    go_loop [6] (fun i => ∃ k : Nat, k ≤ xs.length ∧ i = .int .i64 (k : Int) ∧ ctxUp xs k = true) (fun i => xs.length - (intOf i).toNat)
    case atStart => exact ⟨0, Nat.zero_le _, rfl, rfl⟩
    case round =>
      obtain ⟨k, hk, rfl, ht⟩ := hrel
      have HT := Lib.hid ht
      clear ht
      by_cases hlt : k < xs.length
      · obtain ⟨b, off, z, rfl, hb, hz, hc⟩ := (HX.out.keep (w' := w.alloc (.cells #[] 3)) (by repeat' (first | (with_reducible exact Below.refl _ _) | (with_reducible refine Below.adds_ ?_ ?_ _ _) | (with_reducible refine Below.alloc ?_ ?_ _) | (with_reducible refine Below.drew ?_) | (with_reducible refine Below.setCell ?_ ?_ _) | (with_reducible assumption) | go_size | (simp only [size_addsW, World.size_alloc, World.size_drew, World.size_setCell]; omega)))).at_ hlt
        have HZ := Lib.hid hz
        clear hz
        cases h1 : M.inB z 0 39
        · rw [show decOut ds xs = [] by rw [decOut, ctxB, ctxUp_no hlt (by rw [← HZ.out]; exact h1), Bool.and_false]; rfl]
          go_wp2_with (go_at_call 57; refine (S_l1In _ _ _ _).mono ?_; rintro e w' ⟨rfl, rfl⟩)
          go_returns
          exact ⟨_, 0, rfl, (fun h => absurd rfl h), (fun d hd => by cases hd; simp), ⟨Soft.new_ _ _ _ (by simp), Nat.le_refl _⟩, (by repeat' (first | (with_reducible exact Below.refl _ _) | (with_reducible refine Below.adds_ ?_ ?_ _ _) | (with_reducible refine Below.alloc ?_ ?_ _) | (with_reducible refine Below.drew ?_) | (with_reducible refine Below.setCell ?_ ?_ _) | (with_reducible assumption) | go_size | (simp only [size_addsW, World.size_alloc, World.size_drew, World.size_setCell]; omega)))⟩
        · go_wp2_with (go_at_call 57; refine (S_l1In _ _ _ _).mono ?_; rintro e w' ⟨rfl, rfl⟩)
          go_round
          case rel => exact ⟨k + 1, by omega, by go_num, by rw [ctxUp_succ, HT.out, ← HZ.out, h1]; rfl⟩
          case measure => simp [intOf]; omega
      · obtain rfl : k = xs.length := by omega
        have hall := ctxUp_at HT.out
        have HALL := Lib.hid hall
        have hout : decOut ds xs = decL ds xs xs.length := by rw [decOut, ctxB, HT.out, decide_eq_true (by omega)]; rfl
        have HOUT := Lib.hid hout
        clear hout
        clear hall
        go_wp2_with (go_at_call 75; refine (S_l9Open _ ca ds _ (HD.out.keep (by repeat' (first | (with_reducible exact Below.refl _ _) | (with_reducible refine Below.adds_ ?_ ?_ _ _) | (with_reducible refine Below.alloc ?_ ?_ _) | (with_reducible refine Below.drew ?_) | (with_reducible refine Below.setCell ?_ ?_ _) | (with_reducible assumption) | go_size | (simp only [size_addsW, World.size_alloc, World.size_drew, World.size_setCell]; omega)))) (fun d e => by have := HA.out d e; simp; omega) HBY.out hln).mono ?_; rintro e w' ⟨C, D, c, rfl, hcod, hDge, hb⟩; have HC := Lib.hid hcod; have HB := Lib.hid hb; clear hcod hb)
        simp only [World.size_alloc] at hDge
        go_loopw [5, 8] (fun v i wr => DcRel w C D c A ca ds xs v i wr) (fun _ i _ => xs.length - (intOf i).toNat)
        case atStart =>
          have hDC := HC.out.dc
          exact ⟨0, Nat.zero_le _, rfl, HC.out, ownsRow_below (own_lit_g w 3 _ rfl) HB.out, by simp [Value.ownBlock]; omega, by simp [Value.ownBlock]; omega, Below.trans (by repeat' (first | (with_reducible exact Below.refl _ _) | (with_reducible refine Below.adds_ ?_ ?_ _ _) | (with_reducible refine Below.alloc ?_ ?_ _) | (with_reducible refine Below.drew ?_) | (with_reducible refine Below.setCell ?_ ?_ _) | (with_reducible assumption) | go_size | (simp only [size_addsW, World.size_alloc, World.size_drew, World.size_setCell]; omega))) (HB.out.mono (by simp))⟩
        case round =>
          clear HC HB
          obtain ⟨k, hk, rfl, hcod, hown, hvC, hvD, hbel⟩ := hrel
          have H := Lib.hid hcod
          have HO := Lib.hid hown
          have HVC := Lib.hid hvC
          have HVD := Lib.hid hvD
          have HB := Lib.hid hbel
          have hC := hcod.lt
          have hDC := hcod.dc
          clear hcod hown hvC hvD hbel
          by_cases hlt2 : k < xs.length
          · obtain ⟨b, off, z, rfl, hb, hz, hc⟩ := (HX.out.keep HB.out).at_ hlt2
            have hz40 : 0 ≤ z ∧ z < 40 := by rw [hz]; exact HALL.out k hlt2
            have HZ := Lib.hid (show z = cxF xs k from hz)
            have hat := decK_at (byD ds) (cxF xs) k
            have HG := Lib.hid (M.decK_good (d := byD ds) (c := cxF xs) (n := k) HBY.out (fun i hi => HALL.out i (by omega)))
            obtain ⟨K, hK⟩ : ∃ K, K = M.decK (byD ds) (cxF xs) k := ⟨_, rfl⟩
            have HK := Lib.hid hK
            rw [← hK] at hat
            obtain ⟨v1, hv1⟩ : ∃ v1, v1 = M.decBit K z.toNat := ⟨_, rfl⟩
            have HV1 := Lib.hid hv1
            clear hz hK hv1
            go_wp2_with (first | (go_at_call 76; refine (S_get C D c A ca ds K z _ (HK.out ▸ H.out) (HK.out ▸ HG.out) (HD.out.keep HB.out) (fun d e => by have := HA.out d e; omega) HBY.out hz40 (by omega) hln).mono ?_; rw [← HV1.out]; rintro e w' ⟨rfl, hcod2, hfrm2⟩; have H2 := Lib.hid hcod2; have HF2 := Lib.hid hfrm2; have hsz2 := hfrm2.size; clear hcod2 hfrm2) | (at_builtin; refine wpList_append_own_at _ rfl _ _ 62 rfl w.heap.size 3 i0 (.int .i64 0) 1 8 Try.underlying62 hi hz0 hz1 hz2 rfl (by decide) _ _ _ rfl ((ownsRow_frm HO.out HF2.out ⟨HVC.out, HVD.out⟩).alloc _) ⟨_, 0, none⟩ 1 1 [.int .i64 v1] rfl rfl (news1 (by go_simp; done)) (one1 rfl) (by unfold maxLen; omega) (by omega) (by have := HB.out.size; simp only [World.size_alloc]; omega) ?_; intro v' w1 hown1 hgrow1 _ hat1; obtain ⟨A1, c1, e1, -⟩ := own_shape hown1; subst e1; have HO1 := Lib.hid hown1; have HG1 := Lib.hid hgrow1; have HAT1 := Lib.hid hat1; clear hown1 hgrow1 hat1))
            go_roundw
            case rel =>
              have hbs := HB.out.size
              refine ⟨k + 1, by omega, by go_num, ?_, ?_, ?_, ?_, ?_⟩
              · rw [show M.decK (byD ds) (cxF xs) (k + 1) = M.dec1 (byD ds) K z.toNat by rw [M.decK, ← HK.out, ← HZ.out]]
                exact (H2.out.keep (by rw [alloc_as]; exact addsW_below _ _ _)).grown HG1.out HVC.out HVD.out
              · rw [decL_succ, List.map_append, show M.decB (byD ds) (cxF xs) k = v1 by rw [M.decB, ← HK.out, ← HZ.out, HV1.out]]
                exact HO1.out
              · rcases HAT1.out with h | h
                · rw [h]; exact HVC.out
                · rw [h]; simp; omega
              · rcases HAT1.out with h | h
                · rw [h]; exact HVD.out
                · rw [h]; simp; omega
              · refine Below.grown ?_ HG1.out (by simp; omega) (fun q e => (HO.out.lt q e).1)
                exact (HB.out.trans (HF2.out.below (by omega) (by omega) hbs)).trans (by rw [alloc_as]; exact (addsW_below _ _ _).mono (by omega))
            case measure => simp [intOf]; omega
          · obtain rfl : k = xs.length := by omega
            obtain ⟨A1, c1, e1, -, hcc, -, hr1, hA1⟩ := RowAt.of_ownS HO.out
            have hsf := Soft.of_own (e1 ▸ HO.out)
            have hA2 : ∀ d, A1 = some d → w.heap.size ≤ d.block := fun d hd => (HO.out.lt d.block (by rw [e1, hd]; rfl)).1
            subst e1
            have HR1 := Lib.hid hr1
            have HSF := Lib.hid hsf
            have HA2 := Lib.hid hA2
            clear hr1 hsf hA2 hA1
            go_wp2_with fail
            go_returns
            rw [HOUT.out]
            exact ⟨A1, c1, by rw [decL_len]; rfl, HR1.out, HA2.out, ⟨HSF.out, by rw [decL_len]; omega⟩, HB.out⟩

end Go.Proofs.Ytndbdfbjiaaloaa
