/- The program's DecodeBins. -/
import Derived.Test.YtndbdfbjiaaloaaDecK
namespace Go.Proofs.Ytndbdfbjiaaloaa
open Go.RowKit
set_option linter.unusedVariables false
set_option linter.unusedSimpArgs false

attribute [local go_sem] size_addsW cell?_addsW frozen?_addsW setCell_addsW drew_addsW adds_addsW setCell_twice alloc_adds0 size_adds0 adds_adds0 sel2 sel3 sel4 sel5 sel6 sel7 sel8 sel9 lt_more lt_more2 lt_more3 lt_more4 adds_drew adds_drewN drewN_addsW ltA_1_1 ltA_1_2 ltA_1_3 ltA_1_4 ltA_1_5 ltA_1_6 ltA_2_1 ltA_2_2 ltA_2_3 ltA_2_4 ltA_2_5 ltA_2_6 ltA_3_1 ltA_3_2 ltA_3_3 ltA_3_4 ltA_3_5 ltA_3_6 ltA_4_1 ltA_4_2 ltA_4_3 ltA_4_4 ltA_4_5 ltA_4_6 ltA_5_1 ltA_5_2 ltA_5_3 ltA_5_4 ltA_5_5 ltA_5_6 ltA_6_1 ltA_6_2 ltA_6_3 ltA_6_4 ltA_6_5 ltA_6_6 ltA_7_1 ltA_7_2 ltA_7_3 ltA_7_4 ltA_7_5 ltA_7_6 ltA_8_1 ltA_8_2 ltA_8_3 ltA_8_4 ltA_8_5 ltA_8_6 ltA_9_1 ltA_9_2 ltA_9_3 ltA_9_4 ltA_9_5 ltA_9_6 ltA_10_1 ltA_10_2 ltA_10_3 ltA_10_4 ltA_10_5 ltA_10_6 ltA_11_1 ltA_11_2 ltA_11_3 ltA_11_4 ltA_11_5 ltA_11_6 ltA_12_1 ltA_12_2 ltA_12_3 ltA_12_4 ltA_12_5 ltA_12_6

/-- the decisions so far -/
def DcRelI (w : World) (C : Nat) (ds xs : List Int) (v i : Value) (wr : World) : Prop :=
  ∃ k : Nat, k ≤ xs.length ∧ i = .int .i64 (k : Int) ∧ DecF wr C ds (M.decK (byD ds) (cxF xs) k) ∧ wr.ownsRow (C + 1) 3 1 v k ((decL ds xs k).map (Value.int .i64)) ∧ Below w.heap.size w wr

theorem own_made_b (W : World) (cur : Array Value) (e : TypeId) (cap g base : Nat) (hg : g = W.heap.size) (hb : base ≤ g) (hm : cap ≤ maxLen) (hs : cur.size = cap * 1) : (W.alloc (.cells cur e)).ownsRow base e 1 (.slice (some ⟨g, 0, none⟩) 0 cap) 0 [] := by
  subst hg; exact World.ownsRow_made (base := base) (e := e) (size := 1) W cur cap hb hm hs
theorem DecF.grown {w w1 : World} {C : Nat} {ds : List Int} {k : M.Dec} {row : Option Nat} (h : DecF w C ds k) (hg : w.grownBy w1 row) (h1 : ∀ q, row = some q → C < q) : DecF w1 C ds k := by
  obtain ⟨A, ca, h⟩ := h
  have hC := h.lt
  refine ⟨A, ca, ⟨(hg.block C hC (fun e => by have := h1 C e.symm; omega)).trans h.blk, fun hne => ?_, h.far, h.cap, h.len⟩⟩
  obtain ⟨b, off, rfl, hb, hc⟩ := h.row hne
  have hbC := h.far _ rfl
  exact ⟨b, off, rfl, by have := hg.size; omega, fun j hj => (World.cell?_of_block (w := w) (a := ⟨b, off + j, none⟩) (hg.block b hb (fun e => by have := h1 b e.symm; simp at hbC; omega))).trans (hc j hj)⟩

set_option maxRecDepth 100000 in
set_option maxHeartbeats 1000000 in
theorem I_DecodeBins (A B : Option Addr) (ca cb : Nat) (ds xs : List Int) (w : World) (hd : RowAt .u8 w A ds) (hx : RowAt .i64 w B xs) (hA : ∀ d, A = some d → d.block < w.heap.size) (hca : ds.length ≤ ca) (hby : ∀ i, 0 ≤ ds.getD i 0 ∧ ds.getD i 0 ≤ 255) (hln : ds.length ≤ 1000000000000) (hlx : xs.length ≤ 1000000000) :
    Calls Try.prog 43 #[.slice A ds.length ca, .slice B xs.length cb] w (IntsGotD (decOut ds xs) w) := by
  have HD := Lib.hid hd
  have HX := Lib.hid hx
  have HA := Lib.hid hA
  have HBY := Lib.hid hby
  clear hd hx hA hby
  obtain ⟨i0, hi, hz0, hz1, hz2⟩ := info_parts infoIntE
  by_cases hbig : 20000 < xs.length
  · rw [show decOut ds xs = [] by rw [decOut, ctxB, decide_eq_false (by omega), Bool.false_and]; rfl]
    go_enter Try.func43, Try.ntmps43
    go_wp2_with fail
    go_returns
    exact ⟨none, 0, rfl, (fun h => absurd rfl h), (fun d hd => by cases hd), ⟨(fun d hd => by cases hd), Nat.le_refl _⟩, (by repeat' (first | (with_reducible exact Below.refl _ _) | (with_reducible refine Below.adds_ ?_ ?_ _ _) | (with_reducible refine Below.alloc ?_ ?_ _) | (with_reducible refine Below.drew ?_) | (with_reducible refine Below.setCell ?_ ?_ _) | (with_reducible assumption) | go_size | (simp only [size_addsW, World.size_alloc, World.size_drew, World.size_setCell]; omega)))⟩
  · go_enter Try.func43, Try.ntmps43
    go_wp2_with fail
    go_loop [16, 6] (fun i s6 => ∃ k : Nat, k ≤ xs.length ∧ i = .int .i64 (k : Int) ∧ ctxUp xs k = true) (fun i _ => xs.length - (intOf i).toNat)
    case atStart => exact ⟨0, Nat.zero_le _, rfl, rfl⟩
    case round =>
      obtain ⟨k, hk, rfl, ht⟩ := hrel
      have HT := Lib.hid ht
      clear ht
      by_cases hlt : k < xs.length
      · obtain ⟨b, off, z, rfl, hb, hz, hc⟩ := HX.out.at_ hlt
        have HZ := Lib.hid hz
        clear hz
        rcases (show z < 0 ∨ (0 ≤ z ∧ 39 < z) ∨ (0 ≤ z ∧ z ≤ 39) by omega) with h1 | ⟨h1, h2⟩ | ⟨h1, h2⟩
        · rw [show decOut ds xs = [] by rw [decOut, ctxB, ctxUp_no hlt (by rw [← HZ.out]; simp [M.inB]; omega), Bool.and_false]; rfl]
          go_wp2_with fail
          go_returns
          exact ⟨none, 0, rfl, (fun h => absurd rfl h), (fun d hd => by cases hd), ⟨(fun d hd => by cases hd), Nat.le_refl _⟩, (by repeat' (first | (with_reducible exact Below.refl _ _) | (with_reducible refine Below.adds_ ?_ ?_ _ _) | (with_reducible refine Below.alloc ?_ ?_ _) | (with_reducible refine Below.drew ?_) | (with_reducible refine Below.setCell ?_ ?_ _) | (with_reducible assumption) | go_size | (simp only [size_addsW, World.size_alloc, World.size_drew, World.size_setCell]; omega)))⟩
        · rw [show decOut ds xs = [] by rw [decOut, ctxB, ctxUp_no hlt (by rw [← HZ.out]; simp [M.inB]; omega), Bool.and_false]; rfl]
          go_wp2_with fail
          go_returns
          exact ⟨none, 0, rfl, (fun h => absurd rfl h), (fun d hd => by cases hd), ⟨(fun d hd => by cases hd), Nat.le_refl _⟩, (by repeat' (first | (with_reducible exact Below.refl _ _) | (with_reducible refine Below.adds_ ?_ ?_ _ _) | (with_reducible refine Below.alloc ?_ ?_ _) | (with_reducible refine Below.drew ?_) | (with_reducible refine Below.setCell ?_ ?_ _) | (with_reducible assumption) | go_size | (simp only [size_addsW, World.size_alloc, World.size_drew, World.size_setCell]; omega)))⟩
        · go_wp2_with fail
          go_round
          case rel => exact ⟨k + 1, by omega, by go_num, by rw [ctxUp_succ, HT.out, ← HZ.out]; simp [M.inB]; omega⟩
          case measure => simp [intOf]; omega
      · obtain rfl : k = xs.length := by omega
        have hall := ctxUp_at HT.out
        have HALL := Lib.hid hall
        have hout : decOut ds xs = decL ds xs xs.length := by rw [decOut, ctxB, HT.out, decide_eq_true (by omega)]; rfl
        have HOUT := Lib.hid hout
        clear hout hall
        have hmk : ∀ W : World, (Instr.makeSlice 62 (.int .i64 0) (.int .i64 (xs.length : Int))).run Try.prog W = .ok (.slice (some ⟨W.heap.size, 0, none⟩) 0 xs.length) (W.alloc (.cells (madeCells #[.int .i64 0] xs.length) 3)) := by
          intro W
          have hh := run_make (P := Try.prog) W 62 3 i0 (.int .i64 0) Try.underlying62 hi hz0 .i64 .i64 0 xs.length (by omega) (by omega) (by rw [hz2]; omega) (by omega)
          simpa [hz1, Value.cells] using hh
        go_wp2_with (go_at_call 77; refine (I_newBinDecoder A ca ds _ HD.out HA.out hca HBY.out hln).mono ?_; rintro e w' ⟨C, rfl, hcod, hCge, hb⟩; have HC := Lib.hid hcod; have hCl := hcod.lt; have HB := Lib.hid hb; clear hcod hb)
        go_loopw [8, 34, 10] (fun v i s10 wr => DcRelI w C ds xs v i wr) (fun _ i _ _ => xs.length - (intOf i).toNat)
        case atStart =>
          exact ⟨0, Nat.zero_le _, rfl, HC.out.keep (by rw [alloc_as]; exact addsW_below _ _ _), own_made_b _ _ _ _ _ _ (by simp) (by omega) (by unfold maxLen; omega) (by rw [size_madeCells]; simp), HB.out.trans (by rw [alloc_as]; exact (addsW_below _ _ _).mono HB.out.size)⟩
        case round =>
          clear HC HB
          obtain ⟨k, hk, rfl, hcod, hown, hbel⟩ := hrel
          have H := Lib.hid hcod
          have HO := Lib.hid hown
          have HB := Lib.hid hbel
          have hC := hcod.lt
          clear hcod hown hbel
          by_cases hlt2 : k < xs.length
          · obtain ⟨b, off, z, rfl, hb, hz, hc⟩ := (HX.out.keep HB.out).at_ hlt2
            have hz40 : 0 ≤ z ∧ z < 40 := by rw [hz]; exact HALL.out k hlt2
            have HZ := Lib.hid (show z = cxF xs k from hz)
            have HG := Lib.hid (M.decK_good (d := byD ds) (c := cxF xs) (n := k) HBY.out (fun i hi => HALL.out i (by omega)))
            obtain ⟨K, hK⟩ : ∃ K, K = M.decK (byD ds) (cxF xs) k := ⟨_, rfl⟩
            have HK := Lib.hid hK
            obtain ⟨v1, hv1⟩ : ∃ v1, v1 = M.decBit K z.toNat := ⟨_, rfl⟩
            have HV1 := Lib.hid hv1
            clear hz hK hv1
            go_wp2_with (first | (go_at_call 78; refine (I_decode C ds K z _ (HK.out ▸ H.out) (HK.out ▸ HG.out) HBY.out hz40 hln).mono ?_; rw [← HV1.out]; rintro e w' ⟨rfl, hcod2, hbel2⟩; have H2 := Lib.hid hcod2; have HB2 := Lib.hid hbel2; have hsz2 := hbel2.size; clear hcod2 hbel2) | (at_builtin; refine wpList_append_own _ rfl _ _ 62 rfl (C + 1) 3 i0 (.int .i64 0) 1 8 Try.underlying62 hi hz0 hz1 hz2 rfl (by decide) _ _ _ rfl ((ownsRow_frm HO.out HB2.out ⟨fun e => by have := HO.out.lt C e; omega, fun e => by have := HO.out.lt C e; omega⟩).alloc _) ⟨_, 0, none⟩ 1 1 [.int .i64 v1] rfl rfl (news1 (by go_simp; done)) (one1 rfl) (by unfold maxLen; omega) (by omega) (by simp only [World.size_alloc]; omega) ?_; intro v' w1 hown1 hgrow1 _; obtain ⟨A1, c1, e1, -⟩ := own_shape hown1; subst e1; have HO1 := Lib.hid hown1; have HG1 := Lib.hid hgrow1; clear hown1 hgrow1))
            go_roundw
            case rel =>
              have hbs := HB.out.size
              refine ⟨k + 1, by omega, by go_num, ?_, ?_, ?_⟩
              · rw [show M.decK (byD ds) (cxF xs) (k + 1) = M.dec1 (byD ds) K z.toNat by rw [M.decK, ← HK.out, ← HZ.out]]
                exact (H2.out.keep (by rw [alloc_as]; exact addsW_below _ _ _)).grown HG1.out (fun q e => (HO.out.lt q e).1)
              · rw [decL_succ, List.map_append, show M.decB (byD ds) (cxF xs) k = v1 by rw [M.decB, ← HK.out, ← HZ.out, HV1.out]]
                exact HO1.out
              · refine Below.grown ?_ HG1.out (by simp; omega) (fun q e => by have := (HO.out.lt q e).1; omega)
                exact (HB.out.trans (HB2.out.below (by omega) (by omega) hbs)).trans (by rw [alloc_as]; exact (addsW_below _ _ _).mono (by omega))
            case measure => simp [intOf]; omega
          · obtain rfl : k = xs.length := by omega
            obtain ⟨A1, c1, e1, -, hcc, -, hr1, hA1⟩ := RowAt.of_ownS HO.out
            have hsf := Soft.of_own (e1 ▸ HO.out)
            have hA2 : ∀ d, A1 = some d → w.heap.size ≤ d.block := fun d hd => by
              have := (HO.out.lt d.block (by rw [e1, hd]; rfl)).1
              omega
            subst e1
            have HR1 := Lib.hid hr1
            have HSF := Lib.hid hsf
            have HA2 := Lib.hid hA2
            clear hr1 hsf hA2 hA1
            go_wp2_with fail
            go_returns
            rw [HOUT.out]
            exact ⟨A1, c1, by rw [decL_len]; rfl, HR1.out, HA2.out, ⟨HSF.out, by rw [decL_len]; omega⟩, HB.out⟩

end Go.Proofs.Ytndbdfbjiaaloaa
