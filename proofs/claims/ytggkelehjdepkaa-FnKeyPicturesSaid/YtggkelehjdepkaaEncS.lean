/- The reference's EncodeBins. -/
import Derived.Test.YtggkelehjdepkaaEncI
namespace Go.Proofs.Ytggkelehjdepkaa
open Go.RowKit
set_option linter.unusedVariables false
set_option linter.unusedSimpArgs false

attribute [local go_sem] size_addsW cell?_addsW frozen?_addsW setCell_addsW drew_addsW adds_addsW setCell_twice alloc_adds0 size_adds0 adds_adds0 sel2 sel3 sel4 sel5 sel6 sel7 sel8 sel9 lt_more lt_more2 lt_more3 lt_more4 adds_drew adds_drewN drewN_addsW ltA_1_1 ltA_1_2 ltA_1_3 ltA_1_4 ltA_1_5 ltA_1_6 ltA_2_1 ltA_2_2 ltA_2_3 ltA_2_4 ltA_2_5 ltA_2_6 ltA_3_1 ltA_3_2 ltA_3_3 ltA_3_4 ltA_3_5 ltA_3_6 ltA_4_1 ltA_4_2 ltA_4_3 ltA_4_4 ltA_4_5 ltA_4_6 ltA_5_1 ltA_5_2 ltA_5_3 ltA_5_4 ltA_5_5 ltA_5_6 ltA_6_1 ltA_6_2 ltA_6_3 ltA_6_4 ltA_6_5 ltA_6_6 ltA_7_1 ltA_7_2 ltA_7_3 ltA_7_4 ltA_7_5 ltA_7_6 ltA_8_1 ltA_8_2 ltA_8_3 ltA_8_4 ltA_8_5 ltA_8_6 ltA_9_1 ltA_9_2 ltA_9_3 ltA_9_4 ltA_9_5 ltA_9_6 ltA_10_1 ltA_10_2 ltA_10_3 ltA_10_4 ltA_10_5 ltA_10_6 ltA_11_1 ltA_11_2 ltA_11_3 ltA_11_4 ltA_11_5 ltA_11_6 ltA_12_1 ltA_12_2 ltA_12_3 ltA_12_4 ltA_12_5 ltA_12_6

theorem CodAt.keep {w w' : World} {C D c : Nat} {k : M.Coder} (h : CodAt w C D c k) (hb : Below w.heap.size w w') : CodAt w' C D c k := by
  obtain ⟨⟨low, out, vo, hc, r⟩, g⟩ := h
  exact ⟨⟨low, out, vo, hc.keep hb, r⟩, g⟩
/-- the last four bytes -/
def FlRel (w : World) (C D c : Nat) (K : M.Coder) (i : Value) (wr : World) : Prop := ∃ (j : Nat) (low s q : Int) (out : List Int) (vo : Value) (ch : List Int), j ≤ 4 ∧ i = .int .i64 (j : Int) ∧ Cod wr C D c low s out vo ch ∧ 0 ≤ low ∧ low < 8589934592 ∧ (1 ≤ j → low < 4294967296) ∧ low = q * 256 ^ j ∧ M.bytesB out ∧ out.length = K.n + j ∧ M.num out * 4294967296 + low = K.N * 256 ^ j ∧ Below w.heap.size w wr
/-- the decisions so far -/
def EncRel (w : World) (C D c : Nat) (zs : List Int) (n : Nat) (i : Value) (wr : World) : Prop := ∃ k : Nat, k ≤ n ∧ i = .int .i64 (k : Int) ∧ CodAt wr C D c (M.encK (bnC zs) (bnB zs) k) ∧ Below w.heap.size w wr

set_option maxRecDepth 100000 in
set_option maxHeartbeats 2000000 in
theorem S_EncodeBins (A : Option Addr) (n c : Nat) (zs : List Int) (w : World) (hr : RowAt .i64 w A zs) (hz : zs.length = n * 2) (hl : n ≤ 1000000000) :
    Calls Try.prog 40 #[.slice A n c] w (BytesGot (encL zs n) w) := by
  have HR := Lib.hid hr
  have HZ := Lib.hid hz
  clear hr hz
  obtain ⟨i0, hi, hz0, hz1, hz2⟩ := info_parts infoU8c
  cases hv : binsB zs n
  · rw [show encL zs n = [] by simp [encL, hv]]
    go_enter Try.func40, Try.ntmps40
    go_wp2_with (go_at_call 63; refine (S_BinsValid _ _ _ zs _ (HR.out.keep (by repeat' (first | (with_reducible exact Below.refl _ _) | (with_reducible refine Below.adds_ ?_ ?_ _ _) | (with_reducible refine Below.alloc ?_ ?_ _) | (with_reducible refine Below.drew ?_) | (with_reducible refine Below.setCell ?_ ?_ _) | (with_reducible assumption) | go_size | (simp only [size_addsW, World.size_alloc, World.size_drew, World.size_setCell]; omega)))) HZ.out (by omega)).mono ?_; rintro e w' ⟨rfl, rfl⟩)
    go_returns
    exact ⟨_, 0, rfl, (fun h => absurd rfl h), (fun d hd => by cases hd; exact Nat.le_refl _), ⟨Soft.new_ _ _ _ rfl, Nat.le_refl _⟩, (by repeat' (first | (with_reducible exact Below.refl _ _) | (with_reducible refine Below.adds_ ?_ ?_ _ _) | (with_reducible refine Below.alloc ?_ ?_ _) | (with_reducible refine Below.drew ?_) | (with_reducible refine Below.setCell ?_ ?_ _) | (with_reducible assumption) | go_size | (simp only [size_addsW, World.size_alloc, World.size_drew, World.size_setCell]; omega)))⟩
  · rw [show encL zs n = M.encBytes (bnC zs) (bnB zs) n by simp [encL, hv]]
    have HOK := Lib.hid (binsB_ok hv)
    have hn2 := (binsB_ok hv).1
    go_enter Try.func40, Try.ntmps40
    go_wp2_with (first | (go_at_call 63; refine (S_BinsValid _ _ _ zs _ (HR.out.keep (by repeat' (first | (with_reducible exact Below.refl _ _) | (with_reducible refine Below.adds_ ?_ ?_ _ _) | (with_reducible refine Below.alloc ?_ ?_ _) | (with_reducible refine Below.drew ?_) | (with_reducible refine Below.setCell ?_ ?_ _) | (with_reducible assumption) | go_size | (simp only [size_addsW, World.size_alloc, World.size_drew, World.size_setCell]; omega)))) HZ.out (by omega)).mono ?_; rintro e w' ⟨rfl, rfl⟩) | (go_at_call 64; refine (S_l9Chances _).mono ?_; rintro e w' ⟨D, cc, rfl, hrow, hsoft, hD0, hD1, hb⟩; obtain ⟨o2, n2, rfl⟩ := below_adds hb; clear hb; have HRW := Lib.hid hrow; have HSF := Lib.hid hsoft; clear hrow hsoft))
    simp only [size_addsW] at hD1
    have hW : Below w.heap.size w ((addsW w o2 n2).alloc (.cells #[.int .i64 0, .int .i64 4294967295, .slice none 0 0, .slice (some ⟨D, 0, none⟩) 40 cc] 103)) := (by repeat' (first | (with_reducible exact Below.refl _ _) | (with_reducible refine Below.adds_ ?_ ?_ _ _) | (with_reducible refine Below.alloc ?_ ?_ _) | (with_reducible refine Below.drew ?_) | (with_reducible refine Below.setCell ?_ ?_ _) | (with_reducible assumption) | go_size | (simp only [size_addsW, World.size_alloc, World.size_drew, World.size_setCell]; omega)))
    have hcd : CodAt ((addsW w o2 n2).alloc (.cells #[.int .i64 0, .int .i64 4294967295, .slice none 0 0, .slice (some ⟨D, 0, none⟩) 40 cc] 103)) (w.heap.size + o2.size) D cc M.enc0 :=
      ⟨⟨0, [], .slice none 0 0, ⟨heap_new_gI _ _ _ (size_addsW _ _ _).symm, hD1, World.ownsRow_nil _ _ _ _, HRW.out.keep (by rw [alloc_as]; exact addsW_below _ _ _), HSF.out.keep (by rw [alloc_as]; exact addsW_below _ _ _)⟩, Int.le_refl _, by decide, fun x hx => by simp at hx, rfl, rfl⟩, M.good_zero⟩
    have hCge : w.heap.size ≤ w.heap.size + o2.size := by omega
    clear hD1 HRW HSF
    generalize w.heap.size + o2.size = C at hcd hCge ⊢
    generalize (addsW w o2 n2).alloc (.cells #[.int .i64 0, .int .i64 4294967295, .slice none 0 0, .slice (some ⟨D, 0, none⟩) 40 cc] 103) = W0 at hW hcd ⊢
    go_loopw [4] (fun i wr => EncRel w C D cc zs n i wr) (fun i _ => n - (intOf i).toNat)
    case atStart => exact ⟨0, Nat.zero_le _, rfl, hcd, hW⟩
    case round =>
      clear hcd hW
      obtain ⟨k, hk, rfl, hcod, hbel⟩ := hrel
      have HC := Lib.hid hcod
      have HB := Lib.hid hbel
      clear hcod hbel
      by_cases hlt : k < n
      · obtain ⟨b, off, x, y, rfl, hb, hx, hy, hc, hc2⟩ := (HR.out.keep HB.out).two HZ.out hlt
        have hxy := HOK.out.2 k hlt
        unfold bnC bnB at hxy
        rw [← hx, ← hy] at hxy
        have HX := Lib.hid hx
        have HY := Lib.hid hy
        have HXY := Lib.hid hxy
        have hkn := M.encK_len (bnC zs) (bnB zs) k
        have hsz := HB.out.size
        clear hx hy hxy
        go_wp2_with (go_at_call 65; refine (S_put C D cc _ x y _ (HC.out.keep (by repeat' (first | (with_reducible exact Below.refl _ _) | (with_reducible refine Below.adds_ ?_ ?_ _ _) | (with_reducible refine Below.alloc ?_ ?_ _) | (with_reducible refine Below.drew ?_) | (with_reducible refine Below.setCell ?_ ?_ _) | (with_reducible assumption) | go_size | (simp only [size_addsW, World.size_alloc, World.size_drew, World.size_setCell]; omega)))) HXY.out.1 HXY.out.2 (by omega)).mono ?_; rintro e w' ⟨⟨v, rfl⟩, hc', hb'⟩; have HC' := Lib.hid hc'; have HB' := Lib.hid hb'; clear hc' hb')
        go_roundw
        case rel =>
          refine ⟨k + 1, by omega, by go_num, ?_, ?_⟩
          · have := HC'.out
            rw [HX.out, HY.out] at this
            exact this
          · exact HB.out.trans (Below.trans (Below.mono (by repeat' (first | (with_reducible exact Below.refl _ _) | (with_reducible refine Below.adds_ ?_ ?_ _ _) | (with_reducible refine Below.alloc ?_ ?_ _) | (with_reducible refine Below.drew ?_) | (with_reducible refine Below.setCell ?_ ?_ _) | (with_reducible assumption) | go_size | (simp only [size_addsW, World.size_alloc, World.size_drew, World.size_setCell]; omega))) hsz) (HB'.out.mono hD0))
        case measure => simp [intOf]; omega
      · obtain rfl : k = n := by omega
        have hg := M.encK_good (c := bnC zs) (b := bnB zs) (n := k) HOK.out.2
        have HG := Lib.hid hg
        have hkn := M.encK_len (bnC zs) (bnB zs) k
        obtain ⟨K, hK⟩ : ∃ K, K = M.encK (bnC zs) (bnB zs) k := ⟨_, rfl⟩
        have HK := Lib.hid hK
        have hcod := HC.out
        rw [← hK] at hcod hg hkn
        have HG := Lib.hid hg
        clear hK HC
        go_wp2_with fail
        go_loopw [5] (fun i wr => FlRel w C D cc K i wr) (fun i _ => 4 - (intOf i).toNat)
        case atStart =>
          obtain ⟨⟨low, out, vo, hcd, h0, h1, hby, hln, hnm⟩, g⟩ := hcod
          exact ⟨0, low, K.s, low, out, vo, K.ch, by omega, rfl, hcd, h0, by have := g.s0; omega, fun h => by omega, by simp, hby, hln, by rw [hnm]; simp, HB.out⟩
        case round =>
          clear hcod HB
          obtain ⟨j, low, s, q, out, vo, ch, hj, rfl, hcd, h0, h1, h1', hq, hby, hln, hnm, hbel⟩ := hrel
          have H := Lib.hid hcd
          have HBY := Lib.hid hby
          have HLN := Lib.hid hln
          have HNM := Lib.hid hnm
          have HB := Lib.hid hbel
          have HQ := Lib.hid hq
          have hol : out.length ≤ 100000 := by omega
          clear hby hln hnm hbel hq
          by_cases hlt : j < 4
          · have hd1 : decide ((j : Int) < 4) = true := by simp; omega
            have hrm : M.num out * 4294967296 + low < 256 ^ out.length * 4294967296 := by
              rw [HNM.out, HLN.out]; exact low_room (s0 := K.s) HG.out.n1 (by have := HG.out.s0; omega)
            have HRM := Lib.hid hrm
            obtain ⟨q', hq'⟩ := low_step hlt HQ.out
            have HQ' := Lib.hid hq'
            clear hrm hq' hcd
            go_wp2_with (go_at_call 66; refine (S_shift C D cc low s out _ vo _ H.out ⟨h0, h1⟩ HBY.out HRM.out hol).mono ?_; rintro e w' ⟨v, vo2, out2, rfl, hcod2, hbel2, hlen2, hby2, hnum2⟩; have H2 := Lib.hid hcod2; have HB2 := Lib.hid hbel2; have HL2 := Lib.hid hlen2; have HY2 := Lib.hid hby2; have HN2 := Lib.hid hnum2; clear hcod2 hbel2 hlen2 hby2 hnum2)
            go_roundw
            case rel =>
              exact ⟨j + 1, low % 16777216 * 256, s, q', out2, vo2, ch, by omega, by go_num, H2.out, by omega, by omega, fun _ => by omega, HQ'.out, HY2.out, by rw [HL2.out, HLN.out]; rfl, by rw [HN2.out, HNM.out, Int.pow_succ, Int.mul_assoc], HB.out.trans (HB2.out.mono hD0)⟩
            case measure => simp [intOf]; omega
          · obtain rfl : j = 4 := by omega
            have hl0 : low = 0 := by have := HQ.out; have := h1' (by omega); simp at *; omega
            have hout : out = M.encBytes (bnC zs) (bnB zs) k := by
              refine M.encBytes_of (by rw [← HK.out]; exact HG.out) HBY.out (by rw [← HK.out]; exact HLN.out) ?_
              rw [← HK.out]
              have := HNM.out
              rw [hl0] at this
              simp at this
              omega
            have HOUT := Lib.hid hout
            obtain ⟨A1, c1, e1, -, -, -, hr1, hA1⟩ := RowAt.of_ownS hcd.row
            rcases hA1 with ⟨_, h0⟩ | ⟨g, rfl⟩
            · have := HLN.out; omega
            · subst e1
              have hCl := hcd.lt
              have hc2_ := hcd.cells.2.2.1
              have hsz := HB.out.size
              have HR1 := Lib.hid hr1
              have hpos : 0 < out.length := by have := HLN.out; omega
              clear hr1 hcd hout
              go_wp2_with (at_builtin; refine wpList_append_own _ rfl _ _ 22 rfl wr.heap.size 5 i0 (.int .u8 0) 1 1 Try.underlying22 hi hz0 hz1 hz2 rfl (by decide) (.slice (some ⟨wr.heap.size, 0, none⟩) 0 0) 0 [] rfl (own_lit_g wr 5 _ rfl) ⟨g, 0, none⟩ out.length c1 (out.map (Value.int .u8)) rfl (by simp) (RowAt.news (HR1.out.keep (by repeat' (first | (with_reducible exact Below.refl _ _) | (with_reducible refine Below.adds_ ?_ ?_ _ _) | (with_reducible refine Below.alloc ?_ ?_ _) | (with_reducible refine Below.drew ?_) | (with_reducible refine Below.setCell ?_ ?_ _) | (with_reducible assumption) | go_size | (simp only [size_addsW, World.size_alloc, World.size_drew, World.size_setCell]; omega))))) (fun u hu => by obtain ⟨z, -, rfl⟩ := List.mem_map.1 hu; rfl) (by unfold maxLen; omega) (by omega) (by simp) ?_; intro v' w1 hown1 hgrow1 _; obtain ⟨A2, c2, oo3, nn3, rfl, rfl, ho3⟩ := app_go (W0 := wr) hown1 hgrow1 (by repeat' (first | (with_reducible exact Below.refl _ _) | (with_reducible refine Below.adds_ ?_ ?_ _ _) | (with_reducible refine Below.alloc ?_ ?_ _) | (with_reducible refine Below.drew ?_) | (with_reducible refine Below.setCell ?_ ?_ _) | (with_reducible assumption) | go_size | (simp only [size_addsW, World.size_alloc, World.size_drew, World.size_setCell]; omega))) (fun q e => ((own_lit_g wr 5 _ rfl).lt q e).1); clear hown1 hgrow1)
              go_returns
              rw [← HOUT.out]
              rw [List.nil_append, Nat.zero_add] at ho3
              obtain ⟨A3, c3, e3, -, hc3, -, hr3, hA3⟩ := RowAt.of_ownS ho3
              injection e3 with e3 e4 e5
              subst e3
              exact ⟨A2, c2, rfl, hr3, fun d hd => by have := (ho3.lt d.block (by rw [hd]; rfl)).1; omega, ⟨Soft.of_own ho3, by omega⟩, HB.out.trans ((addsW_below _ _ _).mono hsz)⟩

end Go.Proofs.Ytggkelehjdepkaa
