/- Marks in lists of coded pictures, and two lists compared. -/
import Derived.Test.YtbnccnngcgbklaaMarkK
namespace Go.Proofs.Ytbnccnngcgbklaa
open Go.RowKit Go.Deep
set_option linter.unusedVariables false
set_option linter.unusedSimpArgs false

attribute [local go_sem] size_addsW cell?_addsW frozen?_addsW setCell_addsW drew_addsW adds_addsW setCell_twice alloc_adds0 size_adds0 adds_adds0 sel2 sel3 sel4 sel5 sel6 sel7 sel8 sel9 lt_more lt_more2 lt_more3 lt_more4 adds_drew adds_drewN drewN_addsW ltA_1_1 ltA_1_2 ltA_1_3 ltA_1_4 ltA_1_5 ltA_1_6 ltA_2_1 ltA_2_2 ltA_2_3 ltA_2_4 ltA_2_5 ltA_2_6 ltA_3_1 ltA_3_2 ltA_3_3 ltA_3_4 ltA_3_5 ltA_3_6 ltA_4_1 ltA_4_2 ltA_4_3 ltA_4_4 ltA_4_5 ltA_4_6 ltA_5_1 ltA_5_2 ltA_5_3 ltA_5_4 ltA_5_5 ltA_5_6 ltA_6_1 ltA_6_2 ltA_6_3 ltA_6_4 ltA_6_5 ltA_6_6 ltA_7_1 ltA_7_2 ltA_7_3 ltA_7_4 ltA_7_5 ltA_7_6 ltA_8_1 ltA_8_2 ltA_8_3 ltA_8_4 ltA_8_5 ltA_8_6 ltA_9_1 ltA_9_2 ltA_9_3 ltA_9_4 ltA_9_5 ltA_9_6 ltA_10_1 ltA_10_2 ltA_10_3 ltA_10_4 ltA_10_5 ltA_10_6 ltA_11_1 ltA_11_2 ltA_11_3 ltA_11_4 ltA_11_5 ltA_11_6 ltA_12_1 ltA_12_2 ltA_12_3 ltA_12_4 ltA_12_5 ltA_12_6

def lenOk (n : Nat) (E : Nat → CdE) : Prop := ∀ i, i < n → (E i).n ≤ 1048576 ∧ ∀ j, j < (E i).n → ((E i).z j).length = (E i).l j ∧ (E i).l j ≤ 1048576

theorem put4 {wr : World} {g k n : Nat} {cs : Array Value} {t : TypeId} {E : Nat → CdE} {tb : Nat → Nat} (h : Blk wr g cs t) (hc : ∀ j, k ≤ j → j < n → ∀ r, r < 5 → cs[j * 5 + r]? = some (r5 E tb j)[r]!) (v0 v1 v2 v3 : Value) :
    ∃ cs', Blk ((((wr.setCell ⟨g, k * 5, none⟩ v0).setCell ⟨g, k * 5 + 1, none⟩ v1).setCell ⟨g, k * 5 + 2, none⟩ v2).setCell ⟨g, k * 5 + 3, none⟩ v3) g cs' t ∧ (∀ j, k + 1 ≤ j → j < n → ∀ r, r < 5 → cs'[j * 5 + r]? = some (r5 E tb j)[r]!) ∧ (k < n → cs'[k * 5 + 4]? = some (r5 E tb k)[4]!) := by
  refine ⟨_, (((h.set (k * 5) v0).set (k * 5 + 1) v1).set (k * 5 + 2) v2).set (k * 5 + 3) v3, fun j hj hjn r hr => ?_, fun hkn => ?_⟩
  · simp only [Array.getElem?_setIfInBounds]
    rw [if_neg (by omega), if_neg (by omega), if_neg (by omega), if_neg (by omega)]
    exact hc j (by omega) hjn r hr
  · simp only [Array.getElem?_setIfInBounds]
    rw [if_neg (by omega), if_neg (by omega), if_neg (by omega), if_neg (by omega)]
    exact hc k (Nat.le_refl _) hkn 4 (by omega)

set_option maxRecDepth 100000 in
set_option maxHeartbeats 1000000 in
theorem L_markCodedS (g n c : Nat) (tb : Nat → Nat) (p : Nat → Nat → Nat) (E : Nat → CdE) (k0 : Int) (w : World) (h : COwn w g n n tb p E) (hz : lenOk n E) (hn : n + sm (totS E) n ≤ 1048576) (hk0 : 0 ≤ k0 ∧ k0 ≤ 1000) (hi : Nat) (hhi : g < hi ∧ ∀ i, i < n → ∀ s, s < (E i).n → p i s < hi) :
    Calls Try.prog 17 #[.slice (some ⟨g, 0, none⟩) n c, .int .i64 k0] w fun e w' => (∃ k1 : Int, 0 ≤ k1 ∧ k1 ≤ 1000000000 ∧ e = .returned (.int .i64 k1)) ∧ Twx (fun b => g ≤ b ∧ b < hi) w w' := by
  have HS := Lib.hid h
  have HZ := Lib.hid hz
  have hn1 : n ≤ 1048576 := by omega
  have HN := Lib.hid hn
  have HHI := Lib.hid hhi
  clear h hz hn hhi
  go_enter Try.func17, Try.ntmps17
  go_wp2
  go_loopw [1, 5] (fun x i wr => ∃ (k : Nat) (K : Int) (cs : Array Value), k ≤ n ∧ x = .int .i64 K ∧ i = .int .i64 (k : Int) ∧ 0 ≤ K ∧ K ≤ k0 + 4 * k + (sm (totS E) k : Nat) ∧ Blk wr g cs 27 ∧ (∀ j, k ≤ j → j < n → ∀ r, r < 5 → cs[j * 5 + r]? = some (r5 E tb j)[r]!) ∧ Twx (fun b => b = g ∨ ∃ i, i < k ∧ ∃ s, s < (E i).n ∧ b = p i s) w wr) (fun _ i _ => n - (intOf i).toNat)
  case atStart => exact ⟨0, k0, _, by omega, rfl, rfl, by omega, by simp [sm], HS.out.b, fun j _ hj r hr => csA_lo hj hj hr, Twx.refl _ _⟩
  case round =>
    obtain ⟨k, K, cs, hk, rfl, rfl, hK0, hK1, hb, hc, ht⟩ := hrel
    have HT := Lib.hid ht
    have HB := Lib.hid hb
    have HC := Lib.hid hc
    clear ht hb hc
    by_cases hlt : k < n
    · have hq : ∀ i, i < n → g < tb i := fun i hi => (HS.out.r i hi).2
      have hT2 : ¬ (tb k = g ∨ ∃ i, i < k ∧ ∃ s, s < (E i).n ∧ tb k = p i s) := by
        rintro (e | ⟨i, hi, s, hs, e⟩)
        · have := hq k hlt; omega
        · have := (HS.out.inc i k hi hlt).2 s hs; omega
      have hP2 : ∀ s, s < (E k).n → ¬ (p k s = g ∨ ∃ i, i < k ∧ ∃ s', s' < (E i).n ∧ p k s = p i s') := by
        rintro s hs (e | ⟨i, hi, s', hs', e⟩)
        · have := hq k hlt; have := ((HS.out.r k hlt).1.r s hs).2; omega
        · have := (HS.out.inc i k hi hlt).2 s' hs'; have := ((HS.out.r k hlt).1.r s hs).2; omega
      have HSS := Lib.hid (HT.out.ss (HS.out.r k hlt).1 hT2 hP2)
      have d0 : wr.cell? ⟨g, k * 5, none⟩ = some (.int .i64 (E k).x) := HB.out.get (HC.out k (Nat.le_refl _) hlt 0 (by omega))
      have d1 : wr.cell? ⟨g, k * 5 + 1, none⟩ = some (.int .i64 (E k).y) := HB.out.get (HC.out k (Nat.le_refl _) hlt 1 (by omega))
      have d2 : wr.cell? ⟨g, k * 5 + 2, none⟩ = some (.bool (E k).i) := HB.out.get (HC.out k (Nat.le_refl _) hlt 2 (by omega))
      have d3 : wr.cell? ⟨g, k * 5 + 3, none⟩ = some (.int .i64 (E k).q) := HB.out.get (HC.out k (Nat.le_refl _) hlt 3 (by omega))
      have f0 := HB.out.hot (k * 5)
      have f1 := HB.out.hot (k * 5 + 1)
      have f2 := HB.out.hot (k * 5 + 2)
      have f3 := HB.out.hot (k * 5 + 3)
      have hlm := sm_le (totS E) (show k + 1 ≤ n by omega)
      have hs1 : sm (totS E) (k + 1) = sm (totS E) k + ((E k).n + sm (E k).l (E k).n) := rfl
      have hnn := HN.out
      have hKB : K + 10 ≤ 100000000 := by omega
      have hgl := HB.out.lt
      have hgt := hq k hlt
      have hzk := HZ.out k hlt
      have HSM := Lib.hid (show (E k).n + sm (E k).l (E k).n ≤ 1048576 by omega)
      have HK2 := Lib.hid (show (K + 4 + (sm (E k).l (E k).n : Nat)) ≤ k0 + 4 * ((k + 1 : Nat) : Int) + (sm (totS E) (k + 1) : Nat) by omega)
      have CM := Lib.hid (show ∀ W, SSOwn W (tb k) (E k).n (E k).n (p k) (E k).l (E k).z → Calls Try.prog 26 #[.slice (some ⟨tb k, 0, none⟩) (E k).n (E k).n, .int .i64 (K + 1 + 1 + 1 + 1)] W fun e w' => e = .returned (.int .i64 (K + 4 + (sm (E k).l (E k).n : Nat))) ∧ Twx (fun b => ∃ s, s < (E k).n ∧ b = p k s) W w' from fun W hW => by
        have := L_markByteSS (tb k) (E k).n (E k).n (p k) (E k).l (E k).z (K + 1 + 1 + 1 + 1) W hW hzk.2 HSM.out (by omega)
        rwa [show K + 1 + 1 + 1 + 1 + ((sm (E k).l (E k).n : Nat) : Int) = K + 4 + (sm (E k).l (E k).n : Nat) by omega] at this)
      have HSet := Lib.hid (show ∀ v0 v1 v2 v3, SSOwn ((((wr.setCell ⟨g, k * 5, none⟩ v0).setCell ⟨g, k * 5 + 1, none⟩ v1).setCell ⟨g, k * 5 + 2, none⟩ v2).setCell ⟨g, k * 5 + 3, none⟩ v3) (tb k) (E k).n (E k).n (p k) (E k).l (E k).z from fun v0 v1 v2 v3 => (((HSS.out.set (by simpa using hgt) _).set (by simpa using hgt) _).set (by simpa using hgt) _).set (by simpa using hgt) _)
      have HNon := Lib.hid (show g ≠ tb k ∧ ∀ s, s < (E k).n → g ≠ p k s from ⟨by omega, fun s hs => by have := ((HS.out.r k hlt).1.r s hs).2; omega⟩)
      clear hlm hs1 hnn hzk hT2 hP2 hq hgt
      go_upto_region 12 with fail
      refine all_add' ?_
      intro Y hY
      have hset : ∃ v0 v1 v2 v3, Y = (((wr.setCell ⟨g, k * 5, none⟩ v0).setCell ⟨g, k * 5 + 1, none⟩ v1).setCell ⟨g, k * 5 + 2, none⟩ v2).setCell ⟨g, k * 5 + 3, none⟩ v3 := ⟨_, _, _, _, hY⟩
      clear hY d0 d1 d2 d3 f0 f1 f2 f3 hgl
      obtain ⟨v0, v1, v2, v3, hY⟩ := hset
      obtain ⟨cs', hb', hc', hc4⟩ := put4 (n := n) HB.out HC.out v0 v1 v2 v3
      rw [← hY] at hb'
      have HSY := Lib.hid (show SSOwn Y (tb k) (E k).n (E k).n (p k) (E k).l (E k).z from by rw [hY]; exact HSet.out v0 v1 v2 v3)
      have HTY := Lib.hid (show Twx (fun b => b = g ∨ ∃ i, i < k ∧ ∃ s, s < (E i).n ∧ b = p i s) w Y from by rw [hY]; exact (((HT.out.set (.inl rfl) _ _).set (.inl rfl) _ _).set (.inl rfl) _ _).set (.inl rfl) _ _)
      have d4 : Y.cell? ⟨g, k * 5 + 4, none⟩ = some (.slice (some ⟨tb k, 0, none⟩) (E k).n (E k).n) := hb'.get (hc4 hlt)
      have hgl := hb'.lt
      have HBY := Lib.hid hb'
      have HCY := Lib.hid hc'
      clear hY hb' hc' hc4 HSet
      have HP := Lib.hid (show ∀ W, Twx (fun b => ∃ s, s < (E k).n ∧ b = p k s) Y W → Twx (fun b => b = g ∨ ∃ i, i < k + 1 ∧ ∃ s, s < (E i).n ∧ b = p i s) w W ∧ Blk W g cs' 27 from fun W hW => ⟨(HTY.out.mono (by rintro b (e | ⟨i, hi, s, hs, e⟩); exact .inl e; exact .inr ⟨i, by omega, s, hs, e⟩)).trans (hW.mono (by rintro b ⟨s, hs, e⟩; exact .inr ⟨k, by omega, s, hs, e⟩)), hW.blk HBY.out (by rintro ⟨s, hs, e⟩; exact HNon.out.2 s hs e)⟩)
      have hsm : 0 ≤ K + 4 + (sm (E k).l (E k).n : Nat) := by omega
      generalize tb k = tk at d4 CM HSY
      generalize K + 4 + (sm (E k).l (E k).n : Nat) = K2 at CM HK2 hsm
      go_wp2_with (go_at_call 26; refine (CM.out _ HSY.out).mono ?_; rintro e w' ⟨rfl, ht1⟩; have HT1 := Lib.hid ht1; clear ht1)
      go_roundw
      case rel => exact ⟨k + 1, _, cs', by omega, rfl, by go_num, hsm, HK2.out, (HP.out _ HT1.out).2, HCY.out, (HP.out _ HT1.out).1⟩
      case measure => simp [intOf]; omega
    · obtain rfl : k = n := by omega
      have hnn := HN.out
      have hKB : K ≤ 1000000000 := by omega
      clear hnn
      go_wp2
      go_returns
      refine ⟨⟨K, hK0, hKB, rfl⟩, HT.out.mono ?_⟩
      rintro b (rfl | ⟨i, hi, s, hs, rfl⟩)
      · exact ⟨Nat.le_refl _, HHI.out.1⟩
      · have h1 := (HS.out.r i hi).1.r s hs
        have h2 := (HS.out.r i hi).2
        exact ⟨by omega, HHI.out.2 i hi s hs⟩

end Go.Proofs.Ytbnccnngcgbklaa
