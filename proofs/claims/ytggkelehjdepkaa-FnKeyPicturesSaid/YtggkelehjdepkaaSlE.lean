/- EncodeSlice, the reference's. -/
import Derived.Test.YtggkelehjdepkaaMsl
import Derived.Test.YtggkelehjdepkaaMbT
import Derived.Test.YtggkelehjdepkaaMbO
import Derived.Test.YtggkelehjdepkaaEncS
namespace Go.Proofs.Ytggkelehjdepkaa
open Go.RowKit
set_option linter.unusedVariables false
set_option linter.unusedSimpArgs false

attribute [local go_sem] size_addsW cell?_addsW frozen?_addsW setCell_addsW drew_addsW adds_addsW setCell_twice alloc_adds0 size_adds0 adds_adds0 sel2 sel3 sel4 sel5 sel6 sel7 sel8 sel9 lt_more lt_more2 lt_more3 lt_more4 adds_drew adds_drewN drewN_addsW ltA_1_1 ltA_1_2 ltA_1_3 ltA_1_4 ltA_1_5 ltA_1_6 ltA_2_1 ltA_2_2 ltA_2_3 ltA_2_4 ltA_2_5 ltA_2_6 ltA_3_1 ltA_3_2 ltA_3_3 ltA_3_4 ltA_3_5 ltA_3_6 ltA_4_1 ltA_4_2 ltA_4_3 ltA_4_4 ltA_4_5 ltA_4_6 ltA_5_1 ltA_5_2 ltA_5_3 ltA_5_4 ltA_5_5 ltA_5_6 ltA_6_1 ltA_6_2 ltA_6_3 ltA_6_4 ltA_6_5 ltA_6_6 ltA_7_1 ltA_7_2 ltA_7_3 ltA_7_4 ltA_7_5 ltA_7_6 ltA_8_1 ltA_8_2 ltA_8_3 ltA_8_4 ltA_8_5 ltA_8_6 ltA_9_1 ltA_9_2 ltA_9_3 ltA_9_4 ltA_9_5 ltA_9_6 ltA_10_1 ltA_10_2 ltA_10_3 ltA_10_4 ltA_10_5 ltA_10_6 ltA_11_1 ltA_11_2 ltA_11_3 ltA_11_4 ltA_11_5 ltA_11_6 ltA_12_1 ltA_12_2 ltA_12_3 ltA_12_4 ltA_12_5 ltA_12_6

def slU (zs : List Int) (b : Bool) : Nat → List Int
  | 0 => []
  | k + 1 => slU zs b k ++ macL (sub zs (k * 71) 71) b
def slM (zs : List Int) (b : Bool) : Nat → Nat
  | 0 => 0
  | k + 1 => slM zs b k + macM (sub zs (k * 71) 71) b
def slOK (zs : List Int) (b : Bool) (k : Nat) : Bool := (List.range k).all fun i => mbOK (sub zs (i * 71) 71) b
def slB (zs : List Int) (b : Bool) (n : Nat) : List Int := if 1 ≤ n ∧ n ≤ 4 ∧ slOK zs b n = true then encL (slU zs b n) (slM zs b n) else []
theorem slOK_succ (zs : List Int) (b : Bool) (k : Nat) : slOK zs b (k + 1) = (slOK zs b k && mbOK (sub zs (k * 71) 71) b) := by simp [slOK, List.range_succ]
theorem slOK_no {zs : List Int} {b : Bool} {k n : Nat} (h : k < n) (hk : mbOK (sub zs (k * 71) 71) b = false) : slOK zs b n = false := by
  simp only [slOK, List.all_eq_false]
  exact ⟨k, List.mem_range.2 h, by simp [hk]⟩
theorem slU_len (zs : List Int) (b : Bool) : ∀ k, (slU zs b k).length = slM zs b k * 2
  | 0 => rfl
  | k + 1 => by rw [slU, slM, List.length_append, slU_len zs b k, macL_len]; omega
theorem slM_le {zs : List Int} {b : Bool} {n : Nat} (hz : zs.length = n * 71) : ∀ k, k ≤ n → slOK zs b k = true → slM zs b k ≤ 5000 * k
  | 0, _, _ => Nat.le_refl _
  | k + 1, hk, h => by
    rw [slOK_succ, Bool.and_eq_true] at h
    have h1 := slM_le hz k (by omega) h.1
    have h2 := macM_le (MacOk.of (zs := sub zs (k * 71) 71) (sub_len (by omega)) (by have := h.2; simp only [mbOK, Bool.and_eq_true] at this; exact this.1)) b
    rw [slM]; omega

/-- the decisions so far -/
def SlRel (w : World) (v : Value) (m : Nat) (us : List Int) (wr : World) : Prop :=
  wr.ownsRow w.heap.size 35 2 v m (us.map (Value.int .i64)) ∧ Below w.heap.size w wr
theorem SlRel.next {w wr w' : World} {v : Value} {m : Nat} {us : List Int} (h : SlRel w v m us wr) (hb : Below wr.heap.size wr w') : SlRel w v m us w' := ⟨ownsRow_below h.1 hb, h.2.trans (hb.mono h.2.size)⟩
theorem BytesGot.nil0 (w w' : World) (hb : Below w.heap.size w w') : BytesGot [] w (.returned (.slice none 0 0)) w' := ⟨none, 0, rfl, fun h => absurd rfl h, fun d hd => (by cases hd), ⟨fun d hd => (by cases hd), Nat.le_refl _⟩, hb⟩
theorem BytesGot.lit (w wr : World) (hb : Below w.heap.size w wr) (g : Nat) (hg : g = wr.heap.size) : BytesGot [] w (.returned (.slice (some ⟨g, 0, none⟩) 0 0)) (wr.alloc (.cells #[] 5)) := by
  subst hg
  have := hb.size
  exact ⟨_, 0, rfl, fun h => absurd rfl h, fun d hd => (by cases hd; exact this), ⟨Soft.new_ _ _ _ rfl, Nat.le_refl _⟩, hb.alloc (by omega) _⟩
theorem BytesGot.later {l : List Int} {w0 w w' : World} {e : Ending} (h : BytesGot l w e w') (hb : Below w0.heap.size w0 w) : BytesGot l w0 e w' := by
  obtain ⟨A, c, rfl, h1, h2, h3, h4⟩ := h
  exact ⟨A, c, rfl, h1, fun d hd => by have := h2 d hd; have := hb.size; omega, h3, hb.trans (h4.mono hb.size)⟩
theorem mb_cases (ys : List Int) (b : Bool) (kd : Int) (hk : kd = ys.getD 0 0) : (macB ys = false ∧ mbOK ys b = false) ∨ (macB ys = true ∧ b = true ∧ kd ≠ 2 ∧ mbOK ys b = false) ∨ (macB ys = true ∧ mbOK ys b = true ∧ (b = false ∨ (b = true ∧ kd = 2))) := by
  cases h : macB ys
  · exact .inl ⟨rfl, by simp [mbOK, h]⟩
  · cases b
    · exact .inr (.inr ⟨rfl, by simp [mbOK, h], .inl rfl⟩)
    · by_cases hk2 : kd = 2
      · exact .inr (.inr ⟨rfl, by simp only [mbOK, mkK, ← hk, h]; simp [hk2], .inr ⟨rfl, hk2⟩⟩)
      · exact .inr (.inl ⟨rfl, rfl, hk2, by simp only [mbOK, mkK, ← hk, h]; simp [hk2]⟩)

set_option maxRecDepth 100000 in
set_option maxHeartbeats 2000000 in
theorem S_EncodeSlice (A : Option Addr) (n c : Nat) (zs : List Int) (b : Bool) (w : World) (hr : RowAt .i64 w A zs) (hz : zs.length = n * 71) (hl : n ≤ 1000000000) :
    Calls Try.prog 14 #[.slice A n c, .bool b] w (BytesGot (slB zs b n) w) := by
  have HR := Lib.hid hr
  have HZ := Lib.hid hz
  clear hr hz
  by_cases h14 : 1 ≤ n ∧ n ≤ 4
  · have hin : M.inB (n : Int) 1 4 = true := by simp [M.inB]; omega
    go_enter Try.func14, Try.ntmps14
    go_wp2_with (go_at_call 36; refine (S_l1In _ _ _ _).mono ?_; rw [hin]; rintro e w' ⟨rfl, rfl⟩)
    go_loopw [5, 6] (fun v i wr => ∃ k : Nat, k ≤ n ∧ i = .int .i64 (k : Int) ∧ slOK zs b k = true ∧ SlRel w v (slM zs b k) (slU zs b k) wr) (fun _ i _ => n - (intOf i).toNat)
    case atStart => exact ⟨0, Nat.zero_le _, rfl, rfl, own_lit_s w 35 _ w.heap.size 2 (by decide) rfl (Nat.le_refl _), (by repeat' (first | (with_reducible exact Below.refl _ _) | (with_reducible refine Below.adds_ ?_ ?_ _ _) | (with_reducible refine Below.alloc ?_ ?_ _) | (with_reducible refine Below.drew ?_) | (with_reducible refine Below.setCell ?_ ?_ _) | (with_reducible assumption) | go_size | (simp only [size_addsW, World.size_alloc, World.size_drew, World.size_setCell]; omega)))⟩
    case round =>
      obtain ⟨k, hk, rfl, hok, hS⟩ := hrel
      have HS := Lib.hid hS
      have HOK := Lib.hid hok
      have hmk := slM_le HZ.out k hk hok
      clear hS hok
      have hsw := HS.out.2.size
      by_cases hlt : k < n
      · have hd1 : decide ((k : Int) < (n : Int)) = true := by simp; omega
        have hk1 : (k : Int) < (n : Int) := by omega
        have hRw := HR.out.keep HS.out.2
        obtain ⟨g, off, rfl, hb, hsl, hcl⟩ := hRw.part HZ.out hlt
        have HU := Lib.hid (show slU zs b (k + 1) = slU zs b k ++ macL (sub zs (k * 71) 71) b from rfl)
        have HMM := Lib.hid (show slM zs b (k + 1) = slM zs b k + macM (sub zs (k * 71) 71) b from rfl)
        have HNO := Lib.hid (fun h => slOK_no (zs := zs) (b := b) hlt h)
        have HSU := Lib.hid (slOK_succ zs b k)
        obtain ⟨ys, hys⟩ : ∃ ys, ys = sub zs (k * 71) 71 := ⟨_, rfl⟩
        rw [← hys] at hsl hcl HU HMM HNO HSU
        obtain ⟨kd, hkd⟩ : ∃ kd, kd = ys.getD 0 0 := ⟨_, rfl⟩
        have hcs := mb_cases ys b kd hkd
        have c0 := hcl 0 (by omega)
        rw [Nat.add_zero, ← hkd] at c0
        have HCL := Lib.hid hcl
        have HSL := Lib.hid hsl
        clear hcl hsl hRw hys hkd
        rcases hcs with ⟨h1, h2⟩ | ⟨h1, rfl, hk2, h2⟩ | ⟨h1, h2, h3⟩
        · have hfin : slB zs b n = [] := if_neg (by rw [HNO.out h2]; simp)
          have HF := Lib.hid hfin
          clear h2 hfin
          go_wp2_with (first | (focus ((with_reducible refine wpList_wanted ?_ (fun K hK => ?_)); rotate_left; (refine wp_load_at 29 (.tmp 21) ?ho g (off + k * 71) 71 ?hx ys _ HCL.out HSL.out Try.underlying29 rfl infoMacS (hK _ _ ?_)); (case ho => with_reducible rfl); (case hx => rfl); rotate_left; rfl)) | (go_at_call 10; refine (S_MacroValid ys _ HSL.out).mono ?_; rw [h1]; rintro e w' ⟨rfl, hb2⟩; obtain ⟨o1, n1, rfl⟩ := below_adds hb2; clear hb2))
          go_returns
          rw [HF.out]
          exact BytesGot.lit w _ (Below.adds_ HS.out.2 hsw _ _) _ (by simp [size_addsW])
        · have hfin : slB zs true n = [] := if_neg (by rw [HNO.out h2]; simp)
          have HF := Lib.hid hfin
          clear h2 hfin
          have hk2b : (kd != 2) = true := by simp [hk2]
          have hk2c : (kd == 2) = false := by simp [hk2]
          go_wp2_with (first | (focus ((with_reducible refine wpList_wanted ?_ (fun K hK => ?_)); rotate_left; (refine wp_load_at 29 (.tmp 21) ?ho g (off + k * 71) 71 ?hx ys _ HCL.out HSL.out Try.underlying29 rfl infoMacS (hK _ _ ?_)); (case ho => with_reducible rfl); (case hx => rfl); rotate_left; rfl)) | (go_at_call 10; refine (S_MacroValid ys _ HSL.out).mono ?_; rw [h1]; rintro e w' ⟨rfl, hb2⟩; obtain ⟨o1, n1, rfl⟩ := below_adds hb2; clear hb2))
          go_returns
          rw [HF.out]
          exact BytesGot.lit w _ (Below.adds_ HS.out.2 hsw _ _) _ (by simp [size_addsW])
        · have hM := MacOk.of HSL.out h1
          have HSO := Lib.hid (show slOK zs b (k + 1) = true by rw [HSU.out, HOK.out, h2]; rfl)
          have hmm := macM_le hM b
          have hmp := macM_pos ys b
          have HC := Lib.hid (show ∀ W, Calls Try.prog 35 #[.agg (rowI ys), .bool b] W (BinsMade (macM ys b) (macL ys b) W) from fun W => S_l10Macro ys b W hM)
          generalize macM ys b = mm at *
          generalize macL ys b = lm at *
          generalize slM zs b k = mk at *
          generalize slU zs b k = uk at *
          obtain ⟨A1, c1, rfl, -, -⟩ := own_shape HS.out.1
          clear hM h2
          rcases h3 with rfl | ⟨rfl, rfl⟩
          all_goals
            go_wp2_with (first | (focus ((with_reducible refine wpList_wanted ?_ (fun K hK => ?_)); rotate_left; (refine wp_load_at 29 (.tmp 21) ?ho g (off + k * 71) 71 ?hx ys _ HCL.out HSL.out Try.underlying29 rfl infoMacS (hK _ _ ?_)); (case ho => with_reducible rfl); (case hx => rfl); rotate_left; rfl)) | (focus ((with_reducible refine wpList_wanted ?_ (fun K hK => ?_)); rotate_left; (refine wp_load_at 29 (.tmp 40) ?ho g (off + k * 71) 71 ?hx ys _ (fun j hj => (cell?_addsW _ _ _ _ _ hb).trans (HCL.out j hj)) HSL.out Try.underlying29 rfl infoMacS (hK _ _ ?_)); (case ho => with_reducible rfl); (case hx => rfl); rotate_left; rfl)) | (go_at_call 10; refine (S_MacroValid ys _ HSL.out).mono ?_; rw [h1]; rintro e w' ⟨rfl, hb2⟩; obtain ⟨o1, n1, rfl⟩ := below_adds hb2; clear hb2) | (go_at_call 35; refine (HC.out _).mono ?_; rintro e wn ⟨vn, rfl, hn, hbn⟩; have HYtggkelehjdepkaa := Lib.hid hn; have HBN := Lib.hid ((addsW_below wr o1 n1).trans (hbn.mono (by simp only [size_addsW]; omega))); clear hn hbn) | (at_builtin; refine wpList_app_bins rfl _ _ rfl w.heap.size _ _ _ rfl (ownsRow_below HS.out.1 HBN.out) _ _ _ _ rfl HYtggkelehjdepkaa.out hmp (by omega) (by have := HBN.out.size; omega) ?_; intro v' w1 hown1 hgrow1 _; have HS1 : Hid (SlRel w v' (mk + mm) (uk ++ lm) w1) := Lib.hid ⟨hown1, (HS.out.next HBN.out).2.grown hgrow1 (by have := HBN.out.size; omega) (fun q e => (HS.out.1.lt q e).1)⟩; clear hown1 hgrow1))
            go_roundw
            case rel => exact ⟨k + 1, by omega, by go_num, HSO.out, by rw [HU.out, HMM.out]; exact HS1.out⟩
            case measure => simp [intOf]; omega
      · obtain rfl : k = n := by omega
        have hfin : slB zs b k = encL (slU zs b k) (slM zs b k) := if_pos ⟨h14.1, h14.2, HOK.out⟩
        have HF := Lib.hid hfin
        obtain ⟨A1, c1, rfl, -, -⟩ := own_shape HS.out.1
        obtain ⟨A2, c2, e2, -, -, -, hrow, -⟩ := RowAt.of_ownS HS.out.1
        injection e2 with e3 e4 e5
        subst e3 e5
        have HE := Lib.hid (S_EncodeBins A1 (slM zs b k) c1 (slU zs b k) wr hrow (slU_len zs b k) (by omega))
        clear hrow hfin
        go_wp2_with (go_at_call 40; refine HE.out.mono ?_; intro e w2 hG; have HG := Lib.hid hG; obtain ⟨A3, c3, rfl, -⟩ := hG)
        go_returns
        rw [HF.out]
        exact HG.out.later HS.out.2
  · have hin : M.inB (n : Int) 1 4 = false := by
      rw [Bool.eq_false_iff]; simp [M.inB]; omega
    have hfin : slB zs b n = [] := if_neg (fun h => h14 ⟨h.1, h.2.1⟩)
    rw [hfin]
    go_enter Try.func14, Try.ntmps14
    go_wp2_with (go_at_call 36; refine (S_l1In _ _ _ _).mono ?_; rw [hin]; rintro e w' ⟨rfl, rfl⟩)
    go_returns
    exact BytesGot.lit w (w.alloc (.cells #[] 35)) (by repeat' (first | (with_reducible exact Below.refl _ _) | (with_reducible refine Below.adds_ ?_ ?_ _ _) | (with_reducible refine Below.alloc ?_ ?_ _) | (with_reducible refine Below.drew ?_) | (with_reducible refine Below.setCell ?_ ?_ _) | (with_reducible assumption) | go_size | (simp only [size_addsW, World.size_alloc, World.size_drew, World.size_setCell]; omega))) _ (by simp)

end Go.Proofs.Ytggkelehjdepkaa
