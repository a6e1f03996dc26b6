/- PROVED: the law laws.FnHalfSample returns true for every input: whatever picture and position are drawn from the code, HalfSample answers as the reference does, at even positions the sample, in between a number between the neighbouring samples; no conditions. -/
import Derived.Test.YtobphddjoebfjaaRows
import Derived.Test.YtobphddjoebfjaaDrawI
import Derived.Test.YtobphddjoebfjaaSamp
import Derived.Test.YtobphddjoebfjaaNew
import Derived.LoopTactic
import Derived.WalkKit
import Derived.ProofKit
import Derived.OpenShut
import Derived.ShutString
import Derived.ChangeOld
import Derived.Below
import Derived.Lib.SmallJoins
namespace Go.Proofs.Ytobphddjoebfjaa.fnHalfSample
open Go.ChangeShapes Go.WideShapes Go.ChangeAt Go.RowKit
open Go.ChangeMaps (open_string shut_string)
set_option linter.unusedVariables false
set_option linter.unusedSimpArgs false

theorem own : ownKnob Try.prog.godebug = none := by kernel_rfl
theorem laidOut : laidOutB Try.prog = true := by kernel_rfl

attribute [local go_sem] size_addsW cell?_addsW frozen?_addsW setCell_addsW drew_addsW adds_addsW setCell_twice alloc_adds0 size_adds0 adds_adds0 sel2 sel3 sel4 sel5 sel6 sel7 sel8 sel9 lt_more lt_more2 lt_more3 lt_more4 adds_drew adds_drewN drewN_addsW ltA_1_1 ltA_1_2 ltA_1_3 ltA_1_4 ltA_1_5 ltA_1_6 ltA_2_1 ltA_2_2 ltA_2_3 ltA_2_4 ltA_2_5 ltA_2_6 ltA_3_1 ltA_3_2 ltA_3_3 ltA_3_4 ltA_3_5 ltA_3_6 ltA_4_1 ltA_4_2 ltA_4_3 ltA_4_4 ltA_4_5 ltA_4_6 ltA_5_1 ltA_5_2 ltA_5_3 ltA_5_4 ltA_5_5 ltA_5_6 ltA_6_1 ltA_6_2 ltA_6_3 ltA_6_4 ltA_6_5 ltA_6_6 ltA_7_1 ltA_7_2 ltA_7_3 ltA_7_4 ltA_7_5 ltA_7_6 ltA_8_1 ltA_8_2 ltA_8_3 ltA_8_4 ltA_8_5 ltA_8_6 ltA_9_1 ltA_9_2 ltA_9_3 ltA_9_4 ltA_9_5 ltA_9_6 ltA_10_1 ltA_10_2 ltA_10_3 ltA_10_4 ltA_10_5 ltA_10_6 ltA_11_1 ltA_11_2 ltA_11_3 ltA_11_4 ltA_11_5 ltA_11_6 ltA_12_1 ltA_12_2 ltA_12_3 ltA_12_4 ltA_12_5 ltA_12_6

def HSOut (W0 : World) (f : Nat → Nat → Int) (px py : Nat) (lo hi j : Value) (wr : World) : Prop := ∃ (k : Nat) (l h : Int) (oo : Array Obj) (nn : Nat), j = .int .i64 (k : Int) ∧ lo = .int .i64 l ∧ hi = .int .i64 h ∧ k ≤ py + 1 ∧ (∀ b a, b < k → a ≤ px → l ≤ f a b ∧ f a b ≤ h) ∧ wr = addsW W0 oo nn
def HSIn (W0 : World) (f : Nat → Nat → Int) (px k : Nat) (lo hi j : Value) (wr : World) : Prop := ∃ (m : Nat) (l h : Int) (oo : Array Obj) (nn : Nat), j = .int .i64 (m : Int) ∧ lo = .int .i64 l ∧ hi = .int .i64 h ∧ m ≤ px + 1 ∧ (∀ b a, (b < k ∧ a ≤ px) ∨ (b = k ∧ a < m) → l ≤ f a b ∧ f a b ≤ h) ∧ wr = addsW W0 oo nn
theorem between {a b : Int} {zs : List Int} {x y l h : Int} {px py : Nat} (hx : (px : Int) = x % 2) (hy : (py : Int) = y % 2) (H : ∀ v u, v < py + 1 → u ≤ px → l ≤ pix a b zs (x / 2 + (u : Int)) (y / 2 + (v : Int)) ∧ pix a b zs (x / 2 + (u : Int)) (y / 2 + (v : Int)) ≤ h) : l ≤ halfV a b zs x y ∧ halfV a b zs x y ≤ h := by
  have h00 := H 0 0 (by omega) (by omega)
  simp only [Int.natCast_zero, Int.add_zero] at h00
  unfold halfV
  by_cases e1 : x % 2 = 0
  · rw [if_pos e1]
    by_cases e2 : y % 2 = 0
    · rw [if_pos e2]; exact h00
    · rw [if_neg e2]
      have h01 := H 1 0 (by omega) (by omega)
      simp only [Int.natCast_zero, Int.add_zero, Int.natCast_one] at h01
      omega
  · rw [if_neg e1]
    have h10 := H 0 1 (by omega) (by omega)
    simp only [Int.natCast_zero, Int.add_zero, Int.natCast_one] at h10
    by_cases e2 : y % 2 = 0
    · rw [if_pos e2]; omega
    · rw [if_neg e2]
      have h01 := H 1 0 (by omega) (by omega)
      have h11 := H 1 1 (by omega) (by omega)
      simp only [Int.natCast_zero, Int.add_zero, Int.natCast_one] at h01 h11
      omega

set_option maxHeartbeats 4000000 in
theorem walk (a_zs : Option Addr) (len_zs cap_zs : Nat) (zs : List Int) (w : World) (w_zs : IsRow .u8 w a_zs len_zs cap_zs zs) :
    Calls Try.prog 6 #[.slice a_zs len_zs cap_zs] w fun e w' => e = .returned (.bool true) ∧ Below w.heap.size w w' := by
  have hlm := (RowAt.of_row w_zs).2.2.1
  unfold maxLen at hlm
  have HI := Lib.hid w_zs
  clear w_zs
  by_cases hbig : 1048576 < len_zs
  · go_enter Try.func6, Try.ntmps6
    go_wp2
    go_returns
    exact ⟨rfl, (by repeat' (first | (with_reducible exact Below.refl _ _) | (with_reducible refine Below.adds_ ?_ ?_ _ _) | (with_reducible refine Below.alloc ?_ ?_ _) | (with_reducible refine Below.drew ?_) | (with_reducible refine Below.setCell ?_ ?_ _) | (with_reducible assumption) | go_size | (simp only [size_addsW, World.size_alloc, World.size_drew, World.size_setCell]; omega)))⟩
  · go_enter Try.func6, Try.ntmps6
    go_wp2_with fail
    refine (S_DrawHalfSample _ _ _ zs _ (IsRow.keep HI.out (by repeat' (first | (with_reducible exact Below.refl _ _) | (with_reducible refine Below.adds_ ?_ ?_ _ _) | (with_reducible refine Below.alloc ?_ ?_ _) | (with_reducible refine Below.drew ?_) | (with_reducible refine Below.setCell ?_ ?_ _) | (with_reducible assumption) | go_size | (simp only [size_addsW, World.size_alloc, World.size_drew, World.size_setCell]; omega))))).mono ?_
    rintro e w' ⟨a, b, x, y, A, c, ps, rfl, hx0, hx1, hy0, hy1, ha0, ha1, hb0, hb1, hz, hzc, hcm, hrow, hb⟩
    obtain ⟨o0, n0, rfl⟩ := below_adds hb
    clear hb
    have HR := Lib.hid hrow
    clear hrow
    cases hv : picB a b ps
    · have hs : halfS a b ps x y = 0 := by simp [halfS, halfB, hv]
      go_wp2_with (first | (go_at_call 21; refine (I_HalfSample _ _ _ _ _ _ ps _ (HR.out.keep (by repeat' (first | (with_reducible exact Below.refl _ _) | (with_reducible refine Below.adds_ ?_ ?_ _ _) | (with_reducible refine Below.alloc ?_ ?_ _) | (with_reducible refine Below.drew ?_) | (with_reducible refine Below.setCell ?_ ?_ _) | (with_reducible assumption) | go_size | (simp only [size_addsW, World.size_alloc, World.size_drew, World.size_setCell]; omega)))) (by omega)).mono ?_; rintro e w' ⟨rfl, hb⟩; obtain ⟨o1, n1, rfl⟩ := below_adds hb; clear hb; rw [hs]) | (go_at_call 20; refine (S_HalfSample _ _ _ _ _ _ ps _ (HR.out.keep (by repeat' (first | (with_reducible exact Below.refl _ _) | (with_reducible refine Below.adds_ ?_ ?_ _ _) | (with_reducible refine Below.alloc ?_ ?_ _) | (with_reducible refine Below.drew ?_) | (with_reducible refine Below.setCell ?_ ?_ _) | (with_reducible assumption) | go_size | (simp only [size_addsW, World.size_alloc, World.size_drew, World.size_setCell]; omega)))) (by omega)).mono ?_; rintro e w' ⟨rfl, hb⟩; obtain ⟨o1, n1, rfl⟩ := below_adds hb; clear hb; rw [hs]) | (go_at_call 25; refine (S_PictureValid _ _ _ _ ps _ (HR.out.keep (by repeat' (first | (with_reducible exact Below.refl _ _) | (with_reducible refine Below.adds_ ?_ ?_ _ _) | (with_reducible refine Below.alloc ?_ ?_ _) | (with_reducible refine Below.drew ?_) | (with_reducible refine Below.setCell ?_ ?_ _) | (with_reducible assumption) | go_size | (simp only [size_addsW, World.size_alloc, World.size_drew, World.size_setCell]; omega)))) (by omega)).mono ?_; rintro e w' ⟨rfl, hb⟩; obtain ⟨o1, n1, rfl⟩ := below_adds hb; clear hb) | (go_at_call 26; refine (L_alive _).mono ?_; rintro e w' ⟨rfl, hb⟩; obtain ⟨o1, n1, rfl⟩ := below_adds hb; clear hb))
      go_returns
      exact ⟨rfl, (by repeat' (first | (with_reducible exact Below.refl _ _) | (with_reducible refine Below.adds_ ?_ ?_ _ _) | (with_reducible refine Below.alloc ?_ ?_ _) | (with_reducible refine Below.drew ?_) | (with_reducible refine Below.setCell ?_ ?_ _) | (with_reducible assumption) | go_size | (simp only [size_addsW, World.size_alloc, World.size_drew, World.size_setCell]; omega)))⟩
    · by_cases hr : max x (-x) ≤ 1000 ∧ max y (-y) ≤ 1000
      · have hs : halfS a b ps x y = halfV a b ps x y := by simp [halfS, halfB, hv, M.inB]; omega
        obtain ⟨r1, r2⟩ := hr
        obtain ⟨n, hn⟩ : ∃ n, n = halfV a b ps x y := ⟨_, rfl⟩
        rw [← hn] at hs
        have HN := Lib.hid hn
        clear hn
        go_wp2_with (first | (go_at_call 21; refine (I_HalfSample _ _ _ _ _ _ ps _ (HR.out.keep (by repeat' (first | (with_reducible exact Below.refl _ _) | (with_reducible refine Below.adds_ ?_ ?_ _ _) | (with_reducible refine Below.alloc ?_ ?_ _) | (with_reducible refine Below.drew ?_) | (with_reducible refine Below.setCell ?_ ?_ _) | (with_reducible assumption) | go_size | (simp only [size_addsW, World.size_alloc, World.size_drew, World.size_setCell]; omega)))) (by omega)).mono ?_; rintro e w' ⟨rfl, hb⟩; obtain ⟨o2, n2, rfl⟩ := below_adds hb; clear hb; rw [hs]) | (go_at_call 20; refine (S_HalfSample _ _ _ _ _ _ ps _ (HR.out.keep (by repeat' (first | (with_reducible exact Below.refl _ _) | (with_reducible refine Below.adds_ ?_ ?_ _ _) | (with_reducible refine Below.alloc ?_ ?_ _) | (with_reducible refine Below.drew ?_) | (with_reducible refine Below.setCell ?_ ?_ _) | (with_reducible assumption) | go_size | (simp only [size_addsW, World.size_alloc, World.size_drew, World.size_setCell]; omega)))) (by omega)).mono ?_; rintro e w' ⟨rfl, hb⟩; obtain ⟨o3, n3, rfl⟩ := below_adds hb; clear hb; rw [hs]) | (go_at_call 25; refine (S_PictureValid _ _ _ _ ps _ (HR.out.keep (by repeat' (first | (with_reducible exact Below.refl _ _) | (with_reducible refine Below.adds_ ?_ ?_ _ _) | (with_reducible refine Below.alloc ?_ ?_ _) | (with_reducible refine Below.drew ?_) | (with_reducible refine Below.setCell ?_ ?_ _) | (with_reducible assumption) | go_size | (simp only [size_addsW, World.size_alloc, World.size_drew, World.size_setCell]; omega)))) (by omega)).mono ?_; rintro e w' ⟨rfl, hb⟩; obtain ⟨o1, n1, rfl⟩ := below_adds hb; clear hb) | (go_at_call 30; refine (L_abs _ _ (by omega)).mono ?_; rintro e w' ⟨rfl, rfl⟩))
        have ei : (x + 2000) / 2 - 1000 = x / 2 := by omega
        have ej : (y + 2000) / 2 - 1000 = y / 2 := by omega
        simp only [ei, ej]
        clear ei ej
        obtain ⟨px, hpx⟩ : ∃ px : Nat, (px : Int) = x % 2 := ⟨(x % 2).toNat, by omega⟩
        obtain ⟨py, hpy⟩ : ∃ py : Nat, (py : Int) = y % 2 := ⟨(y % 2).toNat, by omega⟩
        have ep : (x + 2000) % 2 = (px : Int) := by omega
        have eq : (y + 2000) % 2 = (py : Int) := by omega
        have hp1 : px ≤ 1 := by omega
        have hq1 : py ≤ 1 := by omega
        have HX := Lib.hid hpx
        have HY := Lib.hid hpy
        have HP := Lib.hid (pix_bd (picB_bd hv).2.2.2 (a := a) (b := b))
        have HV := Lib.hid hv
        obtain ⟨X, hX⟩ : ∃ X, X = x / 2 := ⟨_, rfl⟩
        obtain ⟨Y, hY⟩ : ∃ Y, Y = y / 2 := ⟨_, rfl⟩
        have bX : -500 ≤ X ∧ X ≤ 500 := by omega
        have bY : -500 ≤ Y ∧ Y ≤ 500 := by omega
        have HXX := Lib.hid hX
        have HYY := Lib.hid hY
        have hs2 : ∀ u v, sampV a b ps u v = pix a b ps u v := fun u v => by simp [sampV, hv]
        have HS2 := Lib.hid hs2
        simp only [← hX, ← hY]
        clear hpx hpy hX hY hs hv hs2
        go_loopw [9, 10, 11, 12, 13] (fun lo hi j s12 s13 wr => HSOut ((addsW w o0 n0).alloc (.cells #[.int .i64 a, .int .i64 b, .slice A ps.length c] 27)) (fun u v => pix a b ps (X + (u : Int)) (Y + (v : Int))) px py lo hi j wr) (fun _ _ i _ _ _ => 2 - (intOf i).toNat)
        case atStart => exact ⟨0, 255, 0, _, _, rfl, rfl, rfl, by omega, fun _ _ h => by omega, rfl⟩
        case round =>
          obtain ⟨k, l, h, oo, nn, rfl, rfl, rfl, hk, hlh, rfl⟩ := hrel
          have HL := Lib.hid hlh
          clear hlh
          by_cases hlt : k ≤ py
          · have hd1 : decide ((k : Int) ≤ (py : Int)) = true := by simp; omega
            go_wp2_with fail
            go_loopw [9, 10, 12, 13] (fun lo hi j s13 wr => HSIn ((addsW w o0 n0).alloc (.cells #[.int .i64 a, .int .i64 b, .slice A ps.length c] 27)) (fun u v => pix a b ps (X + (u : Int)) (Y + (v : Int))) px k lo hi j wr) (fun _ _ i _ _ => 2 - (intOf i).toNat)
            case atStart => exact ⟨0, l, h, _, _, rfl, rfl, rfl, by omega, fun b' a' hh => HL.out b' a' (by omega) (by omega), rfl⟩
            case round =>
              clear HL
              obtain ⟨m, l, h, oo, nn, rfl, rfl, rfl, hm, hlh, rfl⟩ := hrel
              have HL := Lib.hid hlh
              clear hlh
              by_cases hlt2 : m ≤ px
              · have hd2 : decide ((m : Int) ≤ (px : Int)) = true := by simp; omega
                go_wp2_with (go_at_call 27; refine (I_SampleAt _ _ _ _ _ _ ps _ (HR.out.keep (by repeat' (first | (with_reducible exact Below.refl _ _) | (with_reducible refine Below.adds_ ?_ ?_ _ _) | (with_reducible refine Below.alloc ?_ ?_ _) | (with_reducible refine Below.drew ?_) | (with_reducible refine Below.setCell ?_ ?_ _) | (with_reducible assumption) | go_size | (simp only [size_addsW, World.size_alloc, World.size_drew, World.size_setCell]; omega)))) (by omega)).mono ?_; rintro e w' ⟨rfl, hb⟩; obtain ⟨o2, n2, rfl⟩ := below_adds hb; clear hb; rw [HS2.out])
                go_roundw
                case rel =>
                  refine ⟨m + 1, _, _, _, _, by go_num, rfl, rfl, by omega, fun b' a' hh => ?_, rfl⟩
                  try dsimp only
                  rcases (show ((b' < k ∧ a' ≤ px) ∨ (b' = k ∧ a' < m)) ∨ (b' = k ∧ a' = m) by omega) with h1 | ⟨rfl, rfl⟩
                  · have := HL.out b' a' h1
                    try dsimp only at this
                    refine ⟨?_, ?_⟩ <;> (first | omega | (split <;> omega))
                  · refine ⟨?_, ?_⟩ <;> (first | omega | (split <;> omega))
                case measure => simp [intOf]; omega
              · obtain rfl : m = px + 1 := by omega
                have hd2 : decide (((px + 1 : Nat) : Int) ≤ (px : Int)) = false := by simp; try omega
                go_wp2_with fail
                go_roundw
                case rel => exact ⟨k + 1, l, h, _, _, by go_num, rfl, rfl, by omega, fun b' a' hb' ha' => HL.out b' a' (by omega), rfl⟩
                case measure => simp [intOf]; omega
          · obtain rfl : k = py + 1 := by omega
            have hfin : l ≤ n ∧ n ≤ h := by
              have := between HX.out HY.out (l := l) (h := h) (zs := ps) (a := a) (b := b) (fun v u hv hu => by rw [← HXX.out, ← HYY.out]; exact HL.out v u hv hu)
              rw [HN.out]; exact this
            go_wp2_with fail
            go_returns
            exact ⟨rfl, (by repeat' (first | (with_reducible exact Below.refl _ _) | (with_reducible refine Below.adds_ ?_ ?_ _ _) | (with_reducible refine Below.alloc ?_ ?_ _) | (with_reducible refine Below.drew ?_) | (with_reducible refine Below.setCell ?_ ?_ _) | (with_reducible assumption) | go_size | (simp only [size_addsW, World.size_alloc, World.size_drew, World.size_setCell]; omega)))⟩
      · have hs : halfS a b ps x y = 0 := by simp [halfS, halfB, hv, M.inB]; omega
        rcases (show 1000 < max x (-x) ∨ (max x (-x) ≤ 1000 ∧ 1000 < max y (-y)) by omega) with r1 | ⟨r1, r2⟩
        all_goals
          clear hr
          go_wp2_with (first | (go_at_call 21; refine (I_HalfSample _ _ _ _ _ _ ps _ (HR.out.keep (by repeat' (first | (with_reducible exact Below.refl _ _) | (with_reducible refine Below.adds_ ?_ ?_ _ _) | (with_reducible refine Below.alloc ?_ ?_ _) | (with_reducible refine Below.drew ?_) | (with_reducible refine Below.setCell ?_ ?_ _) | (with_reducible assumption) | go_size | (simp only [size_addsW, World.size_alloc, World.size_drew, World.size_setCell]; omega)))) (by omega)).mono ?_; rintro e w' ⟨rfl, hb⟩; obtain ⟨o1, n1, rfl⟩ := below_adds hb; clear hb; rw [hs]) | (go_at_call 20; refine (S_HalfSample _ _ _ _ _ _ ps _ (HR.out.keep (by repeat' (first | (with_reducible exact Below.refl _ _) | (with_reducible refine Below.adds_ ?_ ?_ _ _) | (with_reducible refine Below.alloc ?_ ?_ _) | (with_reducible refine Below.drew ?_) | (with_reducible refine Below.setCell ?_ ?_ _) | (with_reducible assumption) | go_size | (simp only [size_addsW, World.size_alloc, World.size_drew, World.size_setCell]; omega)))) (by omega)).mono ?_; rintro e w' ⟨rfl, hb⟩; obtain ⟨o1, n1, rfl⟩ := below_adds hb; clear hb; rw [hs]) | (go_at_call 25; refine (S_PictureValid _ _ _ _ ps _ (HR.out.keep (by repeat' (first | (with_reducible exact Below.refl _ _) | (with_reducible refine Below.adds_ ?_ ?_ _ _) | (with_reducible refine Below.alloc ?_ ?_ _) | (with_reducible refine Below.drew ?_) | (with_reducible refine Below.setCell ?_ ?_ _) | (with_reducible assumption) | go_size | (simp only [size_addsW, World.size_alloc, World.size_drew, World.size_setCell]; omega)))) (by omega)).mono ?_; rintro e w' ⟨rfl, hb⟩; obtain ⟨o1, n1, rfl⟩ := below_adds hb; clear hb) | (go_at_call 30; refine (L_abs _ _ (by omega)).mono ?_; rintro e w' ⟨rfl, rfl⟩) | (go_at_call 26; refine (L_alive _).mono ?_; rintro e w' ⟨rfl, hb⟩; obtain ⟨o1, n1, rfl⟩ := below_adds hb; clear hb))
          go_returns
          exact ⟨rfl, (by repeat' (first | (with_reducible exact Below.refl _ _) | (with_reducible refine Below.adds_ ?_ ?_ _ _) | (with_reducible refine Below.alloc ?_ ?_ _) | (with_reducible refine Below.drew ?_) | (with_reducible refine Below.setCell ?_ ?_ _) | (with_reducible assumption) | go_size | (simp only [size_addsW, World.size_alloc, World.size_drew, World.size_setCell]; omega)))⟩

set_option maxRecDepth 100000 in
theorem lifted (os : Os) (started : os.Started) (H : Type) (enc : TypeId × Value → H) :
    ReturnsInHanded {} Try.checked os 6 .any (Rows.fnHalfSampleSpec.pre6 enc Try.prog Try.f6 Rows.fnHalfSampleRow.domain false) (Rows.fnHalfSampleSpec.post enc Try.prog Try.f6 false true false false) := by
  refine returnsInHanded_of_change (C := Try.checked) own started (by kernel_rfl) Try.func6
    (ChangeSpec.witness6 (enc := enc) (C := Try.checked) false ⟨#[], #[.slice none 0 0], []⟩ 8 (by kernel_rfl) (by kernel_rfl) (by kernel_rfl) (by kernel_rfl)) ?_
  intro W base args ds gs before hval0 hW hcnd _
  have hval : ∀ (j : Nat) t v, Try.f6.params[j]? = some t → args[j]? = some v → Value.okWide Try.prog W .any base t v := hval0
  have hW' := hW
  obtain ⟨p, q, hA0, hV, rfl, hfz, hnd⟩ := hW
  have hA : DataW.TrodAll enc Try.prog W 0 (fun _ => true) true Try.f6.params.toList args.toList ds p := hA0
  rw [Try.params6] at hA hval
  obtain ⟨v0, vs0, d0, ds0, p0, q0, hargs, rfl, rfl, h0, r0⟩ := trodAll_cons hA
  obtain ⟨rfl, rfl, rfl⟩ := trodAll_nil r0
  obtain rfl : args = #[v0] := by cases args; simp_all
  obtain ⟨rfl, rfl⟩ := trodVars_none hV
  have k0 := h0
  have lt0 : ∀ x ∈ p0, x.block < W.heap.size := by obtain ⟨m, hm⟩ := k0; exact DataW.trod_lt m _ _ _ hm
  obtain ⟨aa0, ll0, cc0, rfl⟩ := okWide_slice Try.underlying33 (hval 0 33 v0 rfl rfl)
  obtain ⟨f0, hf0⟩ := h0
  simp only [Value.cells] at hf0
  obtain ⟨a_zs, len_zs, cap_zs, zs, e_zs, w_zs⟩ : ∃ a l c zs, (.slice aa0 ll0 cc0 : Value) = .slice a l c ∧ IsRow .u8 W a l c zs := by
    rcases open_ints Try.underlying33 Try.underlying5 (by kernel_rfl) hf0 with ⟨hcs, _⟩ | ⟨x, l, c, zs, hcs, _, hl, hm, hz, _, hcell, hwz⟩
    · simp only [List.cons.injEq, and_true] at hcs; exact ⟨none, 0, 0, [], hcs, .inl ⟨rfl, rfl, rfl, rfl⟩⟩
    · simp only [List.cons.injEq, and_true] at hcs; exact ⟨some x, l, c, zs, hcs, .inr ⟨x, rfl, hl, hm, by simpa using hz, hcell, hwz⟩⟩
  simp only [Value.slice.injEq] at e_zs
  obtain ⟨rfl, rfl, rfl⟩ := e_zs
  clear hA0 hval0
  refine (walk _ _ _ zs W w_zs).mono fun e W' ⟨he, bel⟩ => ?_
  subst he
  exact ⟨_, rfl, _, _, _, [], _, [], hW', trodAll_mk1 (shut_bool Try.underlying4 _), (trodAll_cons_mk (Below.trod laidOut (by kernel_rfl) (of_decide_eq_true (by kernel_rfl)) k0 bel lt0) trodAll_mk0), rfl, bel.frame _, fun h => by cases h⟩

theorem over : Rows.fnHalfSampleRow.holds Try.pinned (OpenSpec.ofChange Rows.fnHalfSampleSpec) :=
  OpenClaim.holds_of_wide 6 Try.f6 rfl rfl rfl rfl rfl rfl rfl ⟨rfl, rfl, rfl, rfl, rfl⟩ rfl rfl rfl rfl rfl (by kernel_rfl) Try.func6 (by kernel_rfl)
    (of_decide_eq_true (by kernel_rfl)) (by unfold Func.isWrapper; first | (rw [if_pos (by decide +kernel)]; kernel_rfl) | (rw [if_neg (by decide +kernel)]; exact ⟨rfl, rfl⟩))
    (fun os started H enc _ => lifted os started H enc)

theorem proved : Rows.FnHalfSampleSaid := over
#print axioms proved
end Go.Proofs.Ytobphddjoebfjaa.fnHalfSample
