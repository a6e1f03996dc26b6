/- The program's five predictions of a sample. -/
import Derived.Test.YthnigldbpikcaaaPredP
import Derived.Test.YthnigldbpikcaaaFilter
import Derived.LoopTactic
import Derived.Deep.QuietTactic
import Derived.BigQuiet
import Derived.Deep.RegionHeld3
import Derived.Deep.DeepCutAuto
namespace Go.Proofs.Ythnigldbpikcaaa
open Go.RowKit
set_option linter.unusedVariables false
set_option linter.unusedSimpArgs false

attribute [local go_sem] size_addsW cell?_addsW frozen?_addsW setCell_addsW drew_addsW adds_addsW setCell_twice alloc_adds0 size_adds0 adds_adds0 sel2 sel3 sel4 sel5 sel6 sel7 sel8 sel9 lt_more lt_more2 lt_more3 lt_more4 adds_drew adds_drewN drewN_addsW ltA_1_1 ltA_1_2 ltA_1_3 ltA_1_4 ltA_1_5 ltA_1_6 ltA_2_1 ltA_2_2 ltA_2_3 ltA_2_4 ltA_2_5 ltA_2_6 ltA_3_1 ltA_3_2 ltA_3_3 ltA_3_4 ltA_3_5 ltA_3_6 ltA_4_1 ltA_4_2 ltA_4_3 ltA_4_4 ltA_4_5 ltA_4_6 ltA_5_1 ltA_5_2 ltA_5_3 ltA_5_4 ltA_5_5 ltA_5_6 ltA_6_1 ltA_6_2 ltA_6_3 ltA_6_4 ltA_6_5 ltA_6_6 ltA_7_1 ltA_7_2 ltA_7_3 ltA_7_4 ltA_7_5 ltA_7_6 ltA_8_1 ltA_8_2 ltA_8_3 ltA_8_4 ltA_8_5 ltA_8_6 ltA_9_1 ltA_9_2 ltA_9_3 ltA_9_4 ltA_9_5 ltA_9_6 ltA_10_1 ltA_10_2 ltA_10_3 ltA_10_4 ltA_10_5 ltA_10_6 ltA_11_1 ltA_11_2 ltA_11_3 ltA_11_4 ltA_11_5 ltA_11_6 ltA_12_1 ltA_12_2 ltA_12_3 ltA_12_4 ltA_12_5 ltA_12_6

theorem I_rounded (T n : Int) (w : World) (hT : 0 ≤ T ∧ T ≤ 100000) (hn : 1 ≤ n ∧ n ≤ 1000) : Calls Try.prog 47 #[.int .i64 T, .int .i64 n] w fun e w' => e = .returned (.int .i64 ((2 * T + n) / (2 * n))) ∧ w = w' := by
  have h1 : ¬ 2 * n = 0 := by omega
  have h2 : 0 ≤ 2 * T + n := by omega
  have h3 : 0 ≤ (2 * T + n) / (2 * n) ∧ (2 * T + n) / (2 * n) ≤ 201000 := ⟨Int.ediv_nonneg h2 (by omega), Int.le_trans (Int.ediv_le_self _ h2) (by omega)⟩
  have h4 : (2 * T + n).tdiv (2 * n) = (2 * T + n) / (2 * n) := Int.tdiv_eq_ediv_of_nonneg h2
  go_enter Try.func47, Try.ntmps47
  go_wp2
  go_returns
  exact ⟨rfl, rfl⟩

theorem I_vertical (f g : Nat → Int) (c : Int) (u l : Bool) (x y : Nat) (w : World) (hx : x < 4) :
    Calls Try.prog 36 #[.agg (eA f g c u l), .int .i64 x, .int .i64 y] w fun e w' => e = .returned (.int .i64 (f x)) ∧ Below w.heap.size w w' := by
  have hx4 : (x : Int) < 4 := by omega
  unfold eA
  go_enter Try.func36, Try.ntmps36
  go_upto_region 1 with fail
  refine all_add' ?_
  intro W hW
  have hB : Blk W w.heap.size (eA f g c u l) 25 := by rw [hW]; exact Blk.new w _ _ _ rfl
  have hb : Below w.heap.size w W := by rw [hW]; exact (by repeat' (first | (with_reducible exact Below.refl _ _) | (with_reducible refine Below.adds_ ?_ ?_ _ _) | (with_reducible refine Below.alloc ?_ ?_ _) | (with_reducible refine Below.drew ?_) | (with_reducible refine Below.setCell ?_ ?_ _) | (with_reducible assumption) | go_size | (simp only [size_addsW, World.size_alloc, World.size_drew, World.size_setCell]; omega)))
  clear hW
  have m := hB.get (eA_up hx)
  have lt := hB.lt
  go_wp2_with fail
  go_returns
  exact ⟨rfl, hb⟩

theorem I_horizontal (f g : Nat → Int) (c : Int) (u l : Bool) (x y : Nat) (w : World) (hy : y < 4) :
    Calls Try.prog 37 #[.agg (eA f g c u l), .int .i64 x, .int .i64 y] w fun e w' => e = .returned (.int .i64 (g y)) ∧ Below w.heap.size w w' := by
  have hx4 : (y : Int) < 4 := by omega
  unfold eA
  go_enter Try.func37, Try.ntmps37
  go_upto_region 1 with fail
  refine all_add' ?_
  intro W hW
  have hB : Blk W w.heap.size (eA f g c u l) 25 := by rw [hW]; exact Blk.new w _ _ _ rfl
  have hb : Below w.heap.size w W := by rw [hW]; exact (by repeat' (first | (with_reducible exact Below.refl _ _) | (with_reducible refine Below.adds_ ?_ ?_ _ _) | (with_reducible refine Below.alloc ?_ ?_ _) | (with_reducible refine Below.drew ?_) | (with_reducible refine Below.setCell ?_ ?_ _) | (with_reducible assumption) | go_size | (simp only [size_addsW, World.size_alloc, World.size_drew, World.size_setCell]; omega)))
  clear hW
  have m := hB.get (eA_left hy)
  have lt := hB.lt
  go_wp2_with fail
  go_returns
  exact ⟨rfl, hb⟩

set_option maxRecDepth 100000 in
set_option maxHeartbeats 1000000 in
theorem I_plane (f g : Nat → Int) (c : Int) (u l : Bool) (x y : Nat) (w : World) (hx : x < 4) (hy : y < 4) (hok : eOk f g c) :
    Calls Try.prog 39 #[.agg (eA f g c u l), .int .i64 x, .int .i64 y] w fun e w' => e = .returned (.int .i64 (plV f g c x y)) ∧ Below w.heap.size w w' := by
  have hx4 : (x : Int) < 4 := by omega
  have hy4 : (y : Int) < 4 := by omega
  obtain ⟨F, hF⟩ : ∃ F, F = f x := ⟨_, rfl⟩
  obtain ⟨G, hG⟩ : ∃ G, G = g y := ⟨_, rfl⟩
  have b1 := hok.1 x hx
  have b2 := hok.2.1 y hy
  have b3 := hok.2.2
  rw [← hF] at b1
  rw [← hG] at b2
  rw [plV, ← hF, ← hG]
  clear hok
  have w1 : IntKind.i64.wrap (F + G) = F + G := IntWalk.i64_in _ (by omega)
  have w2 : IntKind.i64.wrap (F + G - c) = F + G - c := IntWalk.i64_in _ (by omega)
  unfold eA
  go_enter Try.func39, Try.ntmps39
  go_upto_region 1 with fail
  refine all_add' ?_
  intro W hW
  have hB : Blk W w.heap.size (eA f g c u l) 25 := by rw [hW]; exact Blk.new w _ _ _ rfl
  have hb : Below w.heap.size w W := by rw [hW]; exact (by repeat' (first | (with_reducible exact Below.refl _ _) | (with_reducible refine Below.adds_ ?_ ?_ _ _) | (with_reducible refine Below.alloc ?_ ?_ _) | (with_reducible refine Below.drew ?_) | (with_reducible refine Below.setCell ?_ ?_ _) | (with_reducible assumption) | go_size | (simp only [size_addsW, World.size_alloc, World.size_drew, World.size_setCell]; omega)))
  clear hW
  have m := hB.get (eA_up hx)
  have m' := hB.get (eA_left hy)
  have mc : W.cell? ⟨w.heap.size, 8, none⟩ = some (.int .i64 c) := hB.get rfl
  rw [← hF] at m
  rw [← hG] at m'
  have lt := hB.lt
  have HB := Lib.hid hb
  clear hF hG hB hb
  go_quiet (first | (go_at_call 48; exact Calls.quiet_of_same ((I_clamp (F + G - c) 0 255 _).mono fun _ _ h => ⟨h.1, h.2.symm⟩)))
  go_wp2_with fail
  go_returns
  exact ⟨by first | rfl | (congr 2; simp only [M.clip]; omega), HB.out.trans (Below.mono (by first | exact drewNb W _ | exact (by repeat' (first | (with_reducible exact Below.refl _ _) | (with_reducible refine Below.adds_ ?_ ?_ _ _) | (with_reducible refine Below.alloc ?_ ?_ _) | (with_reducible refine Below.drew ?_) | (with_reducible refine Below.setCell ?_ ?_ _) | (with_reducible assumption) | go_size | (simp only [size_addsW, World.size_alloc, World.size_drew, World.size_setCell]; omega)))) HB.out.size)⟩

def boA (f g : Nat → Int) (c : Int) : Array Value :=
  #[.int .i64 (g 3), .int .i64 (g 2), .int .i64 (g 1), .int .i64 (g 0), .int .i64 c, .int .i64 (f 0), .int .i64 (f 1), .int .i64 (f 2), .int .i64 (f 3)]
theorem boA_get {f g : Nat → Int} {c : Int} {k : Nat} (h : k < 9) : (boA f g c)[k]? = some (.int .i64 (bo f g c k)) := by
  match k, h with
  | 0, _ => rfl
  | 1, _ => rfl
  | 2, _ => rfl
  | 3, _ => rfl
  | 4, _ => rfl
  | 5, _ => rfl
  | 6, _ => rfl
  | 7, _ => rfl
  | 8, _ => rfl

set_option maxRecDepth 100000 in
set_option maxHeartbeats 1000000 in
theorem I_diagonal (f g : Nat → Int) (c : Int) (u l : Bool) (x y : Nat) (w : World) (hx : x < 4) (hy : y < 4) (hok : eOk f g c) :
    Calls Try.prog 38 #[.agg (eA f g c u l), .int .i64 x, .int .i64 y] w fun e w' => e = .returned (.int .i64 (diV f g c x y)) ∧ Below w.heap.size w w' := by
  obtain ⟨K, hK⟩ : ∃ K, K = 4 + x - y := ⟨_, rfl⟩
  have hKi : (4 : Int) + (x : Int) - (y : Int) = (K : Int) := by omega
  have hKi2 : IntKind.i64.wrap (4 + (x : Int)) = 4 + (x : Int) := IntWalk.i64_in _ (by omega)
  obtain ⟨b1, hb1⟩ : ∃ b, b = bo f g c (K - 1) := ⟨_, rfl⟩
  obtain ⟨b2, hb2⟩ : ∃ b, b = bo f g c K := ⟨_, rfl⟩
  obtain ⟨b3, hb3⟩ : ∃ b, b = bo f g c (K + 1) := ⟨_, rfl⟩
  have q1 := bo_bd hok (show K - 1 < 9 by omega)
  have q2 := bo_bd hok (show K < 9 by omega)
  have q3 := bo_bd hok (show K + 1 < 9 by omega)
  rw [← hb1] at q1
  rw [← hb2] at q2
  rw [← hb3] at q3
  have hV : diV f g c x y = (b1 + 2 * b2 + b3 + 2) / 4 := by
    rw [diV, show 3 + x - y = K - 1 by omega, show 4 + x - y = K by omega, show 5 + x - y = K + 1 by omega, ← hb1, ← hb2, ← hb3]
  rw [hV]
  obtain ⟨K1, hK1⟩ : ∃ K1, K1 = K - 1 := ⟨_, rfl⟩
  obtain ⟨K2, hK2⟩ : ∃ K2, K2 = K + 1 := ⟨_, rfl⟩
  have w1 : IntKind.i64.wrap ((K : Int) - 1) = (K1 : Int) := by rw [IntWalk.i64_in _ (by omega)]; omega
  have w2 : IntKind.i64.wrap ((K : Int) + 1) = (K2 : Int) := by rw [IntWalk.i64_in _ (by omega)]; omega
  have w3 : IntKind.i64.wrap (2 * b2) = 2 * b2 := IntWalk.i64_in _ (by omega)
  have w4 : IntKind.i64.wrap (b1 + 2 * b2) = b1 + 2 * b2 := IntWalk.i64_in _ (by omega)
  have w5 : IntKind.i64.wrap (b1 + 2 * b2 + b3) = b1 + 2 * b2 + b3 := IntWalk.i64_in _ (by omega)
  have w6 : IntKind.i64.wrap (b1 + 2 * b2 + b3 + 2) = b1 + 2 * b2 + b3 + 2 := IntWalk.i64_in _ (by omega)
  have w7 : (b1 + 2 * b2 + b3 + 2).tdiv 4 = (b1 + 2 * b2 + b3 + 2) / 4 := Int.tdiv_eq_ediv_of_nonneg (by omega)
  have w8 : IntKind.i64.wrap ((b1 + 2 * b2 + b3 + 2) / 4) = (b1 + 2 * b2 + b3 + 2) / 4 := IntWalk.i64_in _ (by omega)
  have k9 : K < 9 := by omega
  have k91 : K1 < 9 := by omega
  have k92 : K2 < 9 := by omega
  have i1 : (K : Int) < 9 := by omega
  have i2 : (K1 : Int) < 9 := by omega
  have i3 : (K2 : Int) < 9 := by omega
  rw [← hK1] at hb1
  rw [← hK2] at hb3
  have H1 := Lib.hid hb1
  have H2 := Lib.hid hb2
  have H3 := Lib.hid hb3
  clear hok hV hb1 hb2 hb3 hK hK1 hK2
  unfold eA
  go_enter Try.func38, Try.ntmps38
  go_upto_region 3 with fail
  refine all_add' ?_
  intro W hW
  have hB : Blk W (w.heap.size + 1) (boA f g c) 67 := by rw [hW]; exact Blk.new _ _ _ _ (by simp)
  have hb : Below w.heap.size w W := by rw [hW]; exact (by repeat' (first | (with_reducible exact Below.refl _ _) | (with_reducible refine Below.adds_ ?_ ?_ _ _) | (with_reducible refine Below.alloc ?_ ?_ _) | (with_reducible refine Below.drew ?_) | (with_reducible refine Below.setCell ?_ ?_ _) | (with_reducible assumption) | go_size | (simp only [size_addsW, World.size_alloc, World.size_drew, World.size_setCell]; omega)))
  clear hW
  have m1 := hB.get (boA_get k91)
  have m2 := hB.get (boA_get k9)
  have m3 := hB.get (boA_get k92)
  rw [← H1.out] at m1
  rw [← H2.out] at m2
  rw [← H3.out] at m3
  have lt := hB.lt
  have HB := Lib.hid hb
  clear hB hb
  go_quiet (fail)
  go_wp2_with fail
  go_returns
  exact ⟨by first | rfl | (congr 2; omega), HB.out.trans (Below.mono (by first | exact drewNb W _ | exact (by repeat' (first | (with_reducible exact Below.refl _ _) | (with_reducible refine Below.adds_ ?_ ?_ _ _) | (with_reducible refine Below.alloc ?_ ?_ _) | (with_reducible refine Below.drew ?_) | (with_reducible refine Below.setCell ?_ ?_ _) | (with_reducible assumption) | go_size | (simp only [size_addsW, World.size_alloc, World.size_drew, World.size_setCell]; omega)))) HB.out.size)⟩

def mRel (u l : Bool) (f g : Nat → Int) (W : World) (T n i : Value) (wr : World) : Prop := ∃ k : Nat, k ≤ 4 ∧ i = .int .i64 (k : Int) ∧ T = .int .i64 (mT u l f g k) ∧ n = .int .i64 (mN u l k) ∧ wr = W

set_option maxRecDepth 100000 in
set_option maxHeartbeats 2000000 in
theorem I_mean (f g : Nat → Int) (c : Int) (u l : Bool) (x y : Value) (w : World) (hok : eOk f g c) :
    Calls Try.prog 35 #[.agg (eA f g c u l), x, y] w fun e w' => e = .returned (.int .i64 (mV u l f g)) ∧ Below w.heap.size w w' := by
  have HOK := Lib.hid hok
  clear hok
  unfold eA
  go_enter Try.func35, Try.ntmps35
  go_upto_region 2 with fail
  refine all_add' ?_
  intro W hW
  have hB : Blk W w.heap.size (eA f g c u l) 25 := by rw [hW]; exact Blk.new w _ _ _ rfl
  have hb : Below w.heap.size w W := by rw [hW]; exact (by repeat' (first | (with_reducible exact Below.refl _ _) | (with_reducible refine Below.adds_ ?_ ?_ _ _) | (with_reducible refine Below.alloc ?_ ?_ _) | (with_reducible refine Below.drew ?_) | (with_reducible refine Below.setCell ?_ ?_ _) | (with_reducible assumption) | go_size | (simp only [size_addsW, World.size_alloc, World.size_drew, World.size_setCell]; omega)))
  clear hW
  have m9 : W.cell? ⟨w.heap.size, 9, none⟩ = some (.bool u) := hB.get rfl
  have m10 : W.cell? ⟨w.heap.size, 10, none⟩ = some (.bool l) := hB.get rfl
  have lt := hB.lt
  have HB := Lib.hid hb
  clear hb
  go_wp2_with fail
  go_loopw [7, 8, 10] (fun T n i wr => mRel u l f g W T n i wr) (fun _ _ i _ => 4 - (intOf i).toNat)
  case atStart => exact ⟨0, by omega, rfl, rfl, by simp [mN], rfl⟩
  case round =>
    obtain ⟨k, hk, rfl, rfl, rfl, rfl⟩ := hrel
    by_cases hlt : k < 4
    · have hk4 : (k : Int) < 4 := by omega
      have mu := hB.get (eA_up (f := f) (g := g) (c := c) (u := u) (l := l) hlt)
      have ml := hB.get (eA_left (f := f) (g := g) (c := c) (u := u) (l := l) hlt)
      have b1 := mT_bd (u := u) (l := l) HOK.out hk
      have b2 := HOK.out.1 k hlt
      have b3 := HOK.out.2.1 k hlt
      obtain ⟨T, hT⟩ : ∃ T, T = mT u l f g k := ⟨_, rfl⟩
      obtain ⟨F, hF⟩ : ∃ F, F = f k := ⟨_, rfl⟩
      obtain ⟨G, hG⟩ : ∃ G, G = g k := ⟨_, rfl⟩
      have HT := Lib.hid (show mT u l f g (k + 1) = T + (if u then F else 0) + (if l then G else 0) by rw [mT, ← hT, ← hF, ← hG])
      rw [← hT] at b1 ⊢
      rw [← hF] at b2 mu
      rw [← hG] at b3 ml
      clear hT hF hG
      cases u <;> cases l
      all_goals
        simp only [mN, if_true, if_false, Bool.false_eq_true, Int.add_zero, Int.zero_add] at *
        go_wp2_with fail
        go_roundw
        case rel => exact ⟨k + 1, by omega, by go_num, by first | (rw [HT.out]; done) | (rw [HT.out]; simp; done), by (try simp [mN]) <;> omega, rfl⟩
        case measure => simp [intOf]; omega
    · obtain rfl : k = 4 := by omega
      have b1 := mT_bd (u := u) (l := l) HOK.out hk
      obtain ⟨T, hT⟩ : ∃ T, T = mT u l f g 4 := ⟨_, rfl⟩
      have HV := Lib.hid (show mV u l f g = if u then (if l then (T + 4) / 8 else (T + 2) / 4) else (if l then (T + 2) / 4 else 128) by rw [mV, ← hT])
      rw [← hT] at b1 ⊢
      clear hT
      cases u <;> cases l
      all_goals
        simp only [mN, if_true, if_false, Bool.false_eq_true, Int.add_zero, Int.zero_add] at *
        go_wp2_with (go_at_call 47; refine (I_rounded _ _ _ (by omega) (by omega)).mono ?_; rintro e w' ⟨rfl, rfl⟩)
        go_returns
        exact ⟨by rw [HV.out]; (try simp only [if_true, if_false, Bool.false_eq_true]); first | rfl | exact congrArg (fun z => Ending.returned (Value.int .i64 z)) (by omega), HB.out⟩

end Go.Proofs.Ythnigldbpikcaaa
