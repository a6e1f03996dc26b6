/- The reference's prediction: the parts. -/
import Derived.Test.YthnigldbpikcaaaPredV
namespace Go.Proofs.Ythnigldbpikcaaa
open Go.RowKit
set_option linter.unusedVariables false
set_option linter.unusedSimpArgs false

attribute [local go_sem] size_addsW cell?_addsW frozen?_addsW setCell_addsW drew_addsW adds_addsW setCell_twice alloc_adds0 size_adds0 adds_adds0 sel2 sel3 sel4 sel5 sel6 sel7 sel8 sel9 lt_more lt_more2 lt_more3 lt_more4 adds_drew adds_drewN drewN_addsW ltA_1_1 ltA_1_2 ltA_1_3 ltA_1_4 ltA_1_5 ltA_1_6 ltA_2_1 ltA_2_2 ltA_2_3 ltA_2_4 ltA_2_5 ltA_2_6 ltA_3_1 ltA_3_2 ltA_3_3 ltA_3_4 ltA_3_5 ltA_3_6 ltA_4_1 ltA_4_2 ltA_4_3 ltA_4_4 ltA_4_5 ltA_4_6 ltA_5_1 ltA_5_2 ltA_5_3 ltA_5_4 ltA_5_5 ltA_5_6 ltA_6_1 ltA_6_2 ltA_6_3 ltA_6_4 ltA_6_5 ltA_6_6 ltA_7_1 ltA_7_2 ltA_7_3 ltA_7_4 ltA_7_5 ltA_7_6 ltA_8_1 ltA_8_2 ltA_8_3 ltA_8_4 ltA_8_5 ltA_8_6 ltA_9_1 ltA_9_2 ltA_9_3 ltA_9_4 ltA_9_5 ltA_9_6 ltA_10_1 ltA_10_2 ltA_10_3 ltA_10_4 ltA_10_5 ltA_10_6 ltA_11_1 ltA_11_2 ltA_11_3 ltA_11_4 ltA_11_5 ltA_11_6 ltA_12_1 ltA_12_2 ltA_12_3 ltA_12_4 ltA_12_5 ltA_12_6

set_option maxRecDepth 100000 in
set_option maxHeartbeats 2000000 in
theorem S_l6Mean (f g : Nat → Int) (c : Int) (u l : Bool) (w : World) (hok : eOk f g c) :
    Calls Try.prog 40 #[.agg (eA f g c u l)] w fun e w' => e = .returned (.int .i64 (mV u l f g)) ∧ Below w.heap.size w w' := by
  have HOK := Lib.hid hok
  clear hok
  unfold eA
  go_enter Try.func40, Try.ntmps40
  go_upto_region 3 with fail
  refine all_add' ?_
  intro W hW
  have hB : Blk W w.heap.size (eA f g c u l) 25 := by rw [hW]; exact Blk.new w _ _ _ rfl
  have hb : Below w.heap.size w W := by rw [hW]; exact (by repeat' (first | (with_reducible exact Below.refl _ _) | (with_reducible refine Below.adds_ ?_ ?_ _ _) | (with_reducible refine Below.alloc ?_ ?_ _) | (with_reducible refine Below.drew ?_) | (with_reducible refine Below.setCell ?_ ?_ _) | (with_reducible assumption) | go_size | (simp only [size_addsW, World.size_alloc, World.size_drew, World.size_setCell]; omega)))
  clear hW
  have m9 : W.cell? ⟨w.heap.size, 9, none⟩ = some (.bool u) := hB.get rfl
  have m10 : W.cell? ⟨w.heap.size, 10, none⟩ = some (.bool l) := hB.get rfl
  have lt := hB.lt
  have HB := Lib.hid hb
  clear hb
  go_wp2_with fail
  go_loopw [3, 4, 5] (fun T n i wr => mRel u l f g W T n i wr) (fun _ _ i _ => 4 - (intOf i).toNat)
  case atStart => exact ⟨0, by omega, rfl, rfl, by simp [mN], rfl⟩
  case round =>
    obtain ⟨k, hk, rfl, rfl, rfl, rfl⟩ := hrel
    by_cases hlt : k < 4
    · have hk4 : (k : Int) < 4 := by omega
      have mu := hB.get (eA_up (f := f) (g := g) (c := c) (u := u) (l := l) hlt)
      have ml := hB.get (eA_left (f := f) (g := g) (c := c) (u := u) (l := l) hlt)
      have b1 := mT_bd (u := u) (l := l) HOK.out hk
      have b2 := HOK.out.1 k hlt
      have b3 := HOK.out.2.1 k hlt
      obtain ⟨T, hT⟩ : ∃ T, T = mT u l f g k := ⟨_, rfl⟩
      obtain ⟨F, hF⟩ : ∃ F, F = f k := ⟨_, rfl⟩
      obtain ⟨G, hG⟩ : ∃ G, G = g k := ⟨_, rfl⟩
      have HT := Lib.hid (show mT u l f g (k + 1) = T + (if u then F else 0) + (if l then G else 0) by rw [mT, ← hT, ← hF, ← hG])
      rw [← hT] at b1 ⊢
      rw [← hF] at b2 mu
      rw [← hG] at b3 ml
      clear hT hF hG
      cases u <;> cases l
      all_goals
        simp only [mN, if_true, if_false, Bool.false_eq_true, Int.add_zero, Int.zero_add] at *
        go_wp2_with fail
        go_roundw
        case rel => exact ⟨k + 1, by omega, by go_num, by first | (rw [HT.out]; done) | (rw [HT.out]; simp; done), by (try simp [mN]) <;> omega, rfl⟩
        case measure => simp [intOf]; omega
    · obtain rfl : k = 4 := by omega
      have b1 := mT_bd (u := u) (l := l) HOK.out hk
      obtain ⟨T, hT⟩ : ∃ T, T = mT u l f g 4 := ⟨_, rfl⟩
      have HV := Lib.hid (show mV u l f g = if u then (if l then (T + 4) / 8 else (T + 2) / 4) else (if l then (T + 2) / 4 else 128) by rw [mV, ← hT])
      rw [← hT] at b1 ⊢
      clear hT
      cases u <;> cases l
      all_goals
        simp only [mN, if_true, if_false, Bool.false_eq_true, Int.add_zero, Int.zero_add] at *
        go_wp2_with fail
        go_returns
        exact ⟨by rw [HV.out]; (try simp only [if_true, if_false, Bool.false_eq_true]); first | rfl | exact congrArg (fun z => Ending.returned (Value.int .i64 z)) (by omega), HB.out⟩

set_option maxRecDepth 100000 in
theorem S_l6Diagonal (f g : Nat → Int) (c : Int) (u l : Bool) (k : Nat) (w : World) (hk : k < 9) :
    Calls Try.prog 41 #[.agg (eA f g c u l), .int .i64 k] w fun e w' => e = .returned (.int .i64 (bo f g c k)) ∧ Below w.heap.size w w' := by
  obtain ⟨ki, hki⟩ : ∃ ki : Int, ki = (k : Int) := ⟨_, rfl⟩
  rw [← hki]
  rcases (show (k = 0 ∧ ki = 0) ∨ (k = 1 ∧ ki = 1) ∨ (k = 2 ∧ ki = 2) ∨ (k = 3 ∧ ki = 3) ∨ (k = 4 ∧ ki = 4) ∨ (k = 5 ∧ ki = 5) ∨ (k = 6 ∧ ki = 6) ∨ (k = 7 ∧ ki = 7) ∨ (k = 8 ∧ ki = 8) by omega) with ⟨rfl, rfl⟩ | ⟨rfl, rfl⟩ | ⟨rfl, rfl⟩ | ⟨rfl, rfl⟩ | ⟨rfl, rfl⟩ | ⟨rfl, rfl⟩ | ⟨rfl, rfl⟩ | ⟨rfl, rfl⟩ | ⟨rfl, rfl⟩
  all_goals
    clear hki hk
    unfold eA
    go_enter Try.func41, Try.ntmps41
    go_wp2_with fail
    go_returns
    exact ⟨rfl, (by repeat' (first | (with_reducible exact Below.refl _ _) | (with_reducible refine Below.adds_ ?_ ?_ _ _) | (with_reducible refine Below.alloc ?_ ?_ _) | (with_reducible refine Below.drew ?_) | (with_reducible refine Below.setCell ?_ ?_ _) | (with_reducible assumption) | go_size | (simp only [size_addsW, World.size_alloc, World.size_drew, World.size_setCell]; omega)))⟩

def evT (f g : Nat → Int) (c : Int) : Nat → Bool
  | 0 => M.inB c 0 255
  | n + 1 => evT f g c n && (M.inB (f n) 0 255 && M.inB (g n) 0 255)
theorem evT_all (f g : Nat → Int) (c : Int) : evT f g c 4 = evB f g c := by
  simp only [evT, evB, M.samplesB, List.all_cons, List.all_nil, Bool.and_true]
  generalize M.inB c 0 255 = x
  generalize M.inB (f 0) 0 255 = a0
  generalize M.inB (f 1) 0 255 = a1
  generalize M.inB (f 2) 0 255 = a2
  generalize M.inB (f 3) 0 255 = a3
  generalize M.inB (g 0) 0 255 = b0
  generalize M.inB (g 1) 0 255 = b1
  generalize M.inB (g 2) 0 255 = b2
  generalize M.inB (g 3) 0 255 = b3
  cases x <;> cases a0 <;> cases a1 <;> cases a2 <;> cases a3 <;> cases b0 <;> cases b1 <;> cases b2 <;> cases b3 <;> rfl

set_option maxRecDepth 100000 in
set_option maxHeartbeats 2000000 in
theorem S_EdgesValid (f g : Nat → Int) (c : Int) (u l : Bool) (w : World) :
    Calls Try.prog 10 #[.agg (eA f g c u l)] w fun e w' => e = .returned (.bool (evB f g c)) ∧ Below w.heap.size w w' := by
  rw [← evT_all]
  unfold eA
  go_enter Try.func10, Try.ntmps10
  go_upto_region 1 with fail
  refine all_add' ?_
  intro W hW
  have hB : Blk W w.heap.size (eA f g c u l) 25 := by rw [hW]; exact Blk.new w _ _ _ rfl
  have hb : Below w.heap.size w W := by rw [hW]; exact (by repeat' (first | (with_reducible exact Below.refl _ _) | (with_reducible refine Below.adds_ ?_ ?_ _ _) | (with_reducible refine Below.alloc ?_ ?_ _) | (with_reducible refine Below.drew ?_) | (with_reducible refine Below.setCell ?_ ?_ _) | (with_reducible assumption) | go_size | (simp only [size_addsW, World.size_alloc, World.size_drew, World.size_setCell]; omega)))
  clear hW
  have m8 : W.cell? ⟨w.heap.size, 8, none⟩ = some (.int .i64 c) := hB.get rfl
  have lt := hB.lt
  have HB := Lib.hid hb
  clear hb
  go_wp2_with (go_at_call 23; refine (S_l1In _ _ _ _).mono ?_; rintro e w' ⟨rfl, rfl⟩)
  go_loopw [3, 4] (fun b i wr => ∃ k : Nat, k ≤ 4 ∧ i = .int .i64 (k : Int) ∧ b = .bool (evT f g c k) ∧ wr = W) (fun _ i _ => 4 - (intOf i).toNat)
  case atStart => exact ⟨0, by omega, rfl, rfl, rfl⟩
  case round =>
    obtain ⟨k, hk, rfl, rfl, rfl⟩ := hrel
    by_cases hlt : k < 4
    · have hk4 : (k : Int) < 4 := by omega
      have mu := hB.get (eA_up (f := f) (g := g) (c := c) (u := u) (l := l) hlt)
      have ml := hB.get (eA_left (f := f) (g := g) (c := c) (u := u) (l := l) hlt)
      obtain ⟨b, hbb⟩ : ∃ b, b = evT f g c k := ⟨_, rfl⟩
      obtain ⟨p, hp⟩ : ∃ p, p = M.inB (f k) 0 255 := ⟨_, rfl⟩
      obtain ⟨q, hq⟩ : ∃ q, q = M.inB (g k) 0 255 := ⟨_, rfl⟩
      have HT := Lib.hid (show evT f g c (k + 1) = (b && (p && q)) by rw [evT, ← hbb, ← hp, ← hq])
      have C1 := Lib.hid (show ∀ W, Calls Try.prog 23 #[.int .i64 (f k), .int .i64 0, .int .i64 255] W fun e w' => e = .returned (.bool p) ∧ W = w' from fun W => by rw [hp]; exact S_l1In _ _ _ W)
      have C2 := Lib.hid (show ∀ W, Calls Try.prog 23 #[.int .i64 (g k), .int .i64 0, .int .i64 255] W fun e w' => e = .returned (.bool q) ∧ W = w' from fun W => by rw [hq]; exact S_l1In _ _ _ W)
      rw [← hbb]
      clear hbb hp hq
      cases b <;> cases p
      all_goals
        go_wp2_with (go_at_call 23; (first | with_reducible refine (C1.out _).mono ?_ | with_reducible refine (C2.out _).mono ?_); rintro e w' ⟨rfl, rfl⟩)
        go_roundw
        case rel => exact ⟨k + 1, by omega, by go_num, by rw [HT.out]; rfl, by first | rfl | trivial⟩
        case measure => simp [intOf]; omega
    · obtain rfl : k = 4 := by omega
      go_wp2_with fail
      go_returns
      exact ⟨rfl, HB.out⟩

end Go.Proofs.Ythnigldbpikcaaa
