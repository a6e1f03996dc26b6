/- The reference's pictures: validity and half samples. -/
import Derived.Test.YtijccageaingjaaDoorHalf
import Derived.LoopTactic
namespace Go.Proofs.YtijccageaingjaaDoor
open Go.RowKit
set_option linter.unusedVariables false
set_option linter.unusedSimpArgs false

attribute [local go_sem] size_addsW cell?_addsW frozen?_addsW setCell_addsW drew_addsW adds_addsW setCell_twice alloc_adds0 size_adds0 adds_adds0 sel2 sel3 sel4 sel5 sel6 sel7 sel8 sel9 lt_more lt_more2 lt_more3 lt_more4 adds_drew adds_drewN drewN_addsW ltA_1_1 ltA_1_2 ltA_1_3 ltA_1_4 ltA_1_5 ltA_1_6 ltA_2_1 ltA_2_2 ltA_2_3 ltA_2_4 ltA_2_5 ltA_2_6 ltA_3_1 ltA_3_2 ltA_3_3 ltA_3_4 ltA_3_5 ltA_3_6 ltA_4_1 ltA_4_2 ltA_4_3 ltA_4_4 ltA_4_5 ltA_4_6 ltA_5_1 ltA_5_2 ltA_5_3 ltA_5_4 ltA_5_5 ltA_5_6 ltA_6_1 ltA_6_2 ltA_6_3 ltA_6_4 ltA_6_5 ltA_6_6 ltA_7_1 ltA_7_2 ltA_7_3 ltA_7_4 ltA_7_5 ltA_7_6 ltA_8_1 ltA_8_2 ltA_8_3 ltA_8_4 ltA_8_5 ltA_8_6 ltA_9_1 ltA_9_2 ltA_9_3 ltA_9_4 ltA_9_5 ltA_9_6 ltA_10_1 ltA_10_2 ltA_10_3 ltA_10_4 ltA_10_5 ltA_10_6 ltA_11_1 ltA_11_2 ltA_11_3 ltA_11_4 ltA_11_5 ltA_11_6 ltA_12_1 ltA_12_2 ltA_12_3 ltA_12_4 ltA_12_5 ltA_12_6

def PicIn (zs : List Int) (i : Value) : Prop := ∃ k : Nat, k ≤ zs.length ∧ i = .int .i64 k ∧ M.samplesB (zs.take k) = true

theorem sideB_of {n : Int} : sideB n = (M.inB n 8 32 && decide (n % 8 = 0)) := by
  rw [Bool.eq_iff_iff]; simp [sideB, M.inB, and_assoc]

set_option maxHeartbeats 1000000 in
theorem S_PictureValid (a b : Int) (A : Option Addr) (c : Nat) (zs : List Int) (w : World) (hr : RowAt .i64 w A zs) (hl : zs.length ≤ 1000000000000) :
    Calls Tryd.prog 32 #[.agg #[.int .i64 a, .int .i64 b, .slice A zs.length c]] w fun e w' => e = .returned (.bool (picB a b zs)) ∧ Below w.heap.size w w' := by
  have HR := Lib.hid hr
  clear hr
  cases h1 : M.inB a 8 32
  · rw [picB_no (.inl (by rw [sideB_of, h1]; rfl))]
    go_enter Tryd.func32, Tryd.ntmps32
    go_wp2_with (go_at_call 15; refine (S_l1In _ _ _ _).mono ?_; rintro e w' ⟨rfl, rfl⟩)
    go_returns
    exact ⟨rfl, (by repeat' (first | (with_reducible exact Below.refl _ _) | (with_reducible refine Below.adds_ ?_ ?_ _ _) | (with_reducible refine Below.alloc ?_ ?_ _) | (with_reducible refine Below.drew ?_) | (with_reducible refine Below.setCell ?_ ?_ _) | (with_reducible assumption) | go_size | (simp only [size_addsW, World.size_alloc, World.size_drew, World.size_setCell]; omega)))⟩
  · cases h2 : M.inB b 8 32
    · rw [picB_no (.inr (.inl (by rw [sideB_of, h2]; rfl)))]
      go_enter Tryd.func32, Tryd.ntmps32
      go_wp2_with (go_at_call 15; refine (S_l1In _ _ _ _).mono ?_; rintro e w' ⟨rfl, rfl⟩)
      go_returns
      exact ⟨rfl, (by repeat' (first | (with_reducible exact Below.refl _ _) | (with_reducible refine Below.adds_ ?_ ?_ _ _) | (with_reducible refine Below.alloc ?_ ?_ _) | (with_reducible refine Below.drew ?_) | (with_reducible refine Below.setCell ?_ ?_ _) | (with_reducible assumption) | go_size | (simp only [size_addsW, World.size_alloc, World.size_drew, World.size_setCell]; omega)))⟩
    · have ha := M.inB_iff.1 h1
      have hb := M.inB_iff.1 h2
      by_cases h3 : a % 8 = 0
      · have t3 : (a % 8 != 0) = false := by simp [h3]
        by_cases h4 : b % 8 = 0
        · have t4 : (b % 8 != 0) = false := by simp [h4]
          have s1 : sideB a = true := by rw [sideB_of, h1]; simp [h3]
          have s2 : sideB b = true := by rw [sideB_of, h2]; simp [h4]
          obtain ⟨m, hm⟩ : ∃ m : Int, m = a * b := ⟨_, rfl⟩
          have hmb : 0 ≤ m ∧ m ≤ 1024 := by
            rw [hm]
            exact ⟨Int.mul_nonneg (by omega) (by omega), by have := Int.mul_le_mul ha.2 hb.2 (by omega) (by omega); omega⟩
          have HM := Lib.hid hm
          have hmul : wrap64 (a * b) = m := by rw [← hm]; exact IntWalk.wrap64_in _ (by omega)
          clear hm h3 h4
          by_cases h5 : (zs.length : Int) = m
          · have e1 : picB a b zs = M.samplesB zs := by
              have : (zs.length : Int) = a * b := h5.trans HM.out
              simp [picB, s1, s2, this]
            rw [e1]
            have hb3 : ((zs.length : Int) != m) = false := by simp [h5]
            clear e1 h5 s1 s2
            go_enter Tryd.func32, Tryd.ntmps32
            go_wp2_with (go_at_call 15; refine (S_l1In _ _ _ _).mono ?_; rintro e w' ⟨rfl, rfl⟩)
            clear t3 t4 hb3 hmul ha hb hmb h1 h2
            go_loop [3] (fun i => PicIn zs i) (fun i => zs.length - (intOf i).toNat)
            case atStart => exact ⟨0, Nat.zero_le _, rfl, by simp [M.samplesB]⟩
            case round =>
              obtain ⟨k, hk, rfl, ht⟩ := hrel
              have HT := Lib.hid ht
              clear ht
              by_cases hlt : k < zs.length
              · obtain ⟨bl, off, z, rfl, hbl, hz, hc⟩ := HR.out.at_ hlt
                have HZ := Lib.hid hz
                clear hz
                cases hv : M.inB z 0 255
                · go_wp2_with (go_at_call 15; refine (S_l1In _ _ _ _).mono ?_; rintro e w' ⟨rfl, rfl⟩)
                  go_returns
                  exact ⟨M.ret_bool (M.samplesB_no hlt (by rw [← HZ.out]; exact hv)).symm, (by repeat' (first | (with_reducible exact Below.refl _ _) | (with_reducible refine Below.adds_ ?_ ?_ _ _) | (with_reducible refine Below.alloc ?_ ?_ _) | (with_reducible refine Below.drew ?_) | (with_reducible refine Below.setCell ?_ ?_ _) | (with_reducible assumption) | go_size | (simp only [size_addsW, World.size_alloc, World.size_drew, World.size_setCell]; omega)))⟩
                · go_wp2_with (go_at_call 15; refine (S_l1In _ _ _ _).mono ?_; rintro e w' ⟨rfl, rfl⟩)
                  go_round
                  case rel => first | exact ⟨k + 1, by omega, by go_num, M.samplesB_take hlt HT.out (by rw [← HZ.out]; exact hv)⟩ | (refine ⟨trivial, ?_⟩; repeat (refine Exists.intro _ ?_); exact ⟨⟨k + 1, by omega, by go_num, M.samplesB_take hlt HT.out (by rw [← HZ.out]; exact hv)⟩, rfl⟩)
                  case measure => simp [intOf]; omega
              · go_wp2
                go_returns
                exact ⟨M.ret_bool (by have := HT.out; rw [List.take_of_length_le (by omega)] at this; exact this.symm), (by repeat' (first | (with_reducible exact Below.refl _ _) | (with_reducible refine Below.adds_ ?_ ?_ _ _) | (with_reducible refine Below.alloc ?_ ?_ _) | (with_reducible refine Below.drew ?_) | (with_reducible refine Below.setCell ?_ ?_ _) | (with_reducible assumption) | go_size | (simp only [size_addsW, World.size_alloc, World.size_drew, World.size_setCell]; omega)))⟩
          · rw [picB_no (.inr (.inr (.inl (fun e => h5 (e.trans HM.out.symm)))))]
            have hb3 : ((zs.length : Int) != m) = true := by simp [h5]
            clear h5
            go_enter Tryd.func32, Tryd.ntmps32
            go_wp2_with (go_at_call 15; refine (S_l1In _ _ _ _).mono ?_; rintro e w' ⟨rfl, rfl⟩)
            go_returns
            exact ⟨rfl, (by repeat' (first | (with_reducible exact Below.refl _ _) | (with_reducible refine Below.adds_ ?_ ?_ _ _) | (with_reducible refine Below.alloc ?_ ?_ _) | (with_reducible refine Below.drew ?_) | (with_reducible refine Below.setCell ?_ ?_ _) | (with_reducible assumption) | go_size | (simp only [size_addsW, World.size_alloc, World.size_drew, World.size_setCell]; omega)))⟩
        · rw [picB_no (.inr (.inl (by rw [sideB_of, h2]; simp [h4])))]
          have t4 : (b % 8 != 0) = true := by simp [h4]
          go_enter Tryd.func32, Tryd.ntmps32
          go_wp2_with (go_at_call 15; refine (S_l1In _ _ _ _).mono ?_; rintro e w' ⟨rfl, rfl⟩)
          go_returns
          exact ⟨rfl, (by repeat' (first | (with_reducible exact Below.refl _ _) | (with_reducible refine Below.adds_ ?_ ?_ _ _) | (with_reducible refine Below.alloc ?_ ?_ _) | (with_reducible refine Below.drew ?_) | (with_reducible refine Below.setCell ?_ ?_ _) | (with_reducible assumption) | go_size | (simp only [size_addsW, World.size_alloc, World.size_drew, World.size_setCell]; omega)))⟩
      · rw [picB_no (.inl (by rw [sideB_of, h1]; simp [h3]))]
        have t3 : (a % 8 != 0) = true := by simp [h3]
        go_enter Tryd.func32, Tryd.ntmps32
        go_wp2_with (go_at_call 15; refine (S_l1In _ _ _ _).mono ?_; rintro e w' ⟨rfl, rfl⟩)
        go_returns
        exact ⟨rfl, (by repeat' (first | (with_reducible exact Below.refl _ _) | (with_reducible refine Below.adds_ ?_ ?_ _ _) | (with_reducible refine Below.alloc ?_ ?_ _) | (with_reducible refine Below.drew ?_) | (with_reducible refine Below.setCell ?_ ?_ _) | (with_reducible assumption) | go_size | (simp only [size_addsW, World.size_alloc, World.size_drew, World.size_setCell]; omega)))⟩

end Go.Proofs.YtijccageaingjaaDoor
