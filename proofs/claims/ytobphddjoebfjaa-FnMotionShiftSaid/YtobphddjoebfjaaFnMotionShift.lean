/- PROVED: the law laws.FnMotionShift returns true for every input (a displaced picture is found, at the cost 0); no conditions. -/
import Derived.Test.YtobphddjoebfjaaRows
import Derived.Test.YtobphddjoebfjaaShift
import Derived.Test.YtobphddjoebfjaaNew
import Derived.Deep.RegionHeld3
import Derived.Deep.DeepCutAuto
import Derived.BigQuiet
import Derived.WalkKit
import Derived.ProofKit
import Derived.OpenShut
import Derived.ShutString
import Derived.ChangeOld
import Derived.Below
import Derived.Lib.SmallJoins
namespace Go.Proofs.Ytobphddjoebfjaa.fnMotionShift
open Go.ChangeShapes Go.WideShapes Go.ChangeAt Go.RowKit
open Go.ChangeMaps (open_string shut_string)
set_option linter.unusedVariables false
set_option linter.unusedSimpArgs false

theorem own : ownKnob Try.prog.godebug = none := by kernel_rfl
theorem laidOut : laidOutB Try.prog = true := by kernel_rfl

attribute [local go_sem] size_addsW cell?_addsW frozen?_addsW setCell_addsW drew_addsW adds_addsW setCell_twice alloc_adds0 size_adds0 adds_adds0 sel2 sel3 sel4 sel5 sel6 sel7 sel8 sel9 lt_more lt_more2 lt_more3 lt_more4 adds_drew adds_drewN drewN_addsW ltA_1_1 ltA_1_2 ltA_1_3 ltA_1_4 ltA_1_5 ltA_1_6 ltA_2_1 ltA_2_2 ltA_2_3 ltA_2_4 ltA_2_5 ltA_2_6 ltA_3_1 ltA_3_2 ltA_3_3 ltA_3_4 ltA_3_5 ltA_3_6 ltA_4_1 ltA_4_2 ltA_4_3 ltA_4_4 ltA_4_5 ltA_4_6 ltA_5_1 ltA_5_2 ltA_5_3 ltA_5_4 ltA_5_5 ltA_5_6 ltA_6_1 ltA_6_2 ltA_6_3 ltA_6_4 ltA_6_5 ltA_6_6 ltA_7_1 ltA_7_2 ltA_7_3 ltA_7_4 ltA_7_5 ltA_7_6 ltA_8_1 ltA_8_2 ltA_8_3 ltA_8_4 ltA_8_5 ltA_8_6 ltA_9_1 ltA_9_2 ltA_9_3 ltA_9_4 ltA_9_5 ltA_9_6 ltA_10_1 ltA_10_2 ltA_10_3 ltA_10_4 ltA_10_5 ltA_10_6 ltA_11_1 ltA_11_2 ltA_11_3 ltA_11_4 ltA_11_5 ltA_11_6 ltA_12_1 ltA_12_2 ltA_12_3 ltA_12_4 ltA_12_5 ltA_12_6

set_option maxHeartbeats 4000000 in
set_option maxRecDepth 100000 in
theorem walk (a_cs : Option Addr) (len_cs cap_cs : Nat) (cs : List Int) (a_ms : Option Addr) (len_ms cap_ms : Nat) (ms : List Int) (w : World) (w_cs : IsRow .u8 w a_cs len_cs cap_cs cs) (w_ms : IsRow .u8 w a_ms len_ms cap_ms ms) :
    Calls Try.prog 13 #[.slice a_cs len_cs cap_cs, .slice a_ms len_ms cap_ms] w fun e w' => e = .returned (.bool true) ∧ Below w.heap.size w w' := by
  have hlm := (RowAt.of_row w_cs).2.2.1
  have hlm2 := (RowAt.of_row w_ms).2.2.1
  unfold maxLen at hlm hlm2
  have HI := Lib.hid w_cs
  clear w_cs w_ms
  by_cases hbig : 1048576 < len_cs
  · go_enter Try.func13, Try.ntmps13
    go_wp2
    go_returns
    exact ⟨rfl, (by repeat' (first | (with_reducible exact Below.refl _ _) | (with_reducible refine Below.adds_ ?_ ?_ _ _) | (with_reducible refine Below.alloc ?_ ?_ _) | (with_reducible refine Below.drew ?_) | (with_reducible refine Below.setCell ?_ ?_ _) | (with_reducible assumption) | go_size | (simp only [size_addsW, World.size_alloc, World.size_drew, World.size_setCell]; omega)))⟩
  · by_cases hbig2 : 1048576 < len_ms
    · go_enter Try.func13, Try.ntmps13
      go_wp2
      go_returns
      exact ⟨rfl, (by repeat' (first | (with_reducible exact Below.refl _ _) | (with_reducible refine Below.adds_ ?_ ?_ _ _) | (with_reducible refine Below.alloc ?_ ?_ _) | (with_reducible refine Below.drew ?_) | (with_reducible refine Below.setCell ?_ ?_ _) | (with_reducible assumption) | go_size | (simp only [size_addsW, World.size_alloc, World.size_drew, World.size_setCell]; omega)))⟩
    · go_enter Try.func13, Try.ntmps13
      have hm1 : 0 ≤ (len_ms : Int).tmod 3 ∧ (len_ms : Int).tmod 3 < 3 := by
        rw [Int.tmod_eq_emod_of_nonneg (by omega)]; omega
      have hm2 : 0 ≤ ((len_ms : Int).tdiv 3).tmod 3 ∧ ((len_ms : Int).tdiv 3).tmod 3 < 3 := by
        rw [Int.tdiv_eq_ediv_of_nonneg (by omega), Int.tmod_eq_emod_of_nonneg (by omega)]; omega
      have hm3 : 0 ≤ (len_ms : Int).tdiv 3 ∧ (len_ms : Int).tdiv 3 ≤ 1048576 := by
        rw [Int.tdiv_eq_ediv_of_nonneg (by omega)]; omega
      go_wp2_with fail
      refine (S_DrawMotionBlock _ _ _ cs _ (IsRow.keep HI.out (by repeat' (first | (with_reducible exact Below.refl _ _) | (with_reducible refine Below.adds_ ?_ ?_ _ _) | (with_reducible refine Below.alloc ?_ ?_ _) | (with_reducible refine Below.drew ?_) | (with_reducible refine Below.setCell ?_ ?_ _) | (with_reducible assumption) | go_size | (simp only [size_addsW, World.size_alloc, World.size_drew, World.size_setCell]; omega))))).mono ?_
      rintro e w1 ⟨a, b, x, y, u, v, A, c, ps, rfl, hx0, hx1, hy0, hy1, hu0, hu1, hv0, hv1, ha0, ha1, hb0, hb1, hz, hzc, hcm, hrow, hb⟩
      have B1 := Lib.hid hb
      have R := Lib.hid hrow
      have z1 := hb.size
      clear hb hrow hzc hcm
      go_upto_region 6 with fail
      obtain ⟨dx, hdx⟩ : ∃ dx : Int, dx = (len_ms : Int) % 3 - 1 := ⟨_, rfl⟩
      obtain ⟨dy, hdy⟩ : ∃ dy : Int, dy = (len_ms : Int) / 3 % 3 - 1 := ⟨_, rfl⟩
      have hdx1 : -1 ≤ dx ∧ dx ≤ 1 := by omega
      have hdy1 : -1 ≤ dy ∧ dy ≤ 1 := by omega
      rw [← hdx, ← hdy]
      clear hdx hdy hm1 hm2 hm3
      refine all_add' ?_
      intro Y hY
      have hYw : Below w1.heap.size w1 Y := hY ▸ (show Below w1.heap.size w1 ((w1.alloc (.cells #[.int .i64 a, .int .i64 b, .slice A ps.length c] 27)).alloc (.cells #[.int .i64 u, .int .i64 v] 53)) from (by repeat' (first | (with_reducible exact Below.refl _ _) | (with_reducible refine Below.adds_ ?_ ?_ _ _) | (with_reducible refine Below.alloc ?_ ?_ _) | (with_reducible refine Below.drew ?_) | (with_reducible refine Below.setCell ?_ ?_ _) | (with_reducible assumption) | go_size | (simp only [size_addsW, World.size_alloc, World.size_drew, World.size_setCell]; omega))))
      have b5 : Blk Y w1.heap.size #[.int .i64 a, .int .i64 b, .slice A ps.length c] 27 := hY ▸ (Blk.new w1 _ _ _ rfl).alloc _
      clear hY
      generalize w1.heap.size + 1 = k8
      have RY := Lib.hid (R.out.keep hYw)
      have hzY := hYw.size
      have HYw := Lib.hid (B1.out.trans (hYw.mono z1))
      clear hYw
      have k50 := b5.get (i := 0) rfl
      have k51 := b5.get (i := 1) rfl
      have k52 := b5.get (i := 2) rfl
      have l5 := b5.lt
      clear hu0 hu1 hv0 hv1
      cases hv : picB a b ps
      · go_wp2_with (first | (go_at_call 25; refine (S_PictureValid a b _ _ ps _ (RY.out.keep (by repeat' (first | (with_reducible exact Below.refl _ _) | (with_reducible refine Below.adds_ ?_ ?_ _ _) | (with_reducible refine Below.alloc ?_ ?_ _) | (with_reducible refine Below.drew ?_) | (with_reducible refine Below.setCell ?_ ?_ _) | (with_reducible assumption) | go_size | (simp only [size_addsW, World.size_alloc, World.size_drew, World.size_setCell]; omega)))) (by omega)).mono ?_; rw [hv]; rintro e w2 ⟨rfl, hb⟩; obtain ⟨o1, m1, rfl⟩ := below_adds hb; clear hb) | (go_at_call 26; refine (L_alive _).mono ?_; rintro e w' ⟨rfl, hb⟩; obtain ⟨o1, n1, rfl⟩ := below_adds hb; clear hb))
        go_returns
        exact ⟨rfl, HYw.out.trans ((show Below Y.heap.size Y _ from (by repeat' (first | (with_reducible exact Below.refl _ _) | (with_reducible refine Below.adds_ ?_ ?_ _ _) | (with_reducible refine Below.alloc ?_ ?_ _) | (with_reducible refine Below.drew ?_) | (with_reducible refine Below.setCell ?_ ?_ _) | (with_reducible assumption) | go_size | (simp only [size_addsW, World.size_alloc, World.size_drew, World.size_setCell]; omega)))).mono (by omega))⟩
      · have HV := Lib.hid hv
        clear hv
        have hbd := picB_bd HV.out
        by_cases hg : 0 ≤ x ∧ x < a ∧ x % 8 = 0 ∧ 0 ≤ y ∧ y < b ∧ y % 8 = 0
        · have HG := Lib.hid (show begB a b x y = true by simp [begB, hg])
          obtain ⟨g1, g2, g3, g4, g5, g6⟩ := hg
          have t1 : x.tmod 8 = 0 := by rw [Int.tmod_eq_emod_of_nonneg g1]; exact g3
          have t2 : y.tmod 8 = 0 := by rw [Int.tmod_eq_emod_of_nonneg g4]; exact g6
          have n1 : ¬ x < 0 := by omega
          have n2 : ¬ y < 0 := by omega
          have n3 : ¬ a ≤ x := by omega
          have n4 : ¬ b ≤ y := by omega
          go_upto_region 8 with (go_at_call 25; refine (S_PictureValid a b _ _ ps _ (RY.out.keep (by repeat' (first | (with_reducible exact Below.refl _ _) | (with_reducible refine Below.adds_ ?_ ?_ _ _) | (with_reducible refine Below.alloc ?_ ?_ _) | (with_reducible refine Below.drew ?_) | (with_reducible refine Below.setCell ?_ ?_ _) | (with_reducible assumption) | go_size | (simp only [size_addsW, World.size_alloc, World.size_drew, World.size_setCell]; omega)))) (by omega)).mono ?_; rw [HV.out]; rintro e w2 ⟨rfl, hb⟩; obtain ⟨o1, m1, rfl⟩ := below_adds hb; clear hb)
          have hYZ : Below Y.heap.size Y (addsW Y o1 m1) := (by repeat' (first | (with_reducible exact Below.refl _ _) | (with_reducible refine Below.adds_ ?_ ?_ _ _) | (with_reducible refine Below.alloc ?_ ?_ _) | (with_reducible refine Below.drew ?_) | (with_reducible refine Below.setCell ?_ ?_ _) | (with_reducible assumption) | go_size | (simp only [size_addsW, World.size_alloc, World.size_drew, World.size_setCell]; omega)))
          generalize addsW Y o1 m1 = Z at hYZ ⊢
          have RZ := Lib.hid (RY.out.keep hYZ)
          have b5z := b5.below hYZ l5
          have hzZ := hYZ.size
          have HYZ := Lib.hid (HYw.out.trans (hYZ.mono (by omega)))
          have l5z := b5z.lt
          clear k50 k51 k52 hYZ
          have k50 := b5z.get (i := 0) rfl
          have k51 := b5z.get (i := 1) rfl
          generalize w1.heap.size = g5 at *
          obtain ⟨i0, hi, hz0, hz1, hz2⟩ := info_parts infoIntG
          have HI0 := Lib.hid hi
          have HI1 := Lib.hid hz0
          have HI2 := Lib.hid hz1
          have HI3 := Lib.hid hz2
          clear hi hz0 hz1 hz2
          go_wp2_with fail
          go_loopw [12] (fun i wr => TgRel Z a b ps dx dy i wr) (fun i _ => ps.length - (intOf i).toNat)
          case atStart => exact ⟨0, 0, none, Nat.zero_le _, rfl, rfl, (by repeat' (first | (with_reducible exact Below.refl _ _) | (with_reducible refine Below.adds_ ?_ ?_ _ _) | (with_reducible refine Below.alloc ?_ ?_ _) | (with_reducible refine Below.drew ?_) | (with_reducible refine Below.setCell ?_ ?_ _) | (with_reducible assumption) | go_size | (simp only [size_addsW, World.size_alloc, World.size_drew, World.size_setCell]; omega))), Blk.new _ _ _ _ rfl, World.ownsRow_nil _ _ _ _⟩
          case round =>
            clear k50 k51
            obtain ⟨k, cx, Ax, hk, rfl, ht⟩ := hrel
            have HT := Lib.hid ht
            obtain ⟨-, hbz, hbx, hown⟩ := ht
            have e5 := b5z.below hbz l5z
            have k50 := e5.get (i := 0) rfl
            have k51 := e5.get (i := 1) rfl
            have k52 := e5.get (i := 2) rfl
            have kt0 := hbx.get (i := 0) rfl
            have kt1 := hbx.get (i := 1) rfl
            have kt2 := hbx.get (i := 2) rfl
            have lr5 := e5.lt
            have lrt := hbx.lt
            have RR := Lib.hid (RZ.out.keep hbz)
            have HBZ := Lib.hid hbz
            have HOWN := Lib.hid hown
            clear hbz hown
            by_cases hlt : k < ps.length
            · have hne5 : ¬ g5 = Z.heap.size := by omega
              have hne6 : ¬ Z.heap.size = g5 := by omega
              have ha0' : ¬ a = 0 := by omega
              have HE := Lib.hid (show sampV a b ps (IntKind.i64.wrap ((k : Int).tmod a + dx)) (IntKind.i64.wrap (IntKind.i64.wrap ((k : Int) / a) + dy)) = shF a b ps dx dy k from by
                have w1 : 0 ≤ (k : Int) / a ∧ (k : Int) / a ≤ 1024 := ⟨Int.ediv_nonneg (by omega) (by omega), Int.le_trans (Int.ediv_le_self _ (by omega)) (by omega)⟩
                have w2 : 0 ≤ (k : Int) % a ∧ (k : Int) % a < a := ⟨Int.emod_nonneg _ (by omega), Int.emod_lt_of_pos _ (by omega)⟩
                unfold shF
                rw [Int.tmod_eq_emod_of_nonneg (by omega), Int.tdiv_eq_ediv_of_nonneg (by omega)]
                generalize (k : Int) / a = d1 at w1 ⊢
                generalize (k : Int) % a = d2 at w2 ⊢
                rw [IntWalk.i64_in (d2 + dx) (by omega), IntWalk.i64_in d1 (by omega), IntWalk.i64_in (d1 + dy) (by omega)])
              go_upto_region 12 with fail
              refine wp_region_held_drew (S := (fun w' => w'.cell? ⟨g5, 0, none⟩ = some (.int .i64 a) ∧ w'.cell? ⟨g5, 1, none⟩ = some (.int .i64 b) ∧ w'.cell? ⟨g5, 2, none⟩ = some (.slice A ps.length c))) (by kernel_rfl) ?_ (fun hHeld => ?_)
              · (first | (go_simp; done) | (go_keep; done) | exact ⟨x0, x1, x2⟩)
              refine wpAnyH_take (i := 0) (oi := _) (v := ?_) rfl (by kernel_rfl) (by kernel_rfl) (by kernel_rfl) (fun _ _ _ h => h) (Or.inl ⟨by rfl, ?_⟩) (by assumption) ?_
              rotate_left
              · intro w hSw; (try dsimp only at hSw); go_simp; (try with_reducible rfl)
              try dsimp only [List.getElem_toArray, List.getElem_cons_succ, List.getElem_cons_zero]
              simp only [Act.put, List.setIfInBounds_toArray, List.set_cons_zero, List.set_cons_succ]
              refine wpAnyH_take (i := 2) (oi := _) (v := ?_) rfl (by kernel_rfl) (by kernel_rfl) (by kernel_rfl) (fun _ _ _ h => h) (Or.inl ⟨by rfl, ?_⟩) (by assumption) ?_
              rotate_left
              · intro w hSw; (try dsimp only at hSw); go_simp; (try with_reducible rfl)
              try dsimp only [List.getElem_toArray, List.getElem_cons_succ, List.getElem_cons_zero]
              simp only [Act.put, List.setIfInBounds_toArray, List.set_cons_zero, List.set_cons_succ]
              refine wpAnyH_take (i := 3) (oi := _) (v := ?_) rfl (by kernel_rfl) (by kernel_rfl) (by kernel_rfl) (fun _ _ _ h => h) (Or.inl ⟨by rfl, ?_⟩) (by assumption) ?_
              rotate_left
              · intro w hSw; (try dsimp only at hSw); go_simp; (try with_reducible rfl)
              try dsimp only [List.getElem_toArray, List.getElem_cons_succ, List.getElem_cons_zero]
              simp only [Act.put, List.setIfInBounds_toArray, List.set_cons_zero, List.set_cons_succ]
              refine wpAnyH_take (i := 4) (oi := _) (v := ?_) rfl (by kernel_rfl) (by kernel_rfl) (by kernel_rfl) (fun _ _ _ h => h) (Or.inl ⟨by rfl, ?_⟩) (by assumption) ?_
              rotate_left
              · intro w hSw; (try dsimp only at hSw); go_simp; (try with_reducible rfl)
              try dsimp only [List.getElem_toArray, List.getElem_cons_succ, List.getElem_cons_zero]
              simp only [Act.put, List.setIfInBounds_toArray, List.set_cons_zero, List.set_cons_succ]
              refine wpAnyH_take (i := 5) (oi := _) (v := ?_) rfl (by kernel_rfl) (by kernel_rfl) (by kernel_rfl) (fun _ _ _ h => h) (Or.inl ⟨by rfl, ?_⟩) (by assumption) ?_
              rotate_left
              · intro w hSw; (try dsimp only at hSw); go_simp; (try with_reducible rfl)
              try dsimp only [List.getElem_toArray, List.getElem_cons_succ, List.getElem_cons_zero]
              simp only [Act.put, List.setIfInBounds_toArray, List.set_cons_zero, List.set_cons_succ]
              refine wpAnyH_take (i := 6) (oi := _) (v := ?_) rfl (by kernel_rfl) (by kernel_rfl) (by kernel_rfl) (fun _ _ _ h => h) (Or.inl ⟨by rfl, ?_⟩) (by assumption) ?_
              rotate_left
              · intro w hSw; (try dsimp only at hSw); go_simp; (try with_reducible rfl)
              try dsimp only [List.getElem_toArray, List.getElem_cons_succ, List.getElem_cons_zero]
              simp only [Act.put, List.setIfInBounds_toArray, List.set_cons_zero, List.set_cons_succ]
              refine wpAnyH_take (i := 7) (oi := _) (v := ?_) rfl (by kernel_rfl) (by kernel_rfl) (by kernel_rfl) (fun _ _ _ h => h) (Or.inl ⟨by rfl, ?_⟩) (by assumption) ?_
              rotate_left
              · intro w hSw; (try dsimp only at hSw); go_simp; (try with_reducible rfl)
              try dsimp only [List.getElem_toArray, List.getElem_cons_succ, List.getElem_cons_zero]
              simp only [Act.put, List.setIfInBounds_toArray, List.set_cons_zero, List.set_cons_succ]
              refine wpAnyH_take (i := 8) (oi := _) (v := ?_) rfl (by kernel_rfl) (by kernel_rfl) (by kernel_rfl) (fun _ _ _ h => h) (Or.inl ⟨by rfl, ?_⟩) (by assumption) ?_
              rotate_left
              · intro w hSw; (try dsimp only at hSw); go_simp; (try with_reducible rfl)
              try dsimp only [List.getElem_toArray, List.getElem_cons_succ, List.getElem_cons_zero]
              simp only [Act.put, List.setIfInBounds_toArray, List.set_cons_zero, List.set_cons_succ]
              refine wpAnyH_take (i := 9) (oi := _) (v := ?_) rfl (by kernel_rfl) (by kernel_rfl) (by kernel_rfl) (fun _ _ _ h => h) (Or.inl ⟨by rfl, ?_⟩) (by assumption) ?_
              rotate_left
              · intro w hSw; (try dsimp only at hSw); go_simp; (try with_reducible rfl)
              try dsimp only [List.getElem_toArray, List.getElem_cons_succ, List.getElem_cons_zero]
              simp only [Act.put, List.setIfInBounds_toArray, List.set_cons_zero, List.set_cons_succ]
              refine wpAnyH_take (i := 10) (oi := _) (v := ?_) rfl (by kernel_rfl) (by kernel_rfl) (by kernel_rfl) (fun _ _ _ h => h) (Or.inl ⟨by rfl, ?_⟩) (by assumption) ?_
              rotate_left
              · intro w hSw; (try dsimp only at hSw); go_simp; (try with_reducible rfl)
              try dsimp only [List.getElem_toArray, List.getElem_cons_succ, List.getElem_cons_zero]
              simp only [Act.put, List.setIfInBounds_toArray, List.set_cons_zero, List.set_cons_succ]
              refine wpAnyH_take (i := 11) (oi := _) (v := ?_) rfl (by kernel_rfl) (by kernel_rfl) (by kernel_rfl) (fun _ _ _ h => h) (Or.inl ⟨by rfl, ?_⟩) (by assumption) ?_
              rotate_left
              · intro w hSw; (try dsimp only at hSw); go_simp; (try with_reducible rfl)
              try dsimp only [List.getElem_toArray, List.getElem_cons_succ, List.getElem_cons_zero]
              simp only [Act.put, List.setIfInBounds_toArray, List.set_cons_zero, List.set_cons_succ]
              refine wpAnyH_take (i := 12) (oi := _) (v := ?_) rfl (by kernel_rfl) (by kernel_rfl) (by kernel_rfl) (fun _ _ _ h => h) (Or.inl ⟨by rfl, ?_⟩) (by assumption) ?_
              rotate_left
              · intro w hSw; (try dsimp only at hSw); go_simp; (try with_reducible rfl)
              try dsimp only [List.getElem_toArray, List.getElem_cons_succ, List.getElem_cons_zero]
              simp only [Act.put, List.setIfInBounds_toArray, List.set_cons_zero, List.set_cons_succ]
              refine wpAnyH_take (i := 13) (oi := _) (v := ?_) rfl (by kernel_rfl) (by kernel_rfl) (by kernel_rfl) (fun _ _ _ h => h) (Or.inl ⟨by rfl, ?_⟩) (by assumption) ?_
              rotate_left
              · intro w hSw; (try dsimp only at hSw); go_simp; (try with_reducible rfl)
              try dsimp only [List.getElem_toArray, List.getElem_cons_succ, List.getElem_cons_zero]
              simp only [Act.put, List.setIfInBounds_toArray, List.set_cons_zero, List.set_cons_succ]
              refine wpAnyH_take (i := 14) (oi := _) (v := ?_) rfl (by kernel_rfl) (by kernel_rfl) (by kernel_rfl) (fun _ _ _ h => h) (Or.inl ⟨by rfl, ?_⟩) (by assumption) ?_
              rotate_left
              · intro w hSw; (try dsimp only at hSw); go_simp; (try with_reducible rfl)
              try dsimp only [List.getElem_toArray, List.getElem_cons_succ, List.getElem_cons_zero]
              simp only [Act.put, List.setIfInBounds_toArray, List.set_cons_zero, List.set_cons_succ]
              refine wpAnyH_ready (rs := [1, 15]) (by kernel_rfl) (by simp) ?_
              refine AllReadyH.cons (o := _) rfl (fun K hK => ?_) ?_
              · (try dsimp only [List.getElem_toArray, List.getElem_cons_succ, List.getElem_cons_zero]); go_simp
                refine hK.out _ _ ?_ (fun hHeld => ?_)
                · (first | (go_simp; done) | (go_keep; done) | exact ⟨x0, x1, x2⟩)
                clear hK K
                try simp only [Act.put, List.setIfInBounds_toArray, List.set_cons_zero, List.set_cons_succ]
                refine wpAnyH_ready (rs := [15]) (by kernel_rfl) (by simp) ?_
                refine AllReadyH.cons (o := _) rfl (fun K hK => ?_) ?_
                · (try dsimp only [List.getElem_toArray, List.getElem_cons_succ, List.getElem_cons_zero]); go_simp
                  (go_at_call 27; refine (I_SampleAt a b _ _ A c ps _ (RR.out.keep (by repeat' (first | (with_reducible exact Below.refl _ _) | (with_reducible refine Below.adds_ ?_ ?_ _ _) | (with_reducible refine Below.alloc ?_ ?_ _) | (with_reducible refine Below.drew ?_) | (with_reducible refine Below.setCell ?_ ?_ _) | (with_reducible assumption) | go_size | (simp only [size_addsW, World.size_alloc, World.size_drew, World.size_setCell]; omega)))) (by omega)).mono ?_; rintro e w' ⟨rfl, hb⟩; obtain ⟨o5, n5, rfl⟩ := below_adds hb; clear hb)
                  try go_wp2_with fail
                  refine hK.out _ _ ?_ (fun hHeld => ?_)
                  · (first | (go_simp; done) | (go_keep; done) | exact ⟨x0, x1, x2⟩)
                  clear hK K
                  try simp only [Act.put, List.setIfInBounds_toArray, List.set_cons_zero, List.set_cons_succ]
                  refine wpAnyH_ready (rs := [16]) (by kernel_rfl) (by simp) ?_
                  refine AllReadyH.cons (o := _) rfl (fun K hK => ?_) ?_
                  · (try dsimp only [List.getElem_toArray, List.getElem_cons_succ, List.getElem_cons_zero]); go_simp
                    refine hK.out _ _ ?_ (fun hHeld => ?_)
                    · (first | (go_simp; done) | (go_keep; done) | exact ⟨x0, x1, x2⟩)
                    clear hK K
                    try simp only [Act.put, List.setIfInBounds_toArray, List.set_cons_zero, List.set_cons_succ]
                    refine wpAnyH_ready (rs := [17]) (by kernel_rfl) (by simp) ?_
                    refine AllReadyH.cons (o := _) rfl (fun K hK => ?_) ?_
                    · (try dsimp only [List.getElem_toArray, List.getElem_cons_succ, List.getElem_cons_zero])
                      (rw [if_pos (by rfl)]; refine wp_append_own _ _ _ 22 rfl (Z.heap.size + 1) 3 i0 (.int .i64 0) 1 8 Try.underlying22 HI0.out HI1.out HI2.out HI3.out rfl (by decide) _ _ _ rfl (HT.out.own (by repeat' (first | (with_reducible exact Below.refl _ _) | (with_reducible refine Below.adds_ ?_ ?_ _ _) | (with_reducible refine Below.alloc ?_ ?_ _) | (with_reducible refine Below.drew ?_) | (with_reducible refine Below.setCell ?_ ?_ _) | (with_reducible assumption) | go_size | (simp only [size_addsW, World.size_alloc, World.size_drew, World.size_setCell]; omega)))) ⟨_, 0, none⟩ 1 1 [_] rfl rfl (cell_one_g _ _ _ _ (by simp [size_addsW])) (by exact one1 rfl) (by unfold maxLen; omega) (by omega) (by simp [size_addsW]; omega) ?_; intro v' w9 hown1 hgrow1 _; obtain ⟨A1, c1, e1, -⟩ := own_shape hown1; subst e1; have HTX := Lib.hid (Tg.step HT.out (by repeat' (first | (with_reducible exact Below.refl _ _) | (with_reducible refine Below.adds_ ?_ ?_ _ _) | (with_reducible refine Below.alloc ?_ ?_ _) | (with_reducible refine Below.drew ?_) | (with_reducible refine Below.setCell ?_ ?_ _) | (with_reducible assumption) | go_size | (simp only [size_addsW, World.size_alloc, World.size_drew, World.size_setCell]; omega))) hown1 hgrow1); have hgg := Tg.grow HT.out (by repeat' (first | (with_reducible exact Below.refl _ _) | (with_reducible refine Below.adds_ ?_ ?_ _ _) | (with_reducible refine Below.alloc ?_ ?_ _) | (with_reducible refine Below.drew ?_) | (with_reducible refine Below.setCell ?_ ?_ _) | (with_reducible assumption) | go_size | (simp only [size_addsW, World.size_alloc, World.size_drew, World.size_setCell]; omega))) hgrow1; have e5' := b5z.below hgg.1 l5z; have x0 := e5'.get (i := 0) rfl; have x1 := e5'.get (i := 1) rfl; have x2 := e5'.get (i := 2) rfl; have y2 := hgg.2.get (i := 2) rfl; have z2 := hgg.2.hot 2; have ly := hgg.2.lt; clear hown1 hgrow1 hgg)
                      refine hK.out _ _ ?_ (fun hHeld => ?_)
                      · (first | (go_simp; done) | (go_keep; done) | exact ⟨x0, x1, x2⟩)
                      clear hK K
                      try simp only [Act.put, List.setIfInBounds_toArray, List.set_cons_zero, List.set_cons_succ]
                      refine wpAnyH_take (i := 18) (oi := _) (v := ?_) rfl (by kernel_rfl) (by kernel_rfl) (by kernel_rfl) (fun _ _ _ h => h) (Or.inl ⟨by rfl, ?_⟩) (by assumption) ?_
                      rotate_left
                      · intro w hSw; (try dsimp only at hSw); go_simp; (try with_reducible rfl)
                      try dsimp only [List.getElem_toArray, List.getElem_cons_succ, List.getElem_cons_zero]
                      simp only [Act.put, List.setIfInBounds_toArray, List.set_cons_zero, List.set_cons_succ]
                      refine wpAnyH_ready (rs := [19]) (by kernel_rfl) (by simp) ?_
                      refine AllReadyH.cons (o := _) rfl (fun K hK => ?_) ?_
                      · (try dsimp only [List.getElem_toArray, List.getElem_cons_succ, List.getElem_cons_zero]); go_simp
                        refine hK.out _ _ ?_ (fun hHeld => ?_)
                        · (first | (go_simp; done) | (go_keep; done) | exact ⟨x0, x1, x2⟩)
                        clear hK K
                        try simp only [Act.put, List.setIfInBounds_toArray, List.set_cons_zero, List.set_cons_succ]
                        refine wpAnyH_done (by kernel_rfl) ?_ _
                        go_wp2_with fail
                        go_roundw
                        case rel => exact ⟨k + 1, c1, A1, by omega, by go_num, by rw [shL_succ, ← HE.out]; exact HTX.out⟩
                        case measure => simp [intOf]; omega
                      exact AllReadyH.nil
                    exact AllReadyH.nil
                  exact AllReadyH.nil
                exact AllReadyH.nil
              refine AllReadyH.cons (o := _) rfl (fun K hK => ?_) ?_
              · (try dsimp only [List.getElem_toArray, List.getElem_cons_succ, List.getElem_cons_zero]); go_simp
                (go_at_call 27; refine (I_SampleAt a b _ _ A c ps _ (RR.out.keep (by repeat' (first | (with_reducible exact Below.refl _ _) | (with_reducible refine Below.adds_ ?_ ?_ _ _) | (with_reducible refine Below.alloc ?_ ?_ _) | (with_reducible refine Below.drew ?_) | (with_reducible refine Below.setCell ?_ ?_ _) | (with_reducible assumption) | go_size | (simp only [size_addsW, World.size_alloc, World.size_drew, World.size_setCell]; omega)))) (by omega)).mono ?_; rintro e w' ⟨rfl, hb⟩; obtain ⟨o5, n5, rfl⟩ := below_adds hb; clear hb)
                try go_wp2_with fail
                refine hK.out _ _ ?_ (fun hHeld => ?_)
                · (first | (go_simp; done) | (go_keep; done) | exact ⟨x0, x1, x2⟩)
                clear hK K
                try simp only [Act.put, List.setIfInBounds_toArray, List.set_cons_zero, List.set_cons_succ]
                refine wpAnyH_ready (rs := [1, 16]) (by kernel_rfl) (by simp) ?_
                refine AllReadyH.cons (o := _) rfl (fun K hK => ?_) ?_
                · (try dsimp only [List.getElem_toArray, List.getElem_cons_succ, List.getElem_cons_zero]); go_simp
                  refine hK.out _ _ ?_ (fun hHeld => ?_)
                  · (first | (go_simp; done) | (go_keep; done) | exact ⟨x0, x1, x2⟩)
                  clear hK K
                  try simp only [Act.put, List.setIfInBounds_toArray, List.set_cons_zero, List.set_cons_succ]
                  refine wpAnyH_ready (rs := [16]) (by kernel_rfl) (by simp) ?_
                  refine AllReadyH.cons (o := _) rfl (fun K hK => ?_) ?_
                  · (try dsimp only [List.getElem_toArray, List.getElem_cons_succ, List.getElem_cons_zero]); go_simp
                    refine hK.out _ _ ?_ (fun hHeld => ?_)
                    · (first | (go_simp; done) | (go_keep; done) | exact ⟨x0, x1, x2⟩)
                    clear hK K
                    try simp only [Act.put, List.setIfInBounds_toArray, List.set_cons_zero, List.set_cons_succ]
                    refine wpAnyH_ready (rs := [17]) (by kernel_rfl) (by simp) ?_
                    refine AllReadyH.cons (o := _) rfl (fun K hK => ?_) ?_
                    · (try dsimp only [List.getElem_toArray, List.getElem_cons_succ, List.getElem_cons_zero])
                      (rw [if_pos (by rfl)]; refine wp_append_own _ _ _ 22 rfl (Z.heap.size + 1) 3 i0 (.int .i64 0) 1 8 Try.underlying22 HI0.out HI1.out HI2.out HI3.out rfl (by decide) _ _ _ rfl (HT.out.own (by repeat' (first | (with_reducible exact Below.refl _ _) | (with_reducible refine Below.adds_ ?_ ?_ _ _) | (with_reducible refine Below.alloc ?_ ?_ _) | (with_reducible refine Below.drew ?_) | (with_reducible refine Below.setCell ?_ ?_ _) | (with_reducible assumption) | go_size | (simp only [size_addsW, World.size_alloc, World.size_drew, World.size_setCell]; omega)))) ⟨_, 0, none⟩ 1 1 [_] rfl rfl (cell_one_g _ _ _ _ (by simp [size_addsW])) (by exact one1 rfl) (by unfold maxLen; omega) (by omega) (by simp [size_addsW]; omega) ?_; intro v' w9 hown1 hgrow1 _; obtain ⟨A1, c1, e1, -⟩ := own_shape hown1; subst e1; have HTX := Lib.hid (Tg.step HT.out (by repeat' (first | (with_reducible exact Below.refl _ _) | (with_reducible refine Below.adds_ ?_ ?_ _ _) | (with_reducible refine Below.alloc ?_ ?_ _) | (with_reducible refine Below.drew ?_) | (with_reducible refine Below.setCell ?_ ?_ _) | (with_reducible assumption) | go_size | (simp only [size_addsW, World.size_alloc, World.size_drew, World.size_setCell]; omega))) hown1 hgrow1); have hgg := Tg.grow HT.out (by repeat' (first | (with_reducible exact Below.refl _ _) | (with_reducible refine Below.adds_ ?_ ?_ _ _) | (with_reducible refine Below.alloc ?_ ?_ _) | (with_reducible refine Below.drew ?_) | (with_reducible refine Below.setCell ?_ ?_ _) | (with_reducible assumption) | go_size | (simp only [size_addsW, World.size_alloc, World.size_drew, World.size_setCell]; omega))) hgrow1; have e5' := b5z.below hgg.1 l5z; have x0 := e5'.get (i := 0) rfl; have x1 := e5'.get (i := 1) rfl; have x2 := e5'.get (i := 2) rfl; have y2 := hgg.2.get (i := 2) rfl; have z2 := hgg.2.hot 2; have ly := hgg.2.lt; clear hown1 hgrow1 hgg)
                      refine hK.out _ _ ?_ (fun hHeld => ?_)
                      · (first | (go_simp; done) | (go_keep; done) | exact ⟨x0, x1, x2⟩)
                      clear hK K
                      try simp only [Act.put, List.setIfInBounds_toArray, List.set_cons_zero, List.set_cons_succ]
                      refine wpAnyH_take (i := 18) (oi := _) (v := ?_) rfl (by kernel_rfl) (by kernel_rfl) (by kernel_rfl) (fun _ _ _ h => h) (Or.inl ⟨by rfl, ?_⟩) (by assumption) ?_
                      rotate_left
                      · intro w hSw; (try dsimp only at hSw); go_simp; (try with_reducible rfl)
                      try dsimp only [List.getElem_toArray, List.getElem_cons_succ, List.getElem_cons_zero]
                      simp only [Act.put, List.setIfInBounds_toArray, List.set_cons_zero, List.set_cons_succ]
                      refine wpAnyH_ready (rs := [19]) (by kernel_rfl) (by simp) ?_
                      refine AllReadyH.cons (o := _) rfl (fun K hK => ?_) ?_
                      · (try dsimp only [List.getElem_toArray, List.getElem_cons_succ, List.getElem_cons_zero]); go_simp
                        refine hK.out _ _ ?_ (fun hHeld => ?_)
                        · (first | (go_simp; done) | (go_keep; done) | exact ⟨x0, x1, x2⟩)
                        clear hK K
                        try simp only [Act.put, List.setIfInBounds_toArray, List.set_cons_zero, List.set_cons_succ]
                        refine wpAnyH_done (by kernel_rfl) ?_ _
                        go_wp2_with fail
                        go_roundw
                        case rel => exact ⟨k + 1, c1, A1, by omega, by go_num, by rw [shL_succ, ← HE.out]; exact HTX.out⟩
                        case measure => simp [intOf]; omega
                      exact AllReadyH.nil
                    exact AllReadyH.nil
                  exact AllReadyH.nil
                refine AllReadyH.cons (o := _) rfl (fun K hK => ?_) ?_
                · (try dsimp only [List.getElem_toArray, List.getElem_cons_succ, List.getElem_cons_zero]); go_simp
                  refine hK.out _ _ ?_ (fun hHeld => ?_)
                  · (first | (go_simp; done) | (go_keep; done) | exact ⟨x0, x1, x2⟩)
                  clear hK K
                  try simp only [Act.put, List.setIfInBounds_toArray, List.set_cons_zero, List.set_cons_succ]
                  refine wpAnyH_ready (rs := [1]) (by kernel_rfl) (by simp) ?_
                  refine AllReadyH.cons (o := _) rfl (fun K hK => ?_) ?_
                  · (try dsimp only [List.getElem_toArray, List.getElem_cons_succ, List.getElem_cons_zero]); go_simp
                    refine hK.out _ _ ?_ (fun hHeld => ?_)
                    · (first | (go_simp; done) | (go_keep; done) | exact ⟨x0, x1, x2⟩)
                    clear hK K
                    try simp only [Act.put, List.setIfInBounds_toArray, List.set_cons_zero, List.set_cons_succ]
                    refine wpAnyH_ready (rs := [17]) (by kernel_rfl) (by simp) ?_
                    refine AllReadyH.cons (o := _) rfl (fun K hK => ?_) ?_
                    · (try dsimp only [List.getElem_toArray, List.getElem_cons_succ, List.getElem_cons_zero])
                      (rw [if_pos (by rfl)]; refine wp_append_own _ _ _ 22 rfl (Z.heap.size + 1) 3 i0 (.int .i64 0) 1 8 Try.underlying22 HI0.out HI1.out HI2.out HI3.out rfl (by decide) _ _ _ rfl (HT.out.own (by repeat' (first | (with_reducible exact Below.refl _ _) | (with_reducible refine Below.adds_ ?_ ?_ _ _) | (with_reducible refine Below.alloc ?_ ?_ _) | (with_reducible refine Below.drew ?_) | (with_reducible refine Below.setCell ?_ ?_ _) | (with_reducible assumption) | go_size | (simp only [size_addsW, World.size_alloc, World.size_drew, World.size_setCell]; omega)))) ⟨_, 0, none⟩ 1 1 [_] rfl rfl (cell_one_g _ _ _ _ (by simp [size_addsW])) (by exact one1 rfl) (by unfold maxLen; omega) (by omega) (by simp [size_addsW]; omega) ?_; intro v' w9 hown1 hgrow1 _; obtain ⟨A1, c1, e1, -⟩ := own_shape hown1; subst e1; have HTX := Lib.hid (Tg.step HT.out (by repeat' (first | (with_reducible exact Below.refl _ _) | (with_reducible refine Below.adds_ ?_ ?_ _ _) | (with_reducible refine Below.alloc ?_ ?_ _) | (with_reducible refine Below.drew ?_) | (with_reducible refine Below.setCell ?_ ?_ _) | (with_reducible assumption) | go_size | (simp only [size_addsW, World.size_alloc, World.size_drew, World.size_setCell]; omega))) hown1 hgrow1); have hgg := Tg.grow HT.out (by repeat' (first | (with_reducible exact Below.refl _ _) | (with_reducible refine Below.adds_ ?_ ?_ _ _) | (with_reducible refine Below.alloc ?_ ?_ _) | (with_reducible refine Below.drew ?_) | (with_reducible refine Below.setCell ?_ ?_ _) | (with_reducible assumption) | go_size | (simp only [size_addsW, World.size_alloc, World.size_drew, World.size_setCell]; omega))) hgrow1; have e5' := b5z.below hgg.1 l5z; have x0 := e5'.get (i := 0) rfl; have x1 := e5'.get (i := 1) rfl; have x2 := e5'.get (i := 2) rfl; have y2 := hgg.2.get (i := 2) rfl; have z2 := hgg.2.hot 2; have ly := hgg.2.lt; clear hown1 hgrow1 hgg)
                      refine hK.out _ _ ?_ (fun hHeld => ?_)
                      · (first | (go_simp; done) | (go_keep; done) | exact ⟨x0, x1, x2⟩)
                      clear hK K
                      try simp only [Act.put, List.setIfInBounds_toArray, List.set_cons_zero, List.set_cons_succ]
                      refine wpAnyH_take (i := 18) (oi := _) (v := ?_) rfl (by kernel_rfl) (by kernel_rfl) (by kernel_rfl) (fun _ _ _ h => h) (Or.inl ⟨by rfl, ?_⟩) (by assumption) ?_
                      rotate_left
                      · intro w hSw; (try dsimp only at hSw); go_simp; (try with_reducible rfl)
                      try dsimp only [List.getElem_toArray, List.getElem_cons_succ, List.getElem_cons_zero]
                      simp only [Act.put, List.setIfInBounds_toArray, List.set_cons_zero, List.set_cons_succ]
                      refine wpAnyH_ready (rs := [19]) (by kernel_rfl) (by simp) ?_
                      refine AllReadyH.cons (o := _) rfl (fun K hK => ?_) ?_
                      · (try dsimp only [List.getElem_toArray, List.getElem_cons_succ, List.getElem_cons_zero]); go_simp
                        refine hK.out _ _ ?_ (fun hHeld => ?_)
                        · (first | (go_simp; done) | (go_keep; done) | exact ⟨x0, x1, x2⟩)
                        clear hK K
                        try simp only [Act.put, List.setIfInBounds_toArray, List.set_cons_zero, List.set_cons_succ]
                        refine wpAnyH_done (by kernel_rfl) ?_ _
                        go_wp2_with fail
                        go_roundw
                        case rel => exact ⟨k + 1, c1, A1, by omega, by go_num, by rw [shL_succ, ← HE.out]; exact HTX.out⟩
                        case measure => simp [intOf]; omega
                      exact AllReadyH.nil
                    exact AllReadyH.nil
                  exact AllReadyH.nil
                exact AllReadyH.nil
              exact AllReadyH.nil
            · obtain rfl : k = ps.length := by omega
              obtain ⟨A5, c5, e5', -, hcc, hcm, hrow, hA5⟩ := RowAt.of_ownS HOWN.out
              injection e5' with e6 e7 e8
              subst e6 e8
              have RT := Lib.hid hrow
              clear hrow hA5
              have Z0 := Lib.hid (sh_zero HV.out HG.out hdx1 hdy1).1
              have ZF := Lib.hid (fun p => sh_found (p := p) HV.out HG.out hdx1 hdy1)
              have hts := shL_len a b ps dx dy ps.length
              obtain ⟨ts, hts2⟩ : ∃ ts, ts = shL a b ps dx dy ps.length := ⟨_, rfl⟩
              rw [← hts2] at hts
              have HL := Lib.hid hts
              have CM := Lib.hid (show ∀ W, Below wr.heap.size wr W → Calls Try.prog 44 #[.agg #[.int .i64 a, .int .i64 b, .slice Ax ps.length cx], .agg #[.int .i64 a, .int .i64 b, .slice A ps.length c], .int .i64 x, .int .i64 y, .int .i64 2] W (VGot (cst a b ts ps x y) (okB a b ts a b ps x y 2) 2 W) from fun W hb => by
                have h := I_MotionSearch a b a b x y 2 Ax A cx c ts ps W ((hts2 ▸ RT.out).keep hb) (RR.out.keep hb) (by omega) (by omega)
                rw [hts] at h; exact h)
              have CS := Lib.hid (show ∀ W, Below wr.heap.size wr W → Calls Try.prog 43 #[.agg #[.int .i64 a, .int .i64 b, .slice Ax ps.length cx], .agg #[.int .i64 a, .int .i64 b, .slice A ps.length c], .int .i64 x, .int .i64 y, .int .i64 2] W (VGot (cst a b ts ps x y) (okB a b ts a b ps x y 2) 2 W) from fun W hb => by
                have h := S_MotionSearch a b a b x y 2 Ax A cx c ts ps W ((hts2 ▸ RT.out).keep hb) (RR.out.keep hb) (by omega) (by omega)
                rw [hts] at h; exact h)
              have CC := Lib.hid (show ∀ (u v : Int), mcV a b ts a b ps x y u v = 0 → ∀ W, Below wr.heap.size wr W → Calls Try.prog 42 #[.agg #[.int .i64 a, .int .i64 b, .slice Ax ps.length cx], .agg #[.int .i64 a, .int .i64 b, .slice A ps.length c], .int .i64 x, .int .i64 y, .agg #[.int .i64 u, .int .i64 v]] W (fun e w' => e = .returned (.int .i64 0) ∧ Below W.heap.size W w') from fun u v h0 W hb => by
                have h := I_MotionCost a b a b x y u v Ax A cx c ts ps W ((hts2 ▸ RT.out).keep hb) (RR.out.keep hb) (by omega) (by omega)
                rw [hts, h0] at h; exact h)
              rw [← hts2] at Z0 ZF
              clear hts hts2 hlt
              go_wp2_with fail
              refine (CM.out _ (by repeat' (first | (with_reducible exact Below.refl _ _) | (with_reducible refine Below.adds_ ?_ ?_ _ _) | (with_reducible refine Below.alloc ?_ ?_ _) | (with_reducible refine Below.drew ?_) | (with_reducible refine Below.setCell ?_ ?_ _) | (with_reducible assumption) | go_size | (simp only [size_addsW, World.size_alloc, World.size_drew, World.size_setCell]; omega)))).mono ?_
              rintro e w2 ⟨p, rfl, hp, hb⟩
              obtain ⟨o4, n4, rfl⟩ := below_adds hb
              have HP := Lib.hid hp
              have C0 := Lib.hid (CC.out _ _ Z0.out)
              have C1 := Lib.hid (CC.out _ _ (ZF.out p hp))
              clear hb hp
              go_upto_region 15 with fail
              refine all_add' ?_
              intro X hX
              have hbX : Below wr.heap.size wr X := hX ▸ (show Below wr.heap.size wr ((addsW (wr.alloc (.cells #[.int .i64 (2 * dx), .int .i64 (2 * dy)] 53)) o4 n4).alloc (.cells #[.int .i64 p.1, .int .i64 p.2] 53)) from (by repeat' (first | (with_reducible exact Below.refl _ _) | (with_reducible refine Below.adds_ ?_ ?_ _ _) | (with_reducible refine Below.alloc ?_ ?_ _) | (with_reducible refine Below.drew ?_) | (with_reducible refine Below.setCell ?_ ?_ _) | (with_reducible assumption) | go_size | (simp only [size_addsW, World.size_alloc, World.size_drew, World.size_setCell]; omega))))
              have b13 : Blk X wr.heap.size #[.int .i64 (2 * dx), .int .i64 (2 * dy)] 53 := hX ▸ ((Blk.new wr _ _ _ rfl).adds _ _).alloc _
              have b14 : Blk X (wr.heap.size + 1 + o4.size) #[.int .i64 p.1, .int .i64 p.2] 53 := hX ▸ Blk.new _ _ _ _ (by simp [size_addsW])
              clear hX
              generalize wr.heap.size + 1 + o4.size = k14 at b14 ⊢
              have f5 := e5.below hbX lr5
              have ft := hbx.below hbX lrt
              have HBX := Lib.hid hbX
              have hzr := hbX.size
              clear hbX k50 k51 k52 kt0 kt1 kt2 e5 hbx
              have k50 := f5.get (i := 0) rfl
              have k51 := f5.get (i := 1) rfl
              have k52 := f5.get (i := 2) rfl
              have kt0 := ft.get (i := 0) rfl
              have kt1 := ft.get (i := 1) rfl
              have kt2 := ft.get (i := 2) rfl
              have kv0 := b13.get (i := 0) rfl
              have kv1 := b13.get (i := 1) rfl
              have kp0 := b14.get (i := 0) rfl
              have kp1 := b14.get (i := 1) rfl
              have lf5 := f5.lt
              have lft := ft.lt
              have lb13 := b13.lt
              have lb14 := b14.lt
              generalize wr.heap.size = k13 at kv0 kv1 lb13 ⊢
              refine wp_region_held_drew (S := (fun w' => w'.cell? ⟨g5, 0, none⟩ = some (.int .i64 a) ∧ w'.cell? ⟨g5, 1, none⟩ = some (.int .i64 b) ∧ w'.cell? ⟨g5, 2, none⟩ = some (.slice A ps.length c) ∧ w'.cell? ⟨Z.heap.size, 0, none⟩ = some (.int .i64 a) ∧ w'.cell? ⟨Z.heap.size, 1, none⟩ = some (.int .i64 b) ∧ w'.cell? ⟨Z.heap.size, 2, none⟩ = some (.slice Ax ps.length cx) ∧ w'.cell? ⟨k13, 0, none⟩ = some (.int .i64 (2 * dx)) ∧ w'.cell? ⟨k13, 1, none⟩ = some (.int .i64 (2 * dy)) ∧ w'.cell? ⟨k14, 0, none⟩ = some (.int .i64 p.1) ∧ w'.cell? ⟨k14, 1, none⟩ = some (.int .i64 p.2))) (by kernel_rfl) ?_ (fun hHeld => ?_)
              · (first | (go_simp; done) | (go_keep; done))
              refine wpAnyH_take (i := 0) (oi := _) (v := ?_) rfl (by kernel_rfl) (by kernel_rfl) (by kernel_rfl) (fun _ _ _ h => h) (Or.inl ⟨by rfl, ?_⟩) (by assumption) ?_
              rotate_left
              · intro w hSw; (try dsimp only at hSw); go_simp; (try with_reducible rfl)
              try dsimp only [List.getElem_toArray, List.getElem_cons_succ, List.getElem_cons_zero]
              simp only [Act.put, List.setIfInBounds_toArray, List.set_cons_zero, List.set_cons_succ]
              refine wpAnyH_take (i := 1) (oi := _) (v := ?_) rfl (by kernel_rfl) (by kernel_rfl) (by kernel_rfl) (fun _ _ _ h => h) (Or.inl ⟨by rfl, ?_⟩) (by assumption) ?_
              rotate_left
              · intro w hSw; (try dsimp only at hSw); go_simp; (try with_reducible rfl)
              try dsimp only [List.getElem_toArray, List.getElem_cons_succ, List.getElem_cons_zero]
              simp only [Act.put, List.setIfInBounds_toArray, List.set_cons_zero, List.set_cons_succ]
              refine wpAnyH_take (i := 2) (oi := _) (v := ?_) rfl (by kernel_rfl) (by kernel_rfl) (by kernel_rfl) (fun _ _ _ h => h) (Or.inl ⟨by rfl, ?_⟩) (by assumption) ?_
              rotate_left
              · intro w hSw; (try dsimp only at hSw); go_simp; (try with_reducible rfl)
              try dsimp only [List.getElem_toArray, List.getElem_cons_succ, List.getElem_cons_zero]
              simp only [Act.put, List.setIfInBounds_toArray, List.set_cons_zero, List.set_cons_succ]
              refine wpAnyH_take (i := 3) (oi := _) (v := ?_) rfl (by kernel_rfl) (by kernel_rfl) (by kernel_rfl) (fun _ _ _ h => h) (Or.inl ⟨by rfl, ?_⟩) (by assumption) ?_
              rotate_left
              · intro w hSw; (try dsimp only at hSw); go_simp; (try with_reducible rfl)
              try dsimp only [List.getElem_toArray, List.getElem_cons_succ, List.getElem_cons_zero]
              simp only [Act.put, List.setIfInBounds_toArray, List.set_cons_zero, List.set_cons_succ]
              refine wpAnyH_take (i := 4) (oi := _) (v := ?_) rfl (by kernel_rfl) (by kernel_rfl) (by kernel_rfl) (fun _ _ _ h => h) (Or.inl ⟨by rfl, ?_⟩) (by assumption) ?_
              rotate_left
              · intro w hSw; (try dsimp only at hSw); go_simp; (try with_reducible rfl)
              try dsimp only [List.getElem_toArray, List.getElem_cons_succ, List.getElem_cons_zero]
              simp only [Act.put, List.setIfInBounds_toArray, List.set_cons_zero, List.set_cons_succ]
              refine wpAnyH_ready (rs := [5]) (by kernel_rfl) (by simp) ?_
              refine AllReadyH.cons (o := _) rfl (fun K hK => ?_) ?_
              · (try dsimp only [List.getElem_toArray, List.getElem_cons_succ, List.getElem_cons_zero]); go_simp
                (first | (go_at_call 43; refine (CS.out _ (HBX.out.trans ((show Below X.heap.size X _ from (by repeat' (first | (with_reducible exact Below.refl _ _) | (with_reducible refine Below.adds_ ?_ ?_ _ _) | (with_reducible refine Below.alloc ?_ ?_ _) | (with_reducible refine Below.drew ?_) | (with_reducible refine Below.setCell ?_ ?_ _) | (with_reducible assumption) | go_size | (simp only [size_addsW, World.size_alloc, World.size_drew, World.size_setCell]; omega)))).mono hzr))).mono ?_; rintro e w' ⟨p2, rfl, hp2, hb⟩; obtain rfl := VBest.unique hp2 HP.out; clear hp2; obtain ⟨q5, m5, rfl⟩ := below_adds hb; clear hb) | (go_at_call 42; (first | with_reducible refine (C0.out _ (HBX.out.trans ((show Below X.heap.size X _ from (by repeat' (first | (with_reducible exact Below.refl _ _) | (with_reducible refine Below.adds_ ?_ ?_ _ _) | (with_reducible refine Below.alloc ?_ ?_ _) | (with_reducible refine Below.drew ?_) | (with_reducible refine Below.setCell ?_ ?_ _) | (with_reducible assumption) | go_size | (simp only [size_addsW, World.size_alloc, World.size_drew, World.size_setCell]; omega)))).mono hzr))).mono ?_ | with_reducible refine (C1.out _ (HBX.out.trans ((show Below X.heap.size X _ from (by repeat' (first | (with_reducible exact Below.refl _ _) | (with_reducible refine Below.adds_ ?_ ?_ _ _) | (with_reducible refine Below.alloc ?_ ?_ _) | (with_reducible refine Below.drew ?_) | (with_reducible refine Below.setCell ?_ ?_ _) | (with_reducible assumption) | go_size | (simp only [size_addsW, World.size_alloc, World.size_drew, World.size_setCell]; omega)))).mono hzr))).mono ?_); rintro e w' ⟨rfl, hb⟩; obtain ⟨q6, m6, rfl⟩ := below_adds hb; clear hb))
                try go_wp2_with fail
                refine hK.out _ _ ?_ (fun hHeld => ?_)
                · (first | (go_simp; done) | (go_keep; done))
                clear hK K
                try simp only [Act.put, List.setIfInBounds_toArray, List.set_cons_zero, List.set_cons_succ]
                refine wpAnyH_take (i := 6) (oi := _) (v := ?_) rfl (by kernel_rfl) (by kernel_rfl) (by kernel_rfl) (fun _ _ _ h => h) (Or.inl ⟨by rfl, ?_⟩) (by assumption) ?_
                rotate_left
                · intro w hSw; (try dsimp only at hSw); go_simp; (try with_reducible rfl)
                try dsimp only [List.getElem_toArray, List.getElem_cons_succ, List.getElem_cons_zero]
                simp only [Act.put, List.setIfInBounds_toArray, List.set_cons_zero, List.set_cons_succ]
                refine wpAnyH_take (i := 7) (oi := _) (v := ?_) rfl (by kernel_rfl) (by kernel_rfl) (by kernel_rfl) (fun _ _ _ h => h) (Or.inl ⟨by rfl, ?_⟩) (by assumption) ?_
                rotate_left
                · intro w hSw; (try dsimp only at hSw); go_simp; (try with_reducible rfl)
                try dsimp only [List.getElem_toArray, List.getElem_cons_succ, List.getElem_cons_zero]
                simp only [Act.put, List.setIfInBounds_toArray, List.set_cons_zero, List.set_cons_succ]
                refine wpAnyH_take (i := 8) (oi := _) (v := ?_) rfl (by kernel_rfl) (by kernel_rfl) (by kernel_rfl) (fun _ _ _ h => h) (Or.inl ⟨by rfl, ?_⟩) (by assumption) ?_
                rotate_left
                · intro w hSw; (try dsimp only at hSw); go_simp; (try with_reducible rfl)
                try dsimp only [List.getElem_toArray, List.getElem_cons_succ, List.getElem_cons_zero]
                simp only [Act.put, List.setIfInBounds_toArray, List.set_cons_zero, List.set_cons_succ]
                refine wpAnyH_take (i := 9) (oi := _) (v := ?_) rfl (by kernel_rfl) (by kernel_rfl) (by kernel_rfl) (fun _ _ _ h => h) (Or.inl ⟨by rfl, ?_⟩) (by assumption) ?_
                rotate_left
                · intro w hSw; (try dsimp only at hSw); go_simp; (try with_reducible rfl)
                try dsimp only [List.getElem_toArray, List.getElem_cons_succ, List.getElem_cons_zero]
                simp only [Act.put, List.setIfInBounds_toArray, List.set_cons_zero, List.set_cons_succ]
                refine wpAnyH_take (i := 10) (oi := _) (v := ?_) rfl (by kernel_rfl) (by kernel_rfl) (by kernel_rfl) (fun _ _ _ h => h) (Or.inl ⟨by rfl, ?_⟩) (by assumption) ?_
                rotate_left
                · intro w hSw; (try dsimp only at hSw); go_simp; (try with_reducible rfl)
                try dsimp only [List.getElem_toArray, List.getElem_cons_succ, List.getElem_cons_zero]
                simp only [Act.put, List.setIfInBounds_toArray, List.set_cons_zero, List.set_cons_succ]
                refine wpAnyH_take (i := 11) (oi := _) (v := ?_) rfl (by kernel_rfl) (by kernel_rfl) (by kernel_rfl) (fun _ _ _ h => h) (Or.inl ⟨by rfl, ?_⟩) (by assumption) ?_
                rotate_left
                · intro w hSw; (try dsimp only at hSw); go_simp; (try with_reducible rfl)
                try dsimp only [List.getElem_toArray, List.getElem_cons_succ, List.getElem_cons_zero]
                simp only [Act.put, List.setIfInBounds_toArray, List.set_cons_zero, List.set_cons_succ]
                refine wpAnyH_take (i := 12) (oi := _) (v := ?_) rfl (by kernel_rfl) (by kernel_rfl) (by kernel_rfl) (fun _ _ _ h => h) (Or.inl ⟨by rfl, ?_⟩) (by assumption) ?_
                rotate_left
                · intro w hSw; (try dsimp only at hSw); go_simp; (try with_reducible rfl)
                try dsimp only [List.getElem_toArray, List.getElem_cons_succ, List.getElem_cons_zero]
                simp only [Act.put, List.setIfInBounds_toArray, List.set_cons_zero, List.set_cons_succ]
                refine wpAnyH_ready (rs := [13]) (by kernel_rfl) (by simp) ?_
                refine AllReadyH.cons (o := _) rfl (fun K hK => ?_) ?_
                · (try dsimp only [List.getElem_toArray, List.getElem_cons_succ, List.getElem_cons_zero]); go_simp
                  (first | (go_at_call 43; refine (CS.out _ (HBX.out.trans ((show Below X.heap.size X _ from (by repeat' (first | (with_reducible exact Below.refl _ _) | (with_reducible refine Below.adds_ ?_ ?_ _ _) | (with_reducible refine Below.alloc ?_ ?_ _) | (with_reducible refine Below.drew ?_) | (with_reducible refine Below.setCell ?_ ?_ _) | (with_reducible assumption) | go_size | (simp only [size_addsW, World.size_alloc, World.size_drew, World.size_setCell]; omega)))).mono hzr))).mono ?_; rintro e w' ⟨p2, rfl, hp2, hb⟩; obtain rfl := VBest.unique hp2 HP.out; clear hp2; obtain ⟨q5, m5, rfl⟩ := below_adds hb; clear hb) | (go_at_call 42; (first | with_reducible refine (C0.out _ (HBX.out.trans ((show Below X.heap.size X _ from (by repeat' (first | (with_reducible exact Below.refl _ _) | (with_reducible refine Below.adds_ ?_ ?_ _ _) | (with_reducible refine Below.alloc ?_ ?_ _) | (with_reducible refine Below.drew ?_) | (with_reducible refine Below.setCell ?_ ?_ _) | (with_reducible assumption) | go_size | (simp only [size_addsW, World.size_alloc, World.size_drew, World.size_setCell]; omega)))).mono hzr))).mono ?_ | with_reducible refine (C1.out _ (HBX.out.trans ((show Below X.heap.size X _ from (by repeat' (first | (with_reducible exact Below.refl _ _) | (with_reducible refine Below.adds_ ?_ ?_ _ _) | (with_reducible refine Below.alloc ?_ ?_ _) | (with_reducible refine Below.drew ?_) | (with_reducible refine Below.setCell ?_ ?_ _) | (with_reducible assumption) | go_size | (simp only [size_addsW, World.size_alloc, World.size_drew, World.size_setCell]; omega)))).mono hzr))).mono ?_); rintro e w' ⟨rfl, hb⟩; obtain ⟨q6, m6, rfl⟩ := below_adds hb; clear hb))
                  try go_wp2_with fail
                  refine hK.out _ _ ?_ (fun hHeld => ?_)
                  · (first | (go_simp; done) | (go_keep; done))
                  clear hK K
                  try simp only [Act.put, List.setIfInBounds_toArray, List.set_cons_zero, List.set_cons_succ]
                  refine wpAnyH_take (i := 14) (oi := _) (v := ?_) rfl (by kernel_rfl) (by kernel_rfl) (by kernel_rfl) (fun _ _ _ h => h) (Or.inl ⟨by rfl, ?_⟩) (by assumption) ?_
                  rotate_left
                  · intro w hSw; (try dsimp only at hSw); go_simp; (try with_reducible rfl)
                  try dsimp only [List.getElem_toArray, List.getElem_cons_succ, List.getElem_cons_zero]
                  simp only [Act.put, List.setIfInBounds_toArray, List.set_cons_zero, List.set_cons_succ]
                  refine wpAnyH_take (i := 15) (oi := _) (v := ?_) rfl (by kernel_rfl) (by kernel_rfl) (by kernel_rfl) (fun _ _ _ h => h) (Or.inl ⟨by rfl, ?_⟩) (by assumption) ?_
                  rotate_left
                  · intro w hSw; (try dsimp only at hSw); go_simp; (try with_reducible rfl)
                  try dsimp only [List.getElem_toArray, List.getElem_cons_succ, List.getElem_cons_zero]
                  simp only [Act.put, List.setIfInBounds_toArray, List.set_cons_zero, List.set_cons_succ]
                  refine wpAnyH_take (i := 16) (oi := _) (v := ?_) rfl (by kernel_rfl) (by kernel_rfl) (by kernel_rfl) (fun _ _ _ h => h) (Or.inl ⟨by rfl, ?_⟩) (by assumption) ?_
                  rotate_left
                  · intro w hSw; (try dsimp only at hSw); go_simp; (try with_reducible rfl)
                  try dsimp only [List.getElem_toArray, List.getElem_cons_succ, List.getElem_cons_zero]
                  simp only [Act.put, List.setIfInBounds_toArray, List.set_cons_zero, List.set_cons_succ]
                  refine wpAnyH_take (i := 17) (oi := _) (v := ?_) rfl (by kernel_rfl) (by kernel_rfl) (by kernel_rfl) (fun _ _ _ h => h) (Or.inl ⟨by rfl, ?_⟩) (by assumption) ?_
                  rotate_left
                  · intro w hSw; (try dsimp only at hSw); go_simp; (try with_reducible rfl)
                  try dsimp only [List.getElem_toArray, List.getElem_cons_succ, List.getElem_cons_zero]
                  simp only [Act.put, List.setIfInBounds_toArray, List.set_cons_zero, List.set_cons_succ]
                  refine wpAnyH_take (i := 18) (oi := _) (v := ?_) rfl (by kernel_rfl) (by kernel_rfl) (by kernel_rfl) (fun _ _ _ h => h) (Or.inl ⟨by rfl, ?_⟩) (by assumption) ?_
                  rotate_left
                  · intro w hSw; (try dsimp only at hSw); go_simp; (try with_reducible rfl)
                  try dsimp only [List.getElem_toArray, List.getElem_cons_succ, List.getElem_cons_zero]
                  simp only [Act.put, List.setIfInBounds_toArray, List.set_cons_zero, List.set_cons_succ]
                  refine wpAnyH_take (i := 19) (oi := _) (v := ?_) rfl (by kernel_rfl) (by kernel_rfl) (by kernel_rfl) (fun _ _ _ h => h) (Or.inl ⟨by rfl, ?_⟩) (by assumption) ?_
                  rotate_left
                  · intro w hSw; (try dsimp only at hSw); go_simp; (try with_reducible rfl)
                  try dsimp only [List.getElem_toArray, List.getElem_cons_succ, List.getElem_cons_zero]
                  simp only [Act.put, List.setIfInBounds_toArray, List.set_cons_zero, List.set_cons_succ]
                  refine wpAnyH_take (i := 20) (oi := _) (v := ?_) rfl (by kernel_rfl) (by kernel_rfl) (by kernel_rfl) (fun _ _ _ h => h) (Or.inl ⟨by rfl, ?_⟩) (by assumption) ?_
                  rotate_left
                  · intro w hSw; (try dsimp only at hSw); go_simp; (try with_reducible rfl)
                  try dsimp only [List.getElem_toArray, List.getElem_cons_succ, List.getElem_cons_zero]
                  simp only [Act.put, List.setIfInBounds_toArray, List.set_cons_zero, List.set_cons_succ]
                  refine wpAnyH_take (i := 21) (oi := _) (v := ?_) rfl (by kernel_rfl) (by kernel_rfl) (by kernel_rfl) (fun _ _ _ h => h) (Or.inl ⟨by rfl, ?_⟩) (by assumption) ?_
                  rotate_left
                  · intro w hSw; (try dsimp only at hSw); go_simp; (try with_reducible rfl)
                  try dsimp only [List.getElem_toArray, List.getElem_cons_succ, List.getElem_cons_zero]
                  simp only [Act.put, List.setIfInBounds_toArray, List.set_cons_zero, List.set_cons_succ]
                  refine wpAnyH_ready (rs := [22]) (by kernel_rfl) (by simp) ?_
                  refine AllReadyH.cons (o := _) rfl (fun K hK => ?_) ?_
                  · (try dsimp only [List.getElem_toArray, List.getElem_cons_succ, List.getElem_cons_zero]); go_simp
                    (first | (go_at_call 43; refine (CS.out _ (HBX.out.trans ((show Below X.heap.size X _ from (by repeat' (first | (with_reducible exact Below.refl _ _) | (with_reducible refine Below.adds_ ?_ ?_ _ _) | (with_reducible refine Below.alloc ?_ ?_ _) | (with_reducible refine Below.drew ?_) | (with_reducible refine Below.setCell ?_ ?_ _) | (with_reducible assumption) | go_size | (simp only [size_addsW, World.size_alloc, World.size_drew, World.size_setCell]; omega)))).mono hzr))).mono ?_; rintro e w' ⟨p2, rfl, hp2, hb⟩; obtain rfl := VBest.unique hp2 HP.out; clear hp2; obtain ⟨q5, m5, rfl⟩ := below_adds hb; clear hb) | (go_at_call 42; (first | with_reducible refine (C0.out _ (HBX.out.trans ((show Below X.heap.size X _ from (by repeat' (first | (with_reducible exact Below.refl _ _) | (with_reducible refine Below.adds_ ?_ ?_ _ _) | (with_reducible refine Below.alloc ?_ ?_ _) | (with_reducible refine Below.drew ?_) | (with_reducible refine Below.setCell ?_ ?_ _) | (with_reducible assumption) | go_size | (simp only [size_addsW, World.size_alloc, World.size_drew, World.size_setCell]; omega)))).mono hzr))).mono ?_ | with_reducible refine (C1.out _ (HBX.out.trans ((show Below X.heap.size X _ from (by repeat' (first | (with_reducible exact Below.refl _ _) | (with_reducible refine Below.adds_ ?_ ?_ _ _) | (with_reducible refine Below.alloc ?_ ?_ _) | (with_reducible refine Below.drew ?_) | (with_reducible refine Below.setCell ?_ ?_ _) | (with_reducible assumption) | go_size | (simp only [size_addsW, World.size_alloc, World.size_drew, World.size_setCell]; omega)))).mono hzr))).mono ?_); rintro e w' ⟨rfl, hb⟩; obtain ⟨q6, m6, rfl⟩ := below_adds hb; clear hb))
                    try go_wp2_with fail
                    refine hK.out _ _ ?_ (fun hHeld => ?_)
                    · (first | (go_simp; done) | (go_keep; done))
                    clear hK K
                    try simp only [Act.put, List.setIfInBounds_toArray, List.set_cons_zero, List.set_cons_succ]
                    refine wpAnyH_take (i := 23) (oi := _) (v := ?_) rfl (by kernel_rfl) (by kernel_rfl) (by kernel_rfl) (fun _ _ _ h => h) (Or.inl ⟨by rfl, ?_⟩) (by assumption) ?_
                    rotate_left
                    · intro w hSw; (try dsimp only at hSw); go_simp; (try with_reducible rfl)
                    try dsimp only [List.getElem_toArray, List.getElem_cons_succ, List.getElem_cons_zero]
                    simp only [Act.put, List.setIfInBounds_toArray, List.set_cons_zero, List.set_cons_succ]
                    refine wpAnyH_take (i := 24) (oi := _) (v := ?_) rfl (by kernel_rfl) (by kernel_rfl) (by kernel_rfl) (fun _ _ _ h => h) (Or.inl ⟨by rfl, ?_⟩) (by assumption) ?_
                    rotate_left
                    · intro w hSw; (try dsimp only at hSw); go_simp; (try with_reducible rfl)
                    try dsimp only [List.getElem_toArray, List.getElem_cons_succ, List.getElem_cons_zero]
                    simp only [Act.put, List.setIfInBounds_toArray, List.set_cons_zero, List.set_cons_succ]
                    refine wpAnyH_take (i := 25) (oi := _) (v := ?_) rfl (by kernel_rfl) (by kernel_rfl) (by kernel_rfl) (fun _ _ _ h => h) (Or.inl ⟨by rfl, ?_⟩) (by assumption) ?_
                    rotate_left
                    · intro w hSw; (try dsimp only at hSw); go_simp; (try with_reducible rfl)
                    try dsimp only [List.getElem_toArray, List.getElem_cons_succ, List.getElem_cons_zero]
                    simp only [Act.put, List.setIfInBounds_toArray, List.set_cons_zero, List.set_cons_succ]
                    refine wpAnyH_done (by kernel_rfl) ?_ _
                    go_wp2_with fail
                    go_returns
                    exact ⟨by first | rfl | simp, HYZ.out.trans ((HBZ.out.trans ((HBX.out.trans ((show Below X.heap.size X _ from (by repeat' (first | (with_reducible exact Below.refl _ _) | (with_reducible refine Below.adds_ ?_ ?_ _ _) | (with_reducible refine Below.alloc ?_ ?_ _) | (with_reducible refine Below.drew ?_) | (with_reducible refine Below.setCell ?_ ?_ _) | (with_reducible assumption) | go_size | (simp only [size_addsW, World.size_alloc, World.size_drew, World.size_setCell]; omega)))).mono hzr)).mono (by omega))).mono (by omega))⟩
                  exact AllReadyH.nil
                exact AllReadyH.nil
              exact AllReadyH.nil
        · rcases (show x < 0 ∨ (¬ x < 0 ∧ y < 0) ∨ (¬ x < 0 ∧ ¬ y < 0 ∧ a ≤ x) ∨ (¬ x < 0 ∧ ¬ y < 0 ∧ ¬ a ≤ x ∧ b ≤ y) ∨ (¬ x < 0 ∧ ¬ y < 0 ∧ ¬ a ≤ x ∧ ¬ b ≤ y ∧ ¬ x % 8 = 0) ∨ (¬ x < 0 ∧ ¬ y < 0 ∧ ¬ a ≤ x ∧ ¬ b ≤ y ∧ x % 8 = 0 ∧ ¬ y % 8 = 0) by omega) with h1 | ⟨h1, h2⟩ | ⟨h1, h2, h3⟩ | ⟨h1, h2, h3, h4⟩ | ⟨h1, h2, h3, h4, h5⟩ | ⟨h1, h2, h3, h4, h5, h6⟩
          all_goals
            clear hg
            try have g1 : 0 ≤ x := by omega
            try have g2 : 0 ≤ y := by omega
            try have e5 : (x % 8 != 0) = true := by simp only [bne_iff_ne, ne_eq]; omega
            try have e6 : (y % 8 != 0) = true := by simp only [bne_iff_ne, ne_eq]; omega
            go_wp2_with (first | (go_at_call 25; refine (S_PictureValid a b _ _ ps _ (RY.out.keep (by repeat' (first | (with_reducible exact Below.refl _ _) | (with_reducible refine Below.adds_ ?_ ?_ _ _) | (with_reducible refine Below.alloc ?_ ?_ _) | (with_reducible refine Below.drew ?_) | (with_reducible refine Below.setCell ?_ ?_ _) | (with_reducible assumption) | go_size | (simp only [size_addsW, World.size_alloc, World.size_drew, World.size_setCell]; omega)))) (by omega)).mono ?_; rw [HV.out]; rintro e w2 ⟨rfl, hb⟩; obtain ⟨o1, m1, rfl⟩ := below_adds hb; clear hb) | (go_at_call 26; refine (L_alive _).mono ?_; rintro e w' ⟨rfl, hb⟩; obtain ⟨o1, n1, rfl⟩ := below_adds hb; clear hb))
            all_goals first | (go_returns; exact ⟨rfl, HYw.out.trans ((show Below Y.heap.size Y _ from (by repeat' (first | (with_reducible exact Below.refl _ _) | (with_reducible refine Below.adds_ ?_ ?_ _ _) | (with_reducible refine Below.alloc ?_ ?_ _) | (with_reducible refine Below.drew ?_) | (with_reducible refine Below.setCell ?_ ?_ _) | (with_reducible assumption) | go_size | (simp only [size_addsW, World.size_alloc, World.size_drew, World.size_setCell]; omega)))).mono (by omega))⟩) | (exfalso; omega)

set_option maxRecDepth 100000 in
theorem lifted (os : Os) (started : os.Started) (H : Type) (enc : TypeId × Value → H) :
    ReturnsInHanded {} Try.checked os 13 .any (Rows.fnMotionShiftSpec.pre6 enc Try.prog Try.f13 Rows.fnMotionShiftRow.domain false) (Rows.fnMotionShiftSpec.post enc Try.prog Try.f13 false true false false) := by
  refine returnsInHanded_of_change (C := Try.checked) own started (by kernel_rfl) Try.func13
    (ChangeSpec.witness6 (enc := enc) (C := Try.checked) false ⟨#[], #[.slice none 0 0, .slice none 0 0], []⟩ 8 (by kernel_rfl) (by kernel_rfl) (by kernel_rfl) (by kernel_rfl)) ?_
  intro W base args ds gs before hval0 hW hcnd _
  have hval : ∀ (j : Nat) t v, Try.f13.params[j]? = some t → args[j]? = some v → Value.okWide Try.prog W .any base t v := hval0
  have hW' := hW
  obtain ⟨p, q, hA0, hV, rfl, hfz, hnd⟩ := hW
  have hA : DataW.TrodAll enc Try.prog W 0 (fun _ => true) true Try.f13.params.toList args.toList ds p := hA0
  rw [Try.params13] at hA hval
  obtain ⟨v0, vs0, d0, ds0, p0, q0, hargs, rfl, rfl, h0, r0⟩ := trodAll_cons hA
  obtain ⟨v1, vs1, d1, ds1, p1, q1, rfl, rfl, rfl, h1, r1⟩ := trodAll_cons r0
  obtain ⟨rfl, rfl, rfl⟩ := trodAll_nil r1
  obtain rfl : args = #[v0, v1] := by cases args; simp_all
  obtain ⟨rfl, rfl⟩ := trodVars_none hV
  have k0 := h0
  have lt0 : ∀ x ∈ p0, x.block < W.heap.size := by obtain ⟨m, hm⟩ := k0; exact DataW.trod_lt m _ _ _ hm
  have k1 := h1
  have lt1 : ∀ x ∈ p1, x.block < W.heap.size := by obtain ⟨m, hm⟩ := k1; exact DataW.trod_lt m _ _ _ hm
  obtain ⟨aa0, ll0, cc0, rfl⟩ := okWide_slice Try.underlying33 (hval 0 33 v0 rfl rfl)
  obtain ⟨f0, hf0⟩ := h0
  simp only [Value.cells] at hf0
  obtain ⟨a_cs, len_cs, cap_cs, cs, e_cs, w_cs⟩ : ∃ a l c zs, (.slice aa0 ll0 cc0 : Value) = .slice a l c ∧ IsRow .u8 W a l c zs := by
    rcases open_ints Try.underlying33 Try.underlying5 (by kernel_rfl) hf0 with ⟨hcs, _⟩ | ⟨x, l, c, zs, hcs, _, hl, hm, hz, _, hcell, hwz⟩
    · simp only [List.cons.injEq, and_true] at hcs; exact ⟨none, 0, 0, [], hcs, .inl ⟨rfl, rfl, rfl, rfl⟩⟩
    · simp only [List.cons.injEq, and_true] at hcs; exact ⟨some x, l, c, zs, hcs, .inr ⟨x, rfl, hl, hm, by simpa using hz, hcell, hwz⟩⟩
  simp only [Value.slice.injEq] at e_cs
  obtain ⟨rfl, rfl, rfl⟩ := e_cs
  obtain ⟨aa1, ll1, cc1, rfl⟩ := okWide_slice Try.underlying33 (hval 1 33 v1 rfl rfl)
  obtain ⟨f1, hf1⟩ := h1
  simp only [Value.cells] at hf1
  obtain ⟨a_ms, len_ms, cap_ms, ms, e_ms, w_ms⟩ : ∃ a l c zs, (.slice aa1 ll1 cc1 : Value) = .slice a l c ∧ IsRow .u8 W a l c zs := by
    rcases open_ints Try.underlying33 Try.underlying5 (by kernel_rfl) hf1 with ⟨hcs, _⟩ | ⟨x, l, c, zs, hcs, _, hl, hm, hz, _, hcell, hwz⟩
    · simp only [List.cons.injEq, and_true] at hcs; exact ⟨none, 0, 0, [], hcs, .inl ⟨rfl, rfl, rfl, rfl⟩⟩
    · simp only [List.cons.injEq, and_true] at hcs; exact ⟨some x, l, c, zs, hcs, .inr ⟨x, rfl, hl, hm, by simpa using hz, hcell, hwz⟩⟩
  simp only [Value.slice.injEq] at e_ms
  obtain ⟨rfl, rfl, rfl⟩ := e_ms
  clear hA0 hval0
  refine (walk _ _ _ cs _ _ _ ms W w_cs w_ms).mono fun e W' ⟨he, bel⟩ => ?_
  subst he
  exact ⟨_, rfl, _, _, _, [], _, [], hW', trodAll_mk1 (shut_bool Try.underlying4 _), (trodAll_cons_mk (Below.trod laidOut (by kernel_rfl) (of_decide_eq_true (by kernel_rfl)) k0 bel lt0) (trodAll_cons_mk (Below.trod laidOut (by kernel_rfl) (of_decide_eq_true (by kernel_rfl)) k1 bel lt1) trodAll_mk0)), rfl, bel.frame _, fun h => by cases h⟩

theorem over : Rows.fnMotionShiftRow.holds Try.pinned (OpenSpec.ofChange Rows.fnMotionShiftSpec) :=
  OpenClaim.holds_of_wide 13 Try.f13 rfl rfl rfl rfl rfl rfl rfl ⟨rfl, rfl, rfl, rfl, rfl⟩ rfl rfl rfl rfl rfl (by kernel_rfl) Try.func13 (by kernel_rfl)
    (of_decide_eq_true (by kernel_rfl)) (by unfold Func.isWrapper; first | (rw [if_pos (by decide +kernel)]; kernel_rfl) | (rw [if_neg (by decide +kernel)]; exact ⟨rfl, rfl⟩))
    (fun os started H enc _ => lifted os started H enc)

theorem proved : Rows.FnMotionShiftSaid := over
#print axioms proved
end Go.Proofs.Ytobphddjoebfjaa.fnMotionShift
