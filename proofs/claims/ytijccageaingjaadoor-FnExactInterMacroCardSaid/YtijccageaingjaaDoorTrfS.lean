/- The transform, the reference's. -/
import Derived.Test.YtijccageaingjaaDoorTrfI
import Derived.Test.YtijccageaingjaaDoorSmall
namespace Go.Proofs.YtijccageaingjaaDoor
open Go.RowKit
set_option linter.unusedVariables false
set_option linter.unusedSimpArgs false

attribute [local go_sem] size_addsW cell?_addsW frozen?_addsW setCell_addsW drew_addsW adds_addsW setCell_twice alloc_adds0 size_adds0 adds_adds0 sel2 sel3 sel4 sel5 sel6 sel7 sel8 sel9 lt_more lt_more2 lt_more3 lt_more4 adds_drew adds_drewN drewN_addsW ltA_1_1 ltA_1_2 ltA_1_3 ltA_1_4 ltA_1_5 ltA_1_6 ltA_2_1 ltA_2_2 ltA_2_3 ltA_2_4 ltA_2_5 ltA_2_6 ltA_3_1 ltA_3_2 ltA_3_3 ltA_3_4 ltA_3_5 ltA_3_6 ltA_4_1 ltA_4_2 ltA_4_3 ltA_4_4 ltA_4_5 ltA_4_6 ltA_5_1 ltA_5_2 ltA_5_3 ltA_5_4 ltA_5_5 ltA_5_6 ltA_6_1 ltA_6_2 ltA_6_3 ltA_6_4 ltA_6_5 ltA_6_6 ltA_7_1 ltA_7_2 ltA_7_3 ltA_7_4 ltA_7_5 ltA_7_6 ltA_8_1 ltA_8_2 ltA_8_3 ltA_8_4 ltA_8_5 ltA_8_6 ltA_9_1 ltA_9_2 ltA_9_3 ltA_9_4 ltA_9_5 ltA_9_6 ltA_10_1 ltA_10_2 ltA_10_3 ltA_10_4 ltA_10_5 ltA_10_6 ltA_11_1 ltA_11_2 ltA_11_3 ltA_11_4 ltA_11_5 ltA_11_6 ltA_12_1 ltA_12_2 ltA_12_3 ltA_12_4 ltA_12_5 ltA_12_6

set_option maxRecDepth 100000 in
set_option maxHeartbeats 4000000 in
theorem S_l3Sign (i j : Nat) (w : World) (hi : i < 4) (hj : j < 4) :
    Calls Tryd.prog 56 #[.int .i64 (i : Int), .int .i64 (j : Int)] w fun e w' => e = .returned (.int .i64 (sg i j)) ∧ w = w' := by
  obtain ⟨I, hI⟩ : ∃ I, I = 4 * i + j := ⟨_, rfl⟩
  have hIi : 4 * (i : Int) + (j : Int) = (I : Int) := by omega
  have hIl : (I : Int) < 16 := by omega
  have hi4 : (i : Int) < 4 := by omega
  have hj4 : (j : Int) < 4 := by omega
  have hidx : ∀ W, (Instr.index 30 (.agg #[.int .i64 1, .int .i64 1, .int .i64 1, .int .i64 1, .int .i64 1, .int .i64 1, .int .i64 (-1), .int .i64 (-1), .int .i64 1, .int .i64 (-1), .int .i64 (-1), .int .i64 1, .int .i64 1, .int .i64 (-1), .int .i64 1, .int .i64 (-1)]) (.int .i64 (I : Int))).run Tryd.prog W = .ok (.int .i64 (sgL.getD I 0)) W := fun W => run_index_int W 30 3 16 Tryd.underlying30 Tryd.underlying3 (by kernel_rfl) sgL I (by omega) rfl
  have HS := Lib.hid (show sgL.getD I 0 = sg i j by rw [hI]; rfl)
  clear hI
  generalize sgL.getD I 0 = s at hidx HS
  go_enter Tryd.func56, Tryd.ntmps56
  go_wp2_with fail
  go_returns
  exact ⟨by rw [HS.out]; rfl, rfl⟩

theorem pn_sum (zs : List Int) (u v y x : Nat) (hx : x < 4) : pn zs u v (4 * y + x) + sg u y * sg v x * zs.getD (4 * y + x) 0 = pn zs u v (4 * y + (x + 1)) := by
  rw [show 4 * y + (x + 1) = 4 * y + x + 1 by omega, pn, show (4 * y + x) / 4 = y by omega, show (4 * y + x) % 4 = x by omega]

set_option maxRecDepth 100000 in
set_option maxHeartbeats 4000000 in
theorem S_l3Apply (zs : List Int) (w : World) (hz : zs.length = 16) (hb : bdL 255 zs) :
    Calls Tryd.prog 46 #[.agg (rowI zs)] w fun e w' => e = .returned (.agg (rowI (apL zs))) ∧ Below w.heap.size w w' := by
  have HZ0 := Lib.hid hz
  have HB := Lib.hid hb
  clear hz hb
  have hwg : w.heap.size ≤ w.heap.size := Nat.le_refl _
  have HT0 := Lib.hid (T3.start w zs z16)
  obtain ⟨F, hF⟩ : ∃ F : Nat → Int, F = fun i => pn zs (i / 4) (i % 4) 16 := ⟨_, rfl⟩
  have HFF := Lib.hid hF
  clear hF
  go_enter Tryd.func46, Tryd.ntmps46
  go_upto_region 2 with fail
  refine all_add' ?_
  intro Z hZ
  have T1 := Lib.hid (show T3 w.heap.size zs z16 z16 w Z from hZ ▸ HT0.out)
  clear hZ HT0
  go_wp2_with fail
  go_loopw [4] (fun v wr => ∃ (i : Nat) (os : List Int), v = .int .i64 (i : Int) ∧ i ≤ 4 ∧ os.length = 16 ∧ (∀ j, j < 4 * i → os.getD j 0 = F j) ∧ T3 w.heap.size zs z16 os w wr) (fun v _ => 4 - (intOf v).toNat)
  case atStart => exact ⟨0, z16, rfl, by omega, rfl, fun j hj => by omega, T1.out⟩
  case round =>
    clear T1
    obtain ⟨i, os, rfl, hi, ho, hf, hst⟩ := hrel
    have HO0 := Lib.hid ho
    have HF0 := Lib.hid hf
    have HST0 := Lib.hid hst
    clear ho hf hst
    by_cases hlt : i < 4
    · have hd1 : (i : Int) < 4 := by omega
      go_wp2_with fail
      go_loopw [5] (fun v wr => ∃ (j : Nat) (os : List Int), v = .int .i64 (j : Int) ∧ j ≤ 4 ∧ os.length = 16 ∧ (∀ k, k < 4 * i + j → os.getD k 0 = F k) ∧ T3 w.heap.size zs z16 os w wr) (fun v _ => 4 - (intOf v).toNat)
      case atStart => exact ⟨0, os, rfl, by omega, HO0.out, HF0.out, HST0.out⟩
      case round =>
        clear HO0 HF0 HST0
        clear os
        obtain ⟨j, os, rfl, hj, ho, hf, hst⟩ := hrel
        have HO := Lib.hid ho
        have HF := Lib.hid hf
        have HST := Lib.hid hst
        clear ho hf hst
        by_cases hltj : j < 4
        · have hd2 : (j : Int) < 4 := by omega
          go_wp2_with fail
          go_loopw [6, 7] (fun n v wr => ∃ y : Nat, n = .int .i64 (pn zs i j (4 * y)) ∧ v = .int .i64 (y : Int) ∧ y ≤ 4 ∧ T3 w.heap.size zs z16 os w wr) (fun _ v _ => 4 - (intOf v).toNat)
          case atStart => exact ⟨0, rfl, rfl, by omega, HST.out⟩
          case round =>
            clear HST
            obtain ⟨y, rfl, rfl, hy, hst⟩ := hrel
            have HST := Lib.hid hst
            clear hst
            by_cases hlty : y < 4
            · have hd3 : (y : Int) < 4 := by omega
              go_wp2_with fail
              go_loopw [6, 8] (fun n v wr => ∃ x : Nat, n = .int .i64 (pn zs i j (4 * y + x)) ∧ v = .int .i64 (x : Int) ∧ x ≤ 4 ∧ T3 w.heap.size zs z16 os w wr) (fun _ v _ => 4 - (intOf v).toNat)
              case atStart => exact ⟨0, rfl, rfl, by omega, HST.out⟩
              case round =>
                clear HST
                obtain ⟨x, rfl, rfl, hx, hst⟩ := hrel
                have HST := Lib.hid hst
                by_cases hltx : x < 4
                · have hd4 : (x : Int) < 4 := by omega
                  have HPS := Lib.hid (pn_sum zs i j y x hltx)
                  have p1 := pn_bd HB.out hlt hltj (4 * y + x) (by omega)
                  have p2 := HB.out (4 * y + x)
                  have s1 := sg_bd hlt hlty
                  have s2 := sg_bd hltj hltx
                  have m1 := hst.a.get (rowI_get (zs := zs) (j := 4 * y + x) (by rw [HZ0.out]; omega))
                  have la := hst.a.lt
                  have CS := Lib.hid (show ∀ W, Calls Tryd.prog 56 #[.int .i64 (i : Int), .int .i64 (y : Int)] W fun e w' => e = .returned (.int .i64 (sg i y)) ∧ w' = W from fun W => (S_l3Sign i y W hlt hlty).mono fun _ _ h => ⟨h.1, h.2.symm⟩)
                  have CT := Lib.hid (show ∀ W, Calls Tryd.prog 56 #[.int .i64 (j : Int), .int .i64 (x : Int)] W fun e w' => e = .returned (.int .i64 (sg j x)) ∧ w' = W from fun W => (S_l3Sign j x W hltj hltx).mono fun _ _ h => ⟨h.1, h.2.symm⟩)
                  clear hst
                  obtain ⟨I, hI⟩ : ∃ I, I = 4 * y + x := ⟨_, rfl⟩
                  have hIi : 4 * (y : Int) + (x : Int) = (I : Int) := by omega
                  have hIl : (I : Int) < 16 := by omega
                  rw [← hI] at p1 p2 m1 HPS
                  have HI := Lib.hid hI
                  rw [← hI]
                  clear hI
                  generalize pn zs i j I = n at p1 HPS ⊢
                  generalize zs.getD I 0 = z at p2 m1 HPS
                  generalize sg i y = a at s1 CS HPS
                  generalize sg j x = b at s2 CT HPS
                  obtain ⟨p, hp⟩ : ∃ p, p = a * b := ⟨_, rfl⟩
                  have hpb : p = 1 ∨ p = -1 := by rcases s1 with rfl | rfl <;> rcases s2 with rfl | rfl <;> simp [hp]
                  rw [← hp] at HPS
                  have q1 : IntKind.i64.wrap (a * b) = p := by rw [← hp]; exact IntWalk.i64_in _ (by omega)
                  obtain ⟨q, hq⟩ : ∃ q, q = p * z := ⟨_, rfl⟩
                  have hqb : -255 ≤ q ∧ q ≤ 255 := by rcases hpb with rfl | rfl <;> omega
                  rw [← hq] at HPS
                  have q2 : IntKind.i64.wrap (p * z) = q := by rw [← hq]; exact IntWalk.i64_in _ (by omega)
                  have q3 : IntKind.i64.wrap (n + q) = n + q := IntWalk.i64_in _ (by omega)
                  have q4 : IntKind.i64.wrap (4 * (y : Int)) = 4 * (y : Int) := IntWalk.i64_in _ (by omega)
                  have q5 : IntKind.i64.wrap (I : Int) = (I : Int) := IntWalk.i64_in _ (by omega)
                  clear hp hq p1 p2 s1 s2 hpb hqb
                  go_wp2_with fail
                  go_quiet (first | (go_at_call 56; first | exact Calls.quiet_of_same (CS.out _) | exact Calls.quiet_of_same (CT.out _)))
                  go_wp2_with fail
                  go_roundw
                  case rel => exact ⟨x + 1, by rw [← HPS.out], by go_num, by omega, HST.out.drewN _⟩
                  case measure => simp [intOf]; omega
                · have hx4 : x = 4 := by omega
                  clear hst
                  have HX4 := Lib.hid (show 4 * y + x = 4 * (y + 1) by omega)
                  have hd4 : ¬ (x : Int) < 4 := by omega
                  go_wp2_with fail
                  go_roundw
                  case rel => exact ⟨y + 1, by rw [HX4.out], by go_num, by omega, HST.out⟩
                  case measure => simp [intOf]; omega
            · have HY4 := Lib.hid (show 4 * y = 16 by omega)
              have hd3 : ¬ (y : Int) < 4 := by omega
              have hst := HST.out
              obtain ⟨I, hI⟩ : ∃ I, I = 4 * i + j := ⟨_, rfl⟩
              have hIi : 4 * (i : Int) + (j : Int) = (I : Int) := by omega
              have hIl : (I : Int) < 16 := by omega
              have bk := hst.c.get (rowI_get (zs := os) (j := I) (by rw [HO.out]; omega))
              have bf := hst.c.hot I
              have lb := hst.c.lt
              clear hst
              have HN := Lib.hid (show pn zs i j (4 * y) = F I by rw [HY4.out, HFF.out, hI]; show pn zs i j 16 = pn zs ((4 * i + j) / 4) ((4 * i + j) % 4) 16; rw [show (4 * i + j) / 4 = i by omega, show (4 * i + j) % 4 = j by omega])
              have hFk := Lib.hid (show ∀ v, v = F I → ∀ k, k < 4 * i + (j + 1) → (os.set I v).getD k 0 = F k from fun v hv k hk => set_ok (F := F) HO.out (show I < 16 by omega) (fun k hk => HF.out k (by omega)) hv k (by omega))
              generalize os.getD I 0 = old at bk
              generalize pn zs i j (4 * y) = n at HN ⊢
              clear hI
              go_wp2_with fail
              go_roundw
              case rel => exact ⟨j + 1, os.set I n, by go_num, by omega, by rw [List.length_set]; exact HO.out, hFk.out _ HN.out, T3.setC HST.out hwg I _⟩
              case measure => simp [intOf]; omega
        · have hd2 : ¬ (j : Int) < 4 := by omega
          go_wp2_with fail
          go_roundw
          case rel => exact ⟨i + 1, os, by go_num, by omega, HO.out, fun k hk => HF.out k (by omega), HST.out⟩
          case measure => simp [intOf]; omega
    · have hd1 : ¬ (i : Int) < 4 := by omega
      have HP := Lib.hid (show os = apL zs from by
        apply List.ext_getElem (by rw [HO0.out, apL_len])
        intro k h1 h2
        have e := HF0.out k (by rw [HO0.out] at h1; omega)
        rw [HFF.out, List.getD_eq_getElem?_getD, List.getElem?_eq_getElem h1, Option.getD_some] at e
        rw [e]
        simp [apL])
      have hst := HST0.out
      go_upto_region 17 with fail
      refine wp_region_lit ?_
      refine wpList_load_sub rfl 30 (.tmp 3) rfl (w.heap.size + 1 + 1) 0 16 rfl 30 os (0, 0) _ hst.c Tryd.underlying30 rfl infoA16 (by rw [HO0.out]; exact Nat.le_refl _) ?_
      rw [show sub os 0 16 = os by rw [← HO0.out]; exact sub_all os]
      refine wpList_store_sub rfl 30 (.tmp 2) (.tmp 48) rfl (w.heap.size + 1) 0 os rfl rfl 30 z16 hst.b (by rw [HO0.out]; exact infoA16) (by rw [HO0.out]; decide) ?_
      rw [spl_full (by rw [HO0.out]; rfl)]
      go_wp2_with fail
      refine bodyPost_ret (v := .agg (rowI os)) (by exact results_cell_row Tryd.results46 _ _ (w.heap.size + 1) 30 (rowI os) (0, 0) _ rfl (hst.b.row (rowI os)) Tryd.underlying30 rfl (by rw [rowI_size, HO0.out]; exact infoA16)) rfl ?_
      exact ⟨by rw [← HP.out], below_row hst.below hst.below.size (by omega) _⟩

end Go.Proofs.YtijccageaingjaaDoor
