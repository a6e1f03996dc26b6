/- The reference's prediction of a block. -/
import Derived.Test.YthnigldbpikcaaaPredS
namespace Go.Proofs.Ythnigldbpikcaaa
open Go.RowKit
set_option linter.unusedVariables false
set_option linter.unusedSimpArgs false

attribute [local go_sem] size_addsW cell?_addsW frozen?_addsW setCell_addsW drew_addsW adds_addsW setCell_twice alloc_adds0 size_adds0 adds_adds0 sel2 sel3 sel4 sel5 sel6 sel7 sel8 sel9 lt_more lt_more2 lt_more3 lt_more4 adds_drew adds_drewN drewN_addsW ltA_1_1 ltA_1_2 ltA_1_3 ltA_1_4 ltA_1_5 ltA_1_6 ltA_2_1 ltA_2_2 ltA_2_3 ltA_2_4 ltA_2_5 ltA_2_6 ltA_3_1 ltA_3_2 ltA_3_3 ltA_3_4 ltA_3_5 ltA_3_6 ltA_4_1 ltA_4_2 ltA_4_3 ltA_4_4 ltA_4_5 ltA_4_6 ltA_5_1 ltA_5_2 ltA_5_3 ltA_5_4 ltA_5_5 ltA_5_6 ltA_6_1 ltA_6_2 ltA_6_3 ltA_6_4 ltA_6_5 ltA_6_6 ltA_7_1 ltA_7_2 ltA_7_3 ltA_7_4 ltA_7_5 ltA_7_6 ltA_8_1 ltA_8_2 ltA_8_3 ltA_8_4 ltA_8_5 ltA_8_6 ltA_9_1 ltA_9_2 ltA_9_3 ltA_9_4 ltA_9_5 ltA_9_6 ltA_10_1 ltA_10_2 ltA_10_3 ltA_10_4 ltA_10_5 ltA_10_6 ltA_11_1 ltA_11_2 ltA_11_3 ltA_11_4 ltA_11_5 ltA_11_6 ltA_12_1 ltA_12_2 ltA_12_3 ltA_12_4 ltA_12_5 ltA_12_6

structure PsS (G : Nat) (f g : Nat → Int) (c : Int) (u l : Bool) (w : World) (zs : List Int) (W : World) : Prop where
  e : Blk W G (eA f g c u l) 25
  r : Blk W (G + 1) (rowI z16) 28
  b : Blk W (G + 1 + 1) (rowI zs) 28
  below : Below w.heap.size w W
theorem PsS.adds {G : Nat} {f g : Nat → Int} {c : Int} {u l : Bool} {w W : World} {zs : List Int} (h : PsS G f g c u l w zs W) (os : Array Obj) (n : Nat) : PsS G f g c u l w zs (addsW W os n) :=
  ⟨h.e.adds os n, h.r.adds os n, h.b.adds os n, Below.adds_ h.below h.below.size os n⟩
theorem PsS.drew {G : Nat} {f g : Nat → Int} {c : Int} {u l : Bool} {w W : World} {zs : List Int} (h : PsS G f g c u l w zs W) : PsS G f g c u l w zs W.drew := ⟨h.e.drew, h.r.drew, h.b.drew, h.below.drew⟩
theorem PsS.drewN {G : Nat} {f g : Nat → Int} {c : Int} {u l : Bool} {w W : World} {zs : List Int} (h : PsS G f g c u l w zs W) (n : Nat) : PsS G f g c u l w zs (W.drewN n) := ⟨h.e, h.r, h.b, h.below.trans ((drewNb W n).mono h.below.size)⟩
theorem PsS.set {G : Nat} {f g : Nat → Int} {c : Int} {u l : Bool} {w W : World} {zs : List Int} (h : PsS G f g c u l w zs W) (hg : w.heap.size ≤ G) (i : Nat) (v : Int) : PsS G f g c u l w (zs.set i v) (W.setCell ⟨G + 1 + 1, i, none⟩ (.int .i64 v)) :=
  ⟨h.e.other (by simp only; omega) _, h.r.other (by simp only; omega) _, by have := h.b.set i (.int .i64 v); rwa [rowI_set] at this, h.below.setCell (by simp only; omega) _⟩

set_option maxRecDepth 100000 in
set_option maxHeartbeats 4000000 in
theorem S_l6Predict (m : Nat) (hm : m ≤ 4) (f g : Nat → Int) (c : Int) (u l : Bool) (w : World) (hok : eOk f g c) :
    Calls Try.prog 24 #[.int .i64 m, .agg (eA f g c u l)] w fun e w' => e = .returned (.agg (rowI (pL m f g c u l))) ∧ Below w.heap.size w w' := by
  have HOK := Lib.hid hok
  clear hok
  have hwg : w.heap.size ≤ w.heap.size := Nat.le_refl _
  have T0 : PsS w.heap.size f g c u l w z16 (((w.alloc (.cells (eA f g c u l) 25)).alloc (.cells (rowI z16) 28)).alloc (.cells (rowI z16) 28)) :=
    ⟨((Blk.new w _ _ _ rfl).alloc _).alloc _, (Blk.new _ _ _ _ (by simp)).alloc _, Blk.new _ _ _ _ (by simp), (by repeat' (first | (with_reducible exact Below.refl _ _) | (with_reducible refine Below.adds_ ?_ ?_ _ _) | (with_reducible refine Below.alloc ?_ ?_ _) | (with_reducible refine Below.drew ?_) | (with_reducible refine Below.setCell ?_ ?_ _) | (with_reducible assumption) | go_size | (simp only [size_addsW, World.size_alloc, World.size_drew, World.size_setCell]; omega)))⟩
  have HT0 := Lib.hid T0
  clear T0
  obtain ⟨F, hF⟩ : ∃ F, F = pS m f g c u l := ⟨_, rfl⟩
  have HFF := Lib.hid hF
  clear hF
  obtain ⟨mi, hmi⟩ : ∃ mi : Int, mi = (m : Int) := ⟨_, rfl⟩
  rw [← hmi]
  obtain ⟨mv, hmv⟩ : ∃ mv, mv = mV u l f g := ⟨_, rfl⟩
  have CM := Lib.hid (show ∀ W, Calls Try.prog 40 #[.agg (eA f g c u l)] W fun e w' => e = .returned (.int .i64 mv) ∧ Below W.heap.size W w' from fun W => by rw [hmv]; exact S_l6Mean f g c u l W HOK.out)
  have HMV := Lib.hid hmv
  clear hmv
  rcases (show (m = 0 ∧ mi = 0) ∨ (m = 1 ∧ mi = 1) ∨ (m = 2 ∧ mi = 2) ∨ (m = 3 ∧ mi = 3) ∨ (m = 4 ∧ mi = 4) by omega) with ⟨rfl, rfl⟩ | ⟨rfl, rfl⟩ | ⟨rfl, rfl⟩ | ⟨rfl, rfl⟩ | ⟨rfl, rfl⟩
  · clear hmi
    unfold eA at CM ⊢
    go_enter Try.func24, Try.ntmps24
    go_upto_region 2 with fail
    refine all_add' ?_
    intro Z hZ
    have T1 := Lib.hid (show PsS w.heap.size f g c u l w z16 Z from hZ ▸ HT0.out)
    have hst := T1.out
    clear hZ HT0
    have e0 : Z.cell? ⟨w.heap.size, 0, none⟩ = some (.int .i64 (f 0)) := hst.e.get rfl
    have e1 : Z.cell? ⟨w.heap.size, 1, none⟩ = some (.int .i64 (f 1)) := hst.e.get rfl
    have e2 : Z.cell? ⟨w.heap.size, 2, none⟩ = some (.int .i64 (f 2)) := hst.e.get rfl
    have e3 : Z.cell? ⟨w.heap.size, 3, none⟩ = some (.int .i64 (f 3)) := hst.e.get rfl
    have e4 : Z.cell? ⟨w.heap.size, 4, none⟩ = some (.int .i64 (g 0)) := hst.e.get rfl
    have e5 : Z.cell? ⟨w.heap.size, 5, none⟩ = some (.int .i64 (g 1)) := hst.e.get rfl
    have e6 : Z.cell? ⟨w.heap.size, 6, none⟩ = some (.int .i64 (g 2)) := hst.e.get rfl
    have e7 : Z.cell? ⟨w.heap.size, 7, none⟩ = some (.int .i64 (g 3)) := hst.e.get rfl
    have e8 : Z.cell? ⟨w.heap.size, 8, none⟩ = some (.int .i64 c) := hst.e.get rfl
    have e9 : Z.cell? ⟨w.heap.size, 9, none⟩ = some (.bool u) := hst.e.get rfl
    have e10 : Z.cell? ⟨w.heap.size, 10, none⟩ = some (.bool l) := hst.e.get rfl
    go_upto_region 3 with (go_at_call 40; refine (CM.out _).mono ?_; rintro e w' ⟨rfl, hb⟩; obtain ⟨o1, n1, rfl⟩ := below_adds hb; clear hb)
    have T2 := Lib.hid (hst.adds o1 n1)
    clear hst T1 e0 e1 e2 e3 e4 e5 e6 e7 e8 e9 e10
    generalize addsW Z o1 n1 = Y at T2 ⊢
    go_wp2_with fail
    go_loopw [7] (fun v wr => ∃ (y : Nat) (zs : List Int), v = .int .i64 (y : Int) ∧ y ≤ 4 ∧ zs.length = 16 ∧ (∀ i, i < 4 * y → zs.getD i 0 = F (i % 4) (i / 4)) ∧ PsS w.heap.size f g c u l w zs wr) (fun v _ => 4 - (intOf v).toNat)
    case atStart => exact ⟨0, z16, rfl, by omega, rfl, fun i hi => by omega, T2.out⟩
    case round =>
      clear T2
      obtain ⟨y, zs, rfl, hy, hz, hf, hst⟩ := hrel
      have HF0 := Lib.hid hf
      have HZ0 := Lib.hid hz
      have HST0 := Lib.hid hst
      clear hf hz hst
      by_cases hlt : y < 4
      · have hd1 : (y : Int) < 4 := by omega
        go_wp2_with fail
        go_loopw [8] (fun v wr2 => ∃ (x : Nat) (zs : List Int), v = .int .i64 (x : Int) ∧ x ≤ 4 ∧ zs.length = 16 ∧ (∀ i, i < 4 * y + x → zs.getD i 0 = F (i % 4) (i / 4)) ∧ PsS w.heap.size f g c u l w zs wr2) (fun v _ => 4 - (intOf v).toNat)
        case atStart => exact ⟨0, zs, rfl, by omega, HZ0.out, HF0.out, HST0.out⟩
        case round =>
          clear HF0 HZ0 HST0
          clear zs
          obtain ⟨x, zs, rfl, hx, hz, hf, hst⟩ := hrel
          have HF := Lib.hid hf
          have HZ := Lib.hid hz
          have HST := Lib.hid hst
          clear hf hz
          by_cases hltx : x < 4
          · skip
            have hd2 : (x : Int) < 4 := by omega
            obtain ⟨I, hI⟩ : ∃ I, I = 4 * y + x := ⟨_, rfl⟩
            have hIi : 4 * (y : Int) + (x : Int) = (I : Int) := by omega
            have hIl : (I : Int) < 16 := by omega
            have bk := hst.b.get (rowI_get (zs := zs) (j := I) (by rw [HZ.out]; omega))
            have bf := hst.b.hot I
            have le := hst.e.lt
            have lb := hst.b.lt
            clear hst
            generalize zs.getD I 0 = old at bk
            have hFk := Lib.hid (show ∀ v, v = F x y → ∀ i, i < 4 * y + (x + 1) → (zs.set I v).getD i 0 = F (i % 4) (i / 4) from fun v hv i hi => set_ok (F := fun i => F (i % 4) (i / 4)) HZ.out (show I < 16 by omega) (fun i hi => HF.out i (by omega)) (by rw [hv, show I % 4 = x by omega, show I / 4 = y by omega]) i (by omega))
            have HVV := Lib.hid (show F x y = mv from by rw [HFF.out, HMV.out]; rfl)
            clear hI
            go_wp2_with fail
            go_roundw
            case rel => exact ⟨x + 1, zs.set I mv, by go_num, by omega, by rw [List.length_set]; exact HZ.out, hFk.out _ HVV.out.symm, by repeat (first | (with_reducible apply PsS.adds) | (with_reducible apply PsS.drewN) | (with_reducible apply PsS.drew) | exact PsS.set HST.out hwg I _ | refine PsS.set ?_ hwg I _ | exact HST.out)⟩
            case measure => simp [intOf]; omega
          · obtain rfl : x = 4 := by omega
            go_wp2_with fail
            go_roundw
            case rel => exact ⟨y + 1, zs, by go_num, by omega, HZ.out, fun i hi => HF.out i (by omega), HST.out⟩
            case measure => simp [intOf]; omega
      · obtain rfl : y = 4 := by omega
        have hpl := pL_of HZ0.out (fun i hi => by have h9 := HF0.out i (by omega); rw [HFF.out] at h9; exact h9)
        have HP := Lib.hid hpl
        clear hpl
        have hst := HST0.out
        go_upto_region 21 with fail
        refine wp_region_lit ?_
        refine wpList_load_sub rfl 28 (.tmp 5) rfl (w.heap.size + 1 + 1) 0 16 rfl 28 zs (0, 0) _ hst.b Try.underlying28 rfl infoA16 (by rw [HZ0.out]; exact Nat.le_refl _) ?_
        rw [show sub zs 0 16 = zs by rw [← HZ0.out]; exact sub_all zs]
        refine wpList_store_sub rfl 28 (.tmp 4) (.tmp 81) rfl (w.heap.size + 1) 0 zs rfl rfl 28 z16 hst.r (by rw [HZ0.out]; exact infoA16) (by rw [HZ0.out]; decide) ?_
        rw [spl_full (by rw [HZ0.out]; rfl)]
        go_wp2_with fail
        refine bodyPost_ret (v := .agg (rowI zs)) (by exact results_cell_row Try.results24 _ _ (w.heap.size + 1) 28 (rowI zs) (0, 0) _ rfl (hst.r.row (rowI zs)) Try.underlying28 rfl (by rw [rowI_size, HZ0.out]; exact infoA16)) rfl ?_
        exact ⟨by rw [← HP.out], below_row hst.below hst.below.size (by omega) _⟩
  · clear hmi
    unfold eA at CM ⊢
    go_enter Try.func24, Try.ntmps24
    go_upto_region 2 with fail
    refine all_add' ?_
    intro Z hZ
    have T1 := Lib.hid (show PsS w.heap.size f g c u l w z16 Z from hZ ▸ HT0.out)
    have hst := T1.out
    clear hZ HT0
    have e0 : Z.cell? ⟨w.heap.size, 0, none⟩ = some (.int .i64 (f 0)) := hst.e.get rfl
    have e1 : Z.cell? ⟨w.heap.size, 1, none⟩ = some (.int .i64 (f 1)) := hst.e.get rfl
    have e2 : Z.cell? ⟨w.heap.size, 2, none⟩ = some (.int .i64 (f 2)) := hst.e.get rfl
    have e3 : Z.cell? ⟨w.heap.size, 3, none⟩ = some (.int .i64 (f 3)) := hst.e.get rfl
    have e4 : Z.cell? ⟨w.heap.size, 4, none⟩ = some (.int .i64 (g 0)) := hst.e.get rfl
    have e5 : Z.cell? ⟨w.heap.size, 5, none⟩ = some (.int .i64 (g 1)) := hst.e.get rfl
    have e6 : Z.cell? ⟨w.heap.size, 6, none⟩ = some (.int .i64 (g 2)) := hst.e.get rfl
    have e7 : Z.cell? ⟨w.heap.size, 7, none⟩ = some (.int .i64 (g 3)) := hst.e.get rfl
    have e8 : Z.cell? ⟨w.heap.size, 8, none⟩ = some (.int .i64 c) := hst.e.get rfl
    have e9 : Z.cell? ⟨w.heap.size, 9, none⟩ = some (.bool u) := hst.e.get rfl
    have e10 : Z.cell? ⟨w.heap.size, 10, none⟩ = some (.bool l) := hst.e.get rfl
    go_upto_region 3 with (go_at_call 40; refine (CM.out _).mono ?_; rintro e w' ⟨rfl, hb⟩; obtain ⟨o1, n1, rfl⟩ := below_adds hb; clear hb)
    have T2 := Lib.hid (hst.adds o1 n1)
    clear hst T1 e0 e1 e2 e3 e4 e5 e6 e7 e8 e9 e10
    generalize addsW Z o1 n1 = Y at T2 ⊢
    go_wp2_with fail
    go_loopw [7] (fun v wr => ∃ (y : Nat) (zs : List Int), v = .int .i64 (y : Int) ∧ y ≤ 4 ∧ zs.length = 16 ∧ (∀ i, i < 4 * y → zs.getD i 0 = F (i % 4) (i / 4)) ∧ PsS w.heap.size f g c u l w zs wr) (fun v _ => 4 - (intOf v).toNat)
    case atStart => exact ⟨0, z16, rfl, by omega, rfl, fun i hi => by omega, T2.out⟩
    case round =>
      clear T2
      obtain ⟨y, zs, rfl, hy, hz, hf, hst⟩ := hrel
      have HF0 := Lib.hid hf
      have HZ0 := Lib.hid hz
      have HST0 := Lib.hid hst
      clear hf hz hst
      by_cases hlt : y < 4
      · have hd1 : (y : Int) < 4 := by omega
        go_wp2_with fail
        go_loopw [8] (fun v wr2 => ∃ (x : Nat) (zs : List Int), v = .int .i64 (x : Int) ∧ x ≤ 4 ∧ zs.length = 16 ∧ (∀ i, i < 4 * y + x → zs.getD i 0 = F (i % 4) (i / 4)) ∧ PsS w.heap.size f g c u l w zs wr2) (fun v _ => 4 - (intOf v).toNat)
        case atStart => exact ⟨0, zs, rfl, by omega, HZ0.out, HF0.out, HST0.out⟩
        case round =>
          clear HF0 HZ0 HST0
          clear zs
          obtain ⟨x, zs, rfl, hx, hz, hf, hst⟩ := hrel
          have HF := Lib.hid hf
          have HZ := Lib.hid hz
          have HST := Lib.hid hst
          clear hf hz
          by_cases hltx : x < 4
          · skip
            have hd2 : (x : Int) < 4 := by omega
            have mu := hst.e.get (eA_up (f := f) (g := g) (c := c) (u := u) (l := l) hltx)
            obtain ⟨I, hI⟩ : ∃ I, I = 4 * y + x := ⟨_, rfl⟩
            have hIi : 4 * (y : Int) + (x : Int) = (I : Int) := by omega
            have hIl : (I : Int) < 16 := by omega
            have bk := hst.b.get (rowI_get (zs := zs) (j := I) (by rw [HZ.out]; omega))
            have bf := hst.b.hot I
            have le := hst.e.lt
            have lb := hst.b.lt
            clear hst
            generalize zs.getD I 0 = old at bk
            have hFk := Lib.hid (show ∀ v, v = F x y → ∀ i, i < 4 * y + (x + 1) → (zs.set I v).getD i 0 = F (i % 4) (i / 4) from fun v hv i hi => set_ok (F := fun i => F (i % 4) (i / 4)) HZ.out (show I < 16 by omega) (fun i hi => HF.out i (by omega)) (by rw [hv, show I % 4 = x by omega, show I / 4 = y by omega]) i (by omega))
            have HVV := Lib.hid (show F x y = f x from by rw [HFF.out]; rfl)
            generalize f x = v at mu HVV
            clear hI
            go_wp2_with fail
            go_roundw
            case rel => exact ⟨x + 1, zs.set I v, by go_num, by omega, by rw [List.length_set]; exact HZ.out, hFk.out _ HVV.out.symm, by repeat (first | (with_reducible apply PsS.adds) | (with_reducible apply PsS.drewN) | (with_reducible apply PsS.drew) | exact PsS.set HST.out hwg I _ | refine PsS.set ?_ hwg I _ | exact HST.out)⟩
            case measure => simp [intOf]; omega
          · obtain rfl : x = 4 := by omega
            go_wp2_with fail
            go_roundw
            case rel => exact ⟨y + 1, zs, by go_num, by omega, HZ.out, fun i hi => HF.out i (by omega), HST.out⟩
            case measure => simp [intOf]; omega
      · obtain rfl : y = 4 := by omega
        have hpl := pL_of HZ0.out (fun i hi => by have h9 := HF0.out i (by omega); rw [HFF.out] at h9; exact h9)
        have HP := Lib.hid hpl
        clear hpl
        have hst := HST0.out
        go_upto_region 21 with fail
        refine wp_region_lit ?_
        refine wpList_load_sub rfl 28 (.tmp 5) rfl (w.heap.size + 1 + 1) 0 16 rfl 28 zs (0, 0) _ hst.b Try.underlying28 rfl infoA16 (by rw [HZ0.out]; exact Nat.le_refl _) ?_
        rw [show sub zs 0 16 = zs by rw [← HZ0.out]; exact sub_all zs]
        refine wpList_store_sub rfl 28 (.tmp 4) (.tmp 81) rfl (w.heap.size + 1) 0 zs rfl rfl 28 z16 hst.r (by rw [HZ0.out]; exact infoA16) (by rw [HZ0.out]; decide) ?_
        rw [spl_full (by rw [HZ0.out]; rfl)]
        go_wp2_with fail
        refine bodyPost_ret (v := .agg (rowI zs)) (by exact results_cell_row Try.results24 _ _ (w.heap.size + 1) 28 (rowI zs) (0, 0) _ rfl (hst.r.row (rowI zs)) Try.underlying28 rfl (by rw [rowI_size, HZ0.out]; exact infoA16)) rfl ?_
        exact ⟨by rw [← HP.out], below_row hst.below hst.below.size (by omega) _⟩
  · clear hmi
    unfold eA at CM ⊢
    go_enter Try.func24, Try.ntmps24
    go_upto_region 2 with fail
    refine all_add' ?_
    intro Z hZ
    have T1 := Lib.hid (show PsS w.heap.size f g c u l w z16 Z from hZ ▸ HT0.out)
    have hst := T1.out
    clear hZ HT0
    have e0 : Z.cell? ⟨w.heap.size, 0, none⟩ = some (.int .i64 (f 0)) := hst.e.get rfl
    have e1 : Z.cell? ⟨w.heap.size, 1, none⟩ = some (.int .i64 (f 1)) := hst.e.get rfl
    have e2 : Z.cell? ⟨w.heap.size, 2, none⟩ = some (.int .i64 (f 2)) := hst.e.get rfl
    have e3 : Z.cell? ⟨w.heap.size, 3, none⟩ = some (.int .i64 (f 3)) := hst.e.get rfl
    have e4 : Z.cell? ⟨w.heap.size, 4, none⟩ = some (.int .i64 (g 0)) := hst.e.get rfl
    have e5 : Z.cell? ⟨w.heap.size, 5, none⟩ = some (.int .i64 (g 1)) := hst.e.get rfl
    have e6 : Z.cell? ⟨w.heap.size, 6, none⟩ = some (.int .i64 (g 2)) := hst.e.get rfl
    have e7 : Z.cell? ⟨w.heap.size, 7, none⟩ = some (.int .i64 (g 3)) := hst.e.get rfl
    have e8 : Z.cell? ⟨w.heap.size, 8, none⟩ = some (.int .i64 c) := hst.e.get rfl
    have e9 : Z.cell? ⟨w.heap.size, 9, none⟩ = some (.bool u) := hst.e.get rfl
    have e10 : Z.cell? ⟨w.heap.size, 10, none⟩ = some (.bool l) := hst.e.get rfl
    go_upto_region 3 with (go_at_call 40; refine (CM.out _).mono ?_; rintro e w' ⟨rfl, hb⟩; obtain ⟨o1, n1, rfl⟩ := below_adds hb; clear hb)
    have T2 := Lib.hid (hst.adds o1 n1)
    clear hst T1 e0 e1 e2 e3 e4 e5 e6 e7 e8 e9 e10
    generalize addsW Z o1 n1 = Y at T2 ⊢
    go_wp2_with fail
    go_loopw [7] (fun v wr => ∃ (y : Nat) (zs : List Int), v = .int .i64 (y : Int) ∧ y ≤ 4 ∧ zs.length = 16 ∧ (∀ i, i < 4 * y → zs.getD i 0 = F (i % 4) (i / 4)) ∧ PsS w.heap.size f g c u l w zs wr) (fun v _ => 4 - (intOf v).toNat)
    case atStart => exact ⟨0, z16, rfl, by omega, rfl, fun i hi => by omega, T2.out⟩
    case round =>
      clear T2
      obtain ⟨y, zs, rfl, hy, hz, hf, hst⟩ := hrel
      have HF0 := Lib.hid hf
      have HZ0 := Lib.hid hz
      have HST0 := Lib.hid hst
      clear hf hz hst
      by_cases hlt : y < 4
      · have hd1 : (y : Int) < 4 := by omega
        go_wp2_with fail
        go_loopw [8] (fun v wr2 => ∃ (x : Nat) (zs : List Int), v = .int .i64 (x : Int) ∧ x ≤ 4 ∧ zs.length = 16 ∧ (∀ i, i < 4 * y + x → zs.getD i 0 = F (i % 4) (i / 4)) ∧ PsS w.heap.size f g c u l w zs wr2) (fun v _ => 4 - (intOf v).toNat)
        case atStart => exact ⟨0, zs, rfl, by omega, HZ0.out, HF0.out, HST0.out⟩
        case round =>
          clear HF0 HZ0 HST0
          clear zs
          obtain ⟨x, zs, rfl, hx, hz, hf, hst⟩ := hrel
          have HF := Lib.hid hf
          have HZ := Lib.hid hz
          have HST := Lib.hid hst
          clear hf hz
          by_cases hltx : x < 4
          · skip
            have hd2 : (x : Int) < 4 := by omega
            have ml := hst.e.get (eA_left (f := f) (g := g) (c := c) (u := u) (l := l) hlt)
            obtain ⟨I, hI⟩ : ∃ I, I = 4 * y + x := ⟨_, rfl⟩
            have hIi : 4 * (y : Int) + (x : Int) = (I : Int) := by omega
            have hIl : (I : Int) < 16 := by omega
            have bk := hst.b.get (rowI_get (zs := zs) (j := I) (by rw [HZ.out]; omega))
            have bf := hst.b.hot I
            have le := hst.e.lt
            have lb := hst.b.lt
            clear hst
            generalize zs.getD I 0 = old at bk
            have hFk := Lib.hid (show ∀ v, v = F x y → ∀ i, i < 4 * y + (x + 1) → (zs.set I v).getD i 0 = F (i % 4) (i / 4) from fun v hv i hi => set_ok (F := fun i => F (i % 4) (i / 4)) HZ.out (show I < 16 by omega) (fun i hi => HF.out i (by omega)) (by rw [hv, show I % 4 = x by omega, show I / 4 = y by omega]) i (by omega))
            have HVV := Lib.hid (show F x y = g y from by rw [HFF.out]; rfl)
            generalize g y = v at ml HVV
            clear hI
            go_wp2_with fail
            go_roundw
            case rel => exact ⟨x + 1, zs.set I v, by go_num, by omega, by rw [List.length_set]; exact HZ.out, hFk.out _ HVV.out.symm, by repeat (first | (with_reducible apply PsS.adds) | (with_reducible apply PsS.drewN) | (with_reducible apply PsS.drew) | exact PsS.set HST.out hwg I _ | refine PsS.set ?_ hwg I _ | exact HST.out)⟩
            case measure => simp [intOf]; omega
          · obtain rfl : x = 4 := by omega
            go_wp2_with fail
            go_roundw
            case rel => exact ⟨y + 1, zs, by go_num, by omega, HZ.out, fun i hi => HF.out i (by omega), HST.out⟩
            case measure => simp [intOf]; omega
      · obtain rfl : y = 4 := by omega
        have hpl := pL_of HZ0.out (fun i hi => by have h9 := HF0.out i (by omega); rw [HFF.out] at h9; exact h9)
        have HP := Lib.hid hpl
        clear hpl
        have hst := HST0.out
        go_upto_region 21 with fail
        refine wp_region_lit ?_
        refine wpList_load_sub rfl 28 (.tmp 5) rfl (w.heap.size + 1 + 1) 0 16 rfl 28 zs (0, 0) _ hst.b Try.underlying28 rfl infoA16 (by rw [HZ0.out]; exact Nat.le_refl _) ?_
        rw [show sub zs 0 16 = zs by rw [← HZ0.out]; exact sub_all zs]
        refine wpList_store_sub rfl 28 (.tmp 4) (.tmp 81) rfl (w.heap.size + 1) 0 zs rfl rfl 28 z16 hst.r (by rw [HZ0.out]; exact infoA16) (by rw [HZ0.out]; decide) ?_
        rw [spl_full (by rw [HZ0.out]; rfl)]
        go_wp2_with fail
        refine bodyPost_ret (v := .agg (rowI zs)) (by exact results_cell_row Try.results24 _ _ (w.heap.size + 1) 28 (rowI zs) (0, 0) _ rfl (hst.r.row (rowI zs)) Try.underlying28 rfl (by rw [rowI_size, HZ0.out]; exact infoA16)) rfl ?_
        exact ⟨by rw [← HP.out], below_row hst.below hst.below.size (by omega) _⟩
  · clear hmi
    unfold eA at CM ⊢
    go_enter Try.func24, Try.ntmps24
    go_upto_region 2 with fail
    refine all_add' ?_
    intro Z hZ
    have T1 := Lib.hid (show PsS w.heap.size f g c u l w z16 Z from hZ ▸ HT0.out)
    have hst := T1.out
    clear hZ HT0
    have e0 : Z.cell? ⟨w.heap.size, 0, none⟩ = some (.int .i64 (f 0)) := hst.e.get rfl
    have e1 : Z.cell? ⟨w.heap.size, 1, none⟩ = some (.int .i64 (f 1)) := hst.e.get rfl
    have e2 : Z.cell? ⟨w.heap.size, 2, none⟩ = some (.int .i64 (f 2)) := hst.e.get rfl
    have e3 : Z.cell? ⟨w.heap.size, 3, none⟩ = some (.int .i64 (f 3)) := hst.e.get rfl
    have e4 : Z.cell? ⟨w.heap.size, 4, none⟩ = some (.int .i64 (g 0)) := hst.e.get rfl
    have e5 : Z.cell? ⟨w.heap.size, 5, none⟩ = some (.int .i64 (g 1)) := hst.e.get rfl
    have e6 : Z.cell? ⟨w.heap.size, 6, none⟩ = some (.int .i64 (g 2)) := hst.e.get rfl
    have e7 : Z.cell? ⟨w.heap.size, 7, none⟩ = some (.int .i64 (g 3)) := hst.e.get rfl
    have e8 : Z.cell? ⟨w.heap.size, 8, none⟩ = some (.int .i64 c) := hst.e.get rfl
    have e9 : Z.cell? ⟨w.heap.size, 9, none⟩ = some (.bool u) := hst.e.get rfl
    have e10 : Z.cell? ⟨w.heap.size, 10, none⟩ = some (.bool l) := hst.e.get rfl
    go_upto_region 3 with (go_at_call 40; refine (CM.out _).mono ?_; rintro e w' ⟨rfl, hb⟩; obtain ⟨o1, n1, rfl⟩ := below_adds hb; clear hb)
    have T2 := Lib.hid (hst.adds o1 n1)
    clear hst T1 e0 e1 e2 e3 e4 e5 e6 e7 e8 e9 e10
    generalize addsW Z o1 n1 = Y at T2 ⊢
    go_wp2_with fail
    go_loopw [7] (fun v wr => ∃ (y : Nat) (zs : List Int), v = .int .i64 (y : Int) ∧ y ≤ 4 ∧ zs.length = 16 ∧ (∀ i, i < 4 * y → zs.getD i 0 = F (i % 4) (i / 4)) ∧ PsS w.heap.size f g c u l w zs wr) (fun v _ => 4 - (intOf v).toNat)
    case atStart => exact ⟨0, z16, rfl, by omega, rfl, fun i hi => by omega, T2.out⟩
    case round =>
      clear T2
      obtain ⟨y, zs, rfl, hy, hz, hf, hst⟩ := hrel
      have HF0 := Lib.hid hf
      have HZ0 := Lib.hid hz
      have HST0 := Lib.hid hst
      clear hf hz hst
      by_cases hlt : y < 4
      · have hd1 : (y : Int) < 4 := by omega
        go_wp2_with fail
        go_loopw [8] (fun v wr2 => ∃ (x : Nat) (zs : List Int), v = .int .i64 (x : Int) ∧ x ≤ 4 ∧ zs.length = 16 ∧ (∀ i, i < 4 * y + x → zs.getD i 0 = F (i % 4) (i / 4)) ∧ PsS w.heap.size f g c u l w zs wr2) (fun v _ => 4 - (intOf v).toNat)
        case atStart => exact ⟨0, zs, rfl, by omega, HZ0.out, HF0.out, HST0.out⟩
        case round =>
          clear HF0 HZ0 HST0
          clear zs
          obtain ⟨x, zs, rfl, hx, hz, hf, hst⟩ := hrel
          have HF := Lib.hid hf
          have HZ := Lib.hid hz
          have HST := Lib.hid hst
          clear hf hz
          by_cases hltx : x < 4
          · skip
            have hd2 : (x : Int) < 4 := by omega
            have e0 : wr.cell? ⟨w.heap.size, 0, none⟩ = some (.int .i64 (f 0)) := hst.e.get rfl
            have e1 : wr.cell? ⟨w.heap.size, 1, none⟩ = some (.int .i64 (f 1)) := hst.e.get rfl
            have e2 : wr.cell? ⟨w.heap.size, 2, none⟩ = some (.int .i64 (f 2)) := hst.e.get rfl
            have e3 : wr.cell? ⟨w.heap.size, 3, none⟩ = some (.int .i64 (f 3)) := hst.e.get rfl
            have e4 : wr.cell? ⟨w.heap.size, 4, none⟩ = some (.int .i64 (g 0)) := hst.e.get rfl
            have e5 : wr.cell? ⟨w.heap.size, 5, none⟩ = some (.int .i64 (g 1)) := hst.e.get rfl
            have e6 : wr.cell? ⟨w.heap.size, 6, none⟩ = some (.int .i64 (g 2)) := hst.e.get rfl
            have e7 : wr.cell? ⟨w.heap.size, 7, none⟩ = some (.int .i64 (g 3)) := hst.e.get rfl
            have e8 : wr.cell? ⟨w.heap.size, 8, none⟩ = some (.int .i64 c) := hst.e.get rfl
            have e9 : wr.cell? ⟨w.heap.size, 9, none⟩ = some (.bool u) := hst.e.get rfl
            have e10 : wr.cell? ⟨w.heap.size, 10, none⟩ = some (.bool l) := hst.e.get rfl
            obtain ⟨I, hI⟩ : ∃ I, I = 4 * y + x := ⟨_, rfl⟩
            have hIi : 4 * (y : Int) + (x : Int) = (I : Int) := by omega
            have hIl : (I : Int) < 16 := by omega
            have bk := hst.b.get (rowI_get (zs := zs) (j := I) (by rw [HZ.out]; omega))
            have bf := hst.b.hot I
            have le := hst.e.lt
            have lb := hst.b.lt
            clear hst
            generalize zs.getD I 0 = old at bk
            have hFk := Lib.hid (show ∀ v, v = F x y → ∀ i, i < 4 * y + (x + 1) → (zs.set I v).getD i 0 = F (i % 4) (i / 4) from fun v hv i hi => set_ok (F := fun i => F (i % 4) (i / 4)) HZ.out (show I < 16 by omega) (fun i hi => HF.out i (by omega)) (by rw [hv, show I % 4 = x by omega, show I / 4 = y by omega]) i (by omega))
            obtain ⟨K, hK⟩ : ∃ K, K = 4 + x - y := ⟨_, rfl⟩
            have hKi : (4 : Int) + (x : Int) - (y : Int) = (K : Int) := by omega
            have hKi2 : IntKind.i64.wrap (4 + (x : Int)) = 4 + (x : Int) := IntWalk.i64_in _ (by omega)
            obtain ⟨b1, hb1⟩ : ∃ b, b = bo f g c (K - 1) := ⟨_, rfl⟩
            obtain ⟨b2, hb2⟩ : ∃ b, b = bo f g c K := ⟨_, rfl⟩
            obtain ⟨b3, hb3⟩ : ∃ b, b = bo f g c (K + 1) := ⟨_, rfl⟩
            have q1 := bo_bd HOK.out (show K - 1 < 9 by omega)
            have q2 := bo_bd HOK.out (show K < 9 by omega)
            have q3 := bo_bd HOK.out (show K + 1 < 9 by omega)
            rw [← hb1] at q1
            rw [← hb2] at q2
            rw [← hb3] at q3
            have HVV := Lib.hid (show F x y = (b1 + 2 * b2 + b3 + 2) / 4 from by
              rw [HFF.out]
              show diV f g c x y = _
              rw [diV, show 3 + x - y = K - 1 by omega, show 4 + x - y = K by omega, show 5 + x - y = K + 1 by omega, ← hb1, ← hb2, ← hb3])
            obtain ⟨K1, hK1⟩ : ∃ K1, K1 = K - 1 := ⟨_, rfl⟩
            obtain ⟨K2, hK2⟩ : ∃ K2, K2 = K + 1 := ⟨_, rfl⟩
            have w1 : IntKind.i64.wrap ((K : Int) - 1) = (K1 : Int) := by rw [IntWalk.i64_in _ (by omega)]; omega
            have w2 : IntKind.i64.wrap ((K : Int) + 1) = (K2 : Int) := by rw [IntWalk.i64_in _ (by omega)]; omega
            have mx : max (0 : Int) (K1 : Int) = (K1 : Int) := by omega
            have mn : min (8 : Int) (K2 : Int) = (K2 : Int) := by omega
            have mx2 : (if 0 < K1 then (K1 : Int) else 0) = (K1 : Int) := by split <;> omega
            have mn2 : (if K2 < 8 then (K2 : Int) else 8) = (K2 : Int) := by split <;> omega
            have mn3 : (if (K2 : Int) < 8 then (K2 : Int) else 8) = (K2 : Int) := by split <;> omega
            have w3 : IntKind.i64.wrap (2 * b2) = 2 * b2 := IntWalk.i64_in _ (by omega)
            have w4 : IntKind.i64.wrap (b1 + 2 * b2) = b1 + 2 * b2 := IntWalk.i64_in _ (by omega)
            have w5 : IntKind.i64.wrap (b1 + 2 * b2 + b3) = b1 + 2 * b2 + b3 := IntWalk.i64_in _ (by omega)
            have w6 : IntKind.i64.wrap (b1 + 2 * b2 + b3 + 2) = b1 + 2 * b2 + b3 + 2 := IntWalk.i64_in _ (by omega)
            have w7 : (b1 + 2 * b2 + b3 + 2).tdiv 4 = (b1 + 2 * b2 + b3 + 2) / 4 := Int.tdiv_eq_ediv_of_nonneg (by omega)
            have w8 : IntKind.i64.wrap ((b1 + 2 * b2 + b3 + 2) / 4) = (b1 + 2 * b2 + b3 + 2) / 4 := IntWalk.i64_in _ (by omega)
            rw [← hK1] at hb1
            rw [← hK2] at hb3
            have D1 := Lib.hid (show ∀ W, Calls Try.prog 41 #[.agg (eA f g c u l), .int .i64 K1] W fun e w' => e = .returned (.int .i64 b1) ∧ Below W.heap.size W w' from fun W => by rw [hb1]; exact S_l6Diagonal f g c u l K1 W (by omega))
            have D2 := Lib.hid (show ∀ W, Calls Try.prog 41 #[.agg (eA f g c u l), .int .i64 K] W fun e w' => e = .returned (.int .i64 b2) ∧ Below W.heap.size W w' from fun W => by rw [hb2]; exact S_l6Diagonal f g c u l K W (by omega))
            have D3 := Lib.hid (show ∀ W, Calls Try.prog 41 #[.agg (eA f g c u l), .int .i64 K2] W fun e w' => e = .returned (.int .i64 b3) ∧ Below W.heap.size W w' from fun W => by rw [hb3]; exact S_l6Diagonal f g c u l K2 W (by omega))
            unfold eA at D1 D2 D3
            clear hb1 hb2 hb3 hK hK1 hK2 hI
            go_upto_region 17 with fail
            refine wp_region_held_drew (S := (fun w' => w'.cell? ⟨w.heap.size, 0, none⟩ = some (.int .i64 (f 0)) ∧ w'.cell? ⟨w.heap.size, 1, none⟩ = some (.int .i64 (f 1)) ∧ w'.cell? ⟨w.heap.size, 2, none⟩ = some (.int .i64 (f 2)) ∧ w'.cell? ⟨w.heap.size, 3, none⟩ = some (.int .i64 (f 3)) ∧ w'.cell? ⟨w.heap.size, 4, none⟩ = some (.int .i64 (g 0)) ∧ w'.cell? ⟨w.heap.size, 5, none⟩ = some (.int .i64 (g 1)) ∧ w'.cell? ⟨w.heap.size, 6, none⟩ = some (.int .i64 (g 2)) ∧ w'.cell? ⟨w.heap.size, 7, none⟩ = some (.int .i64 (g 3)) ∧ w'.cell? ⟨w.heap.size, 8, none⟩ = some (.int .i64 c) ∧ w'.cell? ⟨w.heap.size, 9, none⟩ = some (.bool u) ∧ w'.cell? ⟨w.heap.size, 10, none⟩ = some (.bool l))) (by kernel_rfl) ?_ (fun hHeld => ?_)
            · (first | (go_simp; done) | (go_keep; done))
            refine wpAnyH_take (i := 0) (oi := _) (v := ?_) rfl (by kernel_rfl) (by kernel_rfl) (by kernel_rfl) (fun _ _ _ h => h) (Or.inl ⟨by rfl, ?_⟩) (by assumption) ?_
            rotate_left
            · intro w hSw; (try dsimp only at hSw); go_simp; (try with_reducible rfl)
            try dsimp only [List.getElem_toArray, List.getElem_cons_succ, List.getElem_cons_zero]
            simp only [Act.put, List.setIfInBounds_toArray, List.set_cons_zero, List.set_cons_succ]
            refine wpAnyH_take (i := 1) (oi := _) (v := ?_) rfl (by kernel_rfl) (by kernel_rfl) (by kernel_rfl) (fun _ _ _ h => h) (Or.inl ⟨by rfl, ?_⟩) (by assumption) ?_
            rotate_left
            · intro w hSw; (try dsimp only at hSw); go_simp; (try with_reducible rfl)
            try dsimp only [List.getElem_toArray, List.getElem_cons_succ, List.getElem_cons_zero]
            simp only [Act.put, List.setIfInBounds_toArray, List.set_cons_zero, List.set_cons_succ]
            refine wpAnyH_take (i := 2) (oi := _) (v := ?_) rfl (by kernel_rfl) (by kernel_rfl) (by kernel_rfl) (fun _ _ _ h => h) (Or.inl ⟨by rfl, ?_⟩) (by assumption) ?_
            rotate_left
            · intro w hSw; (try dsimp only at hSw); go_simp; (try with_reducible rfl)
            try dsimp only [List.getElem_toArray, List.getElem_cons_succ, List.getElem_cons_zero]
            simp only [Act.put, List.setIfInBounds_toArray, List.set_cons_zero, List.set_cons_succ]
            refine wpAnyH_take (i := 3) (oi := _) (v := ?_) rfl (by kernel_rfl) (by kernel_rfl) (by kernel_rfl) (fun _ _ _ h => h) (Or.inl ⟨by rfl, ?_⟩) (by assumption) ?_
            rotate_left
            · intro w hSw; (try dsimp only at hSw); go_simp; (try with_reducible rfl)
            try dsimp only [List.getElem_toArray, List.getElem_cons_succ, List.getElem_cons_zero]
            simp only [Act.put, List.setIfInBounds_toArray, List.set_cons_zero, List.set_cons_succ]
            refine wpAnyH_take (i := 5) (oi := _) (v := ?_) rfl (by kernel_rfl) (by kernel_rfl) (by kernel_rfl) (fun _ _ _ h => h) (Or.inl ⟨by rfl, ?_⟩) (by assumption) ?_
            rotate_left
            · intro w hSw; (try dsimp only at hSw); go_simp; (try with_reducible rfl)
            try dsimp only [List.getElem_toArray, List.getElem_cons_succ, List.getElem_cons_zero]
            simp only [Act.put, List.setIfInBounds_toArray, List.set_cons_zero, List.set_cons_succ]
            refine wpAnyH_take (i := 6) (oi := _) (v := ?_) rfl (by kernel_rfl) (by kernel_rfl) (by kernel_rfl) (fun _ _ _ h => h) (Or.inl ⟨by rfl, ?_⟩) (by assumption) ?_
            rotate_left
            · intro w hSw; (try dsimp only at hSw); go_simp; (try with_reducible rfl)
            try dsimp only [List.getElem_toArray, List.getElem_cons_succ, List.getElem_cons_zero]
            simp only [Act.put, List.setIfInBounds_toArray, List.set_cons_zero, List.set_cons_succ]
            refine wpAnyH_take (i := 10) (oi := _) (v := ?_) rfl (by kernel_rfl) (by kernel_rfl) (by kernel_rfl) (fun _ _ _ h => h) (Or.inl ⟨by rfl, ?_⟩) (by assumption) ?_
            rotate_left
            · intro w hSw; (try dsimp only at hSw); go_simp; (try with_reducible rfl)
            try dsimp only [List.getElem_toArray, List.getElem_cons_succ, List.getElem_cons_zero]
            simp only [Act.put, List.setIfInBounds_toArray, List.set_cons_zero, List.set_cons_succ]
            refine wpAnyH_take (i := 11) (oi := _) (v := ?_) rfl (by kernel_rfl) (by kernel_rfl) (by kernel_rfl) (fun _ _ _ h => h) (Or.inl ⟨by rfl, ?_⟩) (by assumption) ?_
            rotate_left
            · intro w hSw; (try dsimp only at hSw); go_simp; (try with_reducible rfl)
            try dsimp only [List.getElem_toArray, List.getElem_cons_succ, List.getElem_cons_zero]
            simp only [Act.put, List.setIfInBounds_toArray, List.set_cons_zero, List.set_cons_succ]
            refine wpAnyH_take (i := 12) (oi := _) (v := ?_) rfl (by kernel_rfl) (by kernel_rfl) (by kernel_rfl) (fun _ _ _ h => h) (Or.inl ⟨by rfl, ?_⟩) (by assumption) ?_
            rotate_left
            · intro w hSw; (try dsimp only at hSw); go_simp; (try with_reducible rfl)
            try dsimp only [List.getElem_toArray, List.getElem_cons_succ, List.getElem_cons_zero]
            simp only [Act.put, List.setIfInBounds_toArray, List.set_cons_zero, List.set_cons_succ]
            refine wpAnyH_take (i := 13) (oi := _) (v := ?_) rfl (by kernel_rfl) (by kernel_rfl) (by kernel_rfl) (fun _ _ _ h => h) (Or.inl ⟨by rfl, ?_⟩) (by assumption) ?_
            rotate_left
            · intro w hSw; (try dsimp only at hSw); go_simp; (try with_reducible rfl)
            try dsimp only [List.getElem_toArray, List.getElem_cons_succ, List.getElem_cons_zero]
            simp only [Act.put, List.setIfInBounds_toArray, List.set_cons_zero, List.set_cons_succ]
            refine wpAnyH_ready (rs := [4]) (by kernel_rfl) (by simp) ?_
            refine AllReadyH.cons (o := _) rfl (fun K hK => ?_) ?_
            · (try dsimp only [List.getElem_toArray, List.getElem_cons_succ, List.getElem_cons_zero]); go_simp
              ((try simp only [mx2, mn2, mn3, mx, mn]); go_at_call 41; (first | with_reducible refine (D1.out _).mono ?_ | with_reducible refine (D2.out _).mono ?_ | with_reducible refine (D3.out _).mono ?_); rintro e w' ⟨rfl, hb⟩; obtain ⟨q6, m6, rfl⟩ := below_adds hb; clear hb)
              try go_wp2_with fail
              refine hK.out _ _ ?_ (fun hHeld => ?_)
              · (first | (go_simp; done) | (go_keep; done))
              clear hK K
              try simp only [Act.put, List.setIfInBounds_toArray, List.set_cons_zero, List.set_cons_succ]
              refine wpAnyH_ready (rs := [7]) (by kernel_rfl) (by simp) ?_
              refine AllReadyH.cons (o := _) rfl (fun K hK => ?_) ?_
              · (try dsimp only [List.getElem_toArray, List.getElem_cons_succ, List.getElem_cons_zero]); go_simp
                ((try simp only [mx2, mn2, mn3, mx, mn]); go_at_call 41; (first | with_reducible refine (D1.out _).mono ?_ | with_reducible refine (D2.out _).mono ?_ | with_reducible refine (D3.out _).mono ?_); rintro e w' ⟨rfl, hb⟩; obtain ⟨q6, m6, rfl⟩ := below_adds hb; clear hb)
                try go_wp2_with fail
                refine hK.out _ _ ?_ (fun hHeld => ?_)
                · (first | (go_simp; done) | (go_keep; done))
                clear hK K
                try simp only [Act.put, List.setIfInBounds_toArray, List.set_cons_zero, List.set_cons_succ]
                refine wpAnyH_take (i := 8) (oi := _) (v := ?_) rfl (by kernel_rfl) (by kernel_rfl) (by kernel_rfl) (fun _ _ _ h => h) (Or.inl ⟨by rfl, ?_⟩) (by assumption) ?_
                rotate_left
                · intro w hSw; (try dsimp only at hSw); go_simp; (try with_reducible rfl)
                try dsimp only [List.getElem_toArray, List.getElem_cons_succ, List.getElem_cons_zero]
                simp only [Act.put, List.setIfInBounds_toArray, List.set_cons_zero, List.set_cons_succ]
                refine wpAnyH_take (i := 9) (oi := _) (v := ?_) rfl (by kernel_rfl) (by kernel_rfl) (by kernel_rfl) (fun _ _ _ h => h) (Or.inl ⟨by rfl, ?_⟩) (by assumption) ?_
                rotate_left
                · intro w hSw; (try dsimp only at hSw); go_simp; (try with_reducible rfl)
                try dsimp only [List.getElem_toArray, List.getElem_cons_succ, List.getElem_cons_zero]
                simp only [Act.put, List.setIfInBounds_toArray, List.set_cons_zero, List.set_cons_succ]
                refine wpAnyH_ready (rs := [14]) (by kernel_rfl) (by simp) ?_
                refine AllReadyH.cons (o := _) rfl (fun K hK => ?_) ?_
                · (try dsimp only [List.getElem_toArray, List.getElem_cons_succ, List.getElem_cons_zero]); go_simp
                  ((try simp only [mx2, mn2, mn3, mx, mn]); go_at_call 41; (first | with_reducible refine (D1.out _).mono ?_ | with_reducible refine (D2.out _).mono ?_ | with_reducible refine (D3.out _).mono ?_); rintro e w' ⟨rfl, hb⟩; obtain ⟨q6, m6, rfl⟩ := below_adds hb; clear hb)
                  try go_wp2_with fail
                  refine hK.out _ _ ?_ (fun hHeld => ?_)
                  · (first | (go_simp; done) | (go_keep; done))
                  clear hK K
                  try simp only [Act.put, List.setIfInBounds_toArray, List.set_cons_zero, List.set_cons_succ]
                  refine wpAnyH_take (i := 15) (oi := _) (v := ?_) rfl (by kernel_rfl) (by kernel_rfl) (by kernel_rfl) (fun _ _ _ h => h) (Or.inl ⟨by rfl, ?_⟩) (by assumption) ?_
                  rotate_left
                  · intro w hSw; (try dsimp only at hSw); go_simp; (try with_reducible rfl)
                  try dsimp only [List.getElem_toArray, List.getElem_cons_succ, List.getElem_cons_zero]
                  simp only [Act.put, List.setIfInBounds_toArray, List.set_cons_zero, List.set_cons_succ]
                  refine wpAnyH_take (i := 16) (oi := _) (v := ?_) rfl (by kernel_rfl) (by kernel_rfl) (by kernel_rfl) (fun _ _ _ h => h) (Or.inl ⟨by rfl, ?_⟩) (by assumption) ?_
                  rotate_left
                  · intro w hSw; (try dsimp only at hSw); go_simp; (try with_reducible rfl)
                  try dsimp only [List.getElem_toArray, List.getElem_cons_succ, List.getElem_cons_zero]
                  simp only [Act.put, List.setIfInBounds_toArray, List.set_cons_zero, List.set_cons_succ]
                  refine wpAnyH_take (i := 17) (oi := _) (v := ?_) rfl (by kernel_rfl) (by kernel_rfl) (by kernel_rfl) (fun _ _ _ h => h) (Or.inl ⟨by rfl, ?_⟩) (by assumption) ?_
                  rotate_left
                  · intro w hSw; (try dsimp only at hSw); go_simp; (try with_reducible rfl)
                  try dsimp only [List.getElem_toArray, List.getElem_cons_succ, List.getElem_cons_zero]
                  simp only [Act.put, List.setIfInBounds_toArray, List.set_cons_zero, List.set_cons_succ]
                  refine wpAnyH_take (i := 18) (oi := _) (v := ?_) rfl (by kernel_rfl) (by kernel_rfl) (by kernel_rfl) (fun _ _ _ h => h) (Or.inl ⟨by rfl, ?_⟩) (by assumption) ?_
                  rotate_left
                  · intro w hSw; (try dsimp only at hSw); go_simp; (try with_reducible rfl)
                  try dsimp only [List.getElem_toArray, List.getElem_cons_succ, List.getElem_cons_zero]
                  simp only [Act.put, List.setIfInBounds_toArray, List.set_cons_zero, List.set_cons_succ]
                  refine wpAnyH_done (by kernel_rfl) ?_ _
                  go_wp2_with fail
                  go_roundw
                  case rel => exact ⟨x + 1, zs.set I ((b1 + 2 * b2 + b3 + 2) / 4), by go_num, by omega, by rw [List.length_set]; exact HZ.out, hFk.out _ HVV.out.symm, by repeat (first | (with_reducible apply PsS.adds) | (with_reducible apply PsS.drewN) | (with_reducible apply PsS.drew) | exact PsS.set HST.out hwg I _ | refine PsS.set ?_ hwg I _ | exact HST.out)⟩
                  case measure => simp [intOf]; omega
                exact AllReadyH.nil
              exact AllReadyH.nil
            exact AllReadyH.nil
          · obtain rfl : x = 4 := by omega
            go_wp2_with fail
            go_roundw
            case rel => exact ⟨y + 1, zs, by go_num, by omega, HZ.out, fun i hi => HF.out i (by omega), HST.out⟩
            case measure => simp [intOf]; omega
      · obtain rfl : y = 4 := by omega
        have hpl := pL_of HZ0.out (fun i hi => by have h9 := HF0.out i (by omega); rw [HFF.out] at h9; exact h9)
        have HP := Lib.hid hpl
        clear hpl
        have hst := HST0.out
        go_upto_region 21 with fail
        refine wp_region_lit ?_
        refine wpList_load_sub rfl 28 (.tmp 5) rfl (w.heap.size + 1 + 1) 0 16 rfl 28 zs (0, 0) _ hst.b Try.underlying28 rfl infoA16 (by rw [HZ0.out]; exact Nat.le_refl _) ?_
        rw [show sub zs 0 16 = zs by rw [← HZ0.out]; exact sub_all zs]
        refine wpList_store_sub rfl 28 (.tmp 4) (.tmp 81) rfl (w.heap.size + 1) 0 zs rfl rfl 28 z16 hst.r (by rw [HZ0.out]; exact infoA16) (by rw [HZ0.out]; decide) ?_
        rw [spl_full (by rw [HZ0.out]; rfl)]
        go_wp2_with fail
        refine bodyPost_ret (v := .agg (rowI zs)) (by exact results_cell_row Try.results24 _ _ (w.heap.size + 1) 28 (rowI zs) (0, 0) _ rfl (hst.r.row (rowI zs)) Try.underlying28 rfl (by rw [rowI_size, HZ0.out]; exact infoA16)) rfl ?_
        exact ⟨by rw [← HP.out], below_row hst.below hst.below.size (by omega) _⟩
  · clear hmi
    unfold eA at CM ⊢
    go_enter Try.func24, Try.ntmps24
    go_upto_region 2 with fail
    refine all_add' ?_
    intro Z hZ
    have T1 := Lib.hid (show PsS w.heap.size f g c u l w z16 Z from hZ ▸ HT0.out)
    have hst := T1.out
    clear hZ HT0
    have e0 : Z.cell? ⟨w.heap.size, 0, none⟩ = some (.int .i64 (f 0)) := hst.e.get rfl
    have e1 : Z.cell? ⟨w.heap.size, 1, none⟩ = some (.int .i64 (f 1)) := hst.e.get rfl
    have e2 : Z.cell? ⟨w.heap.size, 2, none⟩ = some (.int .i64 (f 2)) := hst.e.get rfl
    have e3 : Z.cell? ⟨w.heap.size, 3, none⟩ = some (.int .i64 (f 3)) := hst.e.get rfl
    have e4 : Z.cell? ⟨w.heap.size, 4, none⟩ = some (.int .i64 (g 0)) := hst.e.get rfl
    have e5 : Z.cell? ⟨w.heap.size, 5, none⟩ = some (.int .i64 (g 1)) := hst.e.get rfl
    have e6 : Z.cell? ⟨w.heap.size, 6, none⟩ = some (.int .i64 (g 2)) := hst.e.get rfl
    have e7 : Z.cell? ⟨w.heap.size, 7, none⟩ = some (.int .i64 (g 3)) := hst.e.get rfl
    have e8 : Z.cell? ⟨w.heap.size, 8, none⟩ = some (.int .i64 c) := hst.e.get rfl
    have e9 : Z.cell? ⟨w.heap.size, 9, none⟩ = some (.bool u) := hst.e.get rfl
    have e10 : Z.cell? ⟨w.heap.size, 10, none⟩ = some (.bool l) := hst.e.get rfl
    go_upto_region 3 with (go_at_call 40; refine (CM.out _).mono ?_; rintro e w' ⟨rfl, hb⟩; obtain ⟨o1, n1, rfl⟩ := below_adds hb; clear hb)
    have T2 := Lib.hid (hst.adds o1 n1)
    clear hst T1 e0 e1 e2 e3 e4 e5 e6 e7 e8 e9 e10
    generalize addsW Z o1 n1 = Y at T2 ⊢
    go_wp2_with fail
    go_loopw [7] (fun v wr => ∃ (y : Nat) (zs : List Int), v = .int .i64 (y : Int) ∧ y ≤ 4 ∧ zs.length = 16 ∧ (∀ i, i < 4 * y → zs.getD i 0 = F (i % 4) (i / 4)) ∧ PsS w.heap.size f g c u l w zs wr) (fun v _ => 4 - (intOf v).toNat)
    case atStart => exact ⟨0, z16, rfl, by omega, rfl, fun i hi => by omega, T2.out⟩
    case round =>
      clear T2
      obtain ⟨y, zs, rfl, hy, hz, hf, hst⟩ := hrel
      have HF0 := Lib.hid hf
      have HZ0 := Lib.hid hz
      have HST0 := Lib.hid hst
      clear hf hz hst
      by_cases hlt : y < 4
      · have hd1 : (y : Int) < 4 := by omega
        go_wp2_with fail
        go_loopw [8] (fun v wr2 => ∃ (x : Nat) (zs : List Int), v = .int .i64 (x : Int) ∧ x ≤ 4 ∧ zs.length = 16 ∧ (∀ i, i < 4 * y + x → zs.getD i 0 = F (i % 4) (i / 4)) ∧ PsS w.heap.size f g c u l w zs wr2) (fun v _ => 4 - (intOf v).toNat)
        case atStart => exact ⟨0, zs, rfl, by omega, HZ0.out, HF0.out, HST0.out⟩
        case round =>
          clear HF0 HZ0 HST0
          clear zs
          obtain ⟨x, zs, rfl, hx, hz, hf, hst⟩ := hrel
          have HF := Lib.hid hf
          have HZ := Lib.hid hz
          have HST := Lib.hid hst
          clear hf hz
          by_cases hltx : x < 4
          · skip
            have hd2 : (x : Int) < 4 := by omega
            have mu := hst.e.get (eA_up (f := f) (g := g) (c := c) (u := u) (l := l) hltx)
            have ml := hst.e.get (eA_left (f := f) (g := g) (c := c) (u := u) (l := l) hlt)
            have mc : wr.cell? ⟨w.heap.size, 8, none⟩ = some (.int .i64 c) := hst.e.get rfl
            obtain ⟨I, hI⟩ : ∃ I, I = 4 * y + x := ⟨_, rfl⟩
            have hIi : 4 * (y : Int) + (x : Int) = (I : Int) := by omega
            have hIl : (I : Int) < 16 := by omega
            have bk := hst.b.get (rowI_get (zs := zs) (j := I) (by rw [HZ.out]; omega))
            have bf := hst.b.hot I
            have le := hst.e.lt
            have lb := hst.b.lt
            clear hst
            generalize zs.getD I 0 = old at bk
            have hFk := Lib.hid (show ∀ v, v = F x y → ∀ i, i < 4 * y + (x + 1) → (zs.set I v).getD i 0 = F (i % 4) (i / 4) from fun v hv i hi => set_ok (F := fun i => F (i % 4) (i / 4)) HZ.out (show I < 16 by omega) (fun i hi => HF.out i (by omega)) (by rw [hv, show I % 4 = x by omega, show I / 4 = y by omega]) i (by omega))
            have q1 := HOK.out.1 x hltx
            have q2 := HOK.out.2.1 y hlt
            have q3 := HOK.out.2.2
            have HVV0 := Lib.hid (show F x y = min (max (f x + g y - c) 0) 255 from by rw [HFF.out]; rfl)
            generalize f x = v1 at mu q1 HVV0
            generalize g y = v2 at ml q2 HVV0
            have HVV := Lib.hid (show F x y = max 0 (min 255 (v1 + v2 - c)) from by rw [HVV0.out]; omega)
            have w1 : IntKind.i64.wrap (v1 + v2) = v1 + v2 := IntWalk.i64_in _ (by omega)
            have w2 : IntKind.i64.wrap (v1 + v2 - c) = v1 + v2 - c := IntWalk.i64_in _ (by omega)
            clear hI
            go_upto_region 19 with fail
            go_quiet (first | (go_at_call 42; exact Calls.quiet_of_same ((S_l1Clip (v1 + v2 - c) 0 255 _).mono fun _ _ h => ⟨h.1, h.2.symm⟩)))
            go_wp2_with fail
            go_roundw
            case rel => exact ⟨x + 1, zs.set I (max 0 (min 255 (v1 + v2 - c))), by go_num, by omega, by rw [List.length_set]; exact HZ.out, hFk.out _ HVV.out.symm, by repeat (first | (with_reducible apply PsS.adds) | (with_reducible apply PsS.drewN) | (with_reducible apply PsS.drew) | exact PsS.set HST.out hwg I _ | refine PsS.set ?_ hwg I _ | exact HST.out)⟩
            case measure => simp [intOf]; omega
          · obtain rfl : x = 4 := by omega
            go_wp2_with fail
            go_roundw
            case rel => exact ⟨y + 1, zs, by go_num, by omega, HZ.out, fun i hi => HF.out i (by omega), HST.out⟩
            case measure => simp [intOf]; omega
      · obtain rfl : y = 4 := by omega
        have hpl := pL_of HZ0.out (fun i hi => by have h9 := HF0.out i (by omega); rw [HFF.out] at h9; exact h9)
        have HP := Lib.hid hpl
        clear hpl
        have hst := HST0.out
        go_upto_region 21 with fail
        refine wp_region_lit ?_
        refine wpList_load_sub rfl 28 (.tmp 5) rfl (w.heap.size + 1 + 1) 0 16 rfl 28 zs (0, 0) _ hst.b Try.underlying28 rfl infoA16 (by rw [HZ0.out]; exact Nat.le_refl _) ?_
        rw [show sub zs 0 16 = zs by rw [← HZ0.out]; exact sub_all zs]
        refine wpList_store_sub rfl 28 (.tmp 4) (.tmp 81) rfl (w.heap.size + 1) 0 zs rfl rfl 28 z16 hst.r (by rw [HZ0.out]; exact infoA16) (by rw [HZ0.out]; decide) ?_
        rw [spl_full (by rw [HZ0.out]; rfl)]
        go_wp2_with fail
        refine bodyPost_ret (v := .agg (rowI zs)) (by exact results_cell_row Try.results24 _ _ (w.heap.size + 1) 28 (rowI zs) (0, 0) _ rfl (hst.r.row (rowI zs)) Try.underlying28 rfl (by rw [rowI_size, HZ0.out]; exact infoA16)) rfl ?_
        exact ⟨by rw [← HP.out], below_row hst.below hst.below.size (by omega) _⟩

end Go.Proofs.Ythnigldbpikcaaa
