/- Blocks of a picture and of a macroblock's samples. -/
import Derived.Test.YtijccageaingjaaDoorTrfI
import Derived.Test.YtijccageaingjaaDoorTrfJ
import Derived.Test.YtijccageaingjaaDoorCostM
namespace Go.Proofs.YtijccageaingjaaDoor
open Go.RowKit
set_option linter.unusedVariables false
set_option linter.unusedSimpArgs false

attribute [local go_sem] size_addsW cell?_addsW frozen?_addsW setCell_addsW drew_addsW adds_addsW setCell_twice alloc_adds0 size_adds0 adds_adds0 sel2 sel3 sel4 sel5 sel6 sel7 sel8 sel9 lt_more lt_more2 lt_more3 lt_more4 adds_drew adds_drewN drewN_addsW ltA_1_1 ltA_1_2 ltA_1_3 ltA_1_4 ltA_1_5 ltA_1_6 ltA_2_1 ltA_2_2 ltA_2_3 ltA_2_4 ltA_2_5 ltA_2_6 ltA_3_1 ltA_3_2 ltA_3_3 ltA_3_4 ltA_3_5 ltA_3_6 ltA_4_1 ltA_4_2 ltA_4_3 ltA_4_4 ltA_4_5 ltA_4_6 ltA_5_1 ltA_5_2 ltA_5_3 ltA_5_4 ltA_5_5 ltA_5_6 ltA_6_1 ltA_6_2 ltA_6_3 ltA_6_4 ltA_6_5 ltA_6_6 ltA_7_1 ltA_7_2 ltA_7_3 ltA_7_4 ltA_7_5 ltA_7_6 ltA_8_1 ltA_8_2 ltA_8_3 ltA_8_4 ltA_8_5 ltA_8_6 ltA_9_1 ltA_9_2 ltA_9_3 ltA_9_4 ltA_9_5 ltA_9_6 ltA_10_1 ltA_10_2 ltA_10_3 ltA_10_4 ltA_10_5 ltA_10_6 ltA_11_1 ltA_11_2 ltA_11_3 ltA_11_4 ltA_11_5 ltA_11_6 ltA_12_1 ltA_12_2 ltA_12_3 ltA_12_4 ltA_12_5 ltA_12_6

def mp (F : Nat → Int) : List Int := (List.range 16).map F
theorem mp_len (F : Nat → Int) : (mp F).length = 16 := by simp [mp]
theorem mp_get (F : Nat → Int) {i : Nat} (h : i < 16) : (mp F).getD i 0 = F i := by
  simp [mp, List.getD_eq_getElem?_getD, List.getElem?_map, List.getElem?_range, h]
theorem mp_of {F : Nat → Int} {zs : List Int} (hz : zs.length = 16) (h : ∀ i, i < 16 → zs.getD i 0 = F i) : zs = mp F := by
  apply List.ext_getElem?
  intro i
  by_cases hi : i < 16
  · have h1 := h i hi
    rw [List.getD_eq_getElem?_getD, List.getElem?_eq_getElem (by omega), Option.getD_some] at h1
    rw [List.getElem?_eq_getElem (by omega), h1]
    simp [mp, List.getElem?_map, List.getElem?_range, hi]
  · rw [List.getElem?_eq_none (by omega), List.getElem?_eq_none (by rw [mp_len]; omega)]
/-- a block of a picture; a block of a macroblock's samples -/
def pcF (a b : Int) (zs : List Int) (X Y : Int) (i : Nat) : Int := pix a b zs (X + ((i % 4 : Nat) : Int)) (Y + ((i / 4 : Nat) : Int))
def poF (L : List Int) (x y : Nat) (i : Nat) : Int := L.getD ((y + i / 4) * 8 + x + i % 4) 0

structure PtI (G : Nat) (a b : Int) (A : Option Addr) (n c : Nat) (C : List Int) (w W : World) : Prop where
  p : Blk W G #[.int .i64 a, .int .i64 b, .slice A n c] 35
  r : Blk W (G + 1) (rowI z16) 30
  b : Blk W (G + 1 + 1) (rowI C) 30
  below : Below w.heap.size w W
theorem PtI.start (w : World) (a b : Int) (A : Option Addr) (n c : Nat) : PtI w.heap.size a b A n c z16 w (((w.alloc (.cells #[.int .i64 a, .int .i64 b, .slice A n c] 35)).alloc (.cells (rowI z16) 30)).alloc (.cells (rowI z16) 30)) :=
  ⟨((Blk.new w _ _ _ rfl).alloc _).alloc _, (Blk.new _ _ _ _ (by simp)).alloc _, Blk.new _ _ _ _ (by simp), (by repeat' (first | (with_reducible exact Below.refl _ _) | (with_reducible refine Below.adds_ ?_ ?_ _ _) | (with_reducible refine Below.alloc ?_ ?_ _) | (with_reducible refine Below.drew ?_) | (with_reducible refine Below.setCell ?_ ?_ _) | (with_reducible assumption) | go_size | (simp only [size_addsW, World.size_alloc, World.size_drew, World.size_setCell]; omega)))⟩
theorem PtI.adds {G : Nat} {a b : Int} {A : Option Addr} {n c : Nat} {C : List Int} {w W : World} (h : PtI G a b A n c C w W) (os : Array Obj) (m : Nat) : PtI G a b A n c C w (addsW W os m) := ⟨h.p.adds os m, h.r.adds os m, h.b.adds os m, Below.adds_ h.below h.below.size os m⟩
theorem PtI.set {G : Nat} {a b : Int} {A : Option Addr} {n c : Nat} {C : List Int} {w W : World} (h : PtI G a b A n c C w W) (hg : w.heap.size ≤ G) (i : Nat) (v : Int) : PtI G a b A n c (C.set i v) w (W.setCell ⟨G + 1 + 1, i, none⟩ (.int .i64 v)) :=
  ⟨h.p.other (by simp only; omega) _, h.r.other (by simp only; omega) _, by have := h.b.set i (.int .i64 v); rwa [rowI_set] at this, h.below.setCell (by simp only; omega) _⟩

set_option maxRecDepth 100000 in
set_option maxHeartbeats 4000000 in
theorem I_part (a b X0 Y0 : Int) (A : Option Addr) (c : Nat) (zs : List Int) (w : World) (hr : RowAt .i64 w A zs) (ha : 8 ≤ a ∧ a ≤ 32) (hb : 8 ≤ b ∧ b ≤ 32) (hz : (zs.length : Int) = a * b) (hx : -1000 ≤ X0 ∧ X0 ≤ 1000) (hy : -1000 ≤ Y0 ∧ Y0 ≤ 1000) :
    Calls Tryd.prog 26 #[.agg #[.int .i64 a, .int .i64 b, .slice A zs.length c], .int .i64 X0, .int .i64 Y0] w fun e w' => e = .returned (.agg (rowI (mp (pcF a b zs X0 Y0)))) ∧ Below w.heap.size w w' := by
  have HR := Lib.hid hr
  have CAT := Lib.hid (show ∀ x y W, Below w.heap.size w W → Calls Tryd.prog 42 #[.agg #[.int .i64 a, .int .i64 b, .slice A zs.length c], .int .i64 x, .int .i64 y] W fun e w' => e = .returned (.int .i64 (pix a b zs x y)) ∧ Below W.heap.size W w' from fun x y W hW => I_at a b x y A c zs W (hr.keep hW) ha hb hz)
  clear hr hz ha hb
  have hwg : w.heap.size ≤ w.heap.size := Nat.le_refl _
  obtain ⟨n, hn⟩ : ∃ n, n = zs.length := ⟨_, rfl⟩
  rw [← hn] at CAT ⊢
  clear hn
  have HT0 := Lib.hid (PtI.start w a b A n c)
  obtain ⟨F, hF⟩ : ∃ F, F = pcF a b zs X0 Y0 := ⟨_, rfl⟩
  rw [← hF]
  have HFF := Lib.hid hF
  clear hF
  go_enter Tryd.func26, Tryd.ntmps26
  go_upto_region 2 with fail
  refine all_add' ?_
  intro Z hZ
  have T1 := Lib.hid (show PtI w.heap.size a b A n c z16 w Z from hZ ▸ HT0.out)
  clear hZ HT0
  go_wp2_with fail
  go_loopw [9] (fun v wr => ∃ (k : Nat) (ds : List Int), v = .int .i64 (k : Int) ∧ k ≤ 16 ∧ ds.length = 16 ∧ (∀ i, i < k → ds.getD i 0 = F i) ∧ PtI w.heap.size a b A n c ds w wr) (fun v _ => 16 - (intOf v).toNat)
  case atStart => exact ⟨0, z16, rfl, by omega, rfl, fun i hi => by omega, T1.out⟩
  case round =>
    clear T1
    obtain ⟨k, ds, rfl, hk, hd, hf, hst⟩ := hrel
    have HF := Lib.hid hf
    have HD := Lib.hid hd
    have HST := Lib.hid hst
    clear hd hf
    by_cases hlt : k < 16
    · have hd1 : (k : Int) < 16 := by omega
      have e0 : wr.cell? ⟨w.heap.size, 0, none⟩ = some (.int .i64 a) := hst.p.get rfl
      have e1 : wr.cell? ⟨w.heap.size, 1, none⟩ = some (.int .i64 b) := hst.p.get rfl
      have e2 : wr.cell? ⟨w.heap.size, 2, none⟩ = some (.slice A n c) := hst.p.get rfl
      have bk := hst.b.get (rowI_get (zs := ds) (j := k) (by rw [HD.out]; exact hlt))
      have bf := hst.b.hot k
      have lp := hst.p.lt
      have lb := hst.b.lt
      have hbw := Lib.hid hst.below
      clear hst
      generalize ds.getD k 0 = old at bk
      obtain ⟨X, hX⟩ : ∃ X, X = k % 4 := ⟨_, rfl⟩
      obtain ⟨Y, hY⟩ : ∃ Y, Y = k / 4 := ⟨_, rfl⟩
      have hX4 : X < 4 := by omega
      have hY4 : Y < 4 := by omega
      have x1 : (k : Int).tmod 4 = (X : Int) := by rw [Int.tmod_eq_emod_of_nonneg (by omega)]; omega
      have x2 : (k : Int) % 4 = (X : Int) := by omega
      have y1 : (k : Int).tdiv 4 = (Y : Int) := by rw [Int.tdiv_eq_ediv_of_nonneg (by omega)]; omega
      have y2 : (k : Int) / 4 = (Y : Int) := by omega
      have x3 : IntKind.i64.wrap (X : Int) = (X : Int) := IntWalk.i64_in _ (by omega)
      have y3 : IntKind.i64.wrap (Y : Int) = (Y : Int) := IntWalk.i64_in _ (by omega)
      obtain ⟨x5, hx5⟩ : ∃ x5, x5 = X0 + (X : Int) := ⟨_, rfl⟩
      obtain ⟨y5, hy5⟩ : ∃ y5, y5 = Y0 + (Y : Int) := ⟨_, rfl⟩
      have x4 : IntKind.i64.wrap (X0 + (X : Int)) = x5 := hx5 ▸ IntWalk.i64_in _ (by omega)
      have y4 : IntKind.i64.wrap (Y0 + (Y : Int)) = y5 := hy5 ▸ IntWalk.i64_in _ (by omega)
      have hFk := Lib.hid (show ∀ i, i < k + 1 → (ds.set k (pix a b zs x5 y5)).getD i 0 = F i from set_ok (F := F) HD.out hlt HF.out (by rw [HFF.out, pcF, ← hX, ← hY, hx5, hy5]))
      clear hX hY hx5 hy5
      go_wp2_with (go_at_call 42; (with_reducible refine (CAT.out _ _ _ hbw.out).mono ?_); rintro e w' ⟨rfl, hb⟩; obtain ⟨o1, n1, rfl⟩ := below_adds hb; clear hb)
      go_roundw
      case rel => exact ⟨k + 1, ds.set k (pix a b zs x5 y5), by go_num, by omega, by rw [List.length_set]; exact HD.out, hFk.out, by first | exact (PtI.set HST.out hwg k _).adds _ _ | exact PtI.set (HST.out.adds _ _) hwg k _⟩
      case measure => simp [intOf]; omega
    · obtain rfl : k = 16 := by omega
      have hpl := mp_of HD.out HF.out
      have HP := Lib.hid hpl
      clear hpl
      have hst := HST.out
      go_upto_region 7 with fail
      refine wp_region_lit ?_
      refine wpList_load_sub rfl 30 (.tmp 7) rfl (w.heap.size + 1 + 1) 0 16 rfl 30 ds (0, 0) _ hst.b Tryd.underlying30 rfl infoA16 (by rw [HD.out]; exact Nat.le_refl _) ?_
      rw [show sub ds 0 16 = ds by rw [← HD.out]; exact sub_all ds]
      refine wpList_store_sub rfl 30 (.tmp 6) (.tmp 25) rfl (w.heap.size + 1) 0 ds rfl rfl 30 z16 hst.r (by rw [HD.out]; exact infoA16) (by rw [HD.out]; decide) ?_
      rw [spl_full (by rw [HD.out]; rfl)]
      go_wp2_with fail
      refine bodyPost_ret (v := .agg (rowI ds)) (by exact results_cell_row Tryd.results26 _ _ (w.heap.size + 1) 30 (rowI ds) (0, 0) _ rfl (hst.r.row (rowI ds)) Tryd.underlying30 rfl (by rw [rowI_size, HD.out]; exact infoA16)) rfl ?_
      exact ⟨by rw [HP.out], below_row hst.below hst.below.size (by omega) _⟩

theorem I_partAt (k : Nat) (w : World) (hk : k < 4) :
    Calls Tryd.prog 23 #[.int .i64 (k : Int)] w fun e w' => e = .returned (.tuple #[.int .i64 ((k % 2 * 4 : Nat) : Int), .int .i64 ((k / 2 * 4 : Nat) : Int)]) ∧ w = w' := by
  rcases (show k = 0 ∨ k = 1 ∨ k = 2 ∨ k = 3 by omega) with rfl | rfl | rfl | rfl
  all_goals
    go_enter Tryd.func23, Tryd.ntmps23
    go_wp2
    go_returns
    exact ⟨rfl, rfl⟩

theorem B2.setB {G : Nat} {A B : List Int} {w W : World} (h : B2 G A B w W) (hg : w.heap.size ≤ G) (i : Nat) (v : Int) : B2 G A (B.set i v) w (W.setCell ⟨G + 1, i, none⟩ (.int .i64 v)) :=
  ⟨h.a.other (by simp only; omega) _, by have := h.b.set i (.int .i64 v); rwa [rowI_set] at this, h.below.setCell (by simp only; omega) _⟩

set_option maxRecDepth 100000 in
set_option maxHeartbeats 4000000 in
theorem I_partOf (L : List Int) (A : Option Addr) (c x y : Nat) (w : World) (hr : RowAt .i64 w A L) (hL : L.length = 64) (hx : x ≤ 4) (hy : y ≤ 4) :
    Calls Tryd.prog 27 #[.slice A 64 c, .int .i64 (x : Int), .int .i64 (y : Int)] w fun e w' => e = .returned (.agg (rowI (mp (poF L x y)))) ∧ Below w.heap.size w w' := by
  have HR := Lib.hid hr
  have HL := Lib.hid hL
  clear hr hL
  have hwg : w.heap.size ≤ w.heap.size := Nat.le_refl _
  have HT0 := Lib.hid (B2.start w z16 z16)
  obtain ⟨F, hF⟩ : ∃ F, F = poF L x y := ⟨_, rfl⟩
  rw [← hF]
  have HFF := Lib.hid hF
  clear hF
  go_enter Tryd.func27, Tryd.ntmps27
  go_upto_region 2 with fail
  refine all_add' ?_
  intro Z hZ
  have T1 := Lib.hid (show B2 w.heap.size z16 z16 w Z from hZ ▸ HT0.out)
  clear hZ HT0
  go_wp2_with fail
  go_loopw [9] (fun v wr => ∃ (k : Nat) (ds : List Int), v = .int .i64 (k : Int) ∧ k ≤ 16 ∧ ds.length = 16 ∧ (∀ i, i < k → ds.getD i 0 = F i) ∧ B2 w.heap.size z16 ds w wr) (fun v _ => 16 - (intOf v).toNat)
  case atStart => exact ⟨0, z16, rfl, by omega, rfl, fun i hi => by omega, T1.out⟩
  case round =>
    clear T1
    obtain ⟨k, ds, rfl, hk, hd, hf, hst⟩ := hrel
    have HF := Lib.hid hf
    have HD := Lib.hid hd
    have HST := Lib.hid hst
    clear hd hf
    by_cases hlt : k < 16
    · have hd1 : (k : Int) < 16 := by omega
      have bk := hst.b.get (rowI_get (zs := ds) (j := k) (by rw [HD.out]; exact hlt))
      have bf := hst.b.hot k
      have lb := hst.b.lt
      obtain ⟨X, hX⟩ : ∃ X, X = k % 4 := ⟨_, rfl⟩
      obtain ⟨Y, hY⟩ : ∃ Y, Y = k / 4 := ⟨_, rfl⟩
      have hX4 : X < 4 := by omega
      have hY4 : Y < 4 := by omega
      obtain ⟨I, hI⟩ : ∃ I, I = (y + Y) * 8 + x + X := ⟨_, rfl⟩
      have hI64 : I < 64 := by omega
      obtain ⟨g, off, q, rfl, hgl, hq, hc⟩ := (HR.out.keep hst.below).at_ (i := I) (by rw [HL.out]; exact hI64)
      clear hst
      generalize ds.getD k 0 = old at bk
      have x1 : (k : Int).tmod 4 = (X : Int) := by rw [Int.tmod_eq_emod_of_nonneg (by omega)]; omega
      have x2 : (k : Int) % 4 = (X : Int) := by omega
      have y1 : (k : Int).tdiv 4 = (Y : Int) := by rw [Int.tdiv_eq_ediv_of_nonneg (by omega)]; omega
      have y2 : (k : Int) / 4 = (Y : Int) := by omega
      have x3 : IntKind.i64.wrap (X : Int) = (X : Int) := IntWalk.i64_in _ (by omega)
      have y3 : IntKind.i64.wrap (Y : Int) = (Y : Int) := IntWalk.i64_in _ (by omega)
      obtain ⟨J, hJ⟩ : ∃ J : Nat, J = y + Y := ⟨_, rfl⟩
      obtain ⟨K, hK⟩ : ∃ K : Nat, K = J * 8 := ⟨_, rfl⟩
      obtain ⟨M, hM⟩ : ∃ M : Nat, M = K + x := ⟨_, rfl⟩
      have w1 : IntKind.i64.wrap ((y : Int) + (Y : Int)) = (J : Int) := by rw [show (y : Int) + (Y : Int) = (J : Int) by omega]; exact IntWalk.i64_in _ (by omega)
      have w2 : IntKind.i64.wrap ((J : Int) * 8) = (K : Int) := by rw [show (J : Int) * 8 = (K : Int) by omega]; exact IntWalk.i64_in _ (by omega)
      have w3 : IntKind.i64.wrap ((K : Int) + (x : Int)) = (M : Int) := by rw [show (K : Int) + (x : Int) = (M : Int) by omega]; exact IntWalk.i64_in _ (by omega)
      have w4 : IntKind.i64.wrap ((M : Int) + (X : Int)) = (I : Int) := by rw [show (M : Int) + (X : Int) = (I : Int) by omega]; exact IntWalk.i64_in _ (by omega)
      have hFk := Lib.hid (show ∀ i, i < k + 1 → (ds.set k q).getD i 0 = F i from set_ok (F := F) HD.out hlt HF.out (by rw [HFF.out, poF, ← hX, ← hY, ← hI, hq]))
      have hi0 : (0 : Int) ≤ (I : Int) := by omega
      have hi1 : (I : Int) < 64 := by omega
      clear hX hY hI hJ hK hM hq HFF
      go_wp2_with fail
      go_roundw
      case rel => exact ⟨k + 1, ds.set k q, by go_num, by omega, by rw [List.length_set]; exact HD.out, hFk.out, B2.setB HST.out hwg k _⟩
      case measure => simp [intOf]; omega
    · obtain rfl : k = 16 := by omega
      have hpl := mp_of HD.out HF.out
      have HP := Lib.hid hpl
      clear hpl
      have hst := HST.out
      go_upto_region 7 with fail
      refine wp_region_lit ?_
      refine wpList_load_sub rfl 30 (.tmp 7) rfl (w.heap.size + 1) 0 16 rfl 30 ds (0, 0) _ hst.b Tryd.underlying30 rfl infoA16 (by rw [HD.out]; exact Nat.le_refl _) ?_
      rw [show sub ds 0 16 = ds by rw [← HD.out]; exact sub_all ds]
      refine wpList_store_sub rfl 30 (.tmp 6) (.tmp 28) rfl w.heap.size 0 ds rfl rfl 30 z16 hst.a (by rw [HD.out]; exact infoA16) (by rw [HD.out]; decide) ?_
      rw [spl_full (by rw [HD.out]; rfl)]
      go_wp2_with fail
      refine bodyPost_ret (v := .agg (rowI ds)) (by exact results_cell_row Tryd.results27 _ _ w.heap.size 30 (rowI ds) (0, 0) _ rfl (hst.a.row (rowI ds)) Tryd.underlying30 rfl (by rw [rowI_size, HD.out]; exact infoA16)) rfl ?_
      exact ⟨by rw [HP.out], below_row hst.below hst.below.size (by omega) _⟩

set_option maxRecDepth 100000 in
set_option maxHeartbeats 4000000 in
theorem S_l8Part (L : List Int) (A : Option Addr) (c kb : Nat) (w : World) (hr : RowAt .i64 w A L) (hL : L.length = 64) (hkb : kb < 4) :
    Calls Tryd.prog 36 #[.slice A 64 c, .int .i64 (kb : Int)] w fun e w' => e = .returned (.agg (rowI (mp (poF L (kb % 2 * 4) (kb / 2 * 4))))) ∧ Below w.heap.size w w' := by
  have HR := Lib.hid hr
  have HL := Lib.hid hL
  clear hr hL
  have hwg : w.heap.size ≤ w.heap.size := Nat.le_refl _
  have HT0 := Lib.hid (B2.start w z16 z16)
  obtain ⟨xa, hxa⟩ : ∃ xa : Nat, xa = kb % 2 := ⟨_, rfl⟩
  obtain ⟨ya, hya⟩ : ∃ ya : Nat, ya = kb / 2 := ⟨_, rfl⟩
  obtain ⟨x, hx⟩ : ∃ x : Nat, x = kb % 2 * 4 := ⟨_, rfl⟩
  obtain ⟨y, hy⟩ : ∃ y : Nat, y = kb / 2 * 4 := ⟨_, rfl⟩
  obtain ⟨F, hF⟩ : ∃ F, F = poF L x y := ⟨_, rfl⟩
  rw [← hx, ← hy, ← hF]
  have HFF := Lib.hid hF
  clear hF
  have a1 : (kb : Int).tmod 2 = (xa : Int) := by rw [Int.tmod_eq_emod_of_nonneg (by omega)]; omega
  have a2 : (kb : Int) % 2 = (xa : Int) := by omega
  have a3 : (kb : Int).tdiv 2 = (ya : Int) := by rw [Int.tdiv_eq_ediv_of_nonneg (by omega)]; omega
  have a4 : (kb : Int) / 2 = (ya : Int) := by omega
  have a5 : IntKind.i64.wrap (xa : Int) = (xa : Int) := IntWalk.i64_in _ (by omega)
  have a6 : IntKind.i64.wrap (ya : Int) = (ya : Int) := IntWalk.i64_in _ (by omega)
  have a7 : IntKind.i64.wrap ((xa : Int) * 4) = (x : Int) := by rw [show (xa : Int) * 4 = (x : Int) by omega]; exact IntWalk.i64_in _ (by omega)
  have a8 : IntKind.i64.wrap ((ya : Int) * 4) = (y : Int) := by rw [show (ya : Int) * 4 = (y : Int) by omega]; exact IntWalk.i64_in _ (by omega)
  have hx4 : x ≤ 4 := by omega
  have hy4 : y ≤ 4 := by omega
  clear hxa hya hx hy
  go_enter Tryd.func36, Tryd.ntmps36
  go_upto_region 2 with fail
  refine all_add' ?_
  intro Z hZ
  have T1 := Lib.hid (show B2 w.heap.size z16 z16 w Z from hZ ▸ HT0.out)
  clear hZ HT0
  go_wp2_with fail
  go_loopw [6] (fun v wr => ∃ (k : Nat) (ds : List Int), v = .int .i64 (k : Int) ∧ k ≤ 16 ∧ ds.length = 16 ∧ (∀ i, i < k → ds.getD i 0 = F i) ∧ B2 w.heap.size z16 ds w wr) (fun v _ => 16 - (intOf v).toNat)
  case atStart => exact ⟨0, z16, rfl, by omega, rfl, fun i hi => by omega, T1.out⟩
  case round =>
    clear T1
    obtain ⟨k, ds, rfl, hk, hd, hf, hst⟩ := hrel
    have HF := Lib.hid hf
    have HD := Lib.hid hd
    have HST := Lib.hid hst
    clear hd hf
    by_cases hlt : k < 16
    · have hd1 : (k : Int) < 16 := by omega
      have bk := hst.b.get (rowI_get (zs := ds) (j := k) (by rw [HD.out]; exact hlt))
      have bf := hst.b.hot k
      have lb := hst.b.lt
      obtain ⟨X, hX⟩ : ∃ X, X = k % 4 := ⟨_, rfl⟩
      obtain ⟨Y, hY⟩ : ∃ Y, Y = k / 4 := ⟨_, rfl⟩
      have hX4 : X < 4 := by omega
      have hY4 : Y < 4 := by omega
      obtain ⟨I, hI⟩ : ∃ I, I = (y + Y) * 8 + x + X := ⟨_, rfl⟩
      have hI64 : I < 64 := by omega
      obtain ⟨g, off, q, rfl, hgl, hq, hc⟩ := (HR.out.keep hst.below).at_ (i := I) (by rw [HL.out]; exact hI64)
      clear hst
      generalize ds.getD k 0 = old at bk
      have x1 : (k : Int).tmod 4 = (X : Int) := by rw [Int.tmod_eq_emod_of_nonneg (by omega)]; omega
      have x2 : (k : Int) % 4 = (X : Int) := by omega
      have y1 : (k : Int).tdiv 4 = (Y : Int) := by rw [Int.tdiv_eq_ediv_of_nonneg (by omega)]; omega
      have y2 : (k : Int) / 4 = (Y : Int) := by omega
      have x3 : IntKind.i64.wrap (X : Int) = (X : Int) := IntWalk.i64_in _ (by omega)
      have y3 : IntKind.i64.wrap (Y : Int) = (Y : Int) := IntWalk.i64_in _ (by omega)
      obtain ⟨J, hJ⟩ : ∃ J : Nat, J = y + Y := ⟨_, rfl⟩
      obtain ⟨K, hK⟩ : ∃ K : Nat, K = J * 8 := ⟨_, rfl⟩
      obtain ⟨M, hM⟩ : ∃ M : Nat, M = K + x := ⟨_, rfl⟩
      have w1 : IntKind.i64.wrap ((y : Int) + (Y : Int)) = (J : Int) := by rw [show (y : Int) + (Y : Int) = (J : Int) by omega]; exact IntWalk.i64_in _ (by omega)
      have w2 : IntKind.i64.wrap ((J : Int) * 8) = (K : Int) := by rw [show (J : Int) * 8 = (K : Int) by omega]; exact IntWalk.i64_in _ (by omega)
      have w3 : IntKind.i64.wrap ((K : Int) + (x : Int)) = (M : Int) := by rw [show (K : Int) + (x : Int) = (M : Int) by omega]; exact IntWalk.i64_in _ (by omega)
      have w4 : IntKind.i64.wrap ((M : Int) + (X : Int)) = (I : Int) := by rw [show (M : Int) + (X : Int) = (I : Int) by omega]; exact IntWalk.i64_in _ (by omega)
      have hFk := Lib.hid (show ∀ i, i < k + 1 → (ds.set k q).getD i 0 = F i from set_ok (F := F) HD.out hlt HF.out (by rw [HFF.out, poF, ← hX, ← hY, ← hI, hq]))
      have hi0 : (0 : Int) ≤ (I : Int) := by omega
      have hi1 : (I : Int) < 64 := by omega
      clear hX hY hI hJ hK hM hq HFF
      go_wp2_with fail
      go_roundw
      case rel => exact ⟨k + 1, ds.set k q, by go_num, by omega, by rw [List.length_set]; exact HD.out, hFk.out, B2.setB HST.out hwg k _⟩
      case measure => simp [intOf]; omega
    · obtain rfl : k = 16 := by omega
      have hpl := mp_of HD.out HF.out
      have HP := Lib.hid hpl
      clear hpl
      have hst := HST.out
      go_upto_region 6 with fail
      refine wp_region_lit ?_
      refine wpList_load_sub rfl 30 (.tmp 5) rfl (w.heap.size + 1) 0 16 rfl 30 ds (0, 0) _ hst.b Tryd.underlying30 rfl infoA16 (by rw [HD.out]; exact Nat.le_refl _) ?_
      rw [show sub ds 0 16 = ds by rw [← HD.out]; exact sub_all ds]
      refine wpList_store_sub rfl 30 (.tmp 4) (.tmp 31) rfl w.heap.size 0 ds rfl rfl 30 z16 hst.a (by rw [HD.out]; exact infoA16) (by rw [HD.out]; decide) ?_
      rw [spl_full (by rw [HD.out]; rfl)]
      go_wp2_with fail
      refine bodyPost_ret (v := .agg (rowI ds)) (by exact results_cell_row Tryd.results36 _ _ w.heap.size 30 (rowI ds) (0, 0) _ rfl (hst.a.row (rowI ds)) Tryd.underlying30 rfl (by rw [rowI_size, HD.out]; exact infoA16)) rfl ?_
      exact ⟨by rw [HP.out], below_row hst.below hst.below.size (by omega) _⟩

set_option maxRecDepth 100000 in
set_option maxHeartbeats 4000000 in
theorem S_l8Minus (xs ys : List Int) (w : World) (hx : xs.length = 16) (hy : ys.length = 16) (hbx : bdL 255 xs) (hby : bdL 255 ys) :
    Calls Tryd.prog 35 #[.agg (rowI xs), .agg (rowI ys)] w fun e w' => e = .returned (.agg (rowI (dfL xs ys))) ∧ Below w.heap.size w w' := by
  have HX := Lib.hid hx
  have HY := Lib.hid hy
  have HBX := Lib.hid hbx
  have HBY := Lib.hid hby
  clear hx hy hbx hby
  have hwg : w.heap.size ≤ w.heap.size := Nat.le_refl _
  have HT0 := Lib.hid (T3.start w xs ys)
  go_enter Tryd.func35, Tryd.ntmps35
  go_upto_region 1 with fail
  refine all_add' ?_
  intro Z hZ
  have T1 := Lib.hid (show T3 w.heap.size xs ys z16 w Z from hZ ▸ HT0.out)
  clear hZ HT0
  go_wp2_with fail
  go_loopw [5] (fun v wr => ∃ (k : Nat) (zs : List Int), v = .int .i64 (k : Int) ∧ k ≤ 16 ∧ zs.length = 16 ∧ (∀ i, i < k → zs.getD i 0 = xs.getD i 0 - ys.getD i 0) ∧ (∀ i, k ≤ i → zs.getD i 0 = xs.getD i 0) ∧ T3 w.heap.size zs ys z16 w wr) (fun v _ => 16 - (intOf v).toNat)
  case atStart => exact ⟨0, xs, rfl, by omega, HX.out, fun i hi => by omega, fun i hi => rfl, T1.out⟩
  case round =>
    clear T1
    obtain ⟨k, zs, rfl, hk, hz, hf, hr, hst⟩ := hrel
    have HF := Lib.hid hf
    have HR := Lib.hid hr
    have HZ := Lib.hid hz
    have HST := Lib.hid hst
    clear hf hz hr
    by_cases hlt : k < 16
    · have hd1 : (k : Int) < 16 := by omega
      have b1 := hst.a.get (rowI_get (zs := zs) (j := k) (by rw [HZ.out]; exact hlt))
      have b2 := hst.a.hot k
      have b5 := hst.b.get (rowI_get (zs := ys) (j := k) (by rw [HY.out]; exact hlt))
      have b3 := HBX.out k
      have b4 := HBY.out k
      rw [HR.out k (Nat.le_refl _)] at b1
      have hFk := Lib.hid (show ∀ v, v = xs.getD k 0 - ys.getD k 0 → ∀ i, i < k + 1 → (zs.set k v).getD i 0 = xs.getD i 0 - ys.getD i 0 from fun v hv => set_ok (F := fun i => xs.getD i 0 - ys.getD i 0) HZ.out hlt HF.out hv)
      have la := hst.a.lt
      have lb := hst.b.lt
      clear hst
      generalize hp : xs.getD k 0 = p at b1 b3 hFk
      generalize hq : ys.getD k 0 = q at b4 b5 hFk
      have d1 : IntKind.i64.wrap (p - q) = p - q := IntWalk.i64_in _ (by omega)
      clear hp hq
      go_wp2_with fail
      go_region
      go_wp2_with fail
      go_roundw
      case rel => exact ⟨k + 1, zs.set k (p - q), by go_num, by omega, by rw [List.length_set]; exact HZ.out, hFk.out _ rfl, set_rest _ HR.out, by repeat (first | (with_reducible apply T3.drewN) | (with_reducible apply T3.drew) | exact T3.setA HST.out hwg k _ | refine T3.setA ?_ hwg k _ | exact HST.out)⟩
      case measure => simp [intOf]; omega
    · obtain rfl : k = 16 := by omega
      have HD := Lib.hid (dfL_of HZ.out HF.out)
      have hst := HST.out
      go_upto_region 5 with fail
      refine wp_region_lit ?_
      refine wpList_load_sub rfl 30 (.tmp 2) rfl w.heap.size 0 16 rfl 30 zs (0, 0) _ hst.a Tryd.underlying30 rfl infoA16 (by rw [HZ.out]; exact Nat.le_refl _) ?_
      rw [show sub zs 0 16 = zs by rw [← HZ.out]; exact sub_all zs]
      refine wpList_store_sub rfl 30 (.tmp 4) (.tmp 19) rfl (w.heap.size + 1 + 1) 0 zs rfl rfl 30 z16 hst.c (by rw [HZ.out]; exact infoA16) (by rw [HZ.out]; decide) ?_
      rw [spl_full (by rw [HZ.out]; rfl)]
      go_wp2_with fail
      refine bodyPost_ret (v := .agg (rowI zs)) (by exact results_cell_row Tryd.results35 _ _ (w.heap.size + 1 + 1) 30 (rowI zs) (0, 0) _ rfl (hst.c.row (rowI zs)) Tryd.underlying30 rfl (by rw [rowI_size, HZ.out]; exact infoA16)) rfl ?_
      exact ⟨by rw [← HD.out], below_row hst.below hst.below.size (by omega) _⟩

end Go.Proofs.YtijccageaingjaaDoor
