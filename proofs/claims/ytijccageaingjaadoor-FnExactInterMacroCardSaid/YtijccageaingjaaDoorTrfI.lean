/- The transform, the program's: whole. -/
import Derived.Test.YtijccageaingjaaDoorTrfB
import Derived.Test.YtijccageaingjaaDoorFilter
import Derived.Test.YtijccageaingjaaDoorArm
import Derived.Deep.QuietTactic
import Derived.BigQuiet
namespace Go.Proofs.YtijccageaingjaaDoor
open Go.RowKit
set_option linter.unusedVariables false
set_option linter.unusedSimpArgs false

attribute [local go_sem] size_addsW cell?_addsW frozen?_addsW setCell_addsW drew_addsW adds_addsW setCell_twice alloc_adds0 size_adds0 adds_adds0 sel2 sel3 sel4 sel5 sel6 sel7 sel8 sel9 lt_more lt_more2 lt_more3 lt_more4 adds_drew adds_drewN drewN_addsW ltA_1_1 ltA_1_2 ltA_1_3 ltA_1_4 ltA_1_5 ltA_1_6 ltA_2_1 ltA_2_2 ltA_2_3 ltA_2_4 ltA_2_5 ltA_2_6 ltA_3_1 ltA_3_2 ltA_3_3 ltA_3_4 ltA_3_5 ltA_3_6 ltA_4_1 ltA_4_2 ltA_4_3 ltA_4_4 ltA_4_5 ltA_4_6 ltA_5_1 ltA_5_2 ltA_5_3 ltA_5_4 ltA_5_5 ltA_5_6 ltA_6_1 ltA_6_2 ltA_6_3 ltA_6_4 ltA_6_5 ltA_6_6 ltA_7_1 ltA_7_2 ltA_7_3 ltA_7_4 ltA_7_5 ltA_7_6 ltA_8_1 ltA_8_2 ltA_8_3 ltA_8_4 ltA_8_5 ltA_8_6 ltA_9_1 ltA_9_2 ltA_9_3 ltA_9_4 ltA_9_5 ltA_9_6 ltA_10_1 ltA_10_2 ltA_10_3 ltA_10_4 ltA_10_5 ltA_10_6 ltA_11_1 ltA_11_2 ltA_11_3 ltA_11_4 ltA_11_5 ltA_11_6 ltA_12_1 ltA_12_2 ltA_12_3 ltA_12_4 ltA_12_5 ltA_12_6

structure T3 (G : Nat) (A B C : List Int) (w W : World) : Prop where
  a : Blk W G (rowI A) 30
  b : Blk W (G + 1) (rowI B) 30
  c : Blk W (G + 1 + 1) (rowI C) 30
  below : Below w.heap.size w W
theorem T3.start (w : World) (A B : List Int) : T3 w.heap.size A B z16 w (((w.alloc (.cells (rowI A) 30)).alloc (.cells (rowI B) 30)).alloc (.cells (rowI z16) 30)) :=
  ⟨((Blk.new w _ _ _ rfl).alloc _).alloc _, (Blk.new _ _ _ _ (by simp)).alloc _, Blk.new _ _ _ _ (by simp), (by repeat' (first | (with_reducible exact Below.refl _ _) | (with_reducible refine Below.adds_ ?_ ?_ _ _) | (with_reducible refine Below.alloc ?_ ?_ _) | (with_reducible refine Below.drew ?_) | (with_reducible refine Below.setCell ?_ ?_ _) | (with_reducible assumption) | go_size | (simp only [size_addsW, World.size_alloc, World.size_drew, World.size_setCell]; omega)))⟩
theorem T3.adds {G : Nat} {A B C : List Int} {w W : World} (h : T3 G A B C w W) (os : Array Obj) (n : Nat) : T3 G A B C w (addsW W os n) := ⟨h.a.adds os n, h.b.adds os n, h.c.adds os n, Below.adds_ h.below h.below.size os n⟩
theorem T3.drew {G : Nat} {A B C : List Int} {w W : World} (h : T3 G A B C w W) : T3 G A B C w W.drew := ⟨h.a.drew, h.b.drew, h.c.drew, h.below.drew⟩
theorem T3.drewN {G : Nat} {A B C : List Int} {w W : World} (h : T3 G A B C w W) (n : Nat) : T3 G A B C w (W.drewN n) := ⟨h.a, h.b, h.c, h.below.trans ((drewNb W n).mono h.below.size)⟩
theorem T3.setA {G : Nat} {A B C : List Int} {w W : World} (h : T3 G A B C w W) (hg : w.heap.size ≤ G) (i : Nat) (v : Int) : T3 G (A.set i v) B C w (W.setCell ⟨G, i, none⟩ (.int .i64 v)) :=
  ⟨by have := h.a.set i (.int .i64 v); rwa [rowI_set] at this, h.b.other (by simp only; omega) _, h.c.other (by simp only; omega) _, h.below.setCell (by simp only; omega) _⟩
theorem T3.setC {G : Nat} {A B C : List Int} {w W : World} (h : T3 G A B C w W) (hg : w.heap.size ≤ G) (i : Nat) (v : Int) : T3 G A B (C.set i v) w (W.setCell ⟨G + 1 + 1, i, none⟩ (.int .i64 v)) :=
  ⟨h.a.other (by simp only; omega) _, h.b.other (by simp only; omega) _, by have := h.c.set i (.int .i64 v); rwa [rowI_set] at this, h.below.setCell (by simp only; omega) _⟩
theorem set_rest {zs xs : List Int} {k : Nat} (v : Int) (h : ∀ i, k ≤ i → zs.getD i 0 = xs.getD i 0) : ∀ i, k + 1 ≤ i → (zs.set k v).getD i 0 = xs.getD i 0 := fun i hi => by
  rw [List.getD_eq_getElem?_getD, List.getElem?_set_ne (by omega), ← List.getD_eq_getElem?_getD]
  exact h i (by omega)

set_option maxRecDepth 100000 in
set_option maxHeartbeats 4000000 in
theorem I_difference (xs ys : List Int) (w : World) (hx : xs.length = 16) (hy : ys.length = 16) (hbx : bdL 255 xs) (hby : bdL 255 ys) :
    Calls Tryd.prog 25 #[.agg (rowI xs), .agg (rowI ys)] w fun e w' => e = .returned (.agg (rowI (dfL xs ys))) ∧ Below w.heap.size w w' := by
  have HX := Lib.hid hx
  have HY := Lib.hid hy
  have HBX := Lib.hid hbx
  have HBY := Lib.hid hby
  clear hx hy hbx hby
  have hwg : w.heap.size ≤ w.heap.size := Nat.le_refl _
  have HT0 := Lib.hid (T3.start w xs ys)
  go_enter Tryd.func25, Tryd.ntmps25
  go_upto_region 1 with fail
  refine all_add' ?_
  intro Z hZ
  have T1 := Lib.hid (show T3 w.heap.size xs ys z16 w Z from hZ ▸ HT0.out)
  clear hZ HT0
  have hst := T1.out
  go_wp2_with (focus ((with_reducible refine wpList_wanted ?_ (fun K hK => ?_)); rotate_left; (refine wp_load_sub 30 (.tmp 3) ?ho (w.heap.size + 1) 0 16 ?hx 30 ys (0, 0) _ ?hg Tryd.underlying30 rfl infoA16 ?hs (hK _ _ ?_)); (case ho => with_reducible rfl); (case hx => rfl); (case hg => exact hst.b); (case hs => rw [HY.out]; exact Nat.le_refl _); rw [show sub ys 0 16 = ys by rw [← HY.out]; exact sub_all ys]; rotate_left; rfl))
  clear hst
  go_loopw [8] (fun v wr => ∃ (k : Nat) (zs : List Int), v = .int .i64 (k : Int) ∧ k ≤ 16 ∧ zs.length = 16 ∧ (∀ i, i < k → zs.getD i 0 = xs.getD i 0 - ys.getD i 0) ∧ (∀ i, k ≤ i → zs.getD i 0 = xs.getD i 0) ∧ T3 w.heap.size zs ys z16 w wr) (fun v _ => 16 - (intOf v).toNat)
  case atStart => exact ⟨0, xs, rfl, by omega, HX.out, fun i hi => by omega, fun i hi => rfl, T1.out⟩
  case round =>
    clear T1
    obtain ⟨k, zs, rfl, hk, hz, hf, hr, hst⟩ := hrel
    have HF := Lib.hid hf
    have HR := Lib.hid hr
    have HZ := Lib.hid hz
    have HST := Lib.hid hst
    clear hf hz hr
    by_cases hlt : k < 16
    · have hd1 : (k : Int) < 16 := by omega
      have b1 := hst.a.get (rowI_get (zs := zs) (j := k) (by rw [HZ.out]; exact hlt))
      have b2 := hst.a.hot k
      have b3 := HBX.out k
      have b4 := HBY.out k
      rw [HR.out k (Nat.le_refl _)] at b1
      have hidx : ∀ W, (Instr.index 30 (.agg (rowI ys)) (.int .i64 (k : Int))).run Tryd.prog W = .ok (.int .i64 (ys.getD k 0)) W := fun W => run_index_int W 30 3 16 Tryd.underlying30 Tryd.underlying3 (by kernel_rfl) ys k hlt HY.out
      have hFk := Lib.hid (show ∀ v, v = xs.getD k 0 - ys.getD k 0 → ∀ i, i < k + 1 → (zs.set k v).getD i 0 = xs.getD i 0 - ys.getD i 0 from fun v hv => set_ok (F := fun i => xs.getD i 0 - ys.getD i 0) HZ.out hlt HF.out hv)
      have la := hst.a.lt
      clear hst
      generalize hp : xs.getD k 0 = p at b1 b3 hFk
      generalize hq : ys.getD k 0 = q at b4 hFk hidx
      have d1 : IntKind.i64.wrap (p - q) = p - q := IntWalk.i64_in _ (by omega)
      clear hp hq
      go_wp2_with fail
      go_roundw
      case rel => exact ⟨k + 1, zs.set k (p - q), by go_num, by omega, by rw [List.length_set]; exact HZ.out, hFk.out _ rfl, set_rest _ HR.out, T3.setA HST.out hwg k _⟩
      case measure => simp [intOf]; omega
    · obtain rfl : k = 16 := by omega
      have HD := Lib.hid (dfL_of HZ.out HF.out)
      have hst := HST.out
      go_upto_region 6 with fail
      refine wp_region_lit ?_
      refine wpList_load_sub rfl 30 (.tmp 2) rfl w.heap.size 0 16 rfl 30 zs (0, 0) _ hst.a Tryd.underlying30 rfl infoA16 (by rw [HZ.out]; exact Nat.le_refl _) ?_
      rw [show sub zs 0 16 = zs by rw [← HZ.out]; exact sub_all zs]
      refine wpList_store_sub rfl 30 (.tmp 4) (.tmp 19) rfl (w.heap.size + 1 + 1) 0 zs rfl rfl 30 z16 hst.c (by rw [HZ.out]; exact infoA16) (by rw [HZ.out]; decide) ?_
      rw [spl_full (by rw [HZ.out]; rfl)]
      go_wp2_with fail
      refine bodyPost_ret (v := .agg (rowI zs)) (by exact results_cell_row Tryd.results25 _ _ (w.heap.size + 1 + 1) 30 (rowI zs) (0, 0) _ rfl (hst.c.row (rowI zs)) Tryd.underlying30 rfl (by rw [rowI_size, HZ.out]; exact infoA16)) rfl ?_
      exact ⟨by rw [← HD.out], below_row hst.below hst.below.size (by omega) _⟩

structure T2 (G : Nat) (A : List Int) (w W : World) : Prop where
  a : Blk W G (rowI A) 30
  b : Blk W (G + 1) (rowI z16) 30
  below : Below w.heap.size w W
theorem T2.start (w : World) (A : List Int) : T2 w.heap.size A w ((w.alloc (.cells (rowI A) 30)).alloc (.cells (rowI z16) 30)) :=
  ⟨(Blk.new w _ _ _ rfl).alloc _, Blk.new _ _ _ _ (by simp), (by repeat' (first | (with_reducible exact Below.refl _ _) | (with_reducible refine Below.adds_ ?_ ?_ _ _) | (with_reducible refine Below.alloc ?_ ?_ _) | (with_reducible refine Below.drew ?_) | (with_reducible refine Below.setCell ?_ ?_ _) | (with_reducible assumption) | go_size | (simp only [size_addsW, World.size_alloc, World.size_drew, World.size_setCell]; omega)))⟩
theorem T2.btf {G : Nat} {A : List Int} {w W : World} (h : T2 G A w W) (hg : w.heap.size ≤ G) (B : List Int) (m : Nat) : T2 G B w ((W.setRow G (rowI B)).drewN m) :=
  ⟨h.a.row _, (setRow_other W G (G + 1) _ (by omega)).trans h.b, (below_row h.below h.below.size hg _).trans ((drewNb _ m).mono ((below_row h.below h.below.size hg _)).size)⟩

set_option maxRecDepth 100000 in
set_option maxHeartbeats 4000000 in
theorem I_hadamard (zs : List Int) (w : World) (hz : zs.length = 16) (hb : bdL 255 zs) :
    Calls Tryd.prog 40 #[.agg (rowI zs)] w fun e w' => e = .returned (.agg (rowI (h2 zs 4))) ∧ Below w.heap.size w w' := by
  have HZ := Lib.hid hz
  have HB := Lib.hid hb
  clear hz hb
  have hwg : w.heap.size ≤ w.heap.size := Nat.le_refl _
  have HT0 := Lib.hid (T2.start w zs)
  go_enter Tryd.func40, Tryd.ntmps40
  go_upto_region 1 with fail
  refine all_add' ?_
  intro Z hZ
  have T1 := Lib.hid (show T2 w.heap.size zs w Z from hZ ▸ HT0.out)
  clear hZ HT0
  go_wp2_with fail
  go_loopw [5] (fun v wr => ∃ k : Nat, v = .int .i64 (k : Int) ∧ k ≤ 4 ∧ T2 w.heap.size (h1 zs k) w wr) (fun v _ => 4 - (intOf v).toNat)
  case atStart => exact ⟨0, rfl, by omega, T1.out⟩
  case round =>
    clear T1
    obtain ⟨k, rfl, hk, hst⟩ := hrel
    have HST := Lib.hid hst
    by_cases hlt : k < 4
    · have hd1 : (k : Int) < 4 := by omega
      have hd2 : 0 ≤ (k : Int) := by omega
      have CB := Lib.hid (show Calls Tryd.prog 50 #[.pointer (some ⟨w.heap.size, 0, none⟩), .int .i64 (4 * (k : Int)), .int .i64 1] wr fun e w' => e = .returned (.tuple #[]) ∧ ∃ m, w' = (wr.setRow w.heap.size (rowI (h1 zs (k + 1)))).drewN m from by
        have := I_butterflies w.heap.size (4 * k) 1 (h1 zs k) wr (by omega) (by rw [h1_len]; exact HZ.out) (bdL_mono (h1_bd' HB.out hk) (by omega)) hst.a
        rw [Int.natCast_mul] at this
        exact this)
      clear hst
      go_wp2_with (go_at_call 50; refine (CB.out).mono ?_; rintro e w' ⟨rfl, m, rfl⟩)
      go_roundw
      case rel => exact ⟨k + 1, by go_num, by omega, HST.out.btf hwg _ _⟩
      case measure => simp [intOf]; omega
    · have HK4 := Lib.hid (show k = 4 by omega)
      have hd1 : ¬ (k : Int) < 4 := by omega
      clear hst
      go_wp2_with fail
      go_loopw [12] (fun v wr => ∃ k : Nat, v = .int .i64 (k : Int) ∧ k ≤ 4 ∧ T2 w.heap.size (h2 zs k) w wr) (fun v _ => 4 - (intOf v).toNat)
      case atStart => exact ⟨0, rfl, by omega, by rw [show h2 zs 0 = h1 zs 4 from rfl, ← HK4.out]; exact HST.out⟩
      case round =>
        clear HST HK4
        generalize (k : Int) = k0 at *
        clear hk hlt hd1
        obtain ⟨k, rfl, hk, hst⟩ := hrel
        have HST := Lib.hid hst
        by_cases hlt : k < 4
        · have hd1 : (k : Int) < 4 := by omega
          have hd2 : 0 ≤ (k : Int) := by omega
          have CB := Lib.hid (show ∀ W, T2 w.heap.size (h2 zs k) w W → Calls Tryd.prog 50 #[.pointer (some ⟨w.heap.size, 0, none⟩), .int .i64 (k : Int), .int .i64 4] W fun e w' => e = .returned (.tuple #[]) ∧ ∃ m, w' = (W.setRow w.heap.size (rowI (h2 zs (k + 1)))).drewN m from fun W hW => I_butterflies w.heap.size k 4 (h2 zs k) W (by omega) (by rw [h2_len]; exact HZ.out) (bdL_mono (h2_bd' HB.out hk) (by omega)) hW.a)
          clear hst
          go_wp2_with (go_at_call 50; refine (CB.out _ HST.out).mono ?_; rintro e w' ⟨rfl, m, rfl⟩)
          go_roundw
          case rel => exact ⟨k + 1, by go_num, by omega, HST.out.btf hwg _ _⟩
          case measure => simp [intOf]; omega
        · obtain rfl : k = 4 := by omega
          have hst := HST.out
          have hL := Lib.hid (show (h2 zs 4).length = 16 by rw [h2_len]; exact HZ.out)
          go_upto_region 11 with fail
          obtain ⟨us, hus⟩ : ∃ us, us = h2 zs 4 := ⟨_, rfl⟩
          rw [← hus] at hst
          have HU := Lib.hid hus
          have hL := Lib.hid (show us.length = 16 by rw [hus]; exact hL.out)
          clear hus
          refine wp_region_lit ?_
          refine wpList_load_sub rfl 30 (.tmp 1) rfl w.heap.size 0 16 rfl 30 us (0, 0) _ hst.a Tryd.underlying30 rfl infoA16 (by rw [hL.out]; exact Nat.le_refl _) ?_
          rw [show sub us 0 16 = us by rw [← hL.out]; exact sub_all us]
          refine wpList_store_sub rfl 30 (.tmp 2) (.tmp 18) rfl (w.heap.size + 1) 0 us rfl rfl 30 z16 hst.b (by rw [hL.out]; exact infoA16) (by rw [hL.out]; decide) ?_
          rw [spl_full (by rw [hL.out]; rfl)]
          go_wp2_with fail
          refine bodyPost_ret (v := .agg (rowI us)) (by exact results_cell_row Tryd.results40 _ _ (w.heap.size + 1) 30 (rowI us) (0, 0) _ rfl (hst.b.row (rowI us)) Tryd.underlying30 rfl (by rw [rowI_size, hL.out]; exact infoA16)) rfl ?_
          exact ⟨by rw [← HU.out], below_row hst.below hst.below.size (by omega) _⟩

end Go.Proofs.YtijccageaingjaaDoor
