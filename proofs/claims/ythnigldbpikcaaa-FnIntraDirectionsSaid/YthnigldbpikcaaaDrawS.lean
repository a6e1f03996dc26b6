/- What DrawPredictIntra answers. -/
import Derived.Test.YthnigldbpikcaaaDrawR
namespace Go.Proofs.Ythnigldbpikcaaa
open Go.RowKit
set_option linter.unusedVariables false
set_option linter.unusedSimpArgs false

attribute [local go_sem] size_addsW cell?_addsW frozen?_addsW setCell_addsW drew_addsW adds_addsW setCell_twice alloc_adds0 size_adds0 adds_adds0 sel2 sel3 sel4 sel5 sel6 sel7 sel8 sel9 lt_more lt_more2 lt_more3 lt_more4 adds_drew adds_drewN drewN_addsW ltA_1_1 ltA_1_2 ltA_1_3 ltA_1_4 ltA_1_5 ltA_1_6 ltA_2_1 ltA_2_2 ltA_2_3 ltA_2_4 ltA_2_5 ltA_2_6 ltA_3_1 ltA_3_2 ltA_3_3 ltA_3_4 ltA_3_5 ltA_3_6 ltA_4_1 ltA_4_2 ltA_4_3 ltA_4_4 ltA_4_5 ltA_4_6 ltA_5_1 ltA_5_2 ltA_5_3 ltA_5_4 ltA_5_5 ltA_5_6 ltA_6_1 ltA_6_2 ltA_6_3 ltA_6_4 ltA_6_5 ltA_6_6 ltA_7_1 ltA_7_2 ltA_7_3 ltA_7_4 ltA_7_5 ltA_7_6 ltA_8_1 ltA_8_2 ltA_8_3 ltA_8_4 ltA_8_5 ltA_8_6 ltA_9_1 ltA_9_2 ltA_9_3 ltA_9_4 ltA_9_5 ltA_9_6 ltA_10_1 ltA_10_2 ltA_10_3 ltA_10_4 ltA_10_5 ltA_10_6 ltA_11_1 ltA_11_2 ltA_11_3 ltA_11_4 ltA_11_5 ltA_11_6 ltA_12_1 ltA_12_2 ltA_12_3 ltA_12_4 ltA_12_5 ltA_12_6

theorem results_tmp_row {P : Program} {fn : Func} {q p : Tmp} {ty : TypeId} (h : fn.results = #[.tmp q, .cell p ty]) (tmps : Array Value) (w : World) (g : Nat) (t : TypeId) (cs : Array Value) (fr : Nat × Nat) (d : TypeDesc)
    (hp : tmps.getD p undef = .pointer (some ⟨g, 0, none⟩)) (hg : w.heap[g]? = some (.cells cs t fr))
    (hu : P.underlying ty = some d) (hd : (match d with | .struct _ | .array _ _ => true | _ => false) = true) (hi : (P.info? ty).map (·.size) = some cs.size) :
    (results fn tmps).run P w = .ok (.tuple #[tmps.getD q undef, .agg cs]) w := by
  have hp' : tmps[p]?.getD undef = .pointer (some ⟨g, 0, none⟩) := by simpa using hp
  simp [results, h, hp', asAddr, run_loadVar_row w g t ty cs fr d hg hu hd hi]

set_option maxRecDepth 100000 in
set_option maxHeartbeats 2000000 in
theorem S_DrawPredictIntra (a0 : Option Addr) (len cap : Nat) (cs : List Int) (w : World) (h : IsRow .u8 w a0 len cap cs) :
    Calls Try.prog 7 #[.slice a0 len cap] w fun e w' => ∃ (m : Int) (f g : Nat → Int) (c : Int) (u l : Bool), e = .returned (.tuple #[.int .i64 m, .agg (eA f g c u l)]) ∧ -1 ≤ m ∧ m ≤ 5 ∧ Below w.heap.size w w' := by
  have HI := Lib.hid h
  clear h
  go_enter Try.func7, Try.ntmps7
  go_wp2_with fail
  refine (S_l20Open _ _ _ cs _ (IsRow.keep HI.out (by repeat' (first | (with_reducible exact Below.refl _ _) | (with_reducible refine Below.adds_ ?_ ?_ _ _) | (with_reducible refine Below.alloc ?_ ?_ _) | (with_reducible refine Below.drew ?_) | (with_reducible refine Below.setCell ?_ ?_ _) | (with_reducible assumption) | go_size | (simp only [size_addsW, World.size_alloc, World.size_drew, World.size_setCell]; omega))))).mono ?_
  rintro e w1 ⟨rfl, hR', hb, hB⟩
  have hr9 : Blk (w.alloc (.cells e0 25)) w.heap.size e0 25 := Blk.new w _ _ _ rfl
  have hb9 : Below (w.alloc (.cells e0 25)).heap.size (w.alloc (.cells e0 25)) w1 := hb
  have hr0 : Blk w1 w.heap.size e0 25 := hr9.below hb9 (by simp)
  have HBW := Lib.hid (show Below w.heap.size w w1 from Below.trans (by repeat' (first | (with_reducible exact Below.refl _ _) | (with_reducible refine Below.adds_ ?_ ?_ _ _) | (with_reducible refine Below.alloc ?_ ?_ _) | (with_reducible refine Below.drew ?_) | (with_reducible refine Below.setCell ?_ ?_ _) | (with_reducible assumption) | go_size | (simp only [size_addsW, World.size_alloc, World.size_drew, World.size_setCell]; omega))) (hb.mono (by simp)))
  simp only [World.size_alloc] at hR' hB ⊢
  have hR := Lib.hid hR'
  have lt0 := hr0.lt
  have HR0 := Lib.hid hr0
  clear hb hb9 hr9 hr0 hR'
  obtain ⟨B, hBd⟩ : ∃ B, B = w.heap.size + 1 := ⟨_, rfl⟩
  rw [← hBd] at hR hB ⊢
  have hb0 : w.heap.size < B := by omega
  have hne1 : ¬ w.heap.size = B := by omega
  have hne2 : ¬ B = w.heap.size := by omega
  clear hBd
  go_wp2_with fail
  (refine (S_pick B _ _ _ (by repeat (first | (with_reducible exact hR.out) | (with_reducible apply RdAt.adds) | (with_reducible apply RdAt.alloc) | (with_reducible exact RdAt.set hR.out _) | (with_reducible apply RdAt.drew))) (by omega)).mono ?_; rintro e w' ⟨v1, p1, k1, rfl, hv, hp1, rfl⟩; have hv1 := hv.1 (by omega); clear hv)
  go_wp2_with fail
  refine (S_l20Edges B p1 9 _ (by repeat (first | (with_reducible exact hR.out) | (with_reducible apply RdAt.adds) | (with_reducible apply RdAt.alloc) | (with_reducible exact RdAt.set hR.out _) | (with_reducible apply RdAt.drew))) (by omega) (by omega)).mono ?_
  rintro e w3 ⟨f, g, c, u, l, rfl, hM⟩
  have hM1 : Moved w1 B 0 1 (addsW (w1.setCell ⟨B, 1, none⟩ (.int .i64 (p1 : Int))) #[] k1) := (by repeat (first | (with_reducible apply Moved.adds) | (with_reducible apply Moved.alloc) | (with_reducible apply Moved.drew) | (exact Moved.base (by omega))))
  have hM0 : Moved w1 B 0 200 w3 := hM1.trans hB hM (show p1 + 100 ≤ 0 + 200 by omega)
  clear hM1
  have hk : Blk w3 w.heap.size e0 25 := ((moved_grown hM0).block _ lt0 (fun e => by injection e; omega)).trans HR0.out
  have r0 : w3.cell? ⟨w.heap.size, 0, none⟩ = some (.int .i64 0) := hk.get rfl
  have r1 : w3.cell? ⟨w.heap.size, 1, none⟩ = some (.int .i64 0) := hk.get rfl
  have r2 : w3.cell? ⟨w.heap.size, 2, none⟩ = some (.int .i64 0) := hk.get rfl
  have r3 : w3.cell? ⟨w.heap.size, 3, none⟩ = some (.int .i64 0) := hk.get rfl
  have r4 : w3.cell? ⟨w.heap.size, 4, none⟩ = some (.int .i64 0) := hk.get rfl
  have r5 : w3.cell? ⟨w.heap.size, 5, none⟩ = some (.int .i64 0) := hk.get rfl
  have r6 : w3.cell? ⟨w.heap.size, 6, none⟩ = some (.int .i64 0) := hk.get rfl
  have r7 : w3.cell? ⟨w.heap.size, 7, none⟩ = some (.int .i64 0) := hk.get rfl
  have r8 : w3.cell? ⟨w.heap.size, 8, none⟩ = some (.int .i64 0) := hk.get rfl
  have r9 : w3.cell? ⟨w.heap.size, 9, none⟩ = some (.bool false) := hk.get rfl
  have r10 : w3.cell? ⟨w.heap.size, 10, none⟩ = some (.bool false) := hk.get rfl
  have s0 := hk.hot 0
  have s1 := hk.hot 1
  have s2 := hk.hot 2
  have s3 := hk.hot 3
  have s4 := hk.hot 4
  have s5 := hk.hot 5
  have s6 := hk.hot 6
  have s7 := hk.hot 7
  have s8 := hk.hot 8
  have s9 := hk.hot 9
  have s10 := hk.hot 10
  have lk := hk.lt
  have HM := Lib.hid hM0
  have HK := Lib.hid hk
  clear hM hM0 hk
  unfold eA
  go_wp2_with fail
  have hbl := HM.out.below HBW.out (show w.heap.size ≤ B by omega) HBW.out.size
  have hbl2 : Below w.heap.size w (((((((((((w3.setCell ⟨w.heap.size, 0, none⟩ (.int .i64 (f 0))).setCell ⟨w.heap.size, 1, none⟩ (.int .i64 (f 1))).setCell ⟨w.heap.size, 2, none⟩ (.int .i64 (f 2))).setCell ⟨w.heap.size, 3, none⟩ (.int .i64 (f 3))).setCell ⟨w.heap.size, 4, none⟩ (.int .i64 (g 0))).setCell ⟨w.heap.size, 5, none⟩ (.int .i64 (g 1))).setCell ⟨w.heap.size, 6, none⟩ (.int .i64 (g 2))).setCell ⟨w.heap.size, 7, none⟩ (.int .i64 (g 3))).setCell ⟨w.heap.size, 8, none⟩ (.int .i64 c)).setCell ⟨w.heap.size, 9, none⟩ (.bool u)).setCell ⟨w.heap.size, 10, none⟩ (.bool l)) := by repeat (first | (with_reducible exact hbl) | (with_reducible refine Below.setCell ?_ ?_ _; rotate_left; exact Nat.le_refl _))
  have hX9 : Blk (((((((((((w3.setCell ⟨w.heap.size, 0, none⟩ (.int .i64 (f 0))).setCell ⟨w.heap.size, 1, none⟩ (.int .i64 (f 1))).setCell ⟨w.heap.size, 2, none⟩ (.int .i64 (f 2))).setCell ⟨w.heap.size, 3, none⟩ (.int .i64 (f 3))).setCell ⟨w.heap.size, 4, none⟩ (.int .i64 (g 0))).setCell ⟨w.heap.size, 5, none⟩ (.int .i64 (g 1))).setCell ⟨w.heap.size, 6, none⟩ (.int .i64 (g 2))).setCell ⟨w.heap.size, 7, none⟩ (.int .i64 (g 3))).setCell ⟨w.heap.size, 8, none⟩ (.int .i64 c)).setCell ⟨w.heap.size, 9, none⟩ (.bool u)).setCell ⟨w.heap.size, 10, none⟩ (.bool l)) w.heap.size (eA f g c u l) 25 := HK.out.put11 f g c u l
  revert hbl2 hX9
  generalize (((((((((((w3.setCell ⟨w.heap.size, 0, none⟩ (.int .i64 (f 0))).setCell ⟨w.heap.size, 1, none⟩ (.int .i64 (f 1))).setCell ⟨w.heap.size, 2, none⟩ (.int .i64 (f 2))).setCell ⟨w.heap.size, 3, none⟩ (.int .i64 (f 3))).setCell ⟨w.heap.size, 4, none⟩ (.int .i64 (g 0))).setCell ⟨w.heap.size, 5, none⟩ (.int .i64 (g 1))).setCell ⟨w.heap.size, 6, none⟩ (.int .i64 (g 2))).setCell ⟨w.heap.size, 7, none⟩ (.int .i64 (g 3))).setCell ⟨w.heap.size, 8, none⟩ (.int .i64 c)).setCell ⟨w.heap.size, 9, none⟩ (.bool u)).setCell ⟨w.heap.size, 10, none⟩ (.bool l)) = X
  intro hbl2 hXb
  clear r0 r1 r2 r3 r4 r5 r6 r7 r8 r9 r10 s0 s1 s2 s3 s4 s5 s6 s7 s8 s9 s10
  refine bodyPost_ret (v := .tuple #[.int .i64 (v1 - 1), .agg (eA f g c u l)]) (by exact results_tmp_row Try.results7 _ _ w.heap.size 25 (eA f g c u l) (0, 0) _ rfl hXb Try.underlying25 rfl (by kernel_rfl)) rfl ?_
  exact ⟨v1 - 1, f, g, c, u, l, rfl, by omega, by omega, hbl2⟩

end Go.Proofs.Ythnigldbpikcaaa
