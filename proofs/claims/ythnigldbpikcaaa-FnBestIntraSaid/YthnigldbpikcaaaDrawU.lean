/- What DrawBestIntra answers. -/
import Derived.Test.YthnigldbpikcaaaDrawT
import Derived.Test.YthnigldbpikcaaaPredL
namespace Go.Proofs.Ythnigldbpikcaaa
open Go.RowKit
set_option linter.unusedVariables false
set_option linter.unusedSimpArgs false

attribute [local go_sem] size_addsW cell?_addsW frozen?_addsW setCell_addsW drew_addsW adds_addsW setCell_twice alloc_adds0 size_adds0 adds_adds0 sel2 sel3 sel4 sel5 sel6 sel7 sel8 sel9 lt_more lt_more2 lt_more3 lt_more4 adds_drew adds_drewN drewN_addsW ltA_1_1 ltA_1_2 ltA_1_3 ltA_1_4 ltA_1_5 ltA_1_6 ltA_2_1 ltA_2_2 ltA_2_3 ltA_2_4 ltA_2_5 ltA_2_6 ltA_3_1 ltA_3_2 ltA_3_3 ltA_3_4 ltA_3_5 ltA_3_6 ltA_4_1 ltA_4_2 ltA_4_3 ltA_4_4 ltA_4_5 ltA_4_6 ltA_5_1 ltA_5_2 ltA_5_3 ltA_5_4 ltA_5_5 ltA_5_6 ltA_6_1 ltA_6_2 ltA_6_3 ltA_6_4 ltA_6_5 ltA_6_6 ltA_7_1 ltA_7_2 ltA_7_3 ltA_7_4 ltA_7_5 ltA_7_6 ltA_8_1 ltA_8_2 ltA_8_3 ltA_8_4 ltA_8_5 ltA_8_6 ltA_9_1 ltA_9_2 ltA_9_3 ltA_9_4 ltA_9_5 ltA_9_6 ltA_10_1 ltA_10_2 ltA_10_3 ltA_10_4 ltA_10_5 ltA_10_6 ltA_11_1 ltA_11_2 ltA_11_3 ltA_11_4 ltA_11_5 ltA_11_6 ltA_12_1 ltA_12_2 ltA_12_3 ltA_12_4 ltA_12_5 ltA_12_6

theorem results_two_rows {P : Program} {fn : Func} {q p : Tmp} {tq tp : TypeId} (h : fn.results = #[.cell q tq, .cell p tp]) (tmps : Array Value) (w : World) (g g' : Nat) (t t' : TypeId) (cs cs' : Array Value) (fr fr' : Nat × Nat) (d d' : TypeDesc)
    (hq : tmps.getD q undef = .pointer (some ⟨g, 0, none⟩)) (hp : tmps.getD p undef = .pointer (some ⟨g', 0, none⟩)) (hg : w.heap[g]? = some (.cells cs t fr)) (hg' : w.heap[g']? = some (.cells cs' t' fr'))
    (hu : P.underlying tq = some d) (hd : (match d with | .struct _ | .array _ _ => true | _ => false) = true) (hi : (P.info? tq).map (·.size) = some cs.size)
    (hu' : P.underlying tp = some d') (hd' : (match d' with | .struct _ | .array _ _ => true | _ => false) = true) (hi' : (P.info? tp).map (·.size) = some cs'.size) :
    (results fn tmps).run P w = .ok (.tuple #[.agg cs, .agg cs']) w := by
  have hq' : tmps[q]?.getD undef = .pointer (some ⟨g, 0, none⟩) := by simpa using hq
  have hp' : tmps[p]?.getD undef = .pointer (some ⟨g', 0, none⟩) := by simpa using hp
  simp [results, h, hp', hq', asAddr, run_loadVar_row w g t tq cs fr d hg hu hd hi, run_loadVar_row w g' t' tp cs' fr' d' hg' hu' hd' hi']

set_option maxRecDepth 100000 in
set_option maxHeartbeats 2000000 in
theorem S_DrawBestIntra (a0 : Option Addr) (len cap : Nat) (cs : List Int) (w : World) (h : IsRow .u8 w a0 len cap cs) :
    Calls Try.prog 16 #[.slice a0 len cap] w fun e w' => ∃ (zs : List Int) (f g : Nat → Int) (c : Int) (u l : Bool), e = .returned (.tuple #[.agg (rowI zs), .agg (eA f g c u l)]) ∧ zs.length = 16 ∧ Below w.heap.size w w' := by
  have HI := Lib.hid h
  clear h
  have HZ0 := Lib.hid (⟨(Blk.new w (rowI z16) 28 _ rfl).alloc _, Blk.new _ e0 25 _ (by simp), (by repeat' (first | (with_reducible exact Below.refl _ _) | (with_reducible refine Below.adds_ ?_ ?_ _ _) | (with_reducible refine Below.alloc ?_ ?_ _) | (with_reducible refine Below.drew ?_) | (with_reducible refine Below.setCell ?_ ?_ _) | (with_reducible assumption) | go_size | (simp only [size_addsW, World.size_alloc, World.size_drew, World.size_setCell]; omega)))⟩ : Blk ((w.alloc (.cells (rowI z16) 28)).alloc (.cells e0 25)) w.heap.size (rowI z16) 28 ∧ Blk ((w.alloc (.cells (rowI z16) 28)).alloc (.cells e0 25)) (w.heap.size + 1) e0 25 ∧ Below w.heap.size w ((w.alloc (.cells (rowI z16) 28)).alloc (.cells e0 25)))
  go_enter Try.func16, Try.ntmps16
  go_upto_region 1 with fail
  refine all_add' ?_
  intro Z hZ
  have HZ := Lib.hid (show Blk Z w.heap.size (rowI z16) 28 ∧ Blk Z (w.heap.size + 1) e0 25 ∧ Below w.heap.size w Z from hZ ▸ HZ0.out)
  clear hZ HZ0
  go_wp2_with fail
  refine (S_l20Open _ _ _ cs _ (IsRow.keep HI.out HZ.out.2.2)).mono ?_
  rintro e w1 ⟨rfl, hR', hb, hB⟩
  have hr0 : Blk w1 w.heap.size (rowI z16) 28 := HZ.out.1.below hb HZ.out.1.lt
  have hr1 : Blk w1 (w.heap.size + 1) e0 25 := HZ.out.2.1.below hb HZ.out.2.1.lt
  have HBW := Lib.hid (show Below w.heap.size w w1 from HZ.out.2.2.trans (hb.mono HZ.out.2.2.size))
  have hR := Lib.hid hR'
  have lz := HZ.out.2.1.lt
  have HR0 := Lib.hid hr0
  have HR1 := Lib.hid hr1
  clear hb hr0 hr1 hR' HZ
  generalize Z.heap.size = B at *
  go_wp2_with fail
  refine (S_l20Samples B 0 9 _ (by repeat (first | (with_reducible exact hR.out) | (with_reducible apply RdAt.adds) | (with_reducible apply RdAt.alloc) | (with_reducible exact RdAt.set hR.out _) | (with_reducible apply RdAt.drew))) (by omega) (by omega)).mono ?_
  rintro e w2 ⟨zs, rfl, hz, hM⟩
  obtain ⟨p1, hp1, hR2⟩ := hM.at_ hR.out
  have HL := Lib.hid hz
  have HM := Lib.hid hM
  have HRB := Lib.hid hR2
  have hs2 := hM.size
  clear hz hM hR2
  go_wp2_with fail
  refine (S_l20Edges B p1 9 _ HRB.out (by omega) (by omega)).mono ?_
  rintro e w3 ⟨f, g, c, u, l, rfl, hM⟩
  have hM0 : Moved w1 B 0 200 w3 := HM.out.trans hB hM (show p1 + 100 ≤ 0 + 200 by omega)
  have hk0 : Blk w3 w.heap.size (rowI z16) 28 := ((moved_grown hM0).block _ HR0.out.lt (fun e => by injection e; omega)).trans HR0.out
  have hk1 : Blk w3 (w.heap.size + 1) e0 25 := ((moved_grown hM0).block _ HR1.out.lt (fun e => by injection e; omega)).trans HR1.out
  have hbl := hM0.below HBW.out (show w.heap.size ≤ B by omega) HBW.out.size
  rename_i hKK
  refine hKK _ _ ?_
  have hk1' : Blk (w3.setRow w.heap.size (rowI zs)) (w.heap.size + 1) e0 25 := (setRow_other _ _ _ _ (by omega)).trans hk1
  have hk0' : Blk ((w3.setRow w.heap.size (rowI zs)).setRow (w.heap.size + 1) (eA f g c u l)) w.heap.size (rowI zs) 28 := (setRow_other _ _ _ _ (by omega)).trans (hk0.row _)
  have hk2' : Blk ((w3.setRow w.heap.size (rowI zs)).setRow (w.heap.size + 1) (eA f g c u l)) (w.heap.size + 1) (eA f g c u l) 25 := hk1'.row _
  have hbb := below_row (below_row hbl hbl.size (Nat.le_refl _) (rowI zs)) (below_row hbl hbl.size (Nat.le_refl _) (rowI zs)).size (show w.heap.size ≤ w.heap.size + 1 by omega) (eA f g c u l)
  refine wpList_store_row rfl 28 (.tmp 2) (.tmp 8) rfl w.heap.size (rowI zs) rfl rfl 28 (rowI z16) hk0 (by rw [rowI_size, HL.out]; exact infoA16) (by rw [rowI_size, rowI_size, HL.out]; rfl) (rowI_one zs) ?_
  refine wpList_store_row rfl 25 (.tmp 3) (.tmp 10) rfl (w.heap.size + 1) (eA f g c u l) rfl rfl 25 e0 hk1' (infoEd f g c u l) rfl (eA_one f g c u l) ?_
  go_wp2_with fail
  refine bodyPost_ret (v := .tuple #[.agg (rowI zs), .agg (eA f g c u l)]) (by exact results_two_rows Try.results16 _ _ w.heap.size (w.heap.size + 1) 28 25 (rowI zs) (eA f g c u l) (0, 0) (0, 0) _ _ rfl rfl hk0' hk2' Try.underlying28 rfl (by rw [rowI_size, HL.out]; exact infoA16) Try.underlying25 rfl (infoEd f g c u l)) rfl ?_
  exact ⟨zs, f, g, c, u, l, rfl, HL.out, hbb⟩

end Go.Proofs.Ythnigldbpikcaaa
