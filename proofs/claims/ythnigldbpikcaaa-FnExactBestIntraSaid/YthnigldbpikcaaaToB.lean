/- Edges copied. -/
import Derived.Test.YthnigldbpikcaaaToA
namespace Go.Proofs.Ythnigldbpikcaaa
open Go.RowKit
set_option linter.unusedVariables false
set_option linter.unusedSimpArgs false

attribute [local go_sem] size_addsW cell?_addsW frozen?_addsW setCell_addsW drew_addsW adds_addsW setCell_twice alloc_adds0 size_adds0 adds_adds0 sel2 sel3 sel4 sel5 sel6 sel7 sel8 sel9 lt_more lt_more2 lt_more3 lt_more4 adds_drew adds_drewN drewN_addsW ltA_1_1 ltA_1_2 ltA_1_3 ltA_1_4 ltA_1_5 ltA_1_6 ltA_2_1 ltA_2_2 ltA_2_3 ltA_2_4 ltA_2_5 ltA_2_6 ltA_3_1 ltA_3_2 ltA_3_3 ltA_3_4 ltA_3_5 ltA_3_6 ltA_4_1 ltA_4_2 ltA_4_3 ltA_4_4 ltA_4_5 ltA_4_6 ltA_5_1 ltA_5_2 ltA_5_3 ltA_5_4 ltA_5_5 ltA_5_6 ltA_6_1 ltA_6_2 ltA_6_3 ltA_6_4 ltA_6_5 ltA_6_6 ltA_7_1 ltA_7_2 ltA_7_3 ltA_7_4 ltA_7_5 ltA_7_6 ltA_8_1 ltA_8_2 ltA_8_3 ltA_8_4 ltA_8_5 ltA_8_6 ltA_9_1 ltA_9_2 ltA_9_3 ltA_9_4 ltA_9_5 ltA_9_6 ltA_10_1 ltA_10_2 ltA_10_3 ltA_10_4 ltA_10_5 ltA_10_6 ltA_11_1 ltA_11_2 ltA_11_3 ltA_11_4 ltA_11_5 ltA_11_6 ltA_12_1 ltA_12_2 ltA_12_3 ltA_12_4 ltA_12_5 ltA_12_6

theorem Blk.putU {W : World} {k : Nat} {t : TypeId} {f' g' : Nat → Int} {c' : Int} {u' l' : Bool} (h : Blk W k (eA f' g' c' u' l') t) (f : Nat → Int) : Blk ((((W.setCell ⟨k, 0, none⟩ (.int .i64 (f 0))).setCell ⟨k, 1, none⟩ (.int .i64 (f 1))).setCell ⟨k, 2, none⟩ (.int .i64 (f 2))).setCell ⟨k, 3, none⟩ (.int .i64 (f 3))) k (eA f g' c' u' l') t := by
  have := ((((h.set 0 (.int .i64 (f 0))).set 1 (.int .i64 (f 1))).set 2 (.int .i64 (f 2))).set 3 (.int .i64 (f 3)))
  have e : (((((eA f' g' c' u' l').setIfInBounds 0 (.int .i64 (f 0))).setIfInBounds 1 (.int .i64 (f 1))).setIfInBounds 2 (.int .i64 (f 2))).setIfInBounds 3 (.int .i64 (f 3))) = eA f g' c' u' l' := by simp [eA]
  rw [e] at this
  exact this
theorem Blk.putL {W : World} {k : Nat} {t : TypeId} {f' g' : Nat → Int} {c' : Int} {u' l' : Bool} (h : Blk W k (eA f' g' c' u' l') t) (g : Nat → Int) : Blk ((((W.setCell ⟨k, 4, none⟩ (.int .i64 (g 0))).setCell ⟨k, 5, none⟩ (.int .i64 (g 1))).setCell ⟨k, 6, none⟩ (.int .i64 (g 2))).setCell ⟨k, 7, none⟩ (.int .i64 (g 3))) k (eA f' g c' u' l') t := by
  have := ((((h.set 4 (.int .i64 (g 0))).set 5 (.int .i64 (g 1))).set 6 (.int .i64 (g 2))).set 7 (.int .i64 (g 3)))
  have e : (((((eA f' g' c' u' l').setIfInBounds 4 (.int .i64 (g 0))).setIfInBounds 5 (.int .i64 (g 1))).setIfInBounds 6 (.int .i64 (g 2))).setIfInBounds 7 (.int .i64 (g 3))) = eA f' g c' u' l' := by simp [eA]
  rw [e] at this
  exact this
theorem Blk.putR {W : World} {k : Nat} {t : TypeId} {f' g' : Nat → Int} {c' : Int} {u' l' : Bool} (h : Blk W k (eA f' g' c' u' l') t) (c : Int) (u l : Bool) : Blk (((W.setCell ⟨k, 8, none⟩ (.int .i64 c)).setCell ⟨k, 9, none⟩ (.bool u)).setCell ⟨k, 10, none⟩ (.bool l)) k (eA f' g' c u l) t := by
  have := (((h.set 8 (.int .i64 c)).set 9 (.bool u)).set 10 (.bool l))
  have e : ((((eA f' g' c' u' l').setIfInBounds 8 (.int .i64 c)).setIfInBounds 9 (.bool u)).setIfInBounds 10 (.bool l)) = eA f' g' c u l := by simp [eA]
  rw [e] at this
  exact this

structure TE (G : Nat) (f g : Nat → Int) (c : Int) (u l : Bool) (O : Array Value) (w W : World) : Prop where
  a : Blk W G (eA f g c u l) 34
  r : Blk W (G + 1) e0 25
  o : Blk W (G + 1 + 1) O 25
  below : Below w.heap.size w W
theorem TE.start (w : World) (f g : Nat → Int) (c : Int) (u l : Bool) : TE w.heap.size f g c u l e0 w (((w.alloc (.cells (eA f g c u l) 34)).alloc (.cells e0 25)).alloc (.cells e0 25)) :=
  ⟨((Blk.new w _ _ _ rfl).alloc _).alloc _, (Blk.new _ _ _ _ (by simp)).alloc _, Blk.new _ _ _ _ (by simp), (by repeat' (first | (with_reducible exact Below.refl _ _) | (with_reducible refine Below.adds_ ?_ ?_ _ _) | (with_reducible refine Below.alloc ?_ ?_ _) | (with_reducible refine Below.drew ?_) | (with_reducible refine Below.setCell ?_ ?_ _) | (with_reducible assumption) | go_size | (simp only [size_addsW, World.size_alloc, World.size_drew, World.size_setCell]; omega)))⟩
theorem TE.adds {G : Nat} {f g : Nat → Int} {c : Int} {u l : Bool} {O : Array Value} {w W : World} (h : TE G f g c u l O w W) (os : Array Obj) (n : Nat) : TE G f g c u l O w (addsW W os n) := ⟨h.a.adds os n, h.r.adds os n, h.o.adds os n, Below.adds_ h.below h.below.size os n⟩
theorem TE.putU {G : Nat} {f g f' g' : Nat → Int} {c c' : Int} {u l u' l' : Bool} {w W : World} (h : TE G f g c u l (eA f' g' c' u' l') w W) (hg : w.heap.size ≤ G) (F : Nat → Int) : TE G f g c u l (eA F g' c' u' l') w ((((W.setCell ⟨G + 1 + 1, 0, none⟩ (.int .i64 (F 0))).setCell ⟨G + 1 + 1, 1, none⟩ (.int .i64 (F 1))).setCell ⟨G + 1 + 1, 2, none⟩ (.int .i64 (F 2))).setCell ⟨G + 1 + 1, 3, none⟩ (.int .i64 (F 3))) :=
  ⟨(Blk.other (Blk.other (Blk.other (Blk.other h.a (by simp only; omega) _) (by simp only; omega) _) (by simp only; omega) _) (by simp only; omega) _), (Blk.other (Blk.other (Blk.other (Blk.other h.r (by simp only; omega) _) (by simp only; omega) _) (by simp only; omega) _) (by simp only; omega) _), Blk.putU h.o F, (Below.setCell (Below.setCell (Below.setCell (Below.setCell h.below (by simp only; omega) _) (by simp only; omega) _) (by simp only; omega) _) (by simp only; omega) _)⟩
theorem TE.putL {G : Nat} {f g f' g' : Nat → Int} {c c' : Int} {u l u' l' : Bool} {w W : World} (h : TE G f g c u l (eA f' g' c' u' l') w W) (hg : w.heap.size ≤ G) (F : Nat → Int) : TE G f g c u l (eA f' F c' u' l') w ((((W.setCell ⟨G + 1 + 1, 4, none⟩ (.int .i64 (F 0))).setCell ⟨G + 1 + 1, 5, none⟩ (.int .i64 (F 1))).setCell ⟨G + 1 + 1, 6, none⟩ (.int .i64 (F 2))).setCell ⟨G + 1 + 1, 7, none⟩ (.int .i64 (F 3))) :=
  ⟨(Blk.other (Blk.other (Blk.other (Blk.other h.a (by simp only; omega) _) (by simp only; omega) _) (by simp only; omega) _) (by simp only; omega) _), (Blk.other (Blk.other (Blk.other (Blk.other h.r (by simp only; omega) _) (by simp only; omega) _) (by simp only; omega) _) (by simp only; omega) _), Blk.putL h.o F, (Below.setCell (Below.setCell (Below.setCell (Below.setCell h.below (by simp only; omega) _) (by simp only; omega) _) (by simp only; omega) _) (by simp only; omega) _)⟩
theorem TE.putR {G : Nat} {f g f' g' : Nat → Int} {c c' : Int} {u l u' l' : Bool} {w W : World} (h : TE G f g c u l (eA f' g' c' u' l') w W) (hg : w.heap.size ≤ G) (C : Int) (U L : Bool) : TE G f g c u l (eA f' g' C U L) w (((W.setCell ⟨G + 1 + 1, 8, none⟩ (.int .i64 C)).setCell ⟨G + 1 + 1, 9, none⟩ (.bool U)).setCell ⟨G + 1 + 1, 10, none⟩ (.bool L)) :=
  ⟨(Blk.other (Blk.other (Blk.other h.a (by simp only; omega) _) (by simp only; omega) _) (by simp only; omega) _), (Blk.other (Blk.other (Blk.other h.r (by simp only; omega) _) (by simp only; omega) _) (by simp only; omega) _), Blk.putR h.o C U L, (Below.setCell (Below.setCell (Below.setCell h.below (by simp only; omega) _) (by simp only; omega) _) (by simp only; omega) _)⟩

set_option maxRecDepth 100000 in
set_option maxHeartbeats 4000000 in
theorem L_toEdges (f g : Nat → Int) (c : Int) (u l : Bool) (w : World) :
    Calls Try.prog 14 #[.agg (eA f g c u l)] w fun e w' => e = .returned (.agg (eA f g c u l)) ∧ Below w.heap.size w w' := by
  have hwg : w.heap.size ≤ w.heap.size := Nat.le_refl _
  have HT0 := Lib.hid (TE.start w f g c u l)
  have CU := Lib.hid (show ∀ W, Calls Try.prog 27 #[.agg #[.int .i64 (f 0), .int .i64 (f 1), .int .i64 (f 2), .int .i64 (f 3)]] W fun e w' => e = .returned (.agg #[.int .i64 (f 0), .int .i64 (f 1), .int .i64 (f 2), .int .i64 (f 3)]) ∧ Below W.heap.size W w' from fun W => L_toIntA4 [f 0, f 1, f 2, f 3] W rfl)
  have CL := Lib.hid (show ∀ W, Calls Try.prog 27 #[.agg #[.int .i64 (g 0), .int .i64 (g 1), .int .i64 (g 2), .int .i64 (g 3)]] W fun e w' => e = .returned (.agg #[.int .i64 (g 0), .int .i64 (g 1), .int .i64 (g 2), .int .i64 (g 3)]) ∧ Below W.heap.size W w' from fun W => L_toIntA4 [g 0, g 1, g 2, g 3] W rfl)
  unfold eA
  go_enter Try.func14, Try.ntmps14
  go_upto_region 2 with fail
  refine all_add' ?_
  intro Z hZ
  have T1 := Lib.hid (show TE w.heap.size f g c u l e0 w Z from hZ ▸ HT0.out)
  clear hZ HT0
  have hst := T1.out
  have e0 : Z.cell? ⟨w.heap.size, 0, none⟩ = some (.int .i64 (f 0)) := hst.a.get rfl
  have e1 : Z.cell? ⟨w.heap.size, 1, none⟩ = some (.int .i64 (f 1)) := hst.a.get rfl
  have e2 : Z.cell? ⟨w.heap.size, 2, none⟩ = some (.int .i64 (f 2)) := hst.a.get rfl
  have e3 : Z.cell? ⟨w.heap.size, 3, none⟩ = some (.int .i64 (f 3)) := hst.a.get rfl
  have e4 : Z.cell? ⟨w.heap.size, 4, none⟩ = some (.int .i64 (g 0)) := hst.a.get rfl
  have e5 : Z.cell? ⟨w.heap.size, 5, none⟩ = some (.int .i64 (g 1)) := hst.a.get rfl
  have e6 : Z.cell? ⟨w.heap.size, 6, none⟩ = some (.int .i64 (g 2)) := hst.a.get rfl
  have e7 : Z.cell? ⟨w.heap.size, 7, none⟩ = some (.int .i64 (g 3)) := hst.a.get rfl
  have e8 : Z.cell? ⟨w.heap.size, 8, none⟩ = some (.int .i64 c) := hst.a.get rfl
  have e9 : Z.cell? ⟨w.heap.size, 9, none⟩ = some (.bool u) := hst.a.get rfl
  have e10 : Z.cell? ⟨w.heap.size, 10, none⟩ = some (.bool l) := hst.a.get rfl
  have lo := hst.o.lt
  have q0 : Z.cell? ⟨w.heap.size + 1 + 1, 0, none⟩ = some (.int .i64 0) := hst.o.get rfl
  have f0 : Z.frozen? ⟨w.heap.size + 1 + 1, 0, none⟩ = false := hst.o.hot 0
  have q1 : Z.cell? ⟨w.heap.size + 1 + 1, 1, none⟩ = some (.int .i64 0) := hst.o.get rfl
  have f1 : Z.frozen? ⟨w.heap.size + 1 + 1, 1, none⟩ = false := hst.o.hot 1
  have q2 : Z.cell? ⟨w.heap.size + 1 + 1, 2, none⟩ = some (.int .i64 0) := hst.o.get rfl
  have f2 : Z.frozen? ⟨w.heap.size + 1 + 1, 2, none⟩ = false := hst.o.hot 2
  have q3 : Z.cell? ⟨w.heap.size + 1 + 1, 3, none⟩ = some (.int .i64 0) := hst.o.get rfl
  have f3 : Z.frozen? ⟨w.heap.size + 1 + 1, 3, none⟩ = false := hst.o.hot 3
  clear hst
  go_upto_region 3 with (first | (go_at_call 27; refine (CU.out _).mono ?_; rintro e w' ⟨rfl, hb⟩; obtain ⟨o1, n1, rfl⟩ := below_adds hb; clear hb))
  refine all_add' ?_
  intro Y hY
  have T2 := Lib.hid (show TE w.heap.size f g c u l (eA f (fun _ => 0) 0 false false) w Y from by rw [hY]; exact TE.adds (TE.putU T1.out hwg f) o1 n1)
  clear hY T1 e0 e1 e2 e3 e4 e5 e6 e7 e8 e9 e10 q0 q1 q2 q3 f0 f1 f2 f3 lo CU
  have hst := T2.out
  have e0 : Y.cell? ⟨w.heap.size, 0, none⟩ = some (.int .i64 (f 0)) := hst.a.get rfl
  have e1 : Y.cell? ⟨w.heap.size, 1, none⟩ = some (.int .i64 (f 1)) := hst.a.get rfl
  have e2 : Y.cell? ⟨w.heap.size, 2, none⟩ = some (.int .i64 (f 2)) := hst.a.get rfl
  have e3 : Y.cell? ⟨w.heap.size, 3, none⟩ = some (.int .i64 (f 3)) := hst.a.get rfl
  have e4 : Y.cell? ⟨w.heap.size, 4, none⟩ = some (.int .i64 (g 0)) := hst.a.get rfl
  have e5 : Y.cell? ⟨w.heap.size, 5, none⟩ = some (.int .i64 (g 1)) := hst.a.get rfl
  have e6 : Y.cell? ⟨w.heap.size, 6, none⟩ = some (.int .i64 (g 2)) := hst.a.get rfl
  have e7 : Y.cell? ⟨w.heap.size, 7, none⟩ = some (.int .i64 (g 3)) := hst.a.get rfl
  have e8 : Y.cell? ⟨w.heap.size, 8, none⟩ = some (.int .i64 c) := hst.a.get rfl
  have e9 : Y.cell? ⟨w.heap.size, 9, none⟩ = some (.bool u) := hst.a.get rfl
  have e10 : Y.cell? ⟨w.heap.size, 10, none⟩ = some (.bool l) := hst.a.get rfl
  have lo := hst.o.lt
  have q4 : Y.cell? ⟨w.heap.size + 1 + 1, 4, none⟩ = some (.int .i64 0) := hst.o.get rfl
  have f4 : Y.frozen? ⟨w.heap.size + 1 + 1, 4, none⟩ = false := hst.o.hot 4
  have q5 : Y.cell? ⟨w.heap.size + 1 + 1, 5, none⟩ = some (.int .i64 0) := hst.o.get rfl
  have f5 : Y.frozen? ⟨w.heap.size + 1 + 1, 5, none⟩ = false := hst.o.hot 5
  have q6 : Y.cell? ⟨w.heap.size + 1 + 1, 6, none⟩ = some (.int .i64 0) := hst.o.get rfl
  have f6 : Y.frozen? ⟨w.heap.size + 1 + 1, 6, none⟩ = false := hst.o.hot 6
  have q7 : Y.cell? ⟨w.heap.size + 1 + 1, 7, none⟩ = some (.int .i64 0) := hst.o.get rfl
  have f7 : Y.frozen? ⟨w.heap.size + 1 + 1, 7, none⟩ = false := hst.o.hot 7
  clear hst
  go_upto_region 4 with (first | (go_at_call 27; refine (CL.out _).mono ?_; rintro e w' ⟨rfl, hb⟩; obtain ⟨o1, n1, rfl⟩ := below_adds hb; clear hb))
  refine all_add' ?_
  intro X hX
  have T3 := Lib.hid (show TE w.heap.size f g c u l (eA f g 0 false false) w X from by rw [hX]; exact TE.adds (TE.putL T2.out hwg g) o1 n1)
  clear hX T2 e0 e1 e2 e3 e4 e5 e6 e7 e8 e9 e10 q4 q5 q6 q7 f4 f5 f6 f7 lo CL
  have hst := T3.out
  have e0 : X.cell? ⟨w.heap.size, 0, none⟩ = some (.int .i64 (f 0)) := hst.a.get rfl
  have e1 : X.cell? ⟨w.heap.size, 1, none⟩ = some (.int .i64 (f 1)) := hst.a.get rfl
  have e2 : X.cell? ⟨w.heap.size, 2, none⟩ = some (.int .i64 (f 2)) := hst.a.get rfl
  have e3 : X.cell? ⟨w.heap.size, 3, none⟩ = some (.int .i64 (f 3)) := hst.a.get rfl
  have e4 : X.cell? ⟨w.heap.size, 4, none⟩ = some (.int .i64 (g 0)) := hst.a.get rfl
  have e5 : X.cell? ⟨w.heap.size, 5, none⟩ = some (.int .i64 (g 1)) := hst.a.get rfl
  have e6 : X.cell? ⟨w.heap.size, 6, none⟩ = some (.int .i64 (g 2)) := hst.a.get rfl
  have e7 : X.cell? ⟨w.heap.size, 7, none⟩ = some (.int .i64 (g 3)) := hst.a.get rfl
  have e8 : X.cell? ⟨w.heap.size, 8, none⟩ = some (.int .i64 c) := hst.a.get rfl
  have e9 : X.cell? ⟨w.heap.size, 9, none⟩ = some (.bool u) := hst.a.get rfl
  have e10 : X.cell? ⟨w.heap.size, 10, none⟩ = some (.bool l) := hst.a.get rfl
  have lo := hst.o.lt
  have q8 : X.cell? ⟨w.heap.size + 1 + 1, 8, none⟩ = some (.int .i64 0) := hst.o.get rfl
  have f8 : X.frozen? ⟨w.heap.size + 1 + 1, 8, none⟩ = false := hst.o.hot 8
  have q9 : X.cell? ⟨w.heap.size + 1 + 1, 9, none⟩ = some (.bool false) := hst.o.get rfl
  have f9 : X.frozen? ⟨w.heap.size + 1 + 1, 9, none⟩ = false := hst.o.hot 9
  have q10 : X.cell? ⟨w.heap.size + 1 + 1, 10, none⟩ = some (.bool false) := hst.o.get rfl
  have f10 : X.frozen? ⟨w.heap.size + 1 + 1, 10, none⟩ = false := hst.o.hot 10
  clear hst
  go_upto_region 7 with fail
  refine all_add' ?_
  intro V hV
  have T4 : TE w.heap.size f g c u l (eA f g c u l) w V := by rw [hV]; exact TE.putR T3.out hwg c u l
  clear hV T3 e0 e1 e2 e3 e4 e5 e6 e7 e8 e9 e10 q8 q9 q10 f8 f9 f10 lo
  refine wp_region_lit ?_
  refine wpList_load_row rfl 25 (.tmp 3) rfl (w.heap.size + 1 + 1) rfl 25 (eA f g c u l) (0, 0) _ T4.o Try.underlying25 rfl (infoEd f g c u l) ?_
  refine wpList_store_row rfl 25 (.tmp 2) (.tmp 21) rfl (w.heap.size + 1) (eA f g c u l) rfl rfl 25 e0 T4.r (infoEd f g c u l) rfl (eA_one f g c u l) ?_
  go_wp2_with fail
  refine bodyPost_ret (v := .agg (eA f g c u l)) (by exact results_cell_row Try.results14 _ _ (w.heap.size + 1) 25 (eA f g c u l) (0, 0) _ rfl (T4.r.row (eA f g c u l)) Try.underlying25 rfl (infoEd f g c u l)) rfl ?_
  exact ⟨rfl, below_row T4.below T4.below.size (by omega) _⟩

end Go.Proofs.Ythnigldbpikcaaa
