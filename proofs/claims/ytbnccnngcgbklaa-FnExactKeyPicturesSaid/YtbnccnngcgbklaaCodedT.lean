/- Coded pictures copied, and opened. -/
import Derived.Test.YtbnccnngcgbklaaCoded
import Derived.Test.YtbnccnngcgbklaaFlat
namespace Go.Proofs.Ytbnccnngcgbklaa
open Go.RowKit Go.Deep
set_option linter.unusedVariables false
set_option linter.unusedSimpArgs false

attribute [local go_sem] size_addsW cell?_addsW frozen?_addsW setCell_addsW drew_addsW adds_addsW setCell_twice alloc_adds0 size_adds0 adds_adds0 sel2 sel3 sel4 sel5 sel6 sel7 sel8 sel9 lt_more lt_more2 lt_more3 lt_more4 adds_drew adds_drewN drewN_addsW ltA_1_1 ltA_1_2 ltA_1_3 ltA_1_4 ltA_1_5 ltA_1_6 ltA_2_1 ltA_2_2 ltA_2_3 ltA_2_4 ltA_2_5 ltA_2_6 ltA_3_1 ltA_3_2 ltA_3_3 ltA_3_4 ltA_3_5 ltA_3_6 ltA_4_1 ltA_4_2 ltA_4_3 ltA_4_4 ltA_4_5 ltA_4_6 ltA_5_1 ltA_5_2 ltA_5_3 ltA_5_4 ltA_5_5 ltA_5_6 ltA_6_1 ltA_6_2 ltA_6_3 ltA_6_4 ltA_6_5 ltA_6_6 ltA_7_1 ltA_7_2 ltA_7_3 ltA_7_4 ltA_7_5 ltA_7_6 ltA_8_1 ltA_8_2 ltA_8_3 ltA_8_4 ltA_8_5 ltA_8_6 ltA_9_1 ltA_9_2 ltA_9_3 ltA_9_4 ltA_9_5 ltA_9_6 ltA_10_1 ltA_10_2 ltA_10_3 ltA_10_4 ltA_10_5 ltA_10_6 ltA_11_1 ltA_11_2 ltA_11_3 ltA_11_4 ltA_11_5 ltA_11_6 ltA_12_1 ltA_12_2 ltA_12_3 ltA_12_4 ltA_12_5 ltA_12_6

theorem all_add' {P : Program} {C : Code} {Q : Exit → Act → World → Prop} {a : Act} {W : World}
    (H : ∀ (X : World), X = W → Code.wp P C Q a X) : Code.wp P C Q a W := H _ rfl
theorem Blk.row_ {W : World} {k : Nat} {cs : Array Value} {t : TypeId} (h : Blk W k cs t) (cs' : Array Value) : Blk (W.setRow k cs') k cs' t := setRow_heap W k cs cs' t (0, 0) h
theorem below_row_ {D g : Nat} {w W : World} (h : Below D w W) (hg : D ≤ g) (cs : Array Value) : Below D w (W.setRow g cs) := by
  obtain ⟨h1, h2, h3, h4, h5⟩ := h
  refine ⟨h1, h2, h3, by simpa using h4, fun k hk => ?_⟩
  rw [← h5 k hk]
  simp only [World.setRow, Array.getElem?_modify]
  rw [if_neg (by omega)]
theorem infoCoded (x y : Int) (i : Bool) (q : Int) (A : Option Addr) (n cap : Nat) : (Try.prog.info? 27).map (·.size) = some (cdA x y i q A n cap).size := by kernel_rfl
theorem cdA_one (x y : Int) (i : Bool) (q : Int) (A : Option Addr) (n cap : Nat) : (cdA x y i q A n cap).all (·.oneCell') = true := by simp [cdA, Value.oneCell']

structure TC (G : Nat) (x y : Int) (i : Bool) (q : Int) (A : Option Addr) (n cap : Nat) (w W : World) : Prop where
  a : Blk W G (cdA x y i q A n cap) 24
  r : Blk W (G + 1) (cdA 0 0 false 0 none 0 0) 27
  o : Blk W (G + 1 + 1) (cdA x y i q none 0 0) 27
  below : Below w.heap.size w W

set_option maxRecDepth 100000 in
set_option maxHeartbeats 1000000 in
theorem L_toCoded (x y : Int) (i : Bool) (q : Int) (A : Option Addr) (n cap : Nat) (a : Nat → Option Addr) (l c : Nat → Nat) (z : Nat → List Int) (w : World) (h : SSAt w A n a l c z) (hn : n + sm l n ≤ 1048576) :
    Calls Try.prog 8 #[.agg (cdA x y i q A n cap)] w fun e w' => ∃ g p, e = .returned (.agg (cdA x y i q (some ⟨g, 0, none⟩) n n)) ∧ SSOwn w' g n n p l z ∧ w.heap.size ≤ g ∧ Below w.heap.size w w' := by
  have HS := Lib.hid h
  clear h
  have HT0 := Lib.hid (⟨((Blk.new w _ _ _ rfl).alloc _).alloc _, (Blk.new _ _ _ _ (by simp)).alloc _, Blk.new _ _ _ _ (by simp), (by repeat' (first | (with_reducible exact Below.refl _ _) | (with_reducible refine Below.adds_ ?_ ?_ _ _) | (with_reducible refine Below.alloc ?_ ?_ _) | (with_reducible refine Below.drew ?_) | (with_reducible refine Below.setCell ?_ ?_ _) | (with_reducible assumption) | go_size | (simp only [size_addsW, World.size_alloc, World.size_drew, World.size_setCell]; omega)))⟩ : TC w.heap.size x y i q A n cap w (((w.alloc (.cells (cdA x y i q A n cap) 24)).alloc (.cells (cdA 0 0 false 0 none 0 0) 27)).alloc (.cells (cdA x y i q none 0 0) 27)))
  unfold cdA
  go_enter Try.func8, Try.ntmps8
  go_upto_region 6 with fail
  refine all_add' ?_
  intro Z hZ
  have HT := Lib.hid (show TC w.heap.size x y i q A n cap w Z from hZ ▸ HT0.out)
  clear hZ HT0
  have e4 : Z.cell? ⟨w.heap.size, 4, none⟩ = some (.slice A n cap) := HT.out.a.get rfl
  have lz := HT.out.o.lt
  go_wp2_with fail
  refine (L_toByteSS A n cap a l c z _ (HS.out.keep HT.out.below) hn).mono ?_
  rintro e W1 ⟨rfl, p, ho, hb⟩
  have hg : w.heap.size + 1 + 1 < Z.heap.size := lz
  have hst := HT.out
  have HA : Blk W1 (w.heap.size + 1 + 1) (cdA x y i q none 0 0) 27 := hst.o.below hb hst.o.lt
  have HR : Blk W1 (w.heap.size + 1) (cdA 0 0 false 0 none 0 0) 27 := hst.r.below hb hst.r.lt
  have HB : Below w.heap.size w W1 := hst.below.trans (hb.mono hst.below.size)
  have o4 : W1.cell? ⟨w.heap.size + 1 + 1, 4, none⟩ = some (.slice none 0 0) := HA.get rfl
  have f4 := HA.hot 4
  have HOO := Lib.hid ho
  have HOB := Lib.hid HA
  have HRR := Lib.hid HR
  have HBB := Lib.hid HB
  clear HA HR HB ho hb hst HT e4 lz
  generalize Z.heap.size = g at *
  go_upto_region 7 with fail
  refine all_add' ?_
  intro V hV
  have ho : SSOwn V g n n p l z := hV ▸ HOO.out.set hg _
  have hb : Below w.heap.size w V := hV ▸ HBB.out.setCell (by simp only; omega) _
  have hr : Blk V (w.heap.size + 1) (cdA 0 0 false 0 none 0 0) 27 := hV ▸ HRR.out.other (by simp only; omega) _
  have ha : Blk V (w.heap.size + 1 + 1) (cdA x y i q (some ⟨g, 0, none⟩) n n) 27 := by
    rw [hV]; exact HOB.out.set 4 (.slice (some ⟨g, 0, none⟩) n n)
  clear hV HOO HOB HRR HBB o4 f4
  refine wp_region_lit ?_
  refine wpList_load_row rfl 27 (.tmp 3) rfl (w.heap.size + 1 + 1) rfl 27 (cdA x y i q (some ⟨g, 0, none⟩) n n) (0, 0) _ ha Try.underlying27 rfl (infoCoded _ _ _ _ _ _ _) ?_
  refine wpList_store_row rfl 27 (.tmp 2) (.tmp 20) rfl (w.heap.size + 1) (cdA x y i q (some ⟨g, 0, none⟩) n n) rfl rfl 27 (cdA 0 0 false 0 none 0 0) hr (infoCoded _ _ _ _ _ _ _) rfl (cdA_one _ _ _ _ _ _ _) ?_
  go_wp2_with fail
  refine bodyPost_ret (v := .agg (cdA x y i q (some ⟨g, 0, none⟩) n n)) (by exact results_cell_row Try.results8 _ _ (w.heap.size + 1) 27 (cdA x y i q (some ⟨g, 0, none⟩) n n) (0, 0) _ rfl (hr.row_ _) Try.underlying27 rfl (infoCoded _ _ _ _ _ _ _)) rfl ?_
  exact ⟨g, p, rfl, ho.row (by omega) _, by omega, below_row_ hb (by omega) _⟩

end Go.Proofs.Ytbnccnngcgbklaa
