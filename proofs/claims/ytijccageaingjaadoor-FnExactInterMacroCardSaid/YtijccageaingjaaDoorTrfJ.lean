/- The cost of a transform, the program's. -/
import Derived.Test.YtijccageaingjaaDoorTrfI
import Derived.Test.YtijccageaingjaaDoorSmall
namespace Go.Proofs.YtijccageaingjaaDoor
open Go.RowKit
set_option linter.unusedVariables false
set_option linter.unusedSimpArgs false

attribute [local go_sem] size_addsW cell?_addsW frozen?_addsW setCell_addsW drew_addsW adds_addsW setCell_twice alloc_adds0 size_adds0 adds_adds0 sel2 sel3 sel4 sel5 sel6 sel7 sel8 sel9 lt_more lt_more2 lt_more3 lt_more4 adds_drew adds_drewN drewN_addsW ltA_1_1 ltA_1_2 ltA_1_3 ltA_1_4 ltA_1_5 ltA_1_6 ltA_2_1 ltA_2_2 ltA_2_3 ltA_2_4 ltA_2_5 ltA_2_6 ltA_3_1 ltA_3_2 ltA_3_3 ltA_3_4 ltA_3_5 ltA_3_6 ltA_4_1 ltA_4_2 ltA_4_3 ltA_4_4 ltA_4_5 ltA_4_6 ltA_5_1 ltA_5_2 ltA_5_3 ltA_5_4 ltA_5_5 ltA_5_6 ltA_6_1 ltA_6_2 ltA_6_3 ltA_6_4 ltA_6_5 ltA_6_6 ltA_7_1 ltA_7_2 ltA_7_3 ltA_7_4 ltA_7_5 ltA_7_6 ltA_8_1 ltA_8_2 ltA_8_3 ltA_8_4 ltA_8_5 ltA_8_6 ltA_9_1 ltA_9_2 ltA_9_3 ltA_9_4 ltA_9_5 ltA_9_6 ltA_10_1 ltA_10_2 ltA_10_3 ltA_10_4 ltA_10_5 ltA_10_6 ltA_11_1 ltA_11_2 ltA_11_3 ltA_11_4 ltA_11_5 ltA_11_6 ltA_12_1 ltA_12_2 ltA_12_3 ltA_12_4 ltA_12_5 ltA_12_6

theorem row16 {W : World} {g : Nat} {zs : List Int} {t : TypeId} (h : Blk W g (rowI zs) t) : RowAt .i64 W (some ⟨g, 0, none⟩) zs := fun _ =>
  ⟨g, 0, rfl, h.lt, fun i hi => h.get (by rw [Nat.zero_add]; exact rowI_get hi)⟩
structure B2 (G : Nat) (A B : List Int) (w W : World) : Prop where
  a : Blk W G (rowI A) 30
  b : Blk W (G + 1) (rowI B) 30
  below : Below w.heap.size w W
theorem B2.start (w : World) (A B : List Int) : B2 w.heap.size A B w ((w.alloc (.cells (rowI A) 30)).alloc (.cells (rowI B) 30)) :=
  ⟨(Blk.new w _ _ _ rfl).alloc _, Blk.new _ _ _ _ (by simp), (by repeat' (first | (with_reducible exact Below.refl _ _) | (with_reducible refine Below.adds_ ?_ ?_ _ _) | (with_reducible refine Below.alloc ?_ ?_ _) | (with_reducible refine Below.drew ?_) | (with_reducible refine Below.setCell ?_ ?_ _) | (with_reducible assumption) | go_size | (simp only [size_addsW, World.size_alloc, World.size_drew, World.size_setCell]; omega)))⟩

end Go.Proofs.YtijccageaingjaaDoor
