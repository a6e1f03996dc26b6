/- EdgesValid, the program's. -/
import Derived.Test.YtobphddjoebfjaaEdgeM
namespace Go.Proofs.Ytobphddjoebfjaa
open Go.RowKit
set_option linter.unusedVariables false
set_option linter.unusedSimpArgs false

attribute [local go_sem] size_addsW cell?_addsW frozen?_addsW setCell_addsW drew_addsW adds_addsW setCell_twice alloc_adds0 size_adds0 adds_adds0 sel2 sel3 sel4 sel5 sel6 sel7 sel8 sel9 lt_more lt_more2 lt_more3 lt_more4 adds_drew adds_drewN drewN_addsW ltA_1_1 ltA_1_2 ltA_1_3 ltA_1_4 ltA_1_5 ltA_1_6 ltA_2_1 ltA_2_2 ltA_2_3 ltA_2_4 ltA_2_5 ltA_2_6 ltA_3_1 ltA_3_2 ltA_3_3 ltA_3_4 ltA_3_5 ltA_3_6 ltA_4_1 ltA_4_2 ltA_4_3 ltA_4_4 ltA_4_5 ltA_4_6 ltA_5_1 ltA_5_2 ltA_5_3 ltA_5_4 ltA_5_5 ltA_5_6 ltA_6_1 ltA_6_2 ltA_6_3 ltA_6_4 ltA_6_5 ltA_6_6 ltA_7_1 ltA_7_2 ltA_7_3 ltA_7_4 ltA_7_5 ltA_7_6 ltA_8_1 ltA_8_2 ltA_8_3 ltA_8_4 ltA_8_5 ltA_8_6 ltA_9_1 ltA_9_2 ltA_9_3 ltA_9_4 ltA_9_5 ltA_9_6 ltA_10_1 ltA_10_2 ltA_10_3 ltA_10_4 ltA_10_5 ltA_10_6 ltA_11_1 ltA_11_2 ltA_11_3 ltA_11_4 ltA_11_5 ltA_11_6 ltA_12_1 ltA_12_2 ltA_12_3 ltA_12_4 ltA_12_5 ltA_12_6

theorem row4 {W : World} {g k : Nat} {z0 z1 z2 z3 : Int} (hl : g < W.heap.size) (h0 : W.cell? ⟨g, k, none⟩ = some (.int .i64 z0)) (h1 : W.cell? ⟨g, k + 1, none⟩ = some (.int .i64 z1)) (h2 : W.cell? ⟨g, k + 2, none⟩ = some (.int .i64 z2)) (h3 : W.cell? ⟨g, k + 3, none⟩ = some (.int .i64 z3)) :
    RowAt .i64 W (some ⟨g, k, none⟩) [z0, z1, z2, z3] := fun _ => ⟨g, k, rfl, hl, fun i hi => by
  match i, hi with
  | 0, _ => exact h0
  | 1, _ => exact h1
  | 2, _ => exact h2
  | 3, _ => exact h3⟩
def evB (f g : Nat → Int) (c' : Int) : Bool := M.samplesB [f 0, f 1, f 2, f 3] && M.samplesB [g 0, g 1, g 2, g 3] && M.inB c' 0 255

set_option maxRecDepth 100000 in
set_option maxHeartbeats 2000000 in
theorem I_EdgesValid (f g : Nat → Int) (c' : Int) (u l : Bool) (w : World) (h1 : M.samplesB [f 0, f 1, f 2, f 3] = true) (h2 : M.samplesB [g 0, g 1, g 2, g 3] = true) (h3 : M.inB c' 0 255 = true) :
    Calls Try.prog 28 #[.agg #[.int .i64 (f 0), .int .i64 (f 1), .int .i64 (f 2), .int .i64 (f 3), .int .i64 (g 0), .int .i64 (g 1), .int .i64 (g 2), .int .i64 (g 3), .int .i64 c', .bool u, .bool l]] w fun e w' => e = .returned (.bool true) ∧ Below w.heap.size w w' := by
  have hB : Blk (w.alloc (.cells #[.int .i64 (f 0), .int .i64 (f 1), .int .i64 (f 2), .int .i64 (f 3), .int .i64 (g 0), .int .i64 (g 1), .int .i64 (g 2), .int .i64 (g 3), .int .i64 c', .bool u, .bool l] 38)) w.heap.size #[.int .i64 (f 0), .int .i64 (f 1), .int .i64 (f 2), .int .i64 (f 3), .int .i64 (g 0), .int .i64 (g 1), .int .i64 (g 2), .int .i64 (g 3), .int .i64 c', .bool u, .bool l] 38 := Blk.new w _ _ _ rfl
  have hr1 : RowAt .i64 (w.alloc (.cells #[.int .i64 (f 0), .int .i64 (f 1), .int .i64 (f 2), .int .i64 (f 3), .int .i64 (g 0), .int .i64 (g 1), .int .i64 (g 2), .int .i64 (g 3), .int .i64 c', .bool u, .bool l] 38)) (some ⟨w.heap.size, 0, none⟩) [f 0, f 1, f 2, f 3] := row4 hB.lt (hB.get rfl) (hB.get rfl) (hB.get rfl) (hB.get rfl)
  have hr2 : RowAt .i64 (w.alloc (.cells #[.int .i64 (f 0), .int .i64 (f 1), .int .i64 (f 2), .int .i64 (f 3), .int .i64 (g 0), .int .i64 (g 1), .int .i64 (g 2), .int .i64 (g 3), .int .i64 c', .bool u, .bool l] 38)) (some ⟨w.heap.size, 4, none⟩) [g 0, g 1, g 2, g 3] := row4 hB.lt (hB.get rfl) (hB.get rfl) (hB.get rfl) (hB.get rfl)
  have C1 := Lib.hid (show Calls Try.prog 65 #[.slice (some ⟨w.heap.size, 0, none⟩) 4 4] (w.alloc (.cells #[.int .i64 (f 0), .int .i64 (f 1), .int .i64 (f 2), .int .i64 (f 3), .int .i64 (g 0), .int .i64 (g 1), .int .i64 (g 2), .int .i64 (g 3), .int .i64 c', .bool u, .bool l] 38)) fun e w' => e = .returned (.bool true) ∧ (w.alloc (.cells #[.int .i64 (f 0), .int .i64 (f 1), .int .i64 (f 2), .int .i64 (f 3), .int .i64 (g 0), .int .i64 (g 1), .int .i64 (g 2), .int .i64 (g 3), .int .i64 c', .bool u, .bool l] 38)) = w' from by
    have := I_samplesIn _ 4 _ _ hr1 (by simp)
    rw [h1] at this; exact this)
  have C2 := Lib.hid (show Calls Try.prog 65 #[.slice (some ⟨w.heap.size, 4, none⟩) 4 4] (w.alloc (.cells #[.int .i64 (f 0), .int .i64 (f 1), .int .i64 (f 2), .int .i64 (f 3), .int .i64 (g 0), .int .i64 (g 1), .int .i64 (g 2), .int .i64 (g 3), .int .i64 c', .bool u, .bool l] 38)) fun e w' => e = .returned (.bool true) ∧ (w.alloc (.cells #[.int .i64 (f 0), .int .i64 (f 1), .int .i64 (f 2), .int .i64 (f 3), .int .i64 (g 0), .int .i64 (g 1), .int .i64 (g 2), .int .i64 (g 3), .int .i64 c', .bool u, .bool l] 38)) = w' from by
    have := I_samplesIn _ 4 _ _ hr2 (by simp)
    rw [h2] at this; exact this)
  clear hr1 hr2 hB h1 h2
  go_enter Try.func28, Try.ntmps28
  go_wp2_with (first | (go_at_call 65; (first | with_reducible refine C1.out.mono ?_ | with_reducible refine C2.out.mono ?_); rintro e w' ⟨rfl, rfl⟩) | (go_at_call 66; refine (I_sampleValid _ _).mono ?_; rw [h3]; rintro e w' ⟨rfl, rfl⟩))
  go_returns
  exact ⟨rfl, (by repeat' (first | (with_reducible exact Below.refl _ _) | (with_reducible refine Below.adds_ ?_ ?_ _ _) | (with_reducible refine Below.alloc ?_ ?_ _) | (with_reducible refine Below.drew ?_) | (with_reducible refine Below.setCell ?_ ?_ _) | (with_reducible assumption) | go_size | (simp only [size_addsW, World.size_alloc, World.size_drew, World.size_setCell]; omega)))⟩

end Go.Proofs.Ytobphddjoebfjaa
