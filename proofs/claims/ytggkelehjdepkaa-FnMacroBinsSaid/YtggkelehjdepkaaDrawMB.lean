/- The draw of MacroBins. -/
import Derived.Test.YtggkelehjdepkaaDrawO
namespace Go.Proofs.Ytggkelehjdepkaa
open Go.RowKit
set_option linter.unusedVariables false
set_option linter.unusedSimpArgs false

attribute [local go_sem] size_addsW cell?_addsW frozen?_addsW setCell_addsW drew_addsW adds_addsW setCell_twice alloc_adds0 size_adds0 adds_adds0 sel2 sel3 sel4 sel5 sel6 sel7 sel8 sel9 lt_more lt_more2 lt_more3 lt_more4 adds_drew adds_drewN drewN_addsW ltA_1_1 ltA_1_2 ltA_1_3 ltA_1_4 ltA_1_5 ltA_1_6 ltA_2_1 ltA_2_2 ltA_2_3 ltA_2_4 ltA_2_5 ltA_2_6 ltA_3_1 ltA_3_2 ltA_3_3 ltA_3_4 ltA_3_5 ltA_3_6 ltA_4_1 ltA_4_2 ltA_4_3 ltA_4_4 ltA_4_5 ltA_4_6 ltA_5_1 ltA_5_2 ltA_5_3 ltA_5_4 ltA_5_5 ltA_5_6 ltA_6_1 ltA_6_2 ltA_6_3 ltA_6_4 ltA_6_5 ltA_6_6 ltA_7_1 ltA_7_2 ltA_7_3 ltA_7_4 ltA_7_5 ltA_7_6 ltA_8_1 ltA_8_2 ltA_8_3 ltA_8_4 ltA_8_5 ltA_8_6 ltA_9_1 ltA_9_2 ltA_9_3 ltA_9_4 ltA_9_5 ltA_9_6 ltA_10_1 ltA_10_2 ltA_10_3 ltA_10_4 ltA_10_5 ltA_10_6 ltA_11_1 ltA_11_2 ltA_11_3 ltA_11_4 ltA_11_5 ltA_11_6 ltA_12_1 ltA_12_2 ltA_12_3 ltA_12_4 ltA_12_5 ltA_12_6

theorem heap_rdB (w : World) (B g : Nat) (q : Value) (oo : Array Obj) (nn : Nat) (u : Array Value) (t : TypeId) (hg : w.heap[g]? = some (.cells u t (0, 0))) (hne : g ≠ B) :
    (addsW (w.setCell ⟨B, 1, none⟩ q) oo nn).heap[g]? = some (.cells u t (0, 0)) := by
  have hlt : g < w.heap.size := by
    rcases Nat.lt_or_ge g w.heap.size with h | h
    · exact h
    · rw [Array.getElem?_eq_none h] at hg; cases hg
  rw [heap_addsW _ _ _ _ (by simp [World.setCell]; exact hlt), Below.heap_setCell _ _ _ _ hne]
  exact hg
theorem results_row_tmp {P : Program} {fn : Func} {q p : Tmp} {ty : TypeId} (h : fn.results = #[.cell p ty, .tmp q]) (tmps : Array Value) (w : World) (g : Nat) (t : TypeId) (cs : Array Value) (fr : Nat × Nat) (d : TypeDesc)
    (hp : tmps.getD p undef = .pointer (some ⟨g, 0, none⟩)) (hg : w.heap[g]? = some (.cells cs t fr))
    (hu : P.underlying ty = some d) (hd : (match d with | .struct _ | .array _ _ => true | _ => false) = true) (hi : (P.info? ty).map (·.size) = some cs.size) :
    (results fn tmps).run P w = .ok (.tuple #[.agg cs, tmps.getD q undef]) w := by
  have hp' : tmps[p]?.getD undef = .pointer (some ⟨g, 0, none⟩) := by simpa using hp
  simp [results, h, hp', asAddr, run_loadVar_row w g t ty cs fr d hg hu hd hi]

set_option maxRecDepth 100000 in
set_option maxHeartbeats 1000000 in
theorem S_DrawMacroBins (a : Option Addr) (len cap : Nat) (zs : List Int) (w : World) (h : IsRow .u8 w a len cap zs) :
    Calls Try.prog 7 #[.slice a len cap] w fun e w' => ∃ (ys : List Int) (b : Bool), e = .returned (.tuple #[.agg (rowI ys), .bool b]) ∧ ys.length = 71 ∧ Below w.heap.size w w' := by
  have HI := Lib.hid h
  clear h
  go_enter Try.func7, Try.ntmps7
  go_wp2_with (first
    | (simp only [zcMac]) | (go_at_call 30; refine (S_l20Open _ _ _ zs _ (IsRow.keep HI.out (by repeat' (first | (with_reducible exact Below.refl _ _) | (with_reducible refine Below.adds_ ?_ ?_ _ _) | (with_reducible refine Below.alloc ?_ ?_ _) | (with_reducible refine Below.drew ?_) | (with_reducible refine Below.setCell ?_ ?_ _) | (with_reducible assumption) | go_size | (simp only [size_addsW, World.size_alloc, World.size_drew, World.size_setCell]; omega))))).mono ?_; rintro e w1 ⟨rfl, hR', hb, hB⟩; (try simp only [World.size_alloc] at hR' hB); have hR := Lib.hid hR'; clear hR'; have hbw : Below w.heap.size w w1 := Below.trans (by repeat' (first | (with_reducible exact Below.refl _ _) | (with_reducible refine Below.adds_ ?_ ?_ _ _) | (with_reducible refine Below.alloc ?_ ?_ _) | (with_reducible refine Below.drew ?_) | (with_reducible refine Below.setCell ?_ ?_ _) | (with_reducible assumption) | go_size | (simp only [size_addsW, World.size_alloc, World.size_drew, World.size_setCell]; omega))) (hb.mono (by simp)); have hg := (hb.block w.heap.size (by simp)).trans (heap_alloc_new _ _); clear hb)
    | (go_at_call 31; refine (S_pick (w.heap.size + 1) _ _ _ (by repeat (first | (with_reducible exact hR.out) | (with_reducible apply RdAt.adds) | (with_reducible apply RdAt.alloc) | (with_reducible exact RdAt.set hR.out _) | (with_reducible apply RdAt.drew))) (by omega)).mono ?_; rintro e w' ⟨v, p1, k1, rfl, hv, hp1, rfl⟩; have hv' := hv.1 (by omega); clear hv)
    | (go_at_call 32; refine (S_l20Macro (w.heap.size + 1) _ _ _ _ (by repeat (first | (with_reducible exact hR.out) | (with_reducible apply RdAt.adds) | (with_reducible apply RdAt.alloc) | (with_reducible exact RdAt.set hR.out _) | (with_reducible apply RdAt.drew))) (by omega) (by omega)).mono ?_; rintro e w' ⟨ys, rfl, hy, p2, o2, k2, hp2, rfl⟩; have HY := Lib.hid hy; clear hy)
    | (focus ((with_reducible refine wpList_wanted ?_ (fun K hK => ?_)); rotate_left; (refine wp_store_sub 29 (.tmp 2) (.tmp 18) ?ho w.heap.size 0 ys ?hx ?hy 29 (zL 71) ?hg ?hi ?hfit (hK _ _ ?_)); (case ho => with_reducible rfl); (case hx => rfl); (case hy => rfl); (case hg => first | exact heap_rdB _ _ _ _ _ _ _ _ hg (Nat.ne_of_lt (Nat.lt_succ_self _)) | (simp only [setCell_addsW, adds_addsW, setCell_twice, World.size_setCell, hB]; exact heap_rdB _ _ _ _ _ _ _ _ hg (Nat.ne_of_lt (Nat.lt_succ_self _)))); (case hi => rw [HY.out]; exact infoMacD); (case hfit => rw [HY.out, zL_len]; exact Nat.le_refl _); rw [spl_full (by rw [HY.out, zL_len])]; rotate_left; rfl)))
  all_goals
    refine bodyPost_ret (by exact results_row_tmp Try.results7 _ _ w.heap.size 29 (rowI ys) (0, 0) _ rfl (setRow_heap _ _ (rowI (zL 71)) _ _ _ (heap_rdB _ (w.heap.size + 1) _ _ _ _ _ _ hg (Nat.ne_of_lt (Nat.lt_succ_self _)))) Try.underlying29 rfl (by rw [rowI_size, HY.out]; exact infoMacD)) rfl ?_
    exact ⟨ys, _, rfl, HY.out, Below.setRow_ (by repeat' (first | (with_reducible exact Below.refl _ _) | (with_reducible refine Below.adds_ ?_ ?_ _ _) | (with_reducible refine Below.alloc ?_ ?_ _) | (with_reducible refine Below.drew ?_) | (with_reducible refine Below.setCell ?_ ?_ _) | (with_reducible assumption) | go_size | (simp only [size_addsW, World.size_alloc, World.size_drew, World.size_setCell]; omega))) (Nat.le_refl _) _⟩

end Go.Proofs.Ytggkelehjdepkaa
