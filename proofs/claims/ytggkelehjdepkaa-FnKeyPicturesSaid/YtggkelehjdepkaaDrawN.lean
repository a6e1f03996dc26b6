/- Draws of blocks and macroblocks. -/
import Derived.Test.YtggkelehjdepkaaMacE
import Derived.Test.YtggkelehjdepkaaDrawA
import Derived.Test.YtggkelehjdepkaaDrawD
namespace Go.Proofs.Ytggkelehjdepkaa
open Go.RowKit
set_option linter.unusedVariables false
set_option linter.unusedSimpArgs false

attribute [local go_sem] size_addsW cell?_addsW frozen?_addsW setCell_addsW drew_addsW adds_addsW setCell_twice alloc_adds0 size_adds0 adds_adds0 sel2 sel3 sel4 sel5 sel6 sel7 sel8 sel9 lt_more lt_more2 lt_more3 lt_more4 adds_drew adds_drewN drewN_addsW ltA_1_1 ltA_1_2 ltA_1_3 ltA_1_4 ltA_1_5 ltA_1_6 ltA_2_1 ltA_2_2 ltA_2_3 ltA_2_4 ltA_2_5 ltA_2_6 ltA_3_1 ltA_3_2 ltA_3_3 ltA_3_4 ltA_3_5 ltA_3_6 ltA_4_1 ltA_4_2 ltA_4_3 ltA_4_4 ltA_4_5 ltA_4_6 ltA_5_1 ltA_5_2 ltA_5_3 ltA_5_4 ltA_5_5 ltA_5_6 ltA_6_1 ltA_6_2 ltA_6_3 ltA_6_4 ltA_6_5 ltA_6_6 ltA_7_1 ltA_7_2 ltA_7_3 ltA_7_4 ltA_7_5 ltA_7_6 ltA_8_1 ltA_8_2 ltA_8_3 ltA_8_4 ltA_8_5 ltA_8_6 ltA_9_1 ltA_9_2 ltA_9_3 ltA_9_4 ltA_9_5 ltA_9_6 ltA_10_1 ltA_10_2 ltA_10_3 ltA_10_4 ltA_10_5 ltA_10_6 ltA_11_1 ltA_11_2 ltA_11_3 ltA_11_4 ltA_11_5 ltA_11_6 ltA_12_1 ltA_12_2 ltA_12_3 ltA_12_4 ltA_12_5 ltA_12_6

theorem grownBy_setRow (w : World) (g : Nat) (cs : Array Value) : w.grownBy (w.setRow g cs) (some g) :=
  ⟨rfl, rfl, rfl, by simp [World.setRow], fun k hk hne => by
    have : ¬ g = k := fun e => hne (by rw [e])
    simp [World.setRow, Array.getElem?_modify, this]⟩
theorem Moved.row {W w' : World} {B p K : Nat} (hB : B < W.heap.size) (h : Moved W B p K w') {g : Nat} (hg : W.heap.size ≤ g) (cs : Array Value) : Moved W B p K (w'.setRow g cs) :=
  h.step hB (grownBy_setRow w' g cs) (fun k e => by injection e with e; omega)
theorem heap2x (X : World) (u y : Array Value) (t2 t3 : TypeId) (oo : Array Obj) (nn g : Nat) (hg : g = X.heap.size) :
    (addsW ((X.alloc (.cells u t2)).alloc (.cells y t3)) oo nn).heap[g]? = some (.cells u t2 (0, 0)) ∧
    (addsW ((X.alloc (.cells u t2)).alloc (.cells y t3)) oo nn).heap[g + 1]? = some (.cells y t3 (0, 0)) := by
  subst hg
  refine ⟨?_, ?_⟩
  · rw [heap_addsW _ _ _ _ (by simp; omega), Below.heap_alloc _ _ _ (by simp)]; exact heap_alloc_new _ _
  · rw [heap_addsW _ _ _ _ (by simp)]; exact heap_alloc2_new _ _ _

theorem all_ys {P : Program} {C : Code} {Q : Exit → Act → World → Prop} {a : Act} {X : World} {t : TypeId} {oo : Array Obj} {nn N : Nat} (zs : List Int) (h : zs.length = N)
    (H : ∀ ys : List Int, ys.length = N → Code.wp P C Q a (addsW (X.alloc (.cells (rowI ys) t)) oo nn)) : Code.wp P C Q a (addsW (X.alloc (.cells (rowI zs) t)) oo nn) := H zs h

/-- a block drawn -/
def BlkRel (w : World) (B p : Nat) (i : Value) (wr : World) : Prop :=
  ∃ (k q : Nat) (zs : List Int) (oo : Array Obj) (nn : Nat), k ≤ 16 ∧ i = .int .i64 (k : Int) ∧ q ≤ p + 1 + 4 * k ∧ zs.length = 16 ∧
    wr = addsW (((w.setCell ⟨B, 1, none⟩ (.int .i64 (q : Int))).alloc (.cells (rowI (zL 16)) 26)).alloc (.cells (rowI zs) 26)) oo nn

set_option maxRecDepth 100000 in
set_option maxHeartbeats 2000000 in
theorem S_l20Block (B p : Nat) (m n : Int) (w : World) (h : RdAt w B p) (hp : p ≤ 900000000) (hm : 0 ≤ m ∧ m ≤ 4080) (hn : -1000000 ≤ n) :
    Calls Try.prog 49 #[.pointer (some ⟨B, 0, none⟩), .int .i64 m, .int .i64 n] w fun e w' => ∃ zs : List Int, e = .returned (.agg (rowI zs)) ∧ zs.length = 16 ∧ Moved w B p 100 w' := by
  have hB := h.lt
  have hR := Lib.hid h
  clear h
  go_enter Try.func49, Try.ntmps49
  go_wp2_with (go_at_call 31; refine (S_pick B _ _ _ (by repeat (first | (with_reducible exact hR.out) | (with_reducible apply RdAt.adds) | (with_reducible apply RdAt.alloc) | (with_reducible exact RdAt.set hR.out _) | (with_reducible apply RdAt.drew))) (by omega)).mono ?_; rintro e w' ⟨v, p1, k1, rfl, hv, hp1, rfl⟩; have hv' := hv.1 (by omega); clear hv)
  go_loopw [9] (fun i wr => BlkRel w B p i wr) (fun i _ => 16 - (intOf i).toNat)
  case atStart => exact ⟨0, p1, zL 16, #[], _, Nat.zero_le _, rfl, by omega, zL_len 16, rfl⟩
  case round =>
    obtain ⟨k, q, zs, oo, nn, hk, rfl, hq, hzl, rfl⟩ := hrel
    have HZ := Lib.hid hzl
    clear hzl
    by_cases hlt : k < 16
    · have hc := rowI_get (zs := zs) (j := k) (by rw [HZ.out]; exact hlt)
      obtain ⟨x, hx⟩ : ∃ x, x = zs.getD k 0 := ⟨_, rfl⟩
      rw [← hx] at hc
      clear hx
      have hsz : k < (rowI zs).size := by rw [rowI_size, HZ.out]; exact hlt
      have hd1 : decide ((k : Int) < 16) = true := by simp; omega
      rcases (show v = 0 ∨ v = 1 ∨ v = 2 ∨ v = 3 ∨ v = 4 by omega) with rfl | rfl | rfl | rfl | rfl
      all_goals
        go_wp2_with (go_at_call 31; refine (S_pick B _ _ _ (by repeat (first | (with_reducible exact hR.out) | (with_reducible apply RdAt.adds) | (with_reducible apply RdAt.alloc) | (with_reducible exact RdAt.set hR.out _) | (with_reducible apply RdAt.drew))) (by omega)).mono ?_; rintro e w' ⟨v, p1, k1, rfl, hv, hp1, rfl⟩; have hv' := hv.1 (by omega); clear hv)
        all_goals
          try simp only [rowI_set, alloc_addsW, adds_addsW]
          go_roundw
          case rel => exact ⟨k + 1, _, _, _, _, by omega, by go_num, by omega, by first | exact HZ.out | simp [HZ.out], rfl⟩
          case measure => simp [intOf]; omega
    · obtain rfl : k = 16 := by omega
      have hs := Lib.hid (show sub zs 0 16 = zs by rw [← HZ.out]; exact sub_all zs)
      go_upto_region 19 with (first | (go_at_call 50; refine (S_odd B _ _ _ (by repeat (first | (with_reducible exact hR.out) | (with_reducible apply RdAt.adds) | (with_reducible apply RdAt.alloc) | (with_reducible exact RdAt.set hR.out _) | (with_reducible apply RdAt.drew))) (by omega) (by omega)).mono ?_; rintro e w' ⟨v, p1, k1, rfl, hp1, rfl⟩) | ((go_at_call 31; refine (S_pick B _ _ _ (by repeat (first | (with_reducible exact hR.out) | (with_reducible apply RdAt.adds) | (with_reducible apply RdAt.alloc) | (with_reducible exact RdAt.set hR.out _) | (with_reducible apply RdAt.drew))) (by omega)).mono ?_; rintro e w' ⟨v, p1, k1, rfl, hv, hp1, rfl⟩; have hv' := hv.1 (by omega); clear hv); have hcj := rowI_get (zs := zs) (j := v.toNat) (by rw [HZ.out]; omega); have hsj : v.toNat < (rowI zs).size := by rw [rowI_size, HZ.out]; omega))
      all_goals try simp only [rowI_set, alloc_addsW, adds_addsW]
      all_goals
        refine all_ys (N := 16) _ (by first | exact HZ.out | simp [HZ.out]) ?_
        intro ys hy
        have HY := Lib.hid hy
        clear hy
        go_wp2_with (first | (focus ((with_reducible refine wpList_wanted ?_ (fun K hK => ?_)); rotate_left; (refine wp_load_sub 26 (.tmp 7) ?ho (w.heap.size + 1) 0 16 ?hx 26 ys (0, 0) _ ?hg Try.underlying26 rfl infoA16 ?hs (hK _ _ ?_)); (case ho => with_reducible rfl); (case hx => rfl); (case hg => exact (heap2x _ _ _ _ _ _ _ _ (by simp [World.setCell])).2); (case hs => rw [HY.out]; exact Nat.le_refl _); rw [show sub ys 0 16 = ys by rw [← HY.out]; exact sub_all ys]; rotate_left; rfl)) | (focus ((with_reducible refine wpList_wanted ?_ (fun K hK => ?_)); rotate_left; (refine wp_store_sub 26 (.tmp 6) (.tmp 97) ?ho w.heap.size 0 ys ?hx ?hy 26 (zL 16) ?hg ?hi ?hfit (hK _ _ ?_)); (case ho => with_reducible rfl); (case hx => rfl); (case hy => rfl); (case hg => exact (heap2x _ _ _ _ _ _ _ _ (by simp [World.setCell])).1); (case hi => rw [HY.out]; exact infoA16); (case hfit => rw [HY.out, zL_len]; exact Nat.le_refl _); rw [spl_full (by rw [HY.out, zL_len])]; rotate_left; rfl)))
        refine bodyPost_ret (v := .agg (rowI ys)) (by exact results_cell_row Try.results49 _ _ w.heap.size 26 (rowI ys) (0, 0) _ rfl (setRow_heap _ _ (rowI (zL 16)) _ _ _ (heap2x _ _ _ _ _ _ _ _ (by simp [World.setCell])).1) Try.underlying26 rfl (by rw [rowI_size, HY.out]; exact infoA16)) rfl ?_
        exact ⟨ys, rfl, HY.out, Moved.row hB (by repeat (first | (with_reducible apply Moved.adds) | (with_reducible apply Moved.alloc) | (with_reducible apply Moved.drew) | (exact Moved.base (by omega)))) (Nat.le_refl _) _⟩

end Go.Proofs.Ytggkelehjdepkaa
