/- The order of a block's levels. -/
import Derived.Test.YtggkelehjdepkaaTwo
import Derived.Test.YtggkelehjdepkaaMac
import Derived.Test.YtggkelehjdepkaaArm
import Derived.Maps.AppendAt
import Derived.LoopTactic
namespace Go.Proofs.Ytggkelehjdepkaa
open Go.RowKit
set_option linter.unusedVariables false
set_option linter.unusedSimpArgs false

attribute [local go_sem] size_addsW cell?_addsW frozen?_addsW setCell_addsW drew_addsW adds_addsW setCell_twice alloc_adds0 size_adds0 adds_adds0 sel2 sel3 sel4 sel5 sel6 sel7 sel8 sel9 lt_more lt_more2 lt_more3 lt_more4 adds_drew adds_drewN drewN_addsW ltA_1_1 ltA_1_2 ltA_1_3 ltA_1_4 ltA_1_5 ltA_1_6 ltA_2_1 ltA_2_2 ltA_2_3 ltA_2_4 ltA_2_5 ltA_2_6 ltA_3_1 ltA_3_2 ltA_3_3 ltA_3_4 ltA_3_5 ltA_3_6 ltA_4_1 ltA_4_2 ltA_4_3 ltA_4_4 ltA_4_5 ltA_4_6 ltA_5_1 ltA_5_2 ltA_5_3 ltA_5_4 ltA_5_5 ltA_5_6 ltA_6_1 ltA_6_2 ltA_6_3 ltA_6_4 ltA_6_5 ltA_6_6 ltA_7_1 ltA_7_2 ltA_7_3 ltA_7_4 ltA_7_5 ltA_7_6 ltA_8_1 ltA_8_2 ltA_8_3 ltA_8_4 ltA_8_5 ltA_8_6 ltA_9_1 ltA_9_2 ltA_9_3 ltA_9_4 ltA_9_5 ltA_9_6 ltA_10_1 ltA_10_2 ltA_10_3 ltA_10_4 ltA_10_5 ltA_10_6 ltA_11_1 ltA_11_2 ltA_11_3 ltA_11_4 ltA_11_5 ltA_11_6 ltA_12_1 ltA_12_2 ltA_12_3 ltA_12_4 ltA_12_5 ltA_12_6

def scanL : List Int := [0, 1, 4, 8, 5, 2, 3, 6, 9, 12, 13, 10, 7, 11, 14, 15]
/-- the reference's row at (s, k) -/
def yS (s k : Nat) : Nat := if s % 2 = 0 then 3 - k else k
def hitS (s k : Nat) : Bool := decide (yS s k ≤ s ∧ s - yS s k ≤ 3)
def scanR (s : Nat) : Nat → List Int
  | 0 => []
  | k + 1 => if hitS s k then scanR s k ++ [((4 * yS s k + s - yS s k : Nat) : Int)] else scanR s k
def scanU : Nat → List Int
  | 0 => []
  | s + 1 => scanU s ++ scanR s 4
theorem scanU_full : scanU 7 = scanL := by decide
theorem scan_len : ∀ s, s ≤ 7 → ∀ k, k ≤ 4 → (scanU s ++ scanR s k).length ≤ 16 := by decide
/-- the program's row at (s, k) -/
def yI (s k : Nat) : Nat := if s % 2 = 0 then s - k else k
def hitI (s k : Nat) : Bool := decide (yI s k < 4 ∧ s - yI s k < 4)
def cntR (s : Nat) : Nat → Nat
  | 0 => 0
  | k + 1 => if hitI s k then cntR s k + 1 else cntR s k
def cntU : Nat → Nat
  | 0 => 0
  | s + 1 => cntU s + cntR s (s + 1)
theorem cntU_full : cntU 7 = 16 := by decide
theorem cnt_at : ∀ s, s < 7 → ∀ k, k < s + 1 → hitI s k = true → cntU s + cntR s k < 16 ∧ scanL.getD (cntU s + cntR s k) 0 = ((4 * yI s k + (s - yI s k) : Nat) : Int) := by decide
theorem scanL_len : scanL.length = 16 := rfl
theorem scanL_bd : ∀ k, k < 16 → 0 ≤ scanL.getD k 0 ∧ scanL.getD k 0 < 16 := by decide

def ScRel (w : World) (s k : Nat) (v : Value) (wr : World) : Prop :=
  wr.ownsRow w.heap.size 3 1 v (scanU s ++ scanR s k).length ((scanU s ++ scanR s k).map (Value.int .i64)) ∧ Below w.heap.size w wr

set_option maxRecDepth 100000 in
set_option maxHeartbeats 1000000 in
theorem S_ScanOrder (w : World) : Calls Try.prog 89 #[] w fun e w' => ∃ v, e = .returned v ∧ w'.ownsRow w.heap.size 3 1 v 16 (scanL.map (Value.int .i64)) ∧ Below w.heap.size w w' := by
  obtain ⟨i0, hi, hz0, hz1, hz2⟩ := info_parts infoIntS
  go_enter Try.func89, Try.ntmps89
  go_wp2_with fail
  go_loopw [1, 2] (fun v i wr => ∃ s : Nat, i = .int .i64 (s : Int) ∧ s ≤ 7 ∧ ScRel w s 0 v wr) (fun _ i _ => 7 - (intOf i).toNat)
  case atStart => exact ⟨0, rfl, by omega, own_lit_g w 3 _ rfl, (by repeat' (first | (with_reducible exact Below.refl _ _) | (with_reducible refine Below.adds_ ?_ ?_ _ _) | (with_reducible refine Below.alloc ?_ ?_ _) | (with_reducible refine Below.drew ?_) | (with_reducible refine Below.setCell ?_ ?_ _) | (with_reducible assumption) | go_size | (simp only [size_addsW, World.size_alloc, World.size_drew, World.size_setCell]; omega)))⟩
  case round =>
    obtain ⟨s, rfl, hs, hr⟩ := hrel
    have HR := Lib.hid hr
    clear hr
    by_cases hlt : s < 7
    · have hd1 : decide ((s : Int) < 7) = true := by simp; omega
      go_wp2_with fail
      go_loopw [1, 3] (fun v i wr => ∃ k : Nat, i = .int .i64 (k : Int) ∧ k ≤ 4 ∧ ScRel w s k v wr) (fun _ i _ => 4 - (intOf i).toNat)
      case atStart => exact ⟨0, rfl, by omega, HR.out⟩
      case round =>
        clear HR
        obtain ⟨k, rfl, hk, hr⟩ := hrel
        obtain ⟨hown, hbel⟩ := hr
        have hsz := hbel.size
        have HO := Lib.hid hown
        have HB := Lib.hid hbel
        clear hown hbel
        obtain ⟨A1, c1, e1, hlc, -⟩ := own_shape HO.out
        subst e1
        by_cases hlt2 : k < 4
        · have hd2 : decide ((k : Int) < 4) = true := by simp; omega
          have hlen := scan_len s (by omega) k (by omega)
          obtain ⟨m, hm⟩ : ∃ m, m = (scanU s ++ scanR s k).length := ⟨_, rfl⟩
          rw [← hm] at HO hlen hlc ⊢
          have HM := Lib.hid hm
          clear hm
          obtain ⟨y, hy⟩ : ∃ y, y = yS s k := ⟨_, rfl⟩
          have HY := Lib.hid hy
          have HS := Lib.hid (show scanR s (k + 1) = if hitS s k then scanR s k ++ [((4 * y + s - y : Nat) : Int)] else scanR s k by rw [hy]; rfl)
          have hin : M.inB ((s : Int) - (y : Int)) 0 3 = hitS s k := by rw [hitS, ← hy]; simp only [M.inB]; congr 1; exact propext ⟨fun h => by omega, fun h => by omega⟩
          have hyb : y ≤ 3 := by rw [hy, yS]; split <;> omega
          cases hev : ((s : Int) % 2 == 0)
          · have hyk : y = k := by rw [hy, yS, if_neg (by have := hev; simp at this; omega)]
            subst hyk
            clear hy
            cases hh : hitS s y
            · rw [hh] at hin
              have HH := Lib.hid hh
              clear hh
              go_wp2_with (go_at_call 36; refine (S_l1In _ _ _ _).mono ?_; rw [hin]; rintro e w' ⟨rfl, rfl⟩)
              go_roundw
              case rel => exact ⟨y + 1, by go_num, by omega, by rw [HS.out, HH.out, if_neg (by decide), ← HM.out]; exact HO.out, HB.out⟩
              case measure => simp [intOf]; omega
            · rw [hh] at hin
              have HH := Lib.hid hh
              have hys : (y : Int) ≤ (s : Int) := by simp [M.inB] at hin; omega
              clear hh
              go_wp2_with (first | (go_at_call 36; refine (S_l1In _ _ _ _).mono ?_; rw [hin]; rintro e w' ⟨rfl, rfl⟩) | (at_builtin; refine wpList_append_own_at _ rfl _ _ 59 rfl w.heap.size 3 i0 (.int .i64 0) 1 8 Try.underlying59 hi hz0 hz1 hz2 rfl (by decide) _ _ _ rfl (ownsRow_below HO.out (by rw [alloc_as]; exact addsW_below _ _ _)) ⟨_, 0, none⟩ 1 1 [.int .i64 (4 * (y : Int) + (s : Int) - (y : Int))] rfl rfl (news1 (by go_simp; done)) (one1 rfl) (by unfold maxLen; omega) (by omega) (by simp only [World.size_alloc]; omega) ?_; intro v' w1 hown1 hgrow1 _ hat1; have HO1 := Lib.hid hown1; have HG1 := Lib.hid hgrow1; clear hown1 hgrow1 hat1))
              go_roundw
              case rel => exact ⟨y + 1, by go_num, by omega, by rw [HS.out, HH.out, if_pos rfl, ← List.append_assoc, List.length_append, ← HM.out, List.map_append, show ((4 * y + s - y : Nat) : Int) = 4 * (y : Int) + (s : Int) - (y : Int) by omega]; exact HO1.out, Below.grown (HB.out.trans (by rw [alloc_as]; exact (addsW_below _ _ _).mono hsz)) HG1.out (by simp only [World.size_alloc]; omega) (fun q e => (HO.out.lt q e).1)⟩
              case measure => simp [intOf]; omega
          · have hyk : y = 3 - k := by rw [hy, yS, if_pos (by have := hev; simp at this; omega)]
            have hyk2 : (3 : Int) - (k : Int) = (y : Int) := by omega
            clear hy hyk
            cases hh : hitS s k
            · rw [hh] at hin
              have HH := Lib.hid hh
              clear hh
              go_wp2_with (go_at_call 36; refine (S_l1In _ _ _ _).mono ?_; rw [hin]; rintro e w' ⟨rfl, rfl⟩)
              go_roundw
              case rel => exact ⟨k + 1, by go_num, by omega, by rw [HS.out, HH.out, if_neg (by decide), ← HM.out]; exact HO.out, HB.out⟩
              case measure => simp [intOf]; omega
            · rw [hh] at hin
              have HH := Lib.hid hh
              have hys : (y : Int) ≤ (s : Int) := by simp [M.inB] at hin; omega
              clear hh
              go_wp2_with (first | (go_at_call 36; refine (S_l1In _ _ _ _).mono ?_; rw [hin]; rintro e w' ⟨rfl, rfl⟩) | (at_builtin; refine wpList_append_own_at _ rfl _ _ 59 rfl w.heap.size 3 i0 (.int .i64 0) 1 8 Try.underlying59 hi hz0 hz1 hz2 rfl (by decide) _ _ _ rfl (ownsRow_below HO.out (by rw [alloc_as]; exact addsW_below _ _ _)) ⟨_, 0, none⟩ 1 1 [.int .i64 (4 * (y : Int) + (s : Int) - (y : Int))] rfl rfl (news1 (by go_simp; done)) (one1 rfl) (by unfold maxLen; omega) (by omega) (by simp only [World.size_alloc]; omega) ?_; intro v' w1 hown1 hgrow1 _ hat1; have HO1 := Lib.hid hown1; have HG1 := Lib.hid hgrow1; clear hown1 hgrow1 hat1))
              go_roundw
              case rel => exact ⟨k + 1, by go_num, by omega, by rw [HS.out, HH.out, if_pos rfl, ← List.append_assoc, List.length_append, ← HM.out, List.map_append, show ((4 * y + s - y : Nat) : Int) = 4 * (y : Int) + (s : Int) - (y : Int) by omega]; exact HO1.out, Below.grown (HB.out.trans (by rw [alloc_as]; exact (addsW_below _ _ _).mono hsz)) HG1.out (by simp only [World.size_alloc]; omega) (fun q e => (HO.out.lt q e).1)⟩
              case measure => simp [intOf]; omega
        · obtain rfl : k = 4 := by omega
          go_wp2_with fail
          go_roundw
          case rel => exact ⟨s + 1, by go_num, by omega, by rw [scanR, List.append_nil, scanU]; exact HO.out, HB.out⟩
          case measure => simp [intOf]; omega
    · obtain rfl : s = 7 := by omega
      go_wp2_with fail
      go_returns
      obtain ⟨hown, hbel⟩ := HR.out
      rw [scanR, List.append_nil, scanU_full] at hown
      exact ⟨_, rfl, hown, hbel⟩

theorem heap2y (X : World) (u y : Array Value) (t2 t3 : TypeId) (g : Nat) (hg : g = X.heap.size) :
    ((X.alloc (.cells u t2)).alloc (.cells y t3)).heap[g]? = some (.cells u t2 (0, 0)) ∧ ((X.alloc (.cells u t2)).alloc (.cells y t3)).heap[g + 1]? = some (.cells y t3 (0, 0)) := by
  subst hg
  refine ⟨?_, heap_alloc2_new _ _ _⟩
  rw [Below.heap_alloc _ _ _ (by simp)]; exact heap_alloc_new _ _
def IscRel (w : World) (s k : Nat) (n : Value) (wr : World) : Prop :=
  ∃ zs : List Int, n = .int .i64 ((cntU s + cntR s k : Nat) : Int) ∧ zs = cpL 16 (cntU s + cntR s k) scanL ∧ wr = (w.alloc (.cells (rowI (zL 16)) 26)).alloc (.cells (rowI zs) 26)
theorem cpL_setL {n k : Nat} {zs : List Int} (hz : zs.length = n) (h : k < n) : (cpL n k zs).set k (zs.getD k 0) = cpL n (k + 1) zs := by
  have h1 := cpL_set hz h
  rw [rowI_set] at h1
  unfold rowI at h1
  have h2 : ((cpL n k zs).set k (zs.getD k 0)).map (Value.int .i64) = (cpL n (k + 1) zs).map (Value.int .i64) := by simpa using h1
  exact (List.map_inj_right (fun x y h => by injection h)).1 h2

set_option maxRecDepth 100000 in
set_option maxHeartbeats 1000000 in
theorem I_scanOrder (w : World) : Calls Try.prog 78 #[] w fun e w' => e = .returned (.agg (rowI scanL)) ∧ Below w.heap.size w w' := by
  go_enter Try.func78, Try.ntmps78
  go_wp2_with fail
  go_loopw [2, 7] (fun n i wr => ∃ s : Nat, i = .int .i64 (s : Int) ∧ s ≤ 7 ∧ IscRel w s 0 n wr) (fun _ i _ => 7 - (intOf i).toNat)
  case atStart => exact ⟨0, rfl, by omega, zL 16, rfl, rfl, rfl⟩
  case round =>
    obtain ⟨s, rfl, hs, zs, rfl, hzs, rfl⟩ := hrel
    have HZ := Lib.hid hzs
    clear hzs
    by_cases hlt : s < 7
    · have hd1 : decide ((s : Int) < 7) = true := by simp; omega
      go_wp2_with fail
      go_loopw [2, 12] (fun n i wr => ∃ k : Nat, i = .int .i64 (k : Int) ∧ k ≤ s + 1 ∧ IscRel w s k n wr) (fun _ i _ => s + 1 - (intOf i).toNat)
      case atStart => exact ⟨0, rfl, by omega, zs, rfl, HZ.out, rfl⟩
      case round =>
        clear HZ
        clear zs
        obtain ⟨k, rfl, hk, zs, rfl, hzs, rfl⟩ := hrel
        by_cases hlt2 : k < s + 1
        · have hd2 : decide ((k : Int) < (s : Int) + 1) = true := by simp; omega
          obtain ⟨n, hn⟩ : ∃ n, n = cntU s + cntR s k := ⟨_, rfl⟩
          rw [← hn] at hzs ⊢
          obtain ⟨y, hy⟩ : ∃ y, y = yI s k := ⟨_, rfl⟩
          have hcn := cnt_at s hlt k hlt2
          rw [← hn, ← hy] at hcn
          have hcr : cntU s + cntR s (k + 1) = if hitI s k then n + 1 else n := by rw [cntR]; split <;> omega
          have hh : hitI s k = decide (y < 4 ∧ s - y < 4) := by rw [hitI, hy]
          have hyb : y ≤ s := by rw [hy, yI]; split <;> omega
          have hev : ((s : Int) % 2 = 0 ∧ (y : Int) = (s : Int) - (k : Int)) ∨ ((((s : Int) % 2 == 0) = false) ∧ y = k) := by
            rw [hy, yI]
            split
            · left; omega
            · right; exact ⟨by simp; omega, rfl⟩
          have HC := Lib.hid hcr
          clear hcr hy hn
          by_cases hit : y < 4 ∧ s - y < 4
          · have hht : hitI s k = true := by rw [hh]; exact decide_eq_true hit
            obtain ⟨hn16, hgv⟩ := hcn hht
            have hl : zs.length = 16 := by rw [hzs]; exact cpL_len rfl (by omega)
            have hsz : n < (rowI zs).size := by rw [rowI_size, hl]; exact hn16
            have hcc := rowI_get (zs := zs) (j := n) (by omega)
            generalize zs.getD n 0 = old at hcc
            have HV := Lib.hid (show zs.set n (4 * (y : Int) + ((s : Int) - (y : Int))) = cpL 16 (n + 1) scanL by rw [show 4 * (y : Int) + ((s : Int) - (y : Int)) = scanL.getD n 0 by rw [hgv]; omega, hzs]; exact cpL_setL rfl hn16)
            have HC2 := Lib.hid (show cntU s + cntR s (k + 1) = n + 1 by rw [HC.out, if_pos hht])
            have h4a : (y : Int) < 4 := by omega
            have h4b : (s : Int) - (y : Int) < 4 := by omega
            clear hcn hh hht HC hgv hl hzs hit
            rcases hev with ⟨he, hyk⟩ | ⟨he, rfl⟩
            · go_wp2_with (simp only [rowI_set])
              try simp only [rowI_set]
              go_roundw
              case rel => exact ⟨k + 1, by go_num, by omega, _, by rw [HC2.out]; go_num, by rw [HC2.out]; first | exact HV.out | (rw [hyk] at HV; exact HV.out), rfl⟩
              case measure => simp [intOf]; omega
            · go_wp2_with (simp only [rowI_set])
              try simp only [rowI_set]
              go_roundw
              case rel => exact ⟨y + 1, by go_num, by omega, _, by rw [HC2.out]; go_num, by rw [HC2.out]; exact HV.out, rfl⟩
              case measure => simp [intOf]; omega
          · have HZ := Lib.hid hzs
            have HC2 := Lib.hid (show cntU s + cntR s (k + 1) = n by rw [HC.out, if_neg (by rw [hh]; simpa using hit)])
            have h4 : (4 : Int) ≤ (y : Int) ∨ ((y : Int) < 4 ∧ (4 : Int) ≤ (s : Int) - (y : Int)) := by omega
            clear hcn hh HC hzs hit
            rcases h4 with h4 | ⟨h4, h5⟩
            all_goals
              rcases hev with ⟨he, hyk⟩ | ⟨he, rfl⟩
              all_goals
                go_wp2_with fail
                go_roundw
                case rel => exact ⟨_ + 1, by go_num, by omega, zs, by rw [HC2.out], by rw [HC2.out]; exact HZ.out, rfl⟩
                case measure => simp [intOf]; omega
        · obtain rfl : k = s + 1 := by omega
          have HZ := Lib.hid hzs
          clear hzs
          go_wp2_with fail
          go_roundw
          case rel => exact ⟨s + 1, by go_num, by omega, zs, by rw [cntR, cntU]; rfl, by rw [cntR, Nat.add_zero, cntU]; exact HZ.out, rfl⟩
          case measure => simp [intOf]; omega
    · obtain rfl : s = 7 := by omega
      have hz16 : zs = scanL := by rw [HZ.out, cntR, Nat.add_zero, cntU_full]; exact cpL_full rfl
      subst hz16
      clear HZ
      go_wp2_with (first | (focus ((with_reducible refine wpList_wanted ?_ (fun K hK => ?_)); rotate_left; (refine wp_load_sub 26 (.tmp 1) ?ho (w.heap.size + 1) 0 16 ?hx 26 scanL (0, 0) _ ?hg Try.underlying26 rfl infoA16 (by decide) (hK _ _ ?_)); (case ho => with_reducible rfl); (case hx => rfl); (case hg => exact (heap2y _ _ _ _ _ _ rfl).2); rw [show sub scanL 0 16 = scanL from rfl]; rotate_left; rfl)) | (focus ((with_reducible refine wpList_wanted ?_ (fun K hK => ?_)); rotate_left; (refine wp_store_sub 26 (.tmp 0) (.tmp 41) ?ho w.heap.size 0 scanL ?hx ?hy 26 (zL 16) ?hg infoA16 (by decide) (hK _ _ ?_)); (case ho => with_reducible rfl); (case hx => rfl); (case hy => rfl); (case hg => exact (heap2y _ _ _ _ _ _ rfl).1); rw [show spl (zL 16) 0 scanL = scanL from rfl]; rotate_left; rfl)))
      refine bodyPost_ret (v := .agg (rowI scanL)) (by exact results_cell_row Try.results78 _ _ w.heap.size 26 (rowI scanL) (0, 0) _ rfl (setRow_heap _ _ (rowI (zL 16)) _ _ _ (heap2y _ _ _ _ _ _ rfl).1) Try.underlying26 rfl infoA16) rfl ?_
      exact ⟨rfl, Below.setRow_ (by repeat' (first | (with_reducible exact Below.refl _ _) | (with_reducible refine Below.adds_ ?_ ?_ _ _) | (with_reducible refine Below.alloc ?_ ?_ _) | (with_reducible refine Below.drew ?_) | (with_reducible refine Below.setCell ?_ ?_ _) | (with_reducible assumption) | go_size | (simp only [size_addsW, World.size_alloc, World.size_drew, World.size_setCell]; omega))) (Nat.le_refl _) _⟩

end Go.Proofs.Ytggkelehjdepkaa
