/- The program's iterator over the runs of a block; NonzeroCount. -/
import Derived.Test.YtggkelehjdepkaaRuns
import Derived.Test.YtggkelehjdepkaaStillR
import Derived.Test.YtggkelehjdepkaaBk
namespace Go.Proofs.Ytggkelehjdepkaa
open Go.RowKit Go.Shelf
set_option linter.unusedVariables false
set_option linter.unusedSimpArgs false

attribute [local go_sem] Oper.semAt_some

theorem enters_runs : ∀ args w, (callFunc 77 args).run Try.prog w = .ok (.enter 77 args) w := enters_of Try.func77 (by kernel_rfl) rfl
/-- a run of a valid block -/
abbrev RR := { p : Nat × Int // p.1 ≤ 15 ∧ p.2 ≠ 0 ∧ -4080 ≤ p.2 ∧ p.2 ≤ 4080 }
abbrev rEnc (x : RR) : Array Value := #[Value.agg #[.int .i64 (x.1.1 : Int), .int .i64 x.1.2]]
def rls (l : List RR) : List (Nat × Int) := l.map (·.1)
theorem rls_len (l : List RR) : (rls l).length = l.length := by simp [rls]
theorem rls_app (l : List RR) (x : RR) : rls (l ++ [x]) = rls l ++ [x.1] := by simp [rls]
theorem rnU_step (f : Nat → Int) (k : Nat) : rnU f k <+: rnU f (k + 1) := by
  rw [rnU]; split
  · exact List.prefix_refl _
  · exact List.prefix_append _ _
theorem rnU_pre (f : Nat → Int) (k : Nat) : ∀ d, rnU f k <+: rnU f (k + d)
  | 0 => List.prefix_refl _
  | d + 1 => (rnU_pre f k d).trans (rnU_step f (k + d))

/-- the cells of block Bn hold what they held -/
def KpC (Bn : Nat) (W W' : World) : Prop := ∀ i v, W.cell? ⟨Bn, i, none⟩ = some v → W'.cell? ⟨Bn, i, none⟩ = some v
theorem KpC.trans {Bn : Nat} {A B C : World} (h : KpC Bn A B) (k : KpC Bn B C) : KpC Bn A C := fun i v hv => k i v (h i v hv)
theorem kpC_b {Bn : Nat} {w : World} (W : World) (l : Nat) (o o' : Obj) (_ : w.heap.size ≤ l) (h : W.heap[l]? = some o) (ho : o.isCells = false) (_ : o.isWalk = false) : KpC Bn W (W.putObj l o') := fun i v hv =>
  cell_kept hv (grownBy_putObj' W l o') (fun r e => by cases e; exact ⟨_, h, ho⟩)
theorem KpC.refl (Bn : Nat) (W : World) : KpC Bn W W := fun _ _ h => h
theorem KpC.set {Bn : Nat} {W W' : World} (h : KpC Bn W W') {q : Addr} (hq : Bn ≠ q.block) (u : Value) : KpC Bn W (W'.setCell q u) := fun i v hv => (World.cell?_of_block (w := W') (Below.heap_setCell W' q u Bn hq)).trans (h i v hv)
theorem KpC.drew {Bn : Nat} {W W' : World} (h : KpC Bn W W') : KpC Bn W W'.drew := fun i v hv => h i v hv
theorem KpC.grown {Bn : Nat} {W W' : World} {row : Option Nat} (h : W.grownBy W' row) (hr : row ≠ some Bn) : KpC Bn W W' := fun i v hv =>
  (World.cell?_of_block (w := W) (h.block Bn (World.block_lt_of_cell? W _ hv) (fun e => hr e.symm))).trans hv
theorem grown_below {w w' : World} (h : Below w.heap.size w w') (row : Option Nat) : w.grownBy w' row := ⟨h.os, h.tape, h.output, h.size, fun k hk _ => h.block k hk⟩

set_option maxRecDepth 100000 in
set_option maxHeartbeats 2000000 in
theorem I_runs1 (n l Bn : Nat) (zs : List Int) (hn : 1 ≤ n) (hz : zs.length = 16) (hv : absB 4080 zs = true) (J Jx : List RR → World → Prop)
    (hJ0 : ∀ A B, Below A.heap.size A B → J [] A → J [] B)
    (hY : ∀ pre x W, J pre W → pre.length < 16 → YieldAt Fence.wide (n - 1) Try.prog l (rEnc x) W fun e W' =>
      (e = .returned (.bool true) ∧ J (pre ++ [x]) W' ∧ KpC Bn W W') ∨ (e = .returned (.bool false) ∧ Jx (pre ++ [x]) W'))
    (W : World) (hB : Bn < W.heap.size) (hc : ∀ j, j < 16 → W.cell? ⟨Bn, j, none⟩ = some (.int .i64 (zs.getD j 0))) (h0 : J [] W) :
    CallsIn Fence.wide n Try.prog 77 #[.func (.yield l) #[] #[], .pointer (some ⟨Bn, 0, none⟩)] W fun e W' => (∃ v, e = .returned v) ∧
      ((∃ ys, rls ys = runsL zs ∧ J ys W') ∨ (∃ pre, rls pre <+: runsL zs ∧ Jx pre W')) := by
  have HY := Lib.hid hY
  have HC := Lib.hid hc
  have HV := Lib.hid hv
  have HJ0 := Lib.hid hJ0
  clear hY hc hv hJ0 hz
  refine callsIn_of_wp Try.func77 rfl trivial ?_ rfl
  simp only [Try.ntmps77, List.size_toArray, List.length_cons, List.length_nil, Nat.reduceAdd, Nat.reduceSub, Array.replicate_succ, Array.replicate_zero, List.push_toArray, List.append_toArray, List.nil_append, List.cons_append]
  gi_wp2_with (refine ⟨trivial, ?_⟩; gi_at_call 78; refine (callsIn_wide.2 (I_scanOrder _)).mono ?_; rintro e w1 ⟨rfl, hb⟩; have HB := Lib.hid hb; clear hb)
  have HC1 : Hid (∀ j, j < 16 → w1.cell? ⟨Bn, j, none⟩ = some (.int .i64 (zs.getD j 0))) := Lib.hid fun j hj => (HB.out.cell (p := ⟨Bn, j, none⟩) hB).trans (HC.out j hj)
  have HJ1 := Lib.hid (HJ0.out _ _ HB.out h0)
  clear HC HB h0 hB
  gi_loopw [3, 8] (fun z i wr => ∃ (k : Nat) (pre : List RR), i = .int .i64 (k : Int) ∧ k ≤ 16 ∧ z = .int .i64 (rnZ (lvS zs) k : Int) ∧ rls pre = rnU (lvS zs) k ∧ J pre wr ∧ ∀ j, j < 16 → wr.cell? ⟨Bn, j, none⟩ = some (.int .i64 (zs.getD j 0))) (fun _ i _ => 16 - (intOf i).toNat)
  case atStart => exact ⟨0, [], rfl, by omega, rfl, rfl, HJ1.out, HC1.out⟩
  case round =>
    clear HJ1 HC1
    obtain ⟨k, pre, rfl, hk, rfl, hp, hJ, hc⟩ := hrel
    have HP := Lib.hid hp
    have HJ := Lib.hid hJ
    have HC := Lib.hid hc
    clear hp hJ hc
    by_cases hlt : k < 16
    · have hd1 : decide ((k : Int) < 16) = true := by simp; omega
      have hjb := scanL_bd k hlt
      obtain ⟨I, hI⟩ := Int.eq_ofNat_of_zero_le hjb.1
      have hIb : I < 16 := by omega
      have hidx : ∀ W, (Instr.index 26 (.agg (rowI scanL)) (.int .i64 (k : Int))).run Try.prog W = .ok (.int .i64 (I : Int)) W := fun W => by
        rw [← hI]; exact run_index_int W 26 3 16 Try.underlying26 Try.underlying3 (by kernel_rfl) scanL k hlt rfl
      have cl := HC.out I hIb
      have hlv : lvS zs k = zs.getD I 0 := by rw [lvS, hI]; rfl
      have hlb : -4080 ≤ lvS zs k ∧ lvS zs k ≤ 4080 := abs_at HV.out _
      rw [← hlv] at cl
      have hzle := rnZ_le (lvS zs) k
      have HU := Lib.hid (show rnU (lvS zs) (k + 1) = if lvS zs k = 0 then rnU (lvS zs) k else rnU (lvS zs) k ++ [(rnZ (lvS zs) k, lvS zs k)] from rfl)
      have HZZ := Lib.hid (show rnZ (lvS zs) (k + 1) = if lvS zs k = 0 then rnZ (lvS zs) k + 1 else 0 from rfl)
      have HPre := Lib.hid (rnU_pre (lvS zs) (k + 1) (16 - (k + 1)))
      have hplen : pre.length ≤ k := by rw [← rls_len, HP.out]; exact rnU_len _ _
      clear hlv hI hjb
      generalize hl : lvS zs k = l' at cl HU HZZ hlb
      generalize hzz : rnZ (lvS zs) k = z at hzle HU HZZ ⊢
      clear hl hzz
      by_cases hl0 : l' = 0
      · subst hl0
        gi_wp2
        go_roundw
        case rel => exact ⟨k + 1, pre, by go_num, by omega, by rw [HZZ.out, if_pos rfl]; go_num, by rw [HU.out, if_pos rfl]; exact HP.out, HJ.out, HC.out⟩
        case measure => simp [intOf]; omega
      · have hl0b : (l' == 0) = false := by simp [hl0]
        obtain ⟨fn, tmps, assign, body, hy, hR⟩ := HY.out pre ⟨(z, l'), by simp only; omega, hl0, hlb⟩ wr HJ.out (by omega)
        have HE : Hid (rls (pre ++ [(⟨(z, l'), by simp only; omega, hl0, hlb⟩ : RR)]) = rnU (lvS zs) (k + 1)) := Lib.hid (by rw [rls_app, HP.out, HU.out, if_neg hl0])
        gi_wp2
        refine hR.mono ?_
        clear hy hR
        rintro e W3 (⟨rfl, hJ3, hk3⟩ | ⟨rfl, hJx3⟩)
        · have HC3 : Hid (∀ j, j < 16 → W3.cell? ⟨Bn, j, none⟩ = some (.int .i64 (zs.getD j 0))) := Lib.hid fun j hj => hk3 _ _ (HC.out j hj)
          clear hk3
          gi_wp2
          go_roundw
          case rel => exact ⟨k + 1, _, by go_num, by omega, by rw [HZZ.out, if_neg hl0]; rfl, HE.out, hJ3, HC3.out⟩
          case measure => simp [intOf]; omega
        · gi_wp2
          refine bodyPost_ret (results_none rfl _ _ _) rfl ?_
          exact ⟨⟨_, rfl⟩, .inr ⟨_, by rw [HE.out]; have := HPre.out; rw [show k + 1 + (16 - (k + 1)) = 16 by omega] at this; exact this, hJx3⟩⟩
    · obtain rfl : k = 16 := by omega
      gi_wp2
      go_end0
      exact ⟨⟨_, rfl⟩, .inl ⟨pre, HP.out, HJ.out⟩⟩

theorem I_runsIn (zs : List Int) (w : World) : Calls Try.prog 57 #[.agg (rowI zs)] w fun e w' => e = .returned (.func (.func 77) #[] #[.pointer (some ⟨w.heap.size, 0, none⟩)]) ∧ w' = w.alloc (.cells (rowI zs) 26) := by
  go_enter Try.func57, Try.ntmps57
  go_wp2
  go_ret
  exact ⟨rfl, rfl⟩

theorem runs_stops (n Bn : Nat) (zs : List Int) (hn : 1 ≤ n) (hz : zs.length = 16) (hv : absB 4080 zs = true) (w : World) (hB : Blk w Bn (rowI zs) 26) :
    SeqStopsK Fence.wide n Try.prog 77 #[.pointer (some ⟨Bn, 0, none⟩)] rEnc (KpC Bn) (fun ys : List RR => rls ys = runsL zs) (fun pre => rls pre <+: runsL zs) 16 w := fun l J Jx W hW hJ _ hY h0 =>
  I_runs1 n l Bn zs hn hz hv J Jx (fun A B hb h => hJ _ _ _ none h (grown_below hb none) (fun r e => by cases e)) hY W (by have := hB.lt; have := hW.size; omega) (fun j hj => (hW.cell (p := ⟨Bn, j, none⟩) hB.lt).trans (blk_rowI_cell hB (by omega))) h0

end Go.Proofs.Ytggkelehjdepkaa
