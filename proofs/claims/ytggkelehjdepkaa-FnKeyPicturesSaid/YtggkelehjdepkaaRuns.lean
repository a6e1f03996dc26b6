/- The runs of a block of levels; the signed index. -/
import Derived.Test.YtggkelehjdepkaaScan
import Derived.Test.YtggkelehjdepkaaRange
import Derived.Maps.AppendAt
import Derived.LoopTactic
namespace Go.Proofs.Ytggkelehjdepkaa
open Go.RowKit
set_option linter.unusedVariables false
set_option linter.unusedSimpArgs false

attribute [local go_sem] size_addsW cell?_addsW frozen?_addsW setCell_addsW drew_addsW adds_addsW setCell_twice alloc_adds0 size_adds0 adds_adds0 sel2 sel3 sel4 sel5 sel6 sel7 sel8 sel9 lt_more lt_more2 lt_more3 lt_more4 adds_drew adds_drewN drewN_addsW ltA_1_1 ltA_1_2 ltA_1_3 ltA_1_4 ltA_1_5 ltA_1_6 ltA_2_1 ltA_2_2 ltA_2_3 ltA_2_4 ltA_2_5 ltA_2_6 ltA_3_1 ltA_3_2 ltA_3_3 ltA_3_4 ltA_3_5 ltA_3_6 ltA_4_1 ltA_4_2 ltA_4_3 ltA_4_4 ltA_4_5 ltA_4_6 ltA_5_1 ltA_5_2 ltA_5_3 ltA_5_4 ltA_5_5 ltA_5_6 ltA_6_1 ltA_6_2 ltA_6_3 ltA_6_4 ltA_6_5 ltA_6_6 ltA_7_1 ltA_7_2 ltA_7_3 ltA_7_4 ltA_7_5 ltA_7_6 ltA_8_1 ltA_8_2 ltA_8_3 ltA_8_4 ltA_8_5 ltA_8_6 ltA_9_1 ltA_9_2 ltA_9_3 ltA_9_4 ltA_9_5 ltA_9_6 ltA_10_1 ltA_10_2 ltA_10_3 ltA_10_4 ltA_10_5 ltA_10_6 ltA_11_1 ltA_11_2 ltA_11_3 ltA_11_4 ltA_11_5 ltA_11_6 ltA_12_1 ltA_12_2 ltA_12_3 ltA_12_4 ltA_12_5 ltA_12_6

def rnZ (f : Nat → Int) : Nat → Nat
  | 0 => 0
  | k + 1 => if f k = 0 then rnZ f k + 1 else 0
def rnU (f : Nat → Int) : Nat → List (Nat × Int)
  | 0 => []
  | k + 1 => if f k = 0 then rnU f k else rnU f k ++ [(rnZ f k, f k)]
def flR : List (Nat × Int) → List Int
  | [] => []
  | p :: l => (p.1 : Int) :: p.2 :: flR l
theorem flR_app : ∀ l m, flR (l ++ m) = flR l ++ flR m
  | [], m => rfl
  | p :: l, m => by simp [flR, flR_app l m]
theorem flR_len : ∀ l, (flR l).length = l.length * 2
  | [] => rfl
  | p :: l => by simp [flR, flR_len l]; omega
theorem flR_at : ∀ (l : List (Nat × Int)) (i : Nat), i < l.length → (flR l).getD (i * 2) 0 = ((l.getD i (0, 0)).1 : Int) ∧ (flR l).getD (i * 2 + 1) 0 = (l.getD i (0, 0)).2
  | [], i, h => by simp at h
  | p :: l, 0, h => by simp [flR]
  | p :: l, i + 1, h => by
    have := flR_at l i (by simp at h; omega)
    rw [show (i + 1) * 2 = i * 2 + 1 + 1 by omega]
    simpa [flR] using this
theorem rnZ_le (f : Nat → Int) : ∀ k, rnZ f k ≤ k
  | 0 => Nat.le_refl _
  | k + 1 => by have := rnZ_le f k; rw [rnZ]; split <;> omega
theorem rnU_len (f : Nat → Int) : ∀ k, (rnU f k).length ≤ k
  | 0 => Nat.le_refl _
  | k + 1 => by have := rnU_len f k; rw [rnU]; split <;> simp <;> omega
theorem rnU_all (f : Nat → Int) : ∀ k, ∀ p ∈ rnU f k, p.1 < k ∧ p.2 ≠ 0 ∧ ∃ j, j < k ∧ p.2 = f j
  | 0, p, h => by simp [rnU] at h
  | k + 1, p, h => by
    rw [rnU] at h
    by_cases h0 : f k = 0
    · rw [if_pos h0] at h
      obtain ⟨h1, h2, j, h3, h4⟩ := rnU_all f k p h
      exact ⟨by omega, h2, j, by omega, h4⟩
    · rw [if_neg h0] at h
      rcases List.mem_append.1 h with h | h
      · obtain ⟨h1, h2, j, h3, h4⟩ := rnU_all f k p h
        exact ⟨by omega, h2, j, by omega, h4⟩
      · rw [List.mem_singleton] at h
        subst h
        exact ⟨by have := rnZ_le f k; simp only; omega, h0, k, by omega, rfl⟩
/-- the level at a position of the order -/
def lvS (zs : List Int) (k : Nat) : Int := zs.getD (scanL.getD k 0).toNat 0
def runsL (zs : List Int) : List (Nat × Int) := rnU (lvS zs) 16

theorem own_base {w : World} {base base' E size n : Nat} {v : Value} {xs : List Value} (h : w.ownsRow base E size v n xs) (hb : base' ≤ base) : w.ownsRow base' E size v n xs := by
  obtain ⟨hl, h⟩ := h
  refine ⟨hl, ?_⟩
  rcases h with h | ⟨g, cap, cur, h1, h2, h3⟩
  · exact .inl h
  · exact .inr ⟨g, cap, cur, h1, Nat.le_trans hb h2, h3⟩
theorem own_lit_s (W : World) (e : TypeId) (g base s : Nat) (hs : 0 < s) (hg : g = W.heap.size) (hb : base ≤ g) : (W.alloc (.cells #[] e)).ownsRow base e s (.slice (some ⟨g, 0, none⟩) 0 0) 0 [] := by
  subst hg; exact World.ownsRow_lit (base := base) (e := e) (size := s) W #[] 0 hb (by decide) (by simp)
theorem blk_rowI_cell {W : World} {g j : Nat} {zs : List Int} {t : TypeId} (h : Blk W g (rowI zs) t) (hj : j < zs.length) : W.cell? ⟨g, j, none⟩ = some (.int .i64 (zs.getD j 0)) := h.get (rowI_get hj)
theorem Blk.grown {W W1 : World} {g : Nat} {cs : Array Value} {t : TypeId} {row : Option Nat} (h : Blk W g cs t) (hg : W.grownBy W1 row) (hne : row ≠ some g) : Blk W1 g cs t := (hg.block g h.lt (fun e => hne e.symm)).trans h

theorem infoRun : (Try.prog.info? 97).map (fun i => (i.zero, i.size, i.bytes)) = some (some (.agg #[.int .i64 0, .int .i64 0]), 2, 16) := by kernel_rfl

def RnRel (w : World) (zs : List Int) (vo : Value) (k : Nat) (v z : Value) (wr : World) : Prop :=
  z = .int .i64 (rnZ (lvS zs) k : Int) ∧ Rows2 (w.heap.size + 1) 97 3 2 1 v vo (rnU (lvS zs) k).length 16 ((flR (rnU (lvS zs) k)).map (Value.int .i64)) (scanL.map (Value.int .i64)) wr ∧
    Blk wr w.heap.size (rowI zs) 26 ∧ Below w.heap.size w wr
/-- runs in new memory -/
def RunsMade (l : List (Nat × Int)) (w : World) (e : Ending) (w' : World) : Prop := ∃ v, e = .returned v ∧ w'.ownsRow w.heap.size 97 2 v l.length ((flR l).map (Value.int .i64)) ∧ Below w.heap.size w w'

set_option maxRecDepth 100000 in
set_option maxHeartbeats 1000000 in
theorem S_RunsOf (zs : List Int) (w : World) (hz : zs.length = 16) : Calls Try.prog 79 #[.agg (rowI zs)] w (RunsMade (runsL zs) w) := by
  obtain ⟨i0, hi, hz0, hz1, hz2⟩ := info_parts infoRun
  have HZ := Lib.hid hz
  clear hz
  go_enter Try.func79, Try.ntmps79
  go_upto_region 2 with fail
  have hB := Blk.new w (rowI zs) 26 _ rfl
  have hB2 := Lib.hid (hB.alloc (.cells #[] 97))
  have hO2 := Lib.hid (own_lit_s (w.alloc (.cells (rowI zs) 26)) 97 (w.heap.size + 1) (w.heap.size + 1) 2 (by decide) (by simp) (Nat.le_refl _))
  clear hB
  go_wp2_with (go_at_call 89; refine (S_ScanOrder _).mono ?_; rintro e w2 ⟨vo, rfl, hvo, hb2⟩; have HVO := Lib.hid hvo; have HB2 := Lib.hid hb2; clear hvo hb2)
  have hsz2 := HB2.out.size
  simp only [World.size_alloc] at hsz2
  have hlit := ownsRow_below hO2.out HB2.out
  have hvb := own_base HVO.out (base' := w.heap.size + 1) (by simp only [World.size_alloc]; omega)
  have hR2 := Lib.hid (show Rows2 (w.heap.size + 1) 97 3 2 1 (.slice (some ⟨w.heap.size + 1, 0, none⟩) 0 0) vo 0 16 [] (scanL.map (Value.int .i64)) w2 from ⟨hlit, hvb, fun _ e => by
    have h1 := HVO.out.lt _ e.symm
    simp only [World.size_alloc] at h1
    omega⟩)
  have HBl := Lib.hid (show Blk w2 w.heap.size (rowI zs) 26 from hB2.out.below HB2.out (by simp only [World.size_alloc]; omega))
  have HBw := Lib.hid (show Below w.heap.size w w2 from Below.trans (Below.alloc (Below.alloc (Below.refl _ _) (Nat.le_refl _) _) (by simp) _) (HB2.out.mono (by simp; omega)))
  clear hlit hvb hB2 hO2 HVO HB2
  go_loopw [3, 5, 6] (fun v z i wr => ∃ k : Nat, i = .int .i64 (k : Int) ∧ k ≤ 16 ∧ RnRel w zs vo k v z wr) (fun _ _ i _ => 16 - (intOf i).toNat)
  case atStart => exact ⟨0, rfl, by omega, rfl, hR2.out, HBl.out, HBw.out⟩
  case round =>
    clear hR2 HBl HBw hsz2
    clear w2
    obtain ⟨k, rfl, hk, rfl, hr2, hbl, hbw⟩ := hrel
    have HR2 := Lib.hid hr2
    have HBl := Lib.hid hbl
    have HBw := Lib.hid hbw
    clear hr2 hbl hbw
    have hsz := HBw.out.size
    have hgl := HBl.out.lt
    obtain ⟨A1, c1, e1, hlc, -⟩ := own_shape HR2.out.1
    subst e1
    obtain ⟨AO, cO, rfl, hlo, hAO⟩ := own_shape HR2.out.2.1
    rcases hAO with ⟨-, h0⟩ | ⟨ao, rfl, hao1, hao2⟩
    · omega
    · have hlen := rnU_len (lvS zs) k
      have hzle := rnZ_le (lvS zs) k
      by_cases hlt : k < 16
      · have hd1 : decide ((k : Int) < 16) = true := by simp; omega
        have co := HR2.out.2.1.cellAt k (by omega)
        rw [List.getElem?_map, show scanL[k]? = some (scanL.getD k 0) by rw [List.getD_eq_getElem?_getD, List.getElem?_eq_getElem (by rw [scanL_len]; exact hlt)]; rfl, Option.map_some] at co
        have hjb := scanL_bd k hlt
        obtain ⟨J, hJ⟩ := Int.eq_ofNat_of_zero_le hjb.1
        have cl := blk_rowI_cell HBl.out (j := J) (by rw [HZ.out]; omega)
        have hlv : lvS zs k = zs.getD J 0 := by rw [lvS, hJ]; rfl
        rw [← hlv] at cl
        rw [hJ] at co hjb
        have HU := Lib.hid (show rnU (lvS zs) (k + 1) = if lvS zs k = 0 then rnU (lvS zs) k else rnU (lvS zs) k ++ [(rnZ (lvS zs) k, lvS zs k)] from rfl)
        have HZZ := Lib.hid (show rnZ (lvS zs) (k + 1) = if lvS zs k = 0 then rnZ (lvS zs) k + 1 else 0 from rfl)
        clear hlv hJ
        obtain ⟨m, hm⟩ : ∃ m, m = (rnU (lvS zs) k).length := ⟨_, rfl⟩
        rw [← hm] at HR2 hlen hlc ⊢
        have HM := Lib.hid hm
        clear hm
        generalize hl : lvS zs k = l at cl HU HZZ
        clear hl
        by_cases h0 : l = 0
        · subst h0
          go_wp2_with fail
          go_roundw
          case rel => exact ⟨k + 1, by go_num, by omega, by rw [HZZ.out, if_pos rfl]; go_num, by rw [HU.out, if_pos rfl, ← HM.out]; exact HR2.out, HBl.out, HBw.out⟩
          case measure => simp [intOf]; omega
        · have h0b : (l == 0) = false := by simp [h0]
          generalize hzz : rnZ (lvS zs) k = z at hzle HU HZZ ⊢
          clear hzz
          go_wp2_with (at_builtin; refine wpList_append_own_at _ rfl _ _ 124 rfl (w.heap.size + 1) 97 i0 (.agg #[.int .i64 0, .int .i64 0]) 2 16 Try.underlying124 hi hz0 hz1 hz2 rfl (by decide) _ _ _ rfl (HR2.out.alloc _).1 ⟨wr.heap.size, 0, none⟩ 1 1 [.int .i64 (z : Int), .int .i64 l] rfl rfl (news2 (by go_simp; done) (by go_simp; done)) (one2 rfl rfl) (by unfold maxLen; omega) (by omega) (by simp only [World.size_alloc]; omega) ?_; intro v' w1 hown1 hgrow1 _ hat1; have HG1 := Lib.hid ((HR2.out.alloc _).app hown1 hgrow1 hat1); have HGR := Lib.hid hgrow1; clear hown1 hgrow1 hat1)
          go_roundw
          case rel => exact ⟨k + 1, by go_num, by omega, by rw [HZZ.out, if_neg h0]; rfl, by rw [HU.out, if_neg h0, flR_app, List.map_append, List.length_append, ← HM.out]; exact HG1.out, (HBl.out.alloc _).grown HGR.out (fun e => by have := (HR2.out.1.lt _ e).1; omega), Below.grown (Below.alloc HBw.out hsz _) HGR.out (by simp; omega) (fun q e => by have := (HR2.out.1.lt _ e).1; omega)⟩
          case measure => simp [intOf]; omega
      · obtain rfl : k = 16 := by omega
        go_wp2_with fail
        go_returns
        exact ⟨_, rfl, own_base HR2.out.1 (by omega), HBw.out⟩

/-- the index of a signed number -/
def sidx (v : Int) : Int := if 0 < v then 2 * v - 1 else -2 * v
theorem sidx_bd {v : Int} (h : -4080 ≤ v ∧ v ≤ 4080) : 0 ≤ sidx v ∧ sidx v ≤ 8160 := by unfold sidx; split <;> omega
theorem sidx_pos {v : Int} (h : -4080 ≤ v ∧ v ≤ 4080) (h0 : v ≠ 0) : 1 ≤ sidx v ∧ sidx v ≤ 8160 := by unfold sidx; split <;> omega

theorem S_SignedIndex (v : Int) (w : World) (h : -4080 ≤ v ∧ v ≤ 4080) : Calls Try.prog 59 #[.int .i64 v] w fun e w' => e = .returned (.int .i64 (sidx v)) ∧ w = w' := by
  have hin : M.inB v (-32767) 32767 = true := by simp [M.inB]; omega
  by_cases h0 : 0 < v
  · rw [show sidx v = 2 * v - 1 from if_pos h0]
    go_enter Try.func59, Try.ntmps59
    go_wp2_with (go_at_call 36; refine (S_l1In _ _ _ _).mono ?_; rw [hin]; rintro e w' ⟨rfl, rfl⟩)
    go_returns
    exact ⟨rfl, rfl⟩
  · rw [show sidx v = -2 * v from if_neg h0]
    go_enter Try.func59, Try.ntmps59
    go_wp2_with (go_at_call 36; refine (S_l1In _ _ _ _).mono ?_; rw [hin]; rintro e w' ⟨rfl, rfl⟩)
    go_returns
    exact ⟨rfl, rfl⟩

theorem I_SignedIndex (v : Int) (w : World) (h : -4080 ≤ v ∧ v ≤ 4080) : Calls Try.prog 55 #[.int .i64 v] w fun e w' => e = .returned (.int .i64 (sidx v)) ∧ w = w' := by
  have h1 : ¬ v < -32767 := by omega
  have h2 : ¬ (32767 : Int) < v := by omega
  by_cases h0 : 0 < v
  · rw [show sidx v = 2 * v - 1 from if_pos h0]
    go_enter Try.func55, Try.ntmps55
    go_wp2_with fail
    go_returns
    exact ⟨rfl, rfl⟩
  · rw [show sidx v = -2 * v from if_neg h0]
    go_enter Try.func55, Try.ntmps55
    go_wp2_with fail
    go_returns
    exact ⟨rfl, rfl⟩

end Go.Proofs.Ytggkelehjdepkaa
