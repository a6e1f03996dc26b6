/- The intra pictures of a list. -/
import Derived.Test.YtbnccnngcgbklaaCodSt
import Derived.Test.YtbnccnngcgbklaaGrow
import Derived.Maps.AppendAt
namespace Go.Proofs.Ytbnccnngcgbklaa
open Go.RowKit Go.Deep
set_option linter.unusedVariables false
set_option linter.unusedSimpArgs false

attribute [local go_sem] size_addsW cell?_addsW frozen?_addsW setCell_addsW drew_addsW adds_addsW setCell_twice alloc_adds0 size_adds0 adds_adds0 sel2 sel3 sel4 sel5 sel6 sel7 sel8 sel9 lt_more lt_more2 lt_more3 lt_more4 adds_drew adds_drewN drewN_addsW ltA_1_1 ltA_1_2 ltA_1_3 ltA_1_4 ltA_1_5 ltA_1_6 ltA_2_1 ltA_2_2 ltA_2_3 ltA_2_4 ltA_2_5 ltA_2_6 ltA_3_1 ltA_3_2 ltA_3_3 ltA_3_4 ltA_3_5 ltA_3_6 ltA_4_1 ltA_4_2 ltA_4_3 ltA_4_4 ltA_4_5 ltA_4_6 ltA_5_1 ltA_5_2 ltA_5_3 ltA_5_4 ltA_5_5 ltA_5_6 ltA_6_1 ltA_6_2 ltA_6_3 ltA_6_4 ltA_6_5 ltA_6_6 ltA_7_1 ltA_7_2 ltA_7_3 ltA_7_4 ltA_7_5 ltA_7_6 ltA_8_1 ltA_8_2 ltA_8_3 ltA_8_4 ltA_8_5 ltA_8_6 ltA_9_1 ltA_9_2 ltA_9_3 ltA_9_4 ltA_9_5 ltA_9_6 ltA_10_1 ltA_10_2 ltA_10_3 ltA_10_4 ltA_10_5 ltA_10_6 ltA_11_1 ltA_11_2 ltA_11_3 ltA_11_4 ltA_11_5 ltA_11_6 ltA_12_1 ltA_12_2 ltA_12_3 ltA_12_4 ltA_12_5 ltA_12_6

/-- the numbers below k that f chooses -/
def keysU (f : Nat → Bool) : Nat → List Int
  | 0 => []
  | k + 1 => if f k then keysU f k ++ [(k : Int)] else keysU f k
def keysL (f : Nat → Bool) (n : Nat) : List Int := if n ≤ 8 then keysU f n else []
theorem keysU_len (f : Nat → Bool) : ∀ k, (keysU f k).length ≤ k
  | 0 => Nat.le_refl _
  | k + 1 => by have := keysU_len f k; rw [keysU]; split <;> simp <;> omega
theorem keysL_len (f : Nat → Bool) (n : Nat) : (keysL f n).length ≤ 8 := by
  unfold keysL
  split
  · have := keysU_len f n; omega
  · simp
theorem infoIntK : (Try.prog.info? 3).map (fun i => (i.zero, i.size, i.bytes)) = some (some (.int .i64 0), 1, 8) := by kernel_rfl
/-- a list of numbers that the call has made -/
def IntsGotK (l : List Int) (w : World) (e : Ending) (w' : World) : Prop :=
  ∃ (A : Option Addr) (c : Nat), e = .returned (.slice A l.length c) ∧ RowAt .i64 w' A l ∧ (∀ d, A = some d → w.heap.size ≤ d.block) ∧ (Soft w' A ∧ l.length ≤ c) ∧ Below w.heap.size w w'
/-- the numbers so far -/
def KeyRel (w : World) (f : Nat → Bool) (n : Nat) (v i : Value) (wr : World) : Prop :=
  ∃ k : Nat, k ≤ n ∧ i = .int .i64 (k : Int) ∧ wr.ownsRow w.heap.size 3 1 v (keysU f k).length ((keysU f k).map (Value.int .i64)) ∧ Below w.heap.size w wr

set_option maxRecDepth 100000 in
set_option maxHeartbeats 1000000 in
theorem S_KeyPictures (A : Option Addr) (n cap : Nat) (E : Nat → CdE) (f : Nat → Bool) (w : World) (h : CSAt w A n E) (hf : ∀ k, k < n → (E k).i = f k) (hn : n ≤ 1048576) :
    Calls Try.prog 12 #[.slice A n cap] w (IntsGotK (keysL f n) w) := by
  have HS := Lib.hid h
  have HF := Lib.hid hf
  clear h hf
  obtain ⟨i0, hi, hz0, hz1, hz2⟩ := info_parts infoIntK
  by_cases h8 : 8 < n
  · rw [show keysL f n = [] from if_neg (by omega)]
    have hd : ¬ (n : Int) ≤ 8 := by omega
    go_enter Try.func12, Try.ntmps12
    go_wp2_with fail
    go_loop [3, 4] (fun v i => i = .int .i64 0 ∧ v = .slice (some ⟨w.heap.size, 0, none⟩) 0 0) (fun _ i => 0)
    case atStart => exact ⟨rfl, rfl⟩
    case round =>
      obtain ⟨rfl, rfl⟩ := hrel
      have hd2 : (0 : Int) < (n : Int) := by omega
      go_wp2_with fail
      go_returns
      exact ⟨_, 0, rfl, (fun h => absurd rfl h), (fun d hd => by cases hd; exact Nat.le_refl _), ⟨Soft.new_ _ _ _ rfl, Nat.le_refl _⟩, (by repeat' (first | (with_reducible exact Below.refl _ _) | (with_reducible refine Below.adds_ ?_ ?_ _ _) | (with_reducible refine Below.alloc ?_ ?_ _) | (with_reducible refine Below.drew ?_) | (with_reducible refine Below.setCell ?_ ?_ _) | (with_reducible assumption) | go_size | (simp only [size_addsW, World.size_alloc, World.size_drew, World.size_setCell]; omega)))⟩
  · have hd8 : (n : Int) ≤ 8 := by omega
    have hkl : keysL f n = keysU f n := if_pos (by omega)
    have HKL := Lib.hid hkl
    clear hkl
    go_enter Try.func12, Try.ntmps12
    go_wp2_with fail
    go_loopw [3, 4] (fun v i wr => KeyRel w f n v i wr) (fun _ i _ => n - (intOf i).toNat)
    case atStart => exact ⟨0, Nat.zero_le _, rfl, own_lit_g w 3 _ rfl, (by repeat' (first | (with_reducible exact Below.refl _ _) | (with_reducible refine Below.adds_ ?_ ?_ _ _) | (with_reducible refine Below.alloc ?_ ?_ _) | (with_reducible refine Below.drew ?_) | (with_reducible refine Below.setCell ?_ ?_ _) | (with_reducible assumption) | go_size | (simp only [size_addsW, World.size_alloc, World.size_drew, World.size_setCell]; omega)))⟩
    case round =>
      obtain ⟨k, hk, rfl, hown, hb⟩ := hrel
      have HO := Lib.hid hown
      have HB := Lib.hid hb
      clear hown hb
      obtain ⟨A1, c1, e1, hlc, -⟩ := own_shape HO.out
      subst e1
      have hlen := keysU_len f k
      by_cases hlt : k < n
      · obtain ⟨b, off, rfl, hbl, -, -, c2, -, -⟩ := (HS.out.keep HB.out).at_ hlt
        rw [HF.out k hlt] at c2
        have hsz := HB.out.size
        have HK1 := Lib.hid (show keysU f (k + 1) = if f k then keysU f k ++ [(k : Int)] else keysU f k from rfl)
        generalize f k = fk at c2 HK1
        cases fk
        · go_wp2_with fail
          go_roundw
          case rel => exact ⟨k + 1, by omega, by go_num, by rw [HK1.out, if_neg (by decide)]; exact HO.out, HB.out⟩
          case measure => simp [intOf]; omega
        · obtain ⟨m, hm⟩ : ∃ m, m = (keysU f k).length := ⟨_, rfl⟩
          rw [← hm] at HO hlen hlc ⊢
          have HM := Lib.hid hm
          clear hm
          go_wp2_with (at_builtin; refine wpList_append_own_at _ rfl _ _ 33 rfl w.heap.size 3 i0 (.int .i64 0) 1 8 Try.underlying33 hi hz0 hz1 hz2 rfl (by decide) _ _ _ rfl (ownsRow_below HO.out (by rw [alloc_as]; exact addsW_below _ _ _)) ⟨_, 0, none⟩ 1 1 [.int .i64 (k : Int)] rfl rfl (news1 (by go_simp; done)) (one1 rfl) (by unfold maxLen; omega) (by omega) (by simp only [World.size_alloc]; omega) ?_; intro v' w1 hown1 hgrow1 _ hat1; obtain ⟨A2, cc2, e2, -⟩ := own_shape hown1; subst e2; have HO1 := Lib.hid hown1; have HG1 := Lib.hid hgrow1; clear hown1 hgrow1 hat1)
          go_roundw
          case rel => exact ⟨k + 1, by omega, by go_num, by rw [HK1.out, if_pos rfl, List.length_append, List.map_append, ← HM.out]; exact HO1.out, Below.grown (HB.out.trans (by rw [alloc_as]; exact (addsW_below _ _ _).mono hsz)) HG1.out (by simp only [World.size_alloc]; omega) (fun q e => (HO.out.lt q e).1)⟩
          case measure => simp [intOf]; omega
      · obtain rfl : k = n := by omega
        obtain ⟨A3, c3, e3, -, hcc, -, hr1, -⟩ := RowAt.of_ownS HO.out
        have hsf := Soft.of_own (e3 ▸ HO.out)
        have hA2 : ∀ d, A3 = some d → w.heap.size ≤ d.block := fun d hd => (HO.out.lt d.block (by rw [e3, hd]; rfl)).1
        injection e3 with e3 e4 e5
        subst e3
        subst e5
        have HR1 := Lib.hid hr1
        have HSF := Lib.hid hsf
        have HA2 := Lib.hid hA2
        clear hr1 hsf hA2
        go_wp2_with fail
        go_returns
        rw [HKL.out]
        exact ⟨_, _, rfl, HR1.out, HA2.out, ⟨HSF.out, hlc⟩, HB.out⟩

set_option maxRecDepth 100000 in
set_option maxHeartbeats 1000000 in
theorem I_KeyPictures (A : Option Addr) (n cap : Nat) (E : Nat → CdE) (f : Nat → Bool) (w : World) (h : CSAt w A n E) (hf : ∀ k, k < n → (E k).i = f k) (hn : n ≤ 1048576) :
    Calls Try.prog 14 #[.slice A n cap] w (IntsGotK (keysL f n) w) := by
  have HS := Lib.hid h
  have HF := Lib.hid hf
  clear h hf
  obtain ⟨i0, hi, hz0, hz1, hz2⟩ := info_parts infoIntK
  by_cases h8 : 8 < n
  · rw [show keysL f n = [] from if_neg (by omega)]
    have hd : (8 : Int) < (n : Int) := by omega
    go_enter Try.func14, Try.ntmps14
    go_wp2_with fail
    go_returns
    exact ⟨none, 0, rfl, (fun h => absurd rfl h), (fun d hd => by cases hd), ⟨(fun d hd => by cases hd), Nat.le_refl _⟩, (by repeat' (first | (with_reducible exact Below.refl _ _) | (with_reducible refine Below.adds_ ?_ ?_ _ _) | (with_reducible refine Below.alloc ?_ ?_ _) | (with_reducible refine Below.drew ?_) | (with_reducible refine Below.setCell ?_ ?_ _) | (with_reducible assumption) | go_size | (simp only [size_addsW, World.size_alloc, World.size_drew, World.size_setCell]; omega)))⟩
  · have hd8 : ¬ (8 : Int) < (n : Int) := by omega
    have hkl : keysL f n = keysU f n := if_pos (by omega)
    have HKL := Lib.hid hkl
    clear hkl
    go_enter Try.func14, Try.ntmps14
    go_wp2_with fail
    go_loopw [3, 11] (fun v i wr => KeyRel w f n v i wr) (fun _ i _ => n - (intOf i).toNat)
    case atStart => exact ⟨0, Nat.zero_le _, rfl, World.ownsRow_nil _ _ _ _, Below.refl _ _⟩
    case round =>
      obtain ⟨k, hk, rfl, hown, hb⟩ := hrel
      have HO := Lib.hid hown
      have HB := Lib.hid hb
      clear hown hb
      obtain ⟨A1, c1, e1, hlc, -⟩ := own_shape HO.out
      subst e1
      have hlen := keysU_len f k
      by_cases hlt : k < n
      · obtain ⟨b, off, rfl, hbl, d0, d1, d2, d3, d4⟩ := (HS.out.keep HB.out).at_ hlt
        rw [HF.out k hlt] at d2
        have hsz := HB.out.size
        have HK1 := Lib.hid (show keysU f (k + 1) = if f k then keysU f k ++ [(k : Int)] else keysU f k from rfl)
        generalize f k = fk at d2 HK1
        generalize (E k).x = x at *
        generalize (E k).y = y at *
        generalize (E k).q = q at *
        generalize (E k).A = AE at *
        generalize (E k).n = nE at *
        generalize (E k).cap = ce at *
        cases fk
        · go_wp2_with fail
          go_roundw
          case rel => exact ⟨k + 1, by omega, by go_num, by rw [HK1.out, if_neg (by decide)]; exact ownsRow_below HO.out (by rw [alloc_as]; exact addsW_below _ _ _), HB.out.trans (by rw [alloc_as]; exact (addsW_below _ _ _).mono hsz)⟩
          case measure => simp [intOf]; omega
        · obtain ⟨m, hm⟩ : ∃ m, m = (keysU f k).length := ⟨_, rfl⟩
          rw [← hm] at HO hlen hlc ⊢
          have HM := Lib.hid hm
          clear hm
          go_upto_region 8 with fail
          refine all_add' ?_
          intro Y hY
          have HB2 := Lib.hid (show Below wr.heap.size wr Y from by rw [hY]; exact (by repeat' (first | (with_reducible exact Below.refl _ _) | (with_reducible refine Below.adds_ ?_ ?_ _ _) | (with_reducible refine Below.alloc ?_ ?_ _) | (with_reducible refine Below.drew ?_) | (with_reducible refine Below.setCell ?_ ?_ _) | (with_reducible assumption) | go_size | (simp only [size_addsW, World.size_alloc, World.size_drew, World.size_setCell]; omega))))
          clear hY d0 d1 d2 d3 d4
          have hsz2 := HB2.out.size
          go_wp2_with (at_builtin; refine wpList_append_own_at _ rfl _ _ 33 rfl w.heap.size 3 i0 (.int .i64 0) 1 8 Try.underlying33 hi hz0 hz1 hz2 rfl (by decide) _ _ _ rfl (ownsRow_below (ownsRow_below HO.out HB2.out) (by rw [alloc_as]; exact addsW_below _ _ _)) ⟨_, 0, none⟩ 1 1 [.int .i64 (k : Int)] rfl rfl (news1 (by go_simp; done)) (one1 rfl) (by unfold maxLen; omega) (by omega) (by simp only [World.size_alloc]; omega) ?_; intro v' w1 hown1 hgrow1 _ hat1; obtain ⟨A2, cc2, e2, -⟩ := own_shape hown1; subst e2; have HO1 := Lib.hid hown1; have HG1 := Lib.hid hgrow1; clear hown1 hgrow1 hat1)
          go_roundw
          case rel => exact ⟨k + 1, by omega, by go_num, by rw [HK1.out, if_pos rfl, List.length_append, List.map_append, ← HM.out]; exact HO1.out, Below.grown ((HB.out.trans (HB2.out.mono hsz)).trans (by rw [alloc_as]; exact (addsW_below _ _ _).mono (by omega))) HG1.out (by simp only [World.size_alloc]; omega) (fun q e => (HO.out.lt q e).1)⟩
          case measure => simp [intOf]; omega
      · obtain rfl : k = n := by omega
        obtain ⟨A3, c3, e3, -, hcc, -, hr1, -⟩ := RowAt.of_ownS HO.out
        have hsf := Soft.of_own (e3 ▸ HO.out)
        have hA2 : ∀ d, A3 = some d → w.heap.size ≤ d.block := fun d hd => (HO.out.lt d.block (by rw [e3, hd]; rfl)).1
        injection e3 with e3 e4 e5
        subst e3
        subst e5
        have HR1 := Lib.hid hr1
        have HSF := Lib.hid hsf
        have HA2 := Lib.hid hA2
        clear hr1 hsf hA2
        go_wp2_with fail
        go_returns
        rw [HKL.out]
        exact ⟨_, _, rfl, HR1.out, HA2.out, ⟨HSF.out, hlc⟩, HB.out⟩

end Go.Proofs.Ytbnccnngcgbklaa
