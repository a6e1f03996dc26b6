/- The program's appendNumber, the reference's l10Number. -/
import Derived.Test.YtggkelehjdepkaaNum
import Derived.Test.YtggkelehjdepkaaTwo
import Derived.Test.YtggkelehjdepkaaShelf
import Derived.LoopTactic
namespace Go.Proofs.Ytggkelehjdepkaa
open Go.RowKit
set_option linter.unusedVariables false
set_option linter.unusedSimpArgs false

attribute [local go_sem] size_addsW cell?_addsW frozen?_addsW setCell_addsW drew_addsW adds_addsW setCell_twice alloc_adds0 size_adds0 adds_adds0 sel2 sel3 sel4 sel5 sel6 sel7 sel8 sel9 lt_more lt_more2 lt_more3 lt_more4 adds_drew adds_drewN drewN_addsW ltA_1_1 ltA_1_2 ltA_1_3 ltA_1_4 ltA_1_5 ltA_1_6 ltA_2_1 ltA_2_2 ltA_2_3 ltA_2_4 ltA_2_5 ltA_2_6 ltA_3_1 ltA_3_2 ltA_3_3 ltA_3_4 ltA_3_5 ltA_3_6 ltA_4_1 ltA_4_2 ltA_4_3 ltA_4_4 ltA_4_5 ltA_4_6 ltA_5_1 ltA_5_2 ltA_5_3 ltA_5_4 ltA_5_5 ltA_5_6 ltA_6_1 ltA_6_2 ltA_6_3 ltA_6_4 ltA_6_5 ltA_6_6 ltA_7_1 ltA_7_2 ltA_7_3 ltA_7_4 ltA_7_5 ltA_7_6 ltA_8_1 ltA_8_2 ltA_8_3 ltA_8_4 ltA_8_5 ltA_8_6 ltA_9_1 ltA_9_2 ltA_9_3 ltA_9_4 ltA_9_5 ltA_9_6 ltA_10_1 ltA_10_2 ltA_10_3 ltA_10_4 ltA_10_5 ltA_10_6 ltA_11_1 ltA_11_2 ltA_11_3 ltA_11_4 ltA_11_5 ltA_11_6 ltA_12_1 ltA_12_2 ltA_12_3 ltA_12_4 ltA_12_5 ltA_12_6

theorem bitLenAux_eq : ∀ (f x : Nat), 0 < x → x < 2 ^ f → Lib.bitLenAux f x = Nat.log2 x + 1
  | 0, x, h0, h => by omega
  | f + 1, x, h0, h => by
    rw [Lib.bitLenAux, if_neg (by omega), Nat.log2_def]
    by_cases h2 : 2 ≤ x
    · rw [if_pos h2, bitLenAux_eq f (x / 2) (by omega) (by rw [Nat.pow_succ] at h; omega)]; omega
    · have : x = 1 := by omega
      subst this
      have : Lib.bitLenAux f (1 / 2) = 0 := by
        cases f with
        | zero => rfl
        | succ f => rw [Lib.bitLenAux, if_pos (by decide)]
      rw [if_neg h2, this]
theorem bitLen_lg {n : Nat} (h : n ≤ 65535) : Lib.bitLen (n + 1) = lgN n + 1 := bitLenAux_eq 64 (n + 1) (by omega) (by have : (2 : Nat) ^ 64 = 18446744073709551616 := by decide
                                                                                                                       omega)

theorem shr_and (n j : Nat) (hn : n ≤ 65534) : bits .and .i64 (((n : Int) + 1) / 2 ^ j) 1 = (((n + 1) / 2 ^ j % 2 : Nat) : Int) := by
  have e : ((n : Int) + 1) / 2 ^ j = (((n + 1) / 2 ^ j : Nat) : Int) := by simp
  rw [e]
  have hle : (n + 1) / 2 ^ j ≤ n + 1 := Nat.div_le_self _ _
  generalize (n + 1) / 2 ^ j = A at *
  show IntKind.i64.wrap ((BitVec.ofInt 64 (A : Int) &&& BitVec.ofInt 64 1).toNat : Int) = _
  rw [BitVec.toNat_and, BitVec.ofInt_natCast, BitVec.toNat_ofNat, Nat.mod_eq_of_lt (by omega), show (BitVec.ofInt 64 1).toNat = 1 from rfl, Nat.and_one_is_mod, IntKind.wrap_i64]
  omega

/-- the list in vr has grown out of the one in v: only v's block has turned, and new memory -/
def Gr (base : Nat) (v : Value) (w : World) (m : Nat) (zs : List Int) (vr : Value) (wr : World) : Prop :=
  wr.ownsRow base 35 2 vr m (zs.map (Value.int .i64)) ∧ w.grownBy wr v.ownBlock ∧ (vr.ownBlock = v.ownBlock ∨ ∀ q, vr.ownBlock = some q → w.heap.size ≤ q)
theorem Gr.start {base m : Nat} {v : Value} {w : World} {zs : List Int} (h : w.ownsRow base 35 2 v m (zs.map (Value.int .i64))) : Gr base v w m zs v w := ⟨h, ⟨rfl, rfl, rfl, Nat.le_refl _, fun _ _ _ => rfl⟩, .inl rfl⟩
theorem grown_step {w wr w1 : World} {v vr : Value} (h : w.grownBy wr v.ownBlock) (hat : vr.ownBlock = v.ownBlock ∨ ∀ q, vr.ownBlock = some q → w.heap.size ≤ q) (g : wr.grownBy w1 vr.ownBlock) : w.grownBy w1 v.ownBlock := by
  refine ⟨g.os.trans h.os, g.tape.trans h.tape, g.output.trans h.output, Nat.le_trans h.size g.size, fun k hk hne => ?_⟩
  refine (g.block k (by have := h.size; omega) (fun e => ?_)).trans (h.block k hk hne)
  rcases hat with hat | hat
  · exact hne (by rw [e, hat])
  · have := hat k e.symm; omega
theorem grown_alloc (w : World) (o : Obj) (row : Option Nat) : w.grownBy (w.alloc o) row :=
  ⟨rfl, rfl, rfl, by simp, fun k hk _ => Below.heap_alloc w o k hk⟩
theorem Gr.app {base m : Nat} {v vr v' : Value} {w wr w1 : World} {zs : List Int} {x y : Int} {o : Obj} (h : Gr base v w m zs vr wr)
    (hown : w1.ownsRow base 35 2 v' (m + 1) (zs.map (Value.int .i64) ++ [.int .i64 x, .int .i64 y])) (hg : (wr.alloc o).grownBy w1 vr.ownBlock) (hat : v'.ownBlock = vr.ownBlock ∨ v'.ownBlock = some (wr.alloc o).heap.size) :
    Gr base v w (m + 1) (zs ++ [x, y]) v' w1 := by
  obtain ⟨h1, h2, h3⟩ := h
  refine ⟨by rw [List.map_append]; exact hown, grown_step h2 h3 (World.grownBy.trans (grown_alloc wr o _) hg), ?_⟩
  rcases hat with e | e
  · rw [e]; exact h3
  · refine .inr (fun q hq => ?_)
    rw [e] at hq
    injection hq with hq
    rw [← hq, World.size_alloc]
    have := h2.size
    omega
def Grew (base : Nat) (v : Value) (m : Nat) (zs : List Int) (w : World) (e : Ending) (w' : World) : Prop := ∃ v', e = .returned v' ∧ Gr base v w m zs v' w'

def NmRel1 (base : Nat) (v : Value) (w : World) (m : Nat) (zs : List Int) (b : Int) (K : Nat) (vr i : Value) (wr : World) : Prop :=
  ∃ k : Nat, i = .int .i64 (k : Int) ∧ k ≤ K + 1 ∧ Gr base v w (m + k) (zs ++ (if k ≤ K then unP b k else unP b K ++ [b + min (K : Int) 5, 0])) vr wr
def NmRel2 (base : Nat) (v : Value) (w : World) (m : Nat) (zs : List Int) (b : Int) (n K : Nat) (vr i : Value) (wr : World) : Prop :=
  ∃ t : Nat, i = .int .i64 ((K : Int) - 1 - (t : Int)) ∧ t ≤ K ∧ Gr base v w (m + (K + 1) + t) (zs ++ (unP b K ++ [b + min (K : Int) 5, 0]) ++ dgP b (n + 1) K t) vr wr

set_option maxRecDepth 100000 in
set_option maxHeartbeats 1000000 in
theorem I_appendNumber (v : Value) (m n : Nat) (zs : List Int) (b : Int) (base : Nat) (w : World) (hown : w.ownsRow base 35 2 v m (zs.map (Value.int .i64))) (hbase : base ≤ w.heap.size) (hn : n ≤ 65534) (hb : 0 ≤ b ∧ b ≤ 33) (hm : m ≤ 1000000) :
    Calls Try.prog 54 #[v, .int .i64 (n : Int), .int .i64 b] w (Grew base v (m + numN n) (zs ++ numL n b) w) := by
  have HO := Lib.hid hown
  clear hown
  obtain ⟨i0, hi, hz0, hz1, hz2⟩ := info_parts infoBin
  have hK := lgN_le (n := n) (by omega)
  have HBL := Lib.hid (bitLen_lg (n := n) (by omega))
  obtain ⟨K, hKd⟩ : ∃ K, K = lgN n := ⟨_, rfl⟩
  rw [← hKd] at hK HBL
  have HK := Lib.hid hKd
  clear hKd
  go_enter Try.func54, Try.ntmps54
  go_wp2_with (go_at_call 76; refine (Try.bits_Len _ _ (by omega) (by omega)).mono ?_; rintro e w' ⟨rfl, hw⟩; obtain rfl : w = w' := hw.symm; rw [show ((n : Int) + 1).toNat = n + 1 by omega, HBL.out])
  go_loopw [0, 18] (fun vr i wr => NmRel1 base v w m zs b K vr i wr) (fun _ i _ => K + 1 - (intOf i).toNat)
  case atStart => exact ⟨0, rfl, by omega, by rw [if_pos (Nat.zero_le _), unP, List.append_nil]; exact Gr.start HO.out⟩
  case round =>
    obtain ⟨k, rfl, hk, hgr⟩ := hrel
    have HG := Lib.hid hgr
    have hsz := hgr.2.1.size
    clear hgr
    by_cases hlt : k < K
    · have t1 : ((k : Int) == (K : Int)) = false := by simp; omega
      go_wp2_with (at_builtin; refine wpList_append_own_at _ rfl _ _ 32 rfl base 35 i0 (.agg #[.int .i64 0, .int .i64 0]) 2 16 Try.underlying32 hi hz0 hz1 hz2 rfl (by decide) _ _ _ rfl (HG.out.1.alloc _) ⟨wr.heap.size, 0, none⟩ 1 1 [.int .i64 (b + min (k : Int) 5), .int .i64 (1)] rfl rfl (news2 (by go_simp; done) (by go_simp; done)) (one2 rfl rfl) (by unfold maxLen; omega) (by omega) (by simp only [World.size_alloc]; omega) ?_; intro v' w1 hown1 hgrow1 _ hat1; have HG1 := Lib.hid (HG.out.app hown1 hgrow1 hat1); clear hown1 hgrow1 hat1)
      go_roundw
      case rel =>
        refine ⟨k + 1, by go_num, by omega, ?_⟩
        have h := HG1.out
        rw [if_pos (by omega), List.append_assoc] at h
        rw [if_pos (by omega), unP]
        exact h
      case measure => simp [intOf]; omega
    · by_cases he : k = K
      · subst he
        have t1 : ((k : Int) == (k : Int)) = true := by simp
        go_wp2_with (at_builtin; refine wpList_append_own_at _ rfl _ _ 32 rfl base 35 i0 (.agg #[.int .i64 0, .int .i64 0]) 2 16 Try.underlying32 hi hz0 hz1 hz2 rfl (by decide) _ _ _ rfl (HG.out.1.alloc _) ⟨wr.heap.size, 0, none⟩ 1 1 [.int .i64 (b + min (k : Int) 5), .int .i64 (0)] rfl rfl (news2 (by go_simp; done) (by go_simp; done)) (one2 rfl rfl) (by unfold maxLen; omega) (by omega) (by simp only [World.size_alloc]; omega) ?_; intro v' w1 hown1 hgrow1 _ hat1; have HG1 := Lib.hid (HG.out.app hown1 hgrow1 hat1); clear hown1 hgrow1 hat1)
        go_roundw
        case rel =>
          refine ⟨k + 1, by go_num, by omega, ?_⟩
          have h := HG1.out
          rw [if_pos (by omega), List.append_assoc] at h
          rw [if_neg (by omega)]
          exact h
        case measure => simp [intOf]
      · obtain rfl : k = K + 1 := by omega
        clear hlt he
        obtain ⟨wo, rfl⟩ : ∃ wo : World, wo = wr := ⟨_, rfl⟩
        have HG0 : Hid (Gr base v w (m + (K + 1)) (zs ++ (unP b K ++ [b + min (K : Int) 5, 0])) u0 wo) := by
          have h := HG.out
          rw [if_neg (by omega)] at h
          exact Lib.hid h
        clear HG
        go_wp2_with fail
        go_loopw [0, 10] (fun vr i wr => NmRel2 base v w m zs b n K vr i wr) (fun _ i _ => (intOf i + 1).toNat)
        case atStart => exact ⟨0, by go_num, by omega, by rw [dgP, List.append_nil]; exact HG0.out⟩
        case round =>
          obtain ⟨t, rfl, ht, hgr⟩ := hrel
          have HG := Lib.hid hgr
          have hsz := hgr.2.1.size
          clear hgr
          by_cases hlt : t < K
          · obtain ⟨j, hj⟩ : ∃ j : Nat, j = K - 1 - t := ⟨_, rfl⟩
            rw [show (K : Int) - 1 - (t : Int) = (j : Int) by omega]
            have hj16 : j < 16 := by omega
            have HJ := Lib.hid hj
            clear hj
            go_wp2_with (at_builtin; refine wpList_append_own_at _ rfl _ _ 32 rfl base 35 i0 (.agg #[.int .i64 0, .int .i64 0]) 2 16 Try.underlying32 hi hz0 hz1 hz2 rfl (by decide) _ _ _ rfl (HG.out.1.alloc _) ⟨wr.heap.size, 0, none⟩ 1 1 [.int .i64 (b + 6), .int .i64 (bits .and .i64 (((n : Int) + 1) / 2 ^ j) 1)] rfl rfl (news2 (by go_simp; done) (by go_simp; done)) (one2 rfl rfl) (by unfold maxLen; omega) (by omega) (by simp only [World.size_alloc]; omega) ?_; intro v' w1 hown1 hgrow1 _ hat1; have HG1 := Lib.hid (HG.out.app hown1 hgrow1 hat1); clear hown1 hgrow1 hat1)
            go_roundw
            case rel =>
              have hi1 : Value.int .i64 ((j : Int) - 1) = .int .i64 ((K : Int) - 1 - ((t + 1 : Nat) : Int)) := by rw [show (K : Int) - 1 - ((t + 1 : Nat) : Int) = (j : Int) - 1 by have := HJ.out; omega]
              have h := HG1.out
              rw [shr_and _ _ hn, HJ.out, List.append_assoc] at h
              (repeat apply Exists.intro); exact ⟨⟨t + 1, hi1, by omega, h⟩, rfl⟩
            case measure => simp [intOf]
          · obtain rfl : t = K := by omega
            have HK2 := Lib.hid (show Gr base v w (m + numN n) (zs ++ numL n b) u0 wr by
              have h := HG.out
              rw [numN, numL, ← HK.out, show m + (2 * t + 1) = m + (t + 1) + t by omega]
              simp only [List.append_assoc] at h ⊢
              exact h)
            have hd0 : decide ((0 : Int) ≤ (t : Int) - 1 - (t : Int)) = false := by simp; omega
            go_wp2_with fail
            go_ret
            exact ⟨_, rfl, HK2.out⟩

def SnRel1 (w : World) (b : Int) (n K : Nat) (vr i : Value) (wr : World) : Prop :=
  ∃ k : Nat, i = .int .i64 (k : Int) ∧ k ≤ K ∧ wr.ownsRow w.heap.size 35 2 vr k ((unP b k).map (Value.int .i64)) ∧ Below w.heap.size w wr
def SnRel2 (w : World) (b : Int) (n K : Nat) (vr i : Value) (wr : World) : Prop :=
  ∃ t : Nat, i = .int .i64 ((K : Int) - 1 - (t : Int)) ∧ t ≤ K ∧ wr.ownsRow w.heap.size 35 2 vr (K + 1 + t) ((unP b K ++ [b + min (K : Int) 5, 0] ++ dgP b (n + 1) K t).map (Value.int .i64)) ∧ Below w.heap.size w wr
/-- a list of decisions in new memory -/
def BinsMade (m : Nat) (zs : List Int) (w : World) (e : Ending) (w' : World) : Prop := ∃ v, e = .returned v ∧ w'.ownsRow w.heap.size 35 2 v m (zs.map (Value.int .i64)) ∧ Below w.heap.size w w'
theorem own_lit2n (W : World) (e : TypeId) (g base : Nat) (hg : g = W.heap.size) (hb : base ≤ g) : (W.alloc (.cells #[] e)).ownsRow base e 2 (.slice (some ⟨g, 0, none⟩) 0 0) 0 [] := by
  subst hg; exact World.ownsRow_lit (base := base) (e := e) (size := 2) W #[] 0 hb (by decide) rfl

set_option maxRecDepth 100000 in
set_option maxHeartbeats 1000000 in
theorem S_l10Number (n : Nat) (b : Int) (w : World) (hn : n ≤ 65534) (hb : 0 ≤ b ∧ b ≤ 33) :
    Calls Try.prog 58 #[.int .i64 (n : Int), .int .i64 b] w (BinsMade (numN n) (numL n b) w) := by
  obtain ⟨i0, hi, hz0, hz1, hz2⟩ := info_parts infoBin
  have hK := lgN_le (n := n) (by omega)
  obtain ⟨K, hKd⟩ : ∃ K, K = lgN n := ⟨_, rfl⟩
  rw [← hKd] at hK
  have HK := Lib.hid hKd
  clear hKd
  go_enter Try.func58, Try.ntmps58
  go_wp2_with fail
  go_loopw [5, 6] (fun vr i wr => SnRel1 w b n K vr i wr) (fun _ i _ => K - (intOf i).toNat)
  case atStart => exact ⟨0, rfl, by omega, own_lit2n w 35 _ _ rfl (Nat.le_refl _), (by repeat' (first | (with_reducible exact Below.refl _ _) | (with_reducible refine Below.adds_ ?_ ?_ _ _) | (with_reducible refine Below.alloc ?_ ?_ _) | (with_reducible refine Below.drew ?_) | (with_reducible refine Below.setCell ?_ ?_ _) | (with_reducible assumption) | go_size | (simp only [size_addsW, World.size_alloc, World.size_drew, World.size_setCell]; omega)))⟩
  case round =>
    obtain ⟨k, rfl, hk, hown, hbel⟩ := hrel
    have HO := Lib.hid hown
    have HB := Lib.hid hbel
    have hsz := hbel.size
    clear hown hbel
    obtain ⟨P, hP⟩ : ∃ P : Nat, P = 2 ^ (k + 1) := ⟨_, rfl⟩
    have hP2 : P ≤ 131072 := by rw [hP]; exact (Nat.pow_le_pow_right (by decide) (show k + 1 ≤ 17 by omega))
    have e2 : wrap64 (2 * 2 ^ k) = (P : Int) := by
      have h1 : (2 : Int) * 2 ^ k = (P : Int) := by rw [hP, Nat.pow_succ, Nat.mul_comm]; simp
      rw [h1]; exact IntWalk.wrap64_in _ (by omega)
    have hiff : P ≤ n + 1 ↔ k < K := by rw [hP, HK.out]; exact lgN_iff
    by_cases hlt : k < K
    · have hP3 : (P : Int) ≤ (n : Int) + 1 := by have := hiff.2 hlt; omega
      clear hP hiff
      go_wp2_with (at_builtin; refine wpList_append_own _ rfl _ _ 32 rfl w.heap.size 35 i0 (.agg #[.int .i64 0, .int .i64 0]) 2 16 Try.underlying32 hi hz0 hz1 hz2 rfl (by decide) _ _ _ rfl (HO.out.alloc _) ⟨wr.heap.size, 0, none⟩ 1 1 [.int .i64 (b + min (k : Int) 5), .int .i64 (1)] rfl rfl (news2 (by go_simp; done) (by go_simp; done)) (one2 rfl rfl) (by unfold maxLen; omega) (by omega) (by simp only [World.size_alloc]; omega) ?_; intro v' w1 hown1 hgrow1 _; have HO1 := Lib.hid hown1; have HB1 := Lib.hid (Below.grown (Below.alloc HB.out hsz _) hgrow1 (by simp; omega) (fun q e => (HO.out.lt q e).1)); clear hown1 hgrow1)
      go_roundw
      case rel =>
        exact ⟨k + 1, by go_num, by omega, by rw [unP, List.map_append]; exact HO1.out, HB1.out⟩
      case measure => simp [intOf]; omega
    · have hP3 : ¬ (P : Int) ≤ (n : Int) + 1 := by intro h; exact hlt (hiff.1 (by omega))
      have hP4 : (n : Int) + 1 < (P : Int) := by omega
      obtain rfl : k = K := by omega
      clear hP hiff hP3
      go_wp2_with (at_builtin; refine wpList_append_own _ rfl _ _ 32 rfl w.heap.size 35 i0 (.agg #[.int .i64 0, .int .i64 0]) 2 16 Try.underlying32 hi hz0 hz1 hz2 rfl (by decide) _ _ _ rfl (HO.out.alloc _) ⟨wr.heap.size, 0, none⟩ 1 1 [.int .i64 (b + min (k : Int) 5), .int .i64 (0)] rfl rfl (news2 (by go_simp; done) (by go_simp; done)) (one2 rfl rfl) (by unfold maxLen; omega) (by omega) (by simp only [World.size_alloc]; omega) ?_; intro v' w1 hown1 hgrow1 _; have HO1 := Lib.hid hown1; have HB1 := Lib.hid (Below.grown (Below.alloc HB.out hsz _) hgrow1 (by simp; omega) (fun q e => (HO.out.lt q e).1)); clear hown1 hgrow1)
      clear e2 hP4 hP2
      obtain ⟨wo, rfl⟩ : ∃ wo : World, wo = w1 := ⟨_, rfl⟩
      obtain ⟨v0, rfl⟩ : ∃ v0 : Value, v0 = v' := ⟨_, rfl⟩
      have HO0 := HO1
      have HB0 := HB1
      clear HO HB HO1 HB1
      go_loopw [5, 7] (fun vr i wr => SnRel2 w b n k vr i wr) (fun _ i _ => (intOf i + 1).toNat)
      case atStart => exact ⟨0, by go_num, by omega, by rw [dgP, List.append_nil, List.map_append]; exact HO0.out, HB0.out⟩
      case round =>
        obtain ⟨t, rfl, ht, hown, hbel⟩ := hrel
        have HO := Lib.hid hown
        have HB := Lib.hid hbel
        have hsz := hbel.size
        clear hown hbel
        by_cases hlt : t < k
        · obtain ⟨j, hj⟩ : ∃ j : Nat, j = k - 1 - t := ⟨_, rfl⟩
          rw [show (k : Int) - 1 - (t : Int) = (j : Int) by omega]
          have hj16 : j < 16 := by omega
          have HJ := Lib.hid hj
          clear hj
          go_wp2_with (at_builtin; refine wpList_append_own _ rfl _ _ 32 rfl w.heap.size 35 i0 (.agg #[.int .i64 0, .int .i64 0]) 2 16 Try.underlying32 hi hz0 hz1 hz2 rfl (by decide) _ _ _ rfl (HO.out.alloc _) ⟨wr.heap.size, 0, none⟩ 1 1 [.int .i64 (b + 6), .int .i64 ((((n : Int) + 1) / 2 ^ j).tmod 2)] rfl rfl (news2 (by go_simp; done) (by go_simp; done)) (one2 rfl rfl) (by unfold maxLen; omega) (by omega) (by simp only [World.size_alloc]; omega) ?_; intro v' w1 hown1 hgrow1 _; have HO1 := Lib.hid hown1; have HB1 := Lib.hid (Below.grown (Below.alloc HB.out hsz _) hgrow1 (by simp; omega) (fun q e => (HO.out.lt q e).1)); clear hown1 hgrow1)
          go_roundw
          case rel =>
            have hi1 : Value.int .i64 ((j : Int) - 1) = .int .i64 ((k : Int) - 1 - ((t + 1 : Nat) : Int)) := by rw [show (k : Int) - 1 - ((t + 1 : Nat) : Int) = (j : Int) - 1 by have := HJ.out; omega]
            have h := HO1.out
            have e : (((n : Int) + 1) / 2 ^ j).tmod 2 = (((n + 1) / 2 ^ (k - 1 - t) % 2 : Nat) : Int) := by
              rw [← HJ.out, show ((n : Int) + 1) / 2 ^ j = (((n + 1) / 2 ^ j : Nat) : Int) by simp]
              rw [Int.tmod_eq_emod_of_nonneg (Int.natCast_nonneg _)]; simp
            rw [e] at h
            have h' : w1.ownsRow w.heap.size 35 2 v' (k + 1 + (t + 1)) ((unP b k ++ [b + min (k : Int) 5, 0] ++ dgP b (n + 1) k (t + 1)).map (Value.int .i64)) := by
              rw [dgP, ← List.append_assoc, List.map_append]
              exact h
            first | exact ⟨t + 1, hi1, by omega, h', HB1.out⟩ | ((repeat apply Exists.intro); exact ⟨⟨t + 1, hi1, by omega, h', HB1.out⟩, rfl⟩)
          case measure => simp [intOf]
        · obtain rfl : t = k := by omega
          have HF : Hid (wr.ownsRow w.heap.size 35 2 u5 (numN n) ((numL n b).map (Value.int .i64))) := by
            have h := HO.out
            rw [numN, numL, ← HK.out, show 2 * t + 1 = t + 1 + t by omega]
            exact Lib.hid h
          have hd0 : decide ((0 : Int) ≤ (t : Int) - 1 - (t : Int)) = false := by simp; omega
          go_wp2_with fail
          go_ret
          exact ⟨_, rfl, HF.out, HB.out⟩

end Go.Proofs.Ytggkelehjdepkaa
