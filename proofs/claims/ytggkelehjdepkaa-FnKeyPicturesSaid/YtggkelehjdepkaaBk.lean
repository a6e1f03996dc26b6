/- The decisions of a block of levels; the reference's l10Block. -/
import Derived.Test.YtggkelehjdepkaaRuns
import Derived.Test.YtggkelehjdepkaaNumI
import Derived.Test.YtggkelehjdepkaaMacE
namespace Go.Proofs.Ytggkelehjdepkaa
open Go.RowKit
set_option linter.unusedVariables false
set_option linter.unusedSimpArgs false

attribute [local go_sem] size_addsW cell?_addsW frozen?_addsW setCell_addsW drew_addsW adds_addsW setCell_twice alloc_adds0 size_adds0 adds_adds0 sel2 sel3 sel4 sel5 sel6 sel7 sel8 sel9 lt_more lt_more2 lt_more3 lt_more4 adds_drew adds_drewN drewN_addsW ltA_1_1 ltA_1_2 ltA_1_3 ltA_1_4 ltA_1_5 ltA_1_6 ltA_2_1 ltA_2_2 ltA_2_3 ltA_2_4 ltA_2_5 ltA_2_6 ltA_3_1 ltA_3_2 ltA_3_3 ltA_3_4 ltA_3_5 ltA_3_6 ltA_4_1 ltA_4_2 ltA_4_3 ltA_4_4 ltA_4_5 ltA_4_6 ltA_5_1 ltA_5_2 ltA_5_3 ltA_5_4 ltA_5_5 ltA_5_6 ltA_6_1 ltA_6_2 ltA_6_3 ltA_6_4 ltA_6_5 ltA_6_6 ltA_7_1 ltA_7_2 ltA_7_3 ltA_7_4 ltA_7_5 ltA_7_6 ltA_8_1 ltA_8_2 ltA_8_3 ltA_8_4 ltA_8_5 ltA_8_6 ltA_9_1 ltA_9_2 ltA_9_3 ltA_9_4 ltA_9_5 ltA_9_6 ltA_10_1 ltA_10_2 ltA_10_3 ltA_10_4 ltA_10_5 ltA_10_6 ltA_11_1 ltA_11_2 ltA_11_3 ltA_11_4 ltA_11_5 ltA_11_6 ltA_12_1 ltA_12_2 ltA_12_3 ltA_12_4 ltA_12_5 ltA_12_6

def bkOne (p : Nat × Int) : List Int := numL p.1 23 ++ numL (sidx p.2 - 1).toNat 30
def bkN (p : Nat × Int) : Nat := numN p.1 + numN (sidx p.2 - 1).toNat
def bkU (l : List (Nat × Int)) : Nat → List Int
  | 0 => numL l.length 16
  | k + 1 => bkU l k ++ bkOne (l.getD k (0, 0))
def bkM (l : List (Nat × Int)) : Nat → Nat
  | 0 => numN l.length
  | k + 1 => bkM l k + bkN (l.getD k (0, 0))
/-- the decisions of a block -/
def blL (zs : List Int) : List Int := bkU (runsL zs) (runsL zs).length
def blM (zs : List Int) : Nat := bkM (runsL zs) (runsL zs).length
theorem numN_le {n : Nat} (h : n ≤ 65535) : numN n ≤ 33 := by have := lgN_le h; unfold numN; omega
theorem numN_pos (n : Nat) : 1 ≤ numN n := by unfold numN; omega
theorem bkU_len (l : List (Nat × Int)) : ∀ k, (bkU l k).length = bkM l k * 2
  | 0 => by rw [bkU, bkM, numL_len]
  | k + 1 => by rw [bkU, bkM, List.length_append, bkU_len l k, bkOne, List.length_append, numL_len, numL_len, bkN]; omega
/-- what the runs of a valid block are -/
def RunOk (l : List (Nat × Int)) : Prop := l.length ≤ 16 ∧ ∀ i, i < l.length → (l.getD i (0, 0)).1 ≤ 15 ∧ 0 ≤ sidx (l.getD i (0, 0)).2 - 1 ∧ sidx (l.getD i (0, 0)).2 - 1 ≤ 8159 ∧ -4080 ≤ (l.getD i (0, 0)).2 ∧ (l.getD i (0, 0)).2 ≤ 4080
theorem bkM_le {l : List (Nat × Int)} (h : RunOk l) : ∀ k, k ≤ l.length → bkM l k ≤ 33 + 66 * k
  | 0, _ => by rw [bkM]; exact numN_le (by have := h.1; omega)
  | k + 1, hk => by
    have h1 := bkM_le h k (by omega)
    have h2 := h.2 k (by omega)
    have h3 := numN_le (n := (l.getD k (0, 0)).1) (by omega)
    have h4 := numN_le (n := (sidx (l.getD k (0, 0)).2 - 1).toNat) (by omega)
    rw [bkM, bkN]; omega
theorem abs_at {zs : List Int} (h : absB 4080 zs = true) (i : Nat) : -4080 ≤ zs.getD i 0 ∧ zs.getD i 0 ≤ 4080 := by
  rw [List.getD_eq_getElem?_getD]
  by_cases hi : i < zs.length
  · rw [List.getElem?_eq_getElem hi, Option.getD_some]
    have := List.all_eq_true.1 h _ (List.getElem_mem hi)
    simp [M.inB] at this
    omega
  · rw [List.getElem?_eq_none (by omega)]; simp
theorem runsL_ok {zs : List Int} (h : absB 4080 zs = true) : RunOk (runsL zs) := by
  refine ⟨rnU_len _ 16, fun i hi => ?_⟩
  have hm : (runsL zs).getD i (0, 0) ∈ runsL zs := by
    rw [List.getD_eq_getElem?_getD, List.getElem?_eq_getElem hi]; exact List.getElem_mem hi
  obtain ⟨h1, h2, j, h3, h4⟩ := rnU_all _ 16 _ hm
  have h5 := abs_at h (scanL.getD j 0).toNat
  rw [show zs.getD (scanL.getD j 0).toNat 0 = lvS zs j from rfl, ← h4] at h5
  have := sidx_pos h5 h2
  exact ⟨by omega, by omega, by omega, h5⟩
theorem blM_le {zs : List Int} (h : absB 4080 zs = true) : blM zs ≤ 1089 := by
  have h1 := bkM_le (runsL_ok h) _ (Nat.le_refl _)
  have h2 := (runsL_ok h).1
  unfold blM; omega
theorem bkM_pos (l : List (Nat × Int)) : ∀ k, 1 ≤ bkM l k
  | 0 => by rw [bkM]; exact numN_pos _
  | k + 1 => by have := bkM_pos l k; rw [bkM]; omega

/-- 'append(s, x...)' of a list of decisions -/
theorem wpList_app_bins {ops : Array Oper} {rest : List Oper} {o : Oper} {a : Act} {Q : Exit → Act → World → Prop} {w : World} (hgd : o.guard = none) (s x : Operand)
    (ho : o.op = .call { callee := .builtin .append, args := #[s, x], argTypes := #[32, 32] })
    (base : Nat) (v : Value) (n : Nat) (zs : List Int) (hs : a.eval s = v) (hown : w.ownsRow base 35 2 v n (zs.map (Value.int .i64)))
    (base2 : Nat) (v2 : Value) (n2 : Nat) (zs2 : List Int) (hx : a.eval x = v2) (hown2 : w.ownsRow base2 35 2 v2 n2 (zs2.map (Value.int .i64))) (hne : 1 ≤ n2) (hbd : n + n2 ≤ 1000000000) (hbase : base ≤ w.heap.size)
    (h : ∀ v' w', w'.ownsRow base 35 2 v' (n + n2) ((zs ++ zs2).map (Value.int .i64)) → w.grownBy w' v.ownBlock → (v'.ownBlock = v.ownBlock ∨ v'.ownBlock = some w.heap.size) → wpList Try.prog ops Q rest (a.put o.dst v') w') :
    wpList Try.prog ops Q (o :: rest) a w := by
  obtain ⟨i0, hi, hz0, hz1, hz2⟩ := info_parts infoBin
  obtain ⟨A2, c2, rfl, -, hA2⟩ := own_shape hown2
  rcases hA2 with ⟨-, h0⟩ | ⟨g, rfl, -, -⟩
  · omega
  · refine wpList_append_own_at w hgd s x 32 ho base 35 i0 (.agg #[.int .i64 0, .int .i64 0]) 2 16 Try.underlying32 hi hz0 hz1 hz2 rfl (by decide) v n (zs.map (Value.int .i64)) hs hown ⟨g, 0, none⟩ n2 c2 (zs2.map (Value.int .i64)) hx hown2.1 (hown2.cells rfl) (fun u hu => by obtain ⟨z, -, rfl⟩ := List.mem_map.1 hu; rfl) (by unfold maxLen; omega) (by omega) hbase ?_
    intro v' w' h1 h2 _ h4
    exact h v' w' (by rw [List.map_append]; exact h1) h2 h4

/-- where a list of decisions that grows stands -/
def BkRel (w : World) (B1 : Nat) (rs : List (Nat × Int)) (A : Option Addr) (v : Value) (m : Nat) (zs : List Int) (wr : World) : Prop :=
  wr.ownsRow B1 35 2 v m (zs.map (Value.int .i64)) ∧ RowAt .i64 wr A (flR rs) ∧ Below w.heap.size w wr ∧ B1 ≤ wr.heap.size
theorem RowAt.keepB {k : IntKind} {w w' : World} {A : Option Addr} {zs : List Int} {B : Nat} (h : RowAt k w A zs) (hb : Below B w w') (hA : ∀ d, A = some d → d.block < B) : RowAt k w' A zs := fun hz => by
  obtain ⟨b, off, rfl, hlt, hc⟩ := h hz
  have hbB := hA _ rfl
  exact ⟨b, off, rfl, by have := hb.size; simp only at hbB; omega, fun i hi => (hb.cell (p := ⟨b, off + i, none⟩) hbB).trans (hc i hi)⟩
theorem BkRel.app {w wr wn w1 : World} {B1 m m2 : Nat} {rs : List (Nat × Int)} {A : Option Addr} {v v' : Value} {zs zs2 : List Int} (h : BkRel w B1 rs A v m zs wr) (hw : w.heap.size ≤ B1) (hA : ∀ d, A = some d → d.block < B1) (hb : Below wr.heap.size wr wn)
    (hown : w1.ownsRow B1 35 2 v' (m + m2) ((zs ++ zs2).map (Value.int .i64))) (hg : wn.grownBy w1 v.ownBlock) : BkRel w B1 rs A v' (m + m2) (zs ++ zs2) w1 := by
  obtain ⟨h1, h2, h3, h4⟩ := h
  have hsz := hb.size
  have hb1 : Below B1 wr w1 := (hb.mono h4).grown hg (by omega) (fun q e => (h1.lt q e).1)
  exact ⟨hown, h2.keepB hb1 hA, h3.trans (hb1.mono hw), by have := hb1.size; omega⟩

set_option maxRecDepth 100000 in
set_option maxHeartbeats 1000000 in
theorem S_l10Block (zs : List Int) (w : World) (hz : zs.length = 16) (hv : absB 4080 zs = true) : Calls Try.prog 60 #[.agg (rowI zs)] w (BinsMade (blM zs) (blL zs) w) := by
  have HZ := Lib.hid hz
  have hok := runsL_ok hv
  have HOK := Lib.hid hok
  have hn16 := hok.1
  obtain ⟨rs, hrs⟩ : ∃ rs, rs = runsL zs := ⟨_, rfl⟩
  have HRS := Lib.hid hrs
  rw [← hrs] at hok HOK hn16
  rw [blM, blL, ← hrs]
  clear hz hv hok hrs
  obtain ⟨N, hN⟩ : ∃ N, N = rs.length := ⟨_, rfl⟩
  rw [← hN] at hn16 ⊢
  have HN := Lib.hid hN
  clear hN
  go_enter Try.func60, Try.ntmps60
  go_wp2_with (first | (focus ((with_reducible refine wpList_wanted ?_ (fun K hK => ?_)); rotate_left; (refine wp_load_sub 26 (.tmp 1) ?ho w.heap.size 0 16 ?hx 26 zs (0, 0) _ ?hg Try.underlying26 rfl infoA16 ?hs (hK _ _ ?_)); (case ho => with_reducible rfl); (case hx => rfl); (case hg => exact (heap_alloc_new _ _)); (case hs => rw [HZ.out]; exact Nat.le_refl _); rw [show sub zs 0 16 = zs by rw [← HZ.out]; exact sub_all zs]; rotate_left; rfl)) | (go_at_call 79; refine (S_RunsOf zs _ HZ.out).mono ?_; rw [← HRS.out]; rintro e w2 ⟨vr, rfl, hvr, hb2⟩; obtain ⟨A, cA, hvA, hflr, hlc, hcm, hrow, hA0⟩ := RowAt.of_ownS hvr; subst hvA; have HVR := Lib.hid hvr; have HROW := Lib.hid hrow; have HB2 := Lib.hid hb2; rw [← HN.out] at hlc ⊢; clear hvr hrow hb2 hflr) | (go_at_call 58; refine (S_l10Number N _ _ (by omega) (by omega)).mono ?_; rintro e w3 ⟨vo, rfl, ho, hb3⟩; have HO3 := Lib.hid ho; have HB3 := Lib.hid hb3; clear ho hb3))
  have hAB : ∀ d, A = some d → d.block < w2.heap.size := fun d hd => (HVR.out.lt d.block (by rw [hd]; rfl)).2
  have HAB := Lib.hid hAB
  have hw2 : w.heap.size ≤ w2.heap.size := by have := HB2.out.size; simp only [World.size_alloc] at this; omega
  have HBw : Hid (Below w.heap.size w w2) := Lib.hid ((Below.alloc (Below.refl _ _) (Nat.le_refl _) _).trans (HB2.out.mono (by simp)))
  have HR3 : Hid (BkRel w w2.heap.size rs A vo (numN N) (numL N 16) w3) := Lib.hid ⟨HO3.out, HROW.out.keep HB3.out, HBw.out.trans (HB3.out.mono hw2), HB3.out.size⟩
  generalize w2.heap.size = B1 at HR3 HAB hw2 ⊢
  clear HVR HROW HB2 HB3 HO3 HBw hAB hcm
  go_loopw [4, 5] (fun v i wr => ∃ k : Nat, i = .int .i64 (k : Int) ∧ k ≤ N ∧ BkRel w B1 rs A v (bkM rs k) (bkU rs k) wr) (fun _ i _ => N - (intOf i).toNat)
  case atStart => exact ⟨0, rfl, by omega, by rw [bkM, bkU, ← HN.out]; exact HR3.out⟩
  case round =>
    clear HR3
    clear w3
    obtain ⟨k, rfl, hk, hr⟩ := hrel
    have HR := Lib.hid hr
    clear hr
    by_cases hlt : k < N
    · have hd1 : decide ((k : Int) < (N : Int)) = true := by simp; omega
      have hok := HOK.out.2 k (by rw [← HN.out]; exact hlt)
      obtain ⟨hf1, hf2⟩ := flR_at rs k (by rw [← HN.out]; exact hlt)
      have hM := bkM_le HOK.out k (by rw [← HN.out]; omega)
      have HU := Lib.hid (show bkU rs (k + 1) = bkU rs k ++ bkOne (rs.getD k (0, 0)) from rfl)
      have HM := Lib.hid (show bkM rs (k + 1) = bkM rs k + bkN (rs.getD k (0, 0)) from rfl)
      rw [bkOne] at HU
      rw [bkN] at HM
      generalize rs.getD k (0, 0) = p at hok hf1 hf2 HU HM
      obtain ⟨z, l⟩ := p
      simp only at hok hf1 hf2 HU HM
      obtain ⟨b, off, x, y, rfl, hbl, hx, hy, hc, hc2⟩ := HR.out.2.1.two (n := N) (i := k) (by rw [flR_len, HN.out]) hlt
      rw [hx, hf1] at hc
      rw [hy, hf2] at hc2
      have HF := Lib.hid (And.intro hf1 hf2)
      clear hx hy hf1 hf2
      obtain ⟨J, hJ⟩ := Int.eq_ofNat_of_zero_le hok.2.1
      rw [hJ, Int.toNat_natCast] at HU HM
      have HSI := Lib.hid (show ∀ W, Calls Try.prog 59 #[.int .i64 l] W fun e w' => e = .returned (.int .i64 ((J : Int) + 1)) ∧ W = w' from fun W => by rw [show (J : Int) + 1 = sidx l by omega]; exact S_SignedIndex l W (by omega))
      have hJb : J ≤ 8159 := by omega
      have hzb : z ≤ 15 := by omega
      have h33a := numN_le (n := z) (by omega)
      have h33b := numN_le (n := J) (by omega)
      have HP1 := numN_pos z
      have HP2 := numN_pos J
      clear hok hJ
      generalize bkM rs k = m at hM HR HM
      generalize bkU rs k = us at HR HU
      obtain ⟨m1, hm1⟩ : ∃ m1, m1 = numN z := ⟨_, rfl⟩
      obtain ⟨m2, hm2⟩ : ∃ m2, m2 = numN J := ⟨_, rfl⟩
      obtain ⟨l1, hl1⟩ : ∃ l1, l1 = numL z 23 := ⟨_, rfl⟩
      obtain ⟨l2, hl2⟩ : ∃ l2, l2 = numL J 30 := ⟨_, rfl⟩
      have HC1 := Lib.hid (show ∀ W, Calls Try.prog 58 #[.int .i64 (z : Int), .int .i64 23] W (BinsMade m1 l1 W) from fun W => by rw [hm1, hl1]; exact S_l10Number z 23 W (by omega) (by omega))
      have HC2 := Lib.hid (show ∀ W, Calls Try.prog 58 #[.int .i64 (J : Int), .int .i64 30] W (BinsMade m2 l2 W) from fun W => by rw [hm2, hl2]; exact S_l10Number J 30 W (by omega) (by omega))
      rw [← hm1] at h33a HP1 HM
      rw [← hm2] at h33b HP2 HM
      rw [← hl1, ← hl2] at HU
      clear hm1 hm2 hl1 hl2
      have hB1 := HR.out.2.2.2
      go_upto_region 7 with (first | (go_at_call 58; refine (HC1.out _).mono ?_; rintro e wn ⟨vn, rfl, hn, hbn⟩; have HYtggkelehjdepkaa := Lib.hid hn; have HBN := Lib.hid hbn; clear hn hbn) | (at_builtin; refine wpList_app_bins rfl _ _ rfl B1 _ _ _ rfl (ownsRow_below HR.out.1 HBN.out) _ _ _ _ rfl HYtggkelehjdepkaa.out HP1 (by omega) (by have := HBN.out.size; omega) ?_; intro v' w1 hown1 hgrow1 _; have HR1 := Lib.hid (HR.out.app hw2 HAB.out HBN.out hown1 hgrow1); clear hown1 hgrow1))
      clear HYtggkelehjdepkaa HBN HC1 hbl hc hc2 HR
      have hB1 := HR1.out.2.2.2
      obtain ⟨b', off', x', y', e', hbl, hx, hy, hc, hc2⟩ := HR1.out.2.1.two (n := N) (i := k) (by rw [flR_len, HN.out]) hlt
      injection e' with e'
      injection e' with e1 e2
      subst e1 e2
      rw [hy, (HF.out).2] at hc2
      clear hx hy hc
      go_wp2_with (first | (go_at_call 59; refine (HSI.out _).mono ?_; rintro e w' ⟨rfl, rfl⟩) | (go_at_call 58; refine (HC2.out _).mono ?_; rintro e wn ⟨vn, rfl, hn, hbn⟩; have HYtggkelehjdepkaa := Lib.hid hn; have HBN := Lib.hid hbn; clear hn hbn) | (at_builtin; refine wpList_app_bins rfl _ _ rfl B1 _ _ _ rfl (ownsRow_below HR1.out.1 HBN.out) _ _ _ _ rfl HYtggkelehjdepkaa.out HP2 (by omega) (by have := HBN.out.size; omega) ?_; intro v' w1 hown1 hgrow1 _; have HR2 := Lib.hid (HR1.out.app hw2 HAB.out HBN.out hown1 hgrow1); clear hown1 hgrow1))
      go_roundw
      case rel => exact ⟨k + 1, by go_num, by omega, by rw [HU.out, HM.out, ← List.append_assoc, ← Nat.add_assoc]; exact HR2.out⟩
      case measure => simp [intOf]; omega
    · obtain rfl : k = N := by omega
      go_wp2_with fail
      go_returns
      exact ⟨_, rfl, own_base HR.out.1 hw2, HR.out.2.2.1⟩

end Go.Proofs.Ytggkelehjdepkaa
