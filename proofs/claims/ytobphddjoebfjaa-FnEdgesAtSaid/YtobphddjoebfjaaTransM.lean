/- Transpose, the program's. -/
import Derived.Test.YtobphddjoebfjaaTrans
namespace Go.Proofs.Ytobphddjoebfjaa
open Go.RowKit
set_option linter.unusedVariables false
set_option linter.unusedSimpArgs false

attribute [local go_sem] size_addsW cell?_addsW frozen?_addsW setCell_addsW drew_addsW adds_addsW setCell_twice alloc_adds0 size_adds0 adds_adds0 sel2 sel3 sel4 sel5 sel6 sel7 sel8 sel9 lt_more lt_more2 lt_more3 lt_more4 adds_drew adds_drewN drewN_addsW ltA_1_1 ltA_1_2 ltA_1_3 ltA_1_4 ltA_1_5 ltA_1_6 ltA_2_1 ltA_2_2 ltA_2_3 ltA_2_4 ltA_2_5 ltA_2_6 ltA_3_1 ltA_3_2 ltA_3_3 ltA_3_4 ltA_3_5 ltA_3_6 ltA_4_1 ltA_4_2 ltA_4_3 ltA_4_4 ltA_4_5 ltA_4_6 ltA_5_1 ltA_5_2 ltA_5_3 ltA_5_4 ltA_5_5 ltA_5_6 ltA_6_1 ltA_6_2 ltA_6_3 ltA_6_4 ltA_6_5 ltA_6_6 ltA_7_1 ltA_7_2 ltA_7_3 ltA_7_4 ltA_7_5 ltA_7_6 ltA_8_1 ltA_8_2 ltA_8_3 ltA_8_4 ltA_8_5 ltA_8_6 ltA_9_1 ltA_9_2 ltA_9_3 ltA_9_4 ltA_9_5 ltA_9_6 ltA_10_1 ltA_10_2 ltA_10_3 ltA_10_4 ltA_10_5 ltA_10_6 ltA_11_1 ltA_11_2 ltA_11_3 ltA_11_4 ltA_11_5 ltA_11_6 ltA_12_1 ltA_12_2 ltA_12_3 ltA_12_4 ltA_12_5 ltA_12_6

/-- the samples that are in their place already -/
def TrOk (zs : List Int) (na nb y x : Nat) (L : List Int) : Prop :=
  L.length = nb * na ∧ ∀ x' y', x' < na → y' < nb → (y' < y ∨ (y' = y ∧ x' < x)) → L.getD (x' * nb + y') 0 = zs.getD (y' * na + x') 0
theorem idx_inj {nb x y x' y' : Nat} (hy : y < nb) (hy' : y' < nb) (h : x' * nb + y' = x * nb + y) : x' = x ∧ y' = y := by
  have h1 : (y' + x' * nb) / nb = x' := by rw [Nat.add_mul_div_right _ _ (by omega), Nat.div_eq_of_lt hy', Nat.zero_add]
  have h2 : (y + x * nb) / nb = x := by rw [Nat.add_mul_div_right _ _ (by omega), Nat.div_eq_of_lt hy, Nat.zero_add]
  rw [show y' + x' * nb = y + x * nb by omega, h2] at h1
  subst h1
  exact ⟨rfl, by omega⟩
theorem TrOk.step {zs L : List Int} {na nb y x : Nat} (h : TrOk zs na nb y x L) (hx : x < na) (hy : y < nb) : TrOk zs na nb y (x + 1) (L.set (x * nb + y) (zs.getD (y * na + x) 0)) := by
  refine ⟨by rw [List.length_set]; exact h.1, fun x' y' hx' hy' ho => ?_⟩
  by_cases e : x' * nb + y' = x * nb + y
  · obtain ⟨rfl, rfl⟩ := idx_inj hy hy' e
    have hl : x' * nb + y' < L.length := by
      rw [h.1]
      have := Nat.mul_le_mul_right nb (show x' + 1 ≤ na by omega)
      rw [Nat.add_mul, Nat.one_mul, Nat.mul_comm na nb] at this
      omega
    rw [List.getD_eq_getElem?_getD, List.getElem?_set_self hl, Option.getD_some]
  · rw [List.getD_eq_getElem?_getD, List.getElem?_set_ne (Ne.symm e), ← List.getD_eq_getElem?_getD]
    refine h.2 x' y' hx' hy' ?_
    rcases ho with ho | ⟨h1, h2⟩
    · exact .inl ho
    · refine .inr ⟨h1, ?_⟩
      have : x' ≠ x := fun e2 => e (by rw [e2, h1])
      omega
theorem TrOk.next {zs L : List Int} {na nb y : Nat} (h : TrOk zs na nb y na L) : TrOk zs na nb (y + 1) 0 L :=
  ⟨h.1, fun x' y' hx' hy' ho => h.2 x' y' hx' hy' (by omega)⟩

structure TrS (g gN g3 na nb N : Nat) (sl : Value) (w : World) (L : List Int) (W : World) : Prop where
  p : Blk W g #[.int .i64 na, .int .i64 nb, sl] 27
  r : Blk W (g + 1) #[.int .i64 0, .int .i64 0, .slice none 0 0] 27
  o : Blk W g3 #[.int .i64 nb, .int .i64 na, .slice (some ⟨gN, 0, none⟩) N N] 27
  n : Blk W gN (lstA L) 3
  below : Below w.heap.size w W
theorem TrS.adds {g gN g3 na nb N : Nat} {sl : Value} {w W : World} {L : List Int} (h : TrS g gN g3 na nb N sl w L W) (os : Array Obj) (k : Nat) : TrS g gN g3 na nb N sl w L (addsW W os k) :=
  ⟨h.p.adds os k, h.r.adds os k, h.o.adds os k, h.n.adds os k, Below.adds_ h.below h.below.size os k⟩
theorem TrS.set {g gN g3 na nb N : Nat} {sl : Value} {w W : World} {L : List Int} (h : TrS g gN g3 na nb N sl w L W) (h1 : g + 1 < gN) (h2 : gN < g3) (h3 : w.heap.size ≤ g) (i : Nat) (z : Int) : TrS g gN g3 na nb N sl w (L.set i z) (W.setCell ⟨gN, i, none⟩ (.int .i64 z)) :=
  ⟨h.p.other (by simp only; omega) _, h.r.other (by simp only; omega) _, h.o.other (by simp only; omega) _, by have := h.n.set i (.int .i64 z); rwa [lstA_set] at this, h.below.setCell (by simp only; omega) _⟩

set_option maxRecDepth 100000 in
set_option maxHeartbeats 4000000 in
theorem I_Transpose (na nb : Nat) (A : Option Addr) (c : Nat) (zs : List Int) (w : World) (hr : RowAt .i64 w A zs) (hc : zs.length ≤ c) (hcm : c ≤ maxLen) (hv : picB na nb zs = true) :
    Calls Try.prog 32 #[.agg #[.int .i64 na, .int .i64 nb, .slice A zs.length c]] w fun e w' => ∃ (g : Nat) (L : List Int), e = .returned (.agg #[.int .i64 nb, .int .i64 na, .slice (some ⟨g, 0, none⟩) L.length L.length]) ∧
      TrOk zs na nb nb 0 L ∧ RowAt .i64 w' (some ⟨g, 0, none⟩) L ∧ Below w.heap.size w w' := by
  have HR := Lib.hid hr
  have HV := Lib.hid hv
  obtain ⟨h1, h2, h3, -⟩ := picB_iff.1 hv
  have g1 := sideB_bd h1
  have g2 := sideB_bd h2
  have HN := Lib.hid (show zs.length = na * nb by rw [← Int.natCast_mul] at h3; omega)
  have H1 := Lib.hid h1
  have H2 := Lib.hid h2
  have HC := Lib.hid hc
  have HCM := Lib.hid hcm
  have ha : 8 ≤ na ∧ na ≤ 32 := by omega
  have hb : 8 ≤ nb ∧ nb ≤ 32 := by omega
  have hl : zs.length ≤ 1024 := by rw [HN.out]; exact Nat.mul_le_mul ha.2 hb.2
  clear hr hv h1 h2 h3 g1 g2 hc hcm
  obtain ⟨N, hNd⟩ : ∃ N, N = nb * na := ⟨_, rfl⟩
  have hN1 : N ≤ 1024 := by rw [hNd]; exact Nat.mul_le_mul hb.2 ha.2
  have HND := Lib.hid hNd
  clear hNd
  go_enter Try.func32, Try.ntmps32
  go_upto_region 3 with (first | (go_at_call 52; refine (I_PictureValid (na : Int) (nb : Int) _ _ zs _ (HR.out.keep (by repeat' (first | (with_reducible exact Below.refl _ _) | (with_reducible refine Below.adds_ ?_ ?_ _ _) | (with_reducible refine Below.alloc ?_ ?_ _) | (with_reducible refine Below.drew ?_) | (with_reducible refine Below.setCell ?_ ?_ _) | (with_reducible assumption) | go_size | (simp only [size_addsW, World.size_alloc, World.size_drew, World.size_setCell]; omega)))) (by omega)).mono ?_; rw [HV.out]; rintro e w' ⟨rfl, hb⟩; obtain ⟨o1, n1, rfl⟩ := below_adds hb; clear hb))
  go_wp2_with fail
  refine (I_NewPictureB nb na 0 _ H2.out H1.out (by decide)).mono ?_
  rintro e W1 ⟨gN, rfl, hB, hg, hbl⟩
  rw [← HND.out] at hB ⊢
  have hP : Blk W1 w.heap.size #[.int .i64 na, .int .i64 nb, .slice A zs.length c] 27 := (((Blk.new w _ _ _ rfl).alloc _).adds _ _).below hbl (by simp [size_addsW]; omega)
  have hQ : Blk W1 (w.heap.size + 1) #[.int .i64 0, .int .i64 0, .slice none 0 0] 27 := ((Blk.new _ _ _ _ (by simp)).adds _ _).below hbl (by simp [size_addsW]; omega)
  have hBW : Below w.heap.size w W1 := Below.trans (show Below w.heap.size w _ from (by repeat' (first | (with_reducible exact Below.refl _ _) | (with_reducible refine Below.adds_ ?_ ?_ _ _) | (with_reducible refine Below.alloc ?_ ?_ _) | (with_reducible refine Below.drew ?_) | (with_reducible refine Below.setCell ?_ ?_ _) | (with_reducible assumption) | go_size | (simp only [size_addsW, World.size_alloc, World.size_drew, World.size_setCell]; omega)))) (hbl.mono (by simp [size_addsW]; omega))
  simp only [size_addsW, World.size_alloc] at hg
  have hgl := hB.lt
  have T0 : TrS w.heap.size gN W1.heap.size na nb N (.slice A zs.length c) w (List.replicate N 0) (W1.alloc (.cells #[.int .i64 nb, .int .i64 na, .slice (some ⟨gN, 0, none⟩) N N] 27)) :=
    ⟨hP.alloc _, hQ.alloc _, Blk.new _ _ _ _ rfl, hB.alloc _, hBW.alloc hBW.size _⟩
  have k0 := hP.get (i := 0) rfl
  have k1 := hP.get (i := 1) rfl
  have lP := hP.lt
  have hgN1 : w.heap.size + 1 < gN := by omega
  clear hbl hQ hB
  go_upto_region 4 with fail
  refine all_add' ?_
  intro Z hZ
  have T0 := hZ ▸ T0
  clear hZ hP hBW k0 k1
  have hg3 : gN < W1.heap.size := hgl
  generalize W1.heap.size = g3 at T0 hg3 ⊢
  have hwg : w.heap.size ≤ w.heap.size := Nat.le_refl _
  clear hgl lP hg
  have k0 := T0.p.get (i := 0) rfl
  have k1 := T0.p.get (i := 1) rfl
  have lP := T0.p.lt
  have HT0 := Lib.hid T0
  clear T0
  go_wp2_with fail
  go_loopw [18] (fun v wr => ∃ (y : Nat) (L : List Int), v = .int .i64 (y : Int) ∧ y ≤ nb ∧ TrOk zs na nb y 0 L ∧ TrS w.heap.size gN g3 na nb N (.slice A zs.length c) w L wr) (fun v _ => nb - (intOf v).toNat)
  case atStart => exact ⟨0, _, rfl, Nat.zero_le _, ⟨by rw [List.length_replicate]; exact HND.out, fun x' y' _ _ h => by omega⟩, HT0.out⟩
  case round =>
    clear HT0 k0 k1 lP
    obtain ⟨y, L, rfl, hy, hok, hst⟩ := hrel
    have k0 := hst.p.get (i := 0) rfl
    have k1 := hst.p.get (i := 1) rfl
    have k2 := hst.p.get (i := 2) rfl
    have lP := hst.p.lt
    have HST := Lib.hid hst
    have HOK := Lib.hid hok
    clear hst hok
    by_cases hlt : y < nb
    · have hd1 : (y : Int) < (nb : Int) := by omega
      obtain ⟨K, hK⟩ : ∃ K, K = y * na := ⟨_, rfl⟩
      have hKN : K + na ≤ zs.length := by
        have := Nat.mul_le_mul_right na (show y + 1 ≤ nb by omega)
        rw [Nat.add_mul, Nat.one_mul, Nat.mul_comm nb na, ← HN.out, ← hK] at this
        exact this
      have hrow := HR.out.keep HST.out.below
      obtain ⟨bl, off, z0, rfl, hbl, -, -⟩ := hrow.at_ (show K < zs.length by omega)
      have HRow := Lib.hid (show ∀ W', Calls Try.prog 67 #[.agg #[.int .i64 na, .int .i64 nb, .slice (some ⟨bl, off, none⟩) zs.length c], .int .i64 y] W' fun e w' => e = .returned (.slice (some ⟨bl, off + K, none⟩) na (c - K)) ∧ Below W'.heap.size W' w' from fun W' => by
        rw [hK]; exact I_row na nb y bl off c zs W' hlt ha hb.2 HN.out HC.out HCM.out)
      have HK := Lib.hid hK
      clear hrow hK
      obtain ⟨c2, hc2⟩ : ∃ c2, c2 = c - K := ⟨_, rfl⟩
      rw [← hc2] at HRow
      clear hc2
      go_wp2_with fail
      refine (HRow.out _).mono ?_
      rintro e w2 ⟨rfl, hbx⟩
      obtain ⟨o4, n4, rfl⟩ := below_adds hbx
      clear hbx
      have HS2 := Lib.hid (HST.out.adds o4 n4)
      go_upto_region 8 with fail
      clear k0 k1 k2 lP
      go_wp2_with fail
      go_loopw [25] (fun v wr2 => ∃ (x : Nat) (L : List Int), v = .int .i64 (x : Int) ∧ x ≤ na ∧ TrOk zs na nb y x L ∧ TrS w.heap.size gN g3 na nb N (.slice (some ⟨bl, off, none⟩) zs.length c) w L wr2) (fun v _ => na - (intOf v).toNat)
      case atStart => exact ⟨0, L, rfl, Nat.zero_le _, HOK.out, HS2.out⟩
      case round =>
        clear HS2 HOK HST
        clear L
        obtain ⟨x, L, rfl, hx, hok, hst⟩ := hrel
        have HST := Lib.hid hst
        have HOK := Lib.hid hok
        clear hst hok
        by_cases hltx : x < na
        · have hd2 : (x : Int) < (na : Int) := by omega
          obtain ⟨M, hM⟩ : ∃ M, M = x * nb := ⟨_, rfl⟩
          have hMw : (x : Int) * (nb : Int) = (M : Int) := by rw [hM, Int.natCast_mul]
          have hMN : M + nb ≤ N := by
            have := Nat.mul_le_mul_right nb (show x + 1 ≤ na by omega)
            rw [Nat.add_mul, Nat.one_mul, Nat.mul_comm na nb, ← HND.out, ← hM] at this
            exact this
          obtain ⟨I, hI⟩ : ∃ I, I = M + y := ⟨_, rfl⟩
          have hIw : (M : Int) + (y : Int) = (I : Int) := by omega
          have hIN : I < N := by omega
          have hIN2 : (I : Int) < (N : Int) := by omega
          have hLl : I < L.length := by rw [HOK.out.1, ← HND.out]; exact hIN
          have hrow := HR.out.keep HST.out.below
          obtain ⟨bl2, off2, z, e2, -, hz, hcl⟩ := hrow.at_ (show K + x < zs.length by omega)
          injection e2 with e2
          injection e2 with e3 e4
          subst e3 e4
          have hcl' := hcl
          rw [← Nat.add_assoc] at hcl'
          have n0 := HST.out.n.get (lstA_get hLl)
          have nf := HST.out.n.hot I
          have o0 := HST.out.o.get (i := 0) rfl
          have o2 := HST.out.o.get (i := 2) rfl
          have lo := HST.out.o.lt
          have ln := HST.out.n.lt
          have HNX := Lib.hid (show TrOk zs na nb y (x + 1) (L.set I z) by
            have := HOK.out.step hltx hlt
            rw [← HK.out, ← hM, ← hI, ← hz] at this
            exact this)
          clear hrow hcl hz hM hI hLl
          go_wp2_with fail
          go_roundw
          case rel => exact ⟨x + 1, _, by go_num, by omega, HNX.out, HST.out.set hgN1 hg3 hwg I z⟩
          case measure => simp [intOf]; omega
        · obtain rfl : x = na := by omega
          go_wp2_with fail
          go_roundw
          case rel => exact ⟨y + 1, L, by go_num, by omega, HOK.out.next, HST.out⟩
          case measure => simp [intOf]; omega
    · obtain rfl : y = nb := by omega
      have hst := HST.out
      have o0 := hst.o.get (i := 0) rfl
      have o1 := hst.o.get (i := 1) rfl
      have o2 := hst.o.get (i := 2) rfl
      have r0 := hst.r.get (i := 0) rfl
      have r1 := hst.r.get (i := 1) rfl
      have r2 := hst.r.get (i := 2) rfl
      have f0 := hst.r.hot 0
      have f1 := hst.r.hot 1
      have f2 := hst.r.hot 2
      have lo := hst.o.lt
      have lr := hst.r.lt
      go_wp2_with fail
      have hLl : L.length = N := by rw [HOK.out.1, HND.out]
      refine bodyPost_ret (v := .agg #[.int .i64 y, .int .i64 na, .slice (some ⟨gN, 0, none⟩) N N]) (results_cell_row Try.results32 _ _ (w.heap.size + 1) 27 _ (0, 0) _ rfl (((hst.r.set 0 _).set 1 _).set 2 _) Try.underlying27 rfl (by kernel_rfl)) rfl ?_
      refine ⟨gN, L, by rw [hLl], HOK.out, ?_, ((hst.below.setCell (by simp only; omega) _).setCell (by simp only; omega) _).setCell (by simp only; omega) _⟩
      exact row_blk (((hst.n.other (by simp only; omega) _).other (by simp only; omega) _).other (by simp only; omega) _)

end Go.Proofs.Ytobphddjoebfjaa
