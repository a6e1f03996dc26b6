/- PROVED: the law laws.FnBlockiness returns true for every input (blockiness is 0 for a flat picture, at most the sum over all neighbouring samples, and the same for a transposed picture; it answers as the reference does); no conditions. -/
import Derived.Test.YtobphddjoebfjaaRows
import Derived.Test.YtobphddjoebfjaaTransM
import Derived.Test.YtobphddjoebfjaaDrawJ
import Derived.Test.YtobphddjoebfjaaSamp
import Derived.Deep.RegionHeld3
import Derived.BigQuiet
import Derived.WalkKit
import Derived.ProofKit
import Derived.OpenShut
import Derived.ShutString
import Derived.ChangeOld
import Derived.Below
import Derived.Lib.SmallJoins
namespace Go.Proofs.Ytobphddjoebfjaa.fnBlockiness
open Go.ChangeShapes Go.WideShapes Go.ChangeAt Go.RowKit
open Go.ChangeMaps (open_string shut_string)
set_option linter.unusedVariables false
set_option linter.unusedSimpArgs false

theorem own : ownKnob Try.prog.godebug = none := by kernel_rfl
theorem laidOut : laidOutB Try.prog = true := by kernel_rfl

attribute [local go_sem] size_addsW cell?_addsW frozen?_addsW setCell_addsW drew_addsW adds_addsW setCell_twice alloc_adds0 size_adds0 adds_adds0 sel2 sel3 sel4 sel5 sel6 sel7 sel8 sel9 lt_more lt_more2 lt_more3 lt_more4 adds_drew adds_drewN drewN_addsW ltA_1_1 ltA_1_2 ltA_1_3 ltA_1_4 ltA_1_5 ltA_1_6 ltA_2_1 ltA_2_2 ltA_2_3 ltA_2_4 ltA_2_5 ltA_2_6 ltA_3_1 ltA_3_2 ltA_3_3 ltA_3_4 ltA_3_5 ltA_3_6 ltA_4_1 ltA_4_2 ltA_4_3 ltA_4_4 ltA_4_5 ltA_4_6 ltA_5_1 ltA_5_2 ltA_5_3 ltA_5_4 ltA_5_5 ltA_5_6 ltA_6_1 ltA_6_2 ltA_6_3 ltA_6_4 ltA_6_5 ltA_6_6 ltA_7_1 ltA_7_2 ltA_7_3 ltA_7_4 ltA_7_5 ltA_7_6 ltA_8_1 ltA_8_2 ltA_8_3 ltA_8_4 ltA_8_5 ltA_8_6 ltA_9_1 ltA_9_2 ltA_9_3 ltA_9_4 ltA_9_5 ltA_9_6 ltA_10_1 ltA_10_2 ltA_10_3 ltA_10_4 ltA_10_5 ltA_10_6 ltA_11_1 ltA_11_2 ltA_11_3 ltA_11_4 ltA_11_5 ltA_11_6 ltA_12_1 ltA_12_2 ltA_12_3 ltA_12_4 ltA_12_5 ltA_12_6

theorem blV_spec {na nb : Nat} {zs : List Int} (h : picB na nb zs = true) : blV na nb zs = specBl zs na nb := by
  obtain ⟨h1, h2, -, -⟩ := picB_iff.1 h
  have g1 := sideB_bd h1
  have g2 := sideB_bd h2
  rw [spec_edges (by omega) (by omega)]; simp [blV, h]
theorem tr_pic {zs L : List Int} {na nb : Nat} (h : picB na nb zs = true) (hL : TrOk zs na nb nb 0 L) : picB nb na L = true := by
  obtain ⟨h1, h2, h3, h4⟩ := picB_iff.1 h
  refine picB_iff.2 ⟨h2, h1, by rw [hL.1, Int.natCast_mul], ?_⟩
  refine List.all_eq_true.2 (fun z hz => ?_)
  obtain ⟨i, hi, rfl⟩ := List.getElem_of_mem hz
  rw [hL.1] at hi
  have g2 := sideB_bd h2
  have hy : i % nb < nb := Nat.mod_lt _ (by omega)
  have hx : i / nb < na := Nat.div_lt_of_lt_mul hi
  have e := hL.2 (i / nb) (i % nb) hx hy (.inl hy)
  rw [Nat.mul_comm (i / nb) nb, Nat.div_add_mod] at e
  have hb := byte_at h4 (i % nb * na + i / nb)
  rw [← e, List.getD_eq_getElem?_getD, List.getElem?_eq_getElem (by rw [hL.1]; exact hi), Option.getD_some] at hb
  simp [M.inB]; omega
theorem tr_bl {zs L : List Int} {na nb : Nat} (h : picB na nb zs = true) (hL : TrOk zs na nb nb 0 L) : blV nb na L = blV na nb zs := by
  rw [blV_spec h, blV_spec (tr_pic h hL), specBl, specBl, ← sumN_swap (fun x y => vEdge zs na y x + hEdge zs na y x)]
  refine sumN_congr _ (fun y hy => sumN_congr _ (fun x hx => ?_))
  have g : ∀ x' y', x' < na → y' < nb → L.getD (x' * nb + y') 0 = zs.getD (y' * na + x') 0 := fun x' y' h1 h2 => hL.2 x' y' h1 h2 (.inl h2)
  have e1 : vEdge L nb x y = hEdge zs na y x := by
    unfold vEdge hEdge every4
    by_cases hc : 0 < x ∧ x % 4 = 0
    · rw [if_pos hc, if_pos hc]
      simp only [difZ]
      have e := g y (x - 1) hy (by omega)
      rw [show y * nb + (x - 1) = y * nb + x - 1 by omega] at e
      rw [g y x hy hx, e]
      have : (x - 1) * na + y = x * na + y - na := by
        obtain ⟨k, rfl⟩ : ∃ k, x = k + 1 := ⟨x - 1, by omega⟩
        rw [Nat.add_mul, Nat.one_mul, Nat.add_sub_cancel]; omega
      rw [this]
    · rw [if_neg hc, if_neg hc]
  have e2 : hEdge L nb x y = vEdge zs na y x := by
    unfold vEdge hEdge every4
    by_cases hc : 0 < y ∧ y % 4 = 0
    · rw [if_pos hc, if_pos hc]
      simp only [difZ]
      have e := g (y - 1) x (by omega) hx
      have : (y - 1) * nb + x = y * nb + x - nb := by
        obtain ⟨k, rfl⟩ : ∃ k, y = k + 1 := ⟨y - 1, by omega⟩
        rw [Nat.add_mul, Nat.one_mul, Nat.add_sub_cancel]; omega
      rw [this] at e
      rw [g y x hy hx, e, show x * na + (y - 1) = x * na + y - 1 by omega]
    · rw [if_neg hc, if_neg hc]
  rw [e1, e2]; omega
theorem flat_bl {na nb : Nat} (h1 : sideB na = true) (h2 : sideB nb = true) : blV na nb (List.replicate (na * nb) 9) = 0 := by
  have hp : picB na nb (List.replicate (na * nb) 9) = true := by
    refine picB_iff.2 ⟨h1, h2, by rw [List.length_replicate, Int.natCast_mul], ?_⟩
    refine List.all_eq_true.2 (fun z hz => ?_)
    rw [List.eq_of_mem_replicate hz]; decide
  rw [blV_spec hp, specBl, ← sumN_zero nb]
  refine sumN_congr _ (fun y hy => ?_)
  rw [← sumN_zero na]
  refine sumN_congr _ (fun x hx => ?_)
  have hi : y * na + x < na * nb := by
    have := Nat.mul_le_mul_right na (show y + 1 ≤ nb by omega)
    rw [Nat.add_mul, Nat.one_mul, Nat.mul_comm nb na] at this
    omega
  have hz : ∀ i, i < na * nb → (List.replicate (na * nb) (9 : Int)).getD i 0 = 9 := fun i hi => by
    rw [List.getD_eq_getElem?_getD, List.getElem?_replicate, if_pos hi]; rfl
  have hd : ∀ s, difZ (List.replicate (na * nb) 9) (y * na + x, s) = 0 := fun s => by
    rw [difZ, hz _ hi, hz _ (by simp only; omega)]; rfl
  unfold vEdge hEdge every4
  simp only
  rw [hd, hd]
  simp
/-- the sum over all neighbouring samples -/
def aCell (zs : List Int) (a b : Int) (y x : Nat) : Int :=
  max (sampV a b zs x y - sampV a b zs ((x : Int) - 1) y) (-(sampV a b zs x y - sampV a b zs ((x : Int) - 1) y)) + max (sampV a b zs x y - sampV a b zs x ((y : Int) - 1)) (-(sampV a b zs x y - sampV a b zs x ((y : Int) - 1)))
def aRow (zs : List Int) (a b : Int) (n : Nat) (y : Nat) : Int := sumN (aCell zs a b y) n
theorem samp_bd {a b : Int} {ps : List Int} (h : picB a b ps = true) (x y : Int) : 0 ≤ sampV a b ps x y ∧ sampV a b ps x y ≤ 255 := by
  rw [sampV, if_pos h]; exact pix_bd (picB_iff.1 h).2.2.2 x y
theorem aCell_bd {a b : Int} {zs : List Int} (h : picB a b zs = true) (y x : Nat) : 0 ≤ aCell zs a b y x ∧ aCell zs a b y x ≤ 510 := by
  have h1 := samp_bd h x y
  have h2 := samp_bd h ((x : Int) - 1) y
  have h3 := samp_bd h x ((y : Int) - 1)
  unfold aCell
  omega
theorem aRow_bd {a b : Int} {zs : List Int} (h : picB a b zs = true) {n : Nat} (hn : n ≤ 32) (y : Nat) : 0 ≤ aRow zs a b n y ∧ aRow zs a b n y ≤ 16320 := by
  have := sumN_bd (f := aCell zs a b y) (m := 510) n (fun k _ => aCell_bd h y k)
  unfold aRow
  omega
theorem bl_all {na nb : Nat} {zs : List Int} (h : picB na nb zs = true) : blV na nb zs ≤ sumN (aRow zs na nb na) nb := by
  rw [blV_spec h, specBl]
  refine sumN_le _ (fun y hy => sumN_le _ (fun x hx => ?_))
  have hs : ∀ x' y' : Nat, x' < na → y' < nb → sampV na nb zs x' y' = zs.getD (y' * na + x') 0 := fun x' y' h1 h2 => by
    rw [sampV, if_pos h, pix, show min (max (y' : Int) 0) ((nb : Int) - 1) = (y' : Int) by omega, show min (max (x' : Int) 0) ((na : Int) - 1) = (x' : Int) by omega]
    rw [← Int.natCast_mul, ← Int.natCast_add, Int.toNat_natCast]
  have e1 : vEdge zs na x y ≤ max (sampV na nb zs x y - sampV na nb zs ((x : Int) - 1) y) (-(sampV na nb zs x y - sampV na nb zs ((x : Int) - 1) y)) := by
    unfold vEdge every4
    by_cases hc : 0 < x ∧ x % 4 = 0
    · rw [if_pos hc]
      simp only [difZ]
      have e := hs (x - 1) y (by omega) hy
      rw [show ((x - 1 : Nat) : Int) = (x : Int) - 1 by omega, show y * na + (x - 1) = y * na + x - 1 by omega] at e
      rw [hs x y hx hy, e]
      omega
    · rw [if_neg hc]; omega
  have e2 : hEdge zs na x y ≤ max (sampV na nb zs x y - sampV na nb zs x ((y : Int) - 1)) (-(sampV na nb zs x y - sampV na nb zs x ((y : Int) - 1))) := by
    unfold hEdge every4
    by_cases hc : 0 < y ∧ y % 4 = 0
    · rw [if_pos hc]
      simp only [difZ]
      have e := hs x (y - 1) hx (by omega)
      have e5 : (y - 1) * na + x = y * na + x - na := by
        obtain ⟨k, rfl⟩ : ∃ k, y = k + 1 := ⟨y - 1, by omega⟩
        rw [Nat.add_mul, Nat.one_mul, Nat.add_sub_cancel]; omega
      rw [show ((y - 1 : Nat) : Int) = (y : Int) - 1 by omega, e5] at e
      rw [hs x y hx hy, e]
      omega
    · rw [if_neg hc]; omega
  unfold aCell
  omega

set_option maxHeartbeats 4000000 in
set_option maxRecDepth 100000 in
theorem walk (a_cs : Option Addr) (len_cs cap_cs : Nat) (cs : List Int) (w : World) (w_cs : IsRow .u8 w a_cs len_cs cap_cs cs) :
    Calls Try.prog 7 #[.slice a_cs len_cs cap_cs] w fun e w' => e = .returned (.bool true) ∧ Below w.heap.size w w' := by
  have hlm := (RowAt.of_row w_cs).2.2.1
  unfold maxLen at hlm
  have HI := Lib.hid w_cs
  clear w_cs
  by_cases hbig : 1048576 < len_cs
  · go_enter Try.func7, Try.ntmps7
    go_wp2
    go_returns
    exact ⟨rfl, (by repeat' (first | (with_reducible exact Below.refl _ _) | (with_reducible refine Below.adds_ ?_ ?_ _ _) | (with_reducible refine Below.alloc ?_ ?_ _) | (with_reducible refine Below.drew ?_) | (with_reducible refine Below.setCell ?_ ?_ _) | (with_reducible assumption) | go_size | (simp only [size_addsW, World.size_alloc, World.size_drew, World.size_setCell]; omega)))⟩
  · go_enter Try.func7, Try.ntmps7
    go_wp2_with fail
    refine (S_DrawBlockiness _ _ _ cs _ (IsRow.keep HI.out (by repeat' (first | (with_reducible exact Below.refl _ _) | (with_reducible refine Below.adds_ ?_ ?_ _ _) | (with_reducible refine Below.alloc ?_ ?_ _) | (with_reducible refine Below.drew ?_) | (with_reducible refine Below.setCell ?_ ?_ _) | (with_reducible assumption) | go_size | (simp only [size_addsW, World.size_alloc, World.size_drew, World.size_setCell]; omega))))).mono ?_
    rintro e w1 ⟨a, b, A, c, zs, rfl, ha0, ha1, hb0, hb1, hz, hzc, hcm, hrow, hb⟩
    have B1 := Lib.hid hb
    have R := Lib.hid hrow
    have HZC := Lib.hid hzc
    have HCM := Lib.hid hcm
    have z1 := hb.size
    clear hb hrow hzc hcm
    cases hv : picB a b zs
    · have hn : blV a b zs = -1 := by simp [blV, hv]
      go_wp2_with (first | (go_at_call 18; refine (I_Blockiness a b _ _ zs _ (R.out.keep (by repeat' (first | (with_reducible exact Below.refl _ _) | (with_reducible refine Below.adds_ ?_ ?_ _ _) | (with_reducible refine Below.alloc ?_ ?_ _) | (with_reducible refine Below.drew ?_) | (with_reducible refine Below.setCell ?_ ?_ _) | (with_reducible assumption) | go_size | (simp only [size_addsW, World.size_alloc, World.size_drew, World.size_setCell]; omega)))) (by omega)).mono ?_; rw [hn]; rintro e w2 ⟨rfl, hb⟩; obtain ⟨o1, m1, rfl⟩ := below_adds hb; clear hb) | (go_at_call 16; refine (S_Blockiness a b _ _ zs _ (R.out.keep (by repeat' (first | (with_reducible exact Below.refl _ _) | (with_reducible refine Below.adds_ ?_ ?_ _ _) | (with_reducible refine Below.alloc ?_ ?_ _) | (with_reducible refine Below.drew ?_) | (with_reducible refine Below.setCell ?_ ?_ _) | (with_reducible assumption) | go_size | (simp only [size_addsW, World.size_alloc, World.size_drew, World.size_setCell]; omega)))) (by omega)).mono ?_; rw [hn]; rintro e w2 ⟨rfl, hb⟩; obtain ⟨o2, m2, rfl⟩ := below_adds hb; clear hb) | (go_at_call 26; refine (L_alive _).mono ?_; rintro e w' ⟨rfl, hb⟩; obtain ⟨o1, n1, rfl⟩ := below_adds hb; clear hb))
      go_returns
      exact ⟨rfl, B1.out.trans (Below.mono (show Below w1.heap.size w1 _ from (by repeat' (first | (with_reducible exact Below.refl _ _) | (with_reducible refine Below.adds_ ?_ ?_ _ _) | (with_reducible refine Below.alloc ?_ ?_ _) | (with_reducible refine Below.drew ?_) | (with_reducible refine Below.setCell ?_ ?_ _) | (with_reducible assumption) | go_size | (simp only [size_addsW, World.size_alloc, World.size_drew, World.size_setCell]; omega)))) z1)⟩
    · obtain ⟨h1, h2, -, -⟩ := picB_iff.1 hv
      have g1 := sideB_bd h1
      have g2 := sideB_bd h2
      obtain ⟨na, rfl⟩ := Int.eq_ofNat_of_zero_le (show 0 ≤ a by omega)
      obtain ⟨nb, rfl⟩ := Int.eq_ofNat_of_zero_le (show 0 ≤ b by omega)
      have HV := Lib.hid hv
      have H1 := Lib.hid h1
      have H2 := Lib.hid h2
      have hna : na ≤ 32 := by omega
      have hnb : nb ≤ 32 := by omega
      clear hv h1 h2 g1 g2 ha0 ha1 hb0 hb1
      obtain ⟨n, hn⟩ : ∃ n, n = blV na nb zs := ⟨_, rfl⟩
      have hn0 : 0 ≤ n := by
        rw [hn, blV, if_pos HV.out]; exact (totZ_bd (picB_iff.1 HV.out).2.2.2 _).1
      have HNn := Lib.hid hn
      clear hn
      have hneg : ¬ n < 0 := by omega
      go_upto_region 9 with (first | (go_at_call 18; refine (I_Blockiness na nb _ _ zs _ (R.out.keep (by repeat' (first | (with_reducible exact Below.refl _ _) | (with_reducible refine Below.adds_ ?_ ?_ _ _) | (with_reducible refine Below.alloc ?_ ?_ _) | (with_reducible refine Below.drew ?_) | (with_reducible refine Below.setCell ?_ ?_ _) | (with_reducible assumption) | go_size | (simp only [size_addsW, World.size_alloc, World.size_drew, World.size_setCell]; omega)))) (by omega)).mono ?_; rw [← HNn.out]; rintro e w2 ⟨rfl, hb⟩; obtain ⟨o1, m1, rfl⟩ := below_adds hb; clear hb) | (go_at_call 16; refine (S_Blockiness na nb _ _ zs _ (R.out.keep (by repeat' (first | (with_reducible exact Below.refl _ _) | (with_reducible refine Below.adds_ ?_ ?_ _ _) | (with_reducible refine Below.alloc ?_ ?_ _) | (with_reducible refine Below.drew ?_) | (with_reducible refine Below.setCell ?_ ?_ _) | (with_reducible assumption) | go_size | (simp only [size_addsW, World.size_alloc, World.size_drew, World.size_setCell]; omega)))) (by omega)).mono ?_; rw [← HNn.out]; rintro e w2 ⟨rfl, hb⟩; obtain ⟨o2, m2, rfl⟩ := below_adds hb; clear hb))
      refine all_add' ?_
      intro Y hY
      have hYw : Below w1.heap.size w1 Y := by rw [hY]; exact (by repeat' (first | (with_reducible exact Below.refl _ _) | (with_reducible refine Below.adds_ ?_ ?_ _ _) | (with_reducible refine Below.alloc ?_ ?_ _) | (with_reducible refine Below.drew ?_) | (with_reducible refine Below.setCell ?_ ?_ _) | (with_reducible assumption) | go_size | (simp only [size_addsW, World.size_alloc, World.size_drew, World.size_setCell]; omega)))
      have b3 : Blk Y w1.heap.size #[.int .i64 na, .int .i64 nb, .slice A zs.length c] 27 := by
        rw [hY]
        repeat (first | exact Blk.new w1 _ _ _ rfl | refine Blk.adds ?_ _ _)
      clear hY
      have RY := Lib.hid (R.out.keep hYw)
      have HYw := Lib.hid (B1.out.trans (hYw.mono z1))
      have l3 := b3.lt
      clear hYw
      generalize w1.heap.size = g3 at b3 l3 ⊢
      have k0 := b3.get (i := 0) rfl
      have k1 := b3.get (i := 1) rfl
      have k2 := b3.get (i := 2) rfl
      go_wp2_with fail
      go_loopw [5, 6] (fun t y wr => ∃ ny : Nat, y = .int .i64 (ny : Int) ∧ ny ≤ nb ∧ t = .int .i64 (sumN (aRow zs na nb na) ny) ∧ Below Y.heap.size Y wr) (fun _ y _ => nb - (intOf y).toNat)
      case atStart => exact ⟨0, rfl, Nat.zero_le _, rfl, Below.refl _ _⟩
      case round =>
        obtain ⟨ny, rfl, hny, rfl, hbr⟩ := hrel
        have e3 := b3.below hbr l3
        have HBR := Lib.hid hbr
        clear hbr k0 k1 k2
        have k0 := e3.get (i := 0) rfl
        have k1 := e3.get (i := 1) rfl
        have k2 := e3.get (i := 2) rfl
        have le3 := e3.lt
        by_cases hlt : ny < nb
        · have hd1 : (ny : Int) < (nb : Int) := by omega
          go_wp2_with fail
          go_loopw [5, 7] (fun t x wr2 => ∃ nx : Nat, x = .int .i64 (nx : Int) ∧ nx ≤ na ∧ t = .int .i64 (sumN (aRow zs na nb na) ny + sumN (aCell zs na nb ny) nx) ∧ Below Y.heap.size Y wr2) (fun _ x _ => na - (intOf x).toNat)
          case atStart => exact ⟨0, rfl, Nat.zero_le _, by simp [sumN], HBR.out⟩
          case round =>
            clear HBR e3 k0 k1 k2 le3
            obtain ⟨nx, rfl, hnx, rfl, hbr⟩ := hrel
            have e3 := b3.below hbr l3
            have HBR := Lib.hid hbr
            clear hbr
            have k0 := e3.get (i := 0) rfl
            have k1 := e3.get (i := 1) rfl
            have k2 := e3.get (i := 2) rfl
            have le3 := e3.lt
            by_cases hltx : nx < na
            · have hd2 : (nx : Int) < (na : Int) := by omega
              obtain ⟨T, hT⟩ : ∃ T, T = sumN (aRow zs na nb na) ny + sumN (aCell zs na nb ny) nx := ⟨_, rfl⟩
              have hTb : 0 ≤ T ∧ T ≤ 600000 := by
                have h1 := sumN_bd (f := aRow zs na nb na) (m := 16320) ny (fun k _ => aRow_bd HV.out hna k)
                have h2 := sumN_bd (f := aCell zs na nb ny) (m := 510) nx (fun k _ => aCell_bd HV.out ny k)
                omega
              obtain ⟨s1, hs1⟩ : ∃ s, s = sampV na nb zs nx ny := ⟨_, rfl⟩
              obtain ⟨s2, hs2⟩ : ∃ s, s = sampV na nb zs ((nx : Int) - 1) ny := ⟨_, rfl⟩
              obtain ⟨s3, hs3⟩ : ∃ s, s = sampV na nb zs nx ((ny : Int) - 1) := ⟨_, rfl⟩
              have q1 : 0 ≤ s1 ∧ s1 ≤ 255 := by rw [hs1]; exact samp_bd HV.out _ _
              have q2 : 0 ≤ s2 ∧ s2 ≤ 255 := by rw [hs2]; exact samp_bd HV.out _ _
              have q3 : 0 ≤ s3 ∧ s3 ≤ 255 := by rw [hs3]; exact samp_bd HV.out _ _
              have HE := Lib.hid (show sumN (aRow zs na nb na) ny + sumN (aCell zs na nb ny) (nx + 1) = T + max (s1 - s2) (-(s1 - s2)) + max (s1 - s3) (-(s1 - s3)) by
                rw [sumN, hT, aCell, ← hs1, ← hs2, ← hs3]; omega)
              have RR := Lib.hid (RY.out.keep HBR.out)
              have C1 := Lib.hid (show ∀ W, Below wr.heap.size wr W → Calls Try.prog 27 #[.agg #[.int .i64 na, .int .i64 nb, .slice A zs.length c], .int .i64 nx, .int .i64 ny] W fun e w' => e = .returned (.int .i64 s1) ∧ Below W.heap.size W w' from fun W hb => by
                rw [hs1]; exact I_SampleAt na nb _ _ A c zs W (RR.out.keep hb) (by omega))
              have C2 := Lib.hid (show ∀ W, Below wr.heap.size wr W → Calls Try.prog 27 #[.agg #[.int .i64 na, .int .i64 nb, .slice A zs.length c], .int .i64 ((nx : Int) - 1), .int .i64 ny] W fun e w' => e = .returned (.int .i64 s2) ∧ Below W.heap.size W w' from fun W hb => by
                rw [hs2]; exact I_SampleAt na nb _ _ A c zs W (RR.out.keep hb) (by omega))
              have C3 := Lib.hid (show ∀ W, Below wr.heap.size wr W → Calls Try.prog 27 #[.agg #[.int .i64 na, .int .i64 nb, .slice A zs.length c], .int .i64 nx, .int .i64 ((ny : Int) - 1)] W fun e w' => e = .returned (.int .i64 s3) ∧ Below W.heap.size W w' from fun W hb => by
                rw [hs3]; exact I_SampleAt na nb _ _ A c zs W (RR.out.keep hb) (by omega))
              rw [← hT]
              clear hT hs1 hs2 hs3
              have hw1 : IntKind.i64.wrap ((nx : Int) - 1) = (nx : Int) - 1 := IntWalk.i64_in _ (by omega)
              have hw2 : IntKind.i64.wrap ((ny : Int) - 1) = (ny : Int) - 1 := IntWalk.i64_in _ (by omega)
              have hw3 : IntKind.i64.wrap (s1 - s2) = s1 - s2 := IntWalk.i64_in _ (by omega)
              have hw4 : IntKind.i64.wrap (s1 - s3) = s1 - s3 := IntWalk.i64_in _ (by omega)
              have hw5 : IntKind.i64.wrap (T + max (s1 - s2) (-(s1 - s2))) = T + max (s1 - s2) (-(s1 - s2)) := IntWalk.i64_in _ (by omega)
              have hw6 : IntKind.i64.wrap (T + max (s1 - s2) (-(s1 - s2)) + max (s1 - s3) (-(s1 - s3))) = T + max (s1 - s2) (-(s1 - s2)) + max (s1 - s3) (-(s1 - s3)) := IntWalk.i64_in _ (by omega)
              go_upto_region 16 with fail
              refine wp_region_held_drew (S := (fun w' => w'.cell? ⟨g3, 0, none⟩ = some (.int .i64 na) ∧ w'.cell? ⟨g3, 1, none⟩ = some (.int .i64 nb) ∧ w'.cell? ⟨g3, 2, none⟩ = some (.slice A zs.length c))) (by kernel_rfl) ?_ (fun hHeld => ?_)
              · (first | (go_simp; done) | (go_keep; done))
              refine wpAnyH_take (i := 0) (oi := _) (v := ?_) rfl (by kernel_rfl) (by kernel_rfl) (by kernel_rfl) (fun _ _ _ h => h) (Or.inl ⟨by rfl, ?_⟩) (by assumption) ?_
              rotate_left
              · intro w hSw; (try dsimp only at hSw); go_simp; (try with_reducible rfl)
              try dsimp only [List.getElem_toArray, List.getElem_cons_succ, List.getElem_cons_zero]
              simp only [Act.put, List.setIfInBounds_toArray, List.set_cons_zero, List.set_cons_succ]
              refine wpAnyH_take (i := 1) (oi := _) (v := ?_) rfl (by kernel_rfl) (by kernel_rfl) (by kernel_rfl) (fun _ _ _ h => h) (Or.inl ⟨by rfl, ?_⟩) (by assumption) ?_
              rotate_left
              · intro w hSw; (try dsimp only at hSw); go_simp; (try with_reducible rfl)
              try dsimp only [List.getElem_toArray, List.getElem_cons_succ, List.getElem_cons_zero]
              simp only [Act.put, List.setIfInBounds_toArray, List.set_cons_zero, List.set_cons_succ]
              refine wpAnyH_take (i := 2) (oi := _) (v := ?_) rfl (by kernel_rfl) (by kernel_rfl) (by kernel_rfl) (fun _ _ _ h => h) (Or.inl ⟨by rfl, ?_⟩) (by assumption) ?_
              rotate_left
              · intro w hSw; (try dsimp only at hSw); go_simp; (try with_reducible rfl)
              try dsimp only [List.getElem_toArray, List.getElem_cons_succ, List.getElem_cons_zero]
              simp only [Act.put, List.setIfInBounds_toArray, List.set_cons_zero, List.set_cons_succ]
              refine wpAnyH_take (i := 3) (oi := _) (v := ?_) rfl (by kernel_rfl) (by kernel_rfl) (by kernel_rfl) (fun _ _ _ h => h) (Or.inl ⟨by rfl, ?_⟩) (by assumption) ?_
              rotate_left
              · intro w hSw; (try dsimp only at hSw); go_simp; (try with_reducible rfl)
              try dsimp only [List.getElem_toArray, List.getElem_cons_succ, List.getElem_cons_zero]
              simp only [Act.put, List.setIfInBounds_toArray, List.set_cons_zero, List.set_cons_succ]
              refine wpAnyH_take (i := 5) (oi := _) (v := ?_) rfl (by kernel_rfl) (by kernel_rfl) (by kernel_rfl) (fun _ _ _ h => h) (Or.inl ⟨by rfl, ?_⟩) (by assumption) ?_
              rotate_left
              · intro w hSw; (try dsimp only at hSw); go_simp; (try with_reducible rfl)
              try dsimp only [List.getElem_toArray, List.getElem_cons_succ, List.getElem_cons_zero]
              simp only [Act.put, List.setIfInBounds_toArray, List.set_cons_zero, List.set_cons_succ]
              refine wpAnyH_take (i := 6) (oi := _) (v := ?_) rfl (by kernel_rfl) (by kernel_rfl) (by kernel_rfl) (fun _ _ _ h => h) (Or.inl ⟨by rfl, ?_⟩) (by assumption) ?_
              rotate_left
              · intro w hSw; (try dsimp only at hSw); go_simp; (try with_reducible rfl)
              try dsimp only [List.getElem_toArray, List.getElem_cons_succ, List.getElem_cons_zero]
              simp only [Act.put, List.setIfInBounds_toArray, List.set_cons_zero, List.set_cons_succ]
              refine wpAnyH_take (i := 7) (oi := _) (v := ?_) rfl (by kernel_rfl) (by kernel_rfl) (by kernel_rfl) (fun _ _ _ h => h) (Or.inl ⟨by rfl, ?_⟩) (by assumption) ?_
              rotate_left
              · intro w hSw; (try dsimp only at hSw); go_simp; (try with_reducible rfl)
              try dsimp only [List.getElem_toArray, List.getElem_cons_succ, List.getElem_cons_zero]
              simp only [Act.put, List.setIfInBounds_toArray, List.set_cons_zero, List.set_cons_succ]
              refine wpAnyH_take (i := 8) (oi := _) (v := ?_) rfl (by kernel_rfl) (by kernel_rfl) (by kernel_rfl) (fun _ _ _ h => h) (Or.inl ⟨by rfl, ?_⟩) (by assumption) ?_
              rotate_left
              · intro w hSw; (try dsimp only at hSw); go_simp; (try with_reducible rfl)
              try dsimp only [List.getElem_toArray, List.getElem_cons_succ, List.getElem_cons_zero]
              simp only [Act.put, List.setIfInBounds_toArray, List.set_cons_zero, List.set_cons_succ]
              refine wpAnyH_take (i := 13) (oi := _) (v := ?_) rfl (by kernel_rfl) (by kernel_rfl) (by kernel_rfl) (fun _ _ _ h => h) (Or.inl ⟨by rfl, ?_⟩) (by assumption) ?_
              rotate_left
              · intro w hSw; (try dsimp only at hSw); go_simp; (try with_reducible rfl)
              try dsimp only [List.getElem_toArray, List.getElem_cons_succ, List.getElem_cons_zero]
              simp only [Act.put, List.setIfInBounds_toArray, List.set_cons_zero, List.set_cons_succ]
              refine wpAnyH_take (i := 14) (oi := _) (v := ?_) rfl (by kernel_rfl) (by kernel_rfl) (by kernel_rfl) (fun _ _ _ h => h) (Or.inl ⟨by rfl, ?_⟩) (by assumption) ?_
              rotate_left
              · intro w hSw; (try dsimp only at hSw); go_simp; (try with_reducible rfl)
              try dsimp only [List.getElem_toArray, List.getElem_cons_succ, List.getElem_cons_zero]
              simp only [Act.put, List.setIfInBounds_toArray, List.set_cons_zero, List.set_cons_succ]
              refine wpAnyH_take (i := 15) (oi := _) (v := ?_) rfl (by kernel_rfl) (by kernel_rfl) (by kernel_rfl) (fun _ _ _ h => h) (Or.inl ⟨by rfl, ?_⟩) (by assumption) ?_
              rotate_left
              · intro w hSw; (try dsimp only at hSw); go_simp; (try with_reducible rfl)
              try dsimp only [List.getElem_toArray, List.getElem_cons_succ, List.getElem_cons_zero]
              simp only [Act.put, List.setIfInBounds_toArray, List.set_cons_zero, List.set_cons_succ]
              refine wpAnyH_take (i := 17) (oi := _) (v := ?_) rfl (by kernel_rfl) (by kernel_rfl) (by kernel_rfl) (fun _ _ _ h => h) (Or.inl ⟨by rfl, ?_⟩) (by assumption) ?_
              rotate_left
              · intro w hSw; (try dsimp only at hSw); go_simp; (try with_reducible rfl)
              try dsimp only [List.getElem_toArray, List.getElem_cons_succ, List.getElem_cons_zero]
              simp only [Act.put, List.setIfInBounds_toArray, List.set_cons_zero, List.set_cons_succ]
              refine wpAnyH_take (i := 18) (oi := _) (v := ?_) rfl (by kernel_rfl) (by kernel_rfl) (by kernel_rfl) (fun _ _ _ h => h) (Or.inl ⟨by rfl, ?_⟩) (by assumption) ?_
              rotate_left
              · intro w hSw; (try dsimp only at hSw); go_simp; (try with_reducible rfl)
              try dsimp only [List.getElem_toArray, List.getElem_cons_succ, List.getElem_cons_zero]
              simp only [Act.put, List.setIfInBounds_toArray, List.set_cons_zero, List.set_cons_succ]
              refine wpAnyH_take (i := 19) (oi := _) (v := ?_) rfl (by kernel_rfl) (by kernel_rfl) (by kernel_rfl) (fun _ _ _ h => h) (Or.inl ⟨by rfl, ?_⟩) (by assumption) ?_
              rotate_left
              · intro w hSw; (try dsimp only at hSw); go_simp; (try with_reducible rfl)
              try dsimp only [List.getElem_toArray, List.getElem_cons_succ, List.getElem_cons_zero]
              simp only [Act.put, List.setIfInBounds_toArray, List.set_cons_zero, List.set_cons_succ]
              refine wpAnyH_take (i := 20) (oi := _) (v := ?_) rfl (by kernel_rfl) (by kernel_rfl) (by kernel_rfl) (fun _ _ _ h => h) (Or.inl ⟨by rfl, ?_⟩) (by assumption) ?_
              rotate_left
              · intro w hSw; (try dsimp only at hSw); go_simp; (try with_reducible rfl)
              try dsimp only [List.getElem_toArray, List.getElem_cons_succ, List.getElem_cons_zero]
              simp only [Act.put, List.setIfInBounds_toArray, List.set_cons_zero, List.set_cons_succ]
              refine wpAnyH_ready (rs := [4]) (by kernel_rfl) (by simp) ?_
              refine AllReadyH.cons (o := _) rfl (fun K hK => ?_) ?_
              · (try dsimp only [List.getElem_toArray, List.getElem_cons_succ, List.getElem_cons_zero]); go_simp
                (first | (go_at_call 27; (first | with_reducible refine (C1.out _ (by repeat' (first | (with_reducible exact Below.refl _ _) | (with_reducible refine Below.adds_ ?_ ?_ _ _) | (with_reducible refine Below.alloc ?_ ?_ _) | (with_reducible refine Below.drew ?_) | (with_reducible refine Below.setCell ?_ ?_ _) | (with_reducible assumption) | go_size | (simp only [size_addsW, World.size_alloc, World.size_drew, World.size_setCell]; omega)))).mono ?_ | with_reducible refine (C2.out _ (by repeat' (first | (with_reducible exact Below.refl _ _) | (with_reducible refine Below.adds_ ?_ ?_ _ _) | (with_reducible refine Below.alloc ?_ ?_ _) | (with_reducible refine Below.drew ?_) | (with_reducible refine Below.setCell ?_ ?_ _) | (with_reducible assumption) | go_size | (simp only [size_addsW, World.size_alloc, World.size_drew, World.size_setCell]; omega)))).mono ?_ | with_reducible refine (C3.out _ (by repeat' (first | (with_reducible exact Below.refl _ _) | (with_reducible refine Below.adds_ ?_ ?_ _ _) | (with_reducible refine Below.alloc ?_ ?_ _) | (with_reducible refine Below.drew ?_) | (with_reducible refine Below.setCell ?_ ?_ _) | (with_reducible assumption) | go_size | (simp only [size_addsW, World.size_alloc, World.size_drew, World.size_setCell]; omega)))).mono ?_); rintro e w' ⟨rfl, hb⟩; obtain ⟨q6, m6, rfl⟩ := below_adds hb; clear hb) | (go_at_call 30; refine (L_abs _ _ (by omega)).mono ?_; rintro e w' ⟨rfl, rfl⟩))
                try go_wp2_with fail
                refine hK.out _ _ ?_ (fun hHeld => ?_)
                · (first | (go_simp; done) | (go_keep; done))
                clear hK K
                try simp only [Act.put, List.setIfInBounds_toArray, List.set_cons_zero, List.set_cons_succ]
                refine wpAnyH_ready (rs := [9]) (by kernel_rfl) (by simp) ?_
                refine AllReadyH.cons (o := _) rfl (fun K hK => ?_) ?_
                · (try dsimp only [List.getElem_toArray, List.getElem_cons_succ, List.getElem_cons_zero]); go_simp
                  (first | (go_at_call 27; (first | with_reducible refine (C1.out _ (by repeat' (first | (with_reducible exact Below.refl _ _) | (with_reducible refine Below.adds_ ?_ ?_ _ _) | (with_reducible refine Below.alloc ?_ ?_ _) | (with_reducible refine Below.drew ?_) | (with_reducible refine Below.setCell ?_ ?_ _) | (with_reducible assumption) | go_size | (simp only [size_addsW, World.size_alloc, World.size_drew, World.size_setCell]; omega)))).mono ?_ | with_reducible refine (C2.out _ (by repeat' (first | (with_reducible exact Below.refl _ _) | (with_reducible refine Below.adds_ ?_ ?_ _ _) | (with_reducible refine Below.alloc ?_ ?_ _) | (with_reducible refine Below.drew ?_) | (with_reducible refine Below.setCell ?_ ?_ _) | (with_reducible assumption) | go_size | (simp only [size_addsW, World.size_alloc, World.size_drew, World.size_setCell]; omega)))).mono ?_ | with_reducible refine (C3.out _ (by repeat' (first | (with_reducible exact Below.refl _ _) | (with_reducible refine Below.adds_ ?_ ?_ _ _) | (with_reducible refine Below.alloc ?_ ?_ _) | (with_reducible refine Below.drew ?_) | (with_reducible refine Below.setCell ?_ ?_ _) | (with_reducible assumption) | go_size | (simp only [size_addsW, World.size_alloc, World.size_drew, World.size_setCell]; omega)))).mono ?_); rintro e w' ⟨rfl, hb⟩; obtain ⟨q6, m6, rfl⟩ := below_adds hb; clear hb) | (go_at_call 30; refine (L_abs _ _ (by omega)).mono ?_; rintro e w' ⟨rfl, rfl⟩))
                  try go_wp2_with fail
                  refine hK.out _ _ ?_ (fun hHeld => ?_)
                  · (first | (go_simp; done) | (go_keep; done))
                  clear hK K
                  try simp only [Act.put, List.setIfInBounds_toArray, List.set_cons_zero, List.set_cons_succ]
                  refine wpAnyH_take (i := 10) (oi := _) (v := ?_) rfl (by kernel_rfl) (by kernel_rfl) (by kernel_rfl) (fun _ _ _ h => h) (Or.inl ⟨by rfl, ?_⟩) (by assumption) ?_
                  rotate_left
                  · intro w hSw; (try dsimp only at hSw); go_simp; (try with_reducible rfl)
                  try dsimp only [List.getElem_toArray, List.getElem_cons_succ, List.getElem_cons_zero]
                  simp only [Act.put, List.setIfInBounds_toArray, List.set_cons_zero, List.set_cons_succ]
                  refine wpAnyH_ready (rs := [11]) (by kernel_rfl) (by simp) ?_
                  refine AllReadyH.cons (o := _) rfl (fun K hK => ?_) ?_
                  · (try dsimp only [List.getElem_toArray, List.getElem_cons_succ, List.getElem_cons_zero]); go_simp
                    (first | (go_at_call 27; (first | with_reducible refine (C1.out _ (by repeat' (first | (with_reducible exact Below.refl _ _) | (with_reducible refine Below.adds_ ?_ ?_ _ _) | (with_reducible refine Below.alloc ?_ ?_ _) | (with_reducible refine Below.drew ?_) | (with_reducible refine Below.setCell ?_ ?_ _) | (with_reducible assumption) | go_size | (simp only [size_addsW, World.size_alloc, World.size_drew, World.size_setCell]; omega)))).mono ?_ | with_reducible refine (C2.out _ (by repeat' (first | (with_reducible exact Below.refl _ _) | (with_reducible refine Below.adds_ ?_ ?_ _ _) | (with_reducible refine Below.alloc ?_ ?_ _) | (with_reducible refine Below.drew ?_) | (with_reducible refine Below.setCell ?_ ?_ _) | (with_reducible assumption) | go_size | (simp only [size_addsW, World.size_alloc, World.size_drew, World.size_setCell]; omega)))).mono ?_ | with_reducible refine (C3.out _ (by repeat' (first | (with_reducible exact Below.refl _ _) | (with_reducible refine Below.adds_ ?_ ?_ _ _) | (with_reducible refine Below.alloc ?_ ?_ _) | (with_reducible refine Below.drew ?_) | (with_reducible refine Below.setCell ?_ ?_ _) | (with_reducible assumption) | go_size | (simp only [size_addsW, World.size_alloc, World.size_drew, World.size_setCell]; omega)))).mono ?_); rintro e w' ⟨rfl, hb⟩; obtain ⟨q6, m6, rfl⟩ := below_adds hb; clear hb) | (go_at_call 30; refine (L_abs _ _ (by omega)).mono ?_; rintro e w' ⟨rfl, rfl⟩))
                    try go_wp2_with fail
                    refine hK.out _ _ ?_ (fun hHeld => ?_)
                    · (first | (go_simp; done) | (go_keep; done))
                    clear hK K
                    try simp only [Act.put, List.setIfInBounds_toArray, List.set_cons_zero, List.set_cons_succ]
                    refine wpAnyH_take (i := 12) (oi := _) (v := ?_) rfl (by kernel_rfl) (by kernel_rfl) (by kernel_rfl) (fun _ _ _ h => h) (Or.inl ⟨by rfl, ?_⟩) (by assumption) ?_
                    rotate_left
                    · intro w hSw; (try dsimp only at hSw); go_simp; (try with_reducible rfl)
                    try dsimp only [List.getElem_toArray, List.getElem_cons_succ, List.getElem_cons_zero]
                    simp only [Act.put, List.setIfInBounds_toArray, List.set_cons_zero, List.set_cons_succ]
                    refine wpAnyH_ready (rs := [16]) (by kernel_rfl) (by simp) ?_
                    refine AllReadyH.cons (o := _) rfl (fun K hK => ?_) ?_
                    · (try dsimp only [List.getElem_toArray, List.getElem_cons_succ, List.getElem_cons_zero]); go_simp
                      (first | (go_at_call 27; (first | with_reducible refine (C1.out _ (by repeat' (first | (with_reducible exact Below.refl _ _) | (with_reducible refine Below.adds_ ?_ ?_ _ _) | (with_reducible refine Below.alloc ?_ ?_ _) | (with_reducible refine Below.drew ?_) | (with_reducible refine Below.setCell ?_ ?_ _) | (with_reducible assumption) | go_size | (simp only [size_addsW, World.size_alloc, World.size_drew, World.size_setCell]; omega)))).mono ?_ | with_reducible refine (C2.out _ (by repeat' (first | (with_reducible exact Below.refl _ _) | (with_reducible refine Below.adds_ ?_ ?_ _ _) | (with_reducible refine Below.alloc ?_ ?_ _) | (with_reducible refine Below.drew ?_) | (with_reducible refine Below.setCell ?_ ?_ _) | (with_reducible assumption) | go_size | (simp only [size_addsW, World.size_alloc, World.size_drew, World.size_setCell]; omega)))).mono ?_ | with_reducible refine (C3.out _ (by repeat' (first | (with_reducible exact Below.refl _ _) | (with_reducible refine Below.adds_ ?_ ?_ _ _) | (with_reducible refine Below.alloc ?_ ?_ _) | (with_reducible refine Below.drew ?_) | (with_reducible refine Below.setCell ?_ ?_ _) | (with_reducible assumption) | go_size | (simp only [size_addsW, World.size_alloc, World.size_drew, World.size_setCell]; omega)))).mono ?_); rintro e w' ⟨rfl, hb⟩; obtain ⟨q6, m6, rfl⟩ := below_adds hb; clear hb) | (go_at_call 30; refine (L_abs _ _ (by omega)).mono ?_; rintro e w' ⟨rfl, rfl⟩))
                      try go_wp2_with fail
                      refine hK.out _ _ ?_ (fun hHeld => ?_)
                      · (first | (go_simp; done) | (go_keep; done))
                      clear hK K
                      try simp only [Act.put, List.setIfInBounds_toArray, List.set_cons_zero, List.set_cons_succ]
                      refine wpAnyH_ready (rs := [21]) (by kernel_rfl) (by simp) ?_
                      refine AllReadyH.cons (o := _) rfl (fun K hK => ?_) ?_
                      · (try dsimp only [List.getElem_toArray, List.getElem_cons_succ, List.getElem_cons_zero]); go_simp
                        (first | (go_at_call 27; (first | with_reducible refine (C1.out _ (by repeat' (first | (with_reducible exact Below.refl _ _) | (with_reducible refine Below.adds_ ?_ ?_ _ _) | (with_reducible refine Below.alloc ?_ ?_ _) | (with_reducible refine Below.drew ?_) | (with_reducible refine Below.setCell ?_ ?_ _) | (with_reducible assumption) | go_size | (simp only [size_addsW, World.size_alloc, World.size_drew, World.size_setCell]; omega)))).mono ?_ | with_reducible refine (C2.out _ (by repeat' (first | (with_reducible exact Below.refl _ _) | (with_reducible refine Below.adds_ ?_ ?_ _ _) | (with_reducible refine Below.alloc ?_ ?_ _) | (with_reducible refine Below.drew ?_) | (with_reducible refine Below.setCell ?_ ?_ _) | (with_reducible assumption) | go_size | (simp only [size_addsW, World.size_alloc, World.size_drew, World.size_setCell]; omega)))).mono ?_ | with_reducible refine (C3.out _ (by repeat' (first | (with_reducible exact Below.refl _ _) | (with_reducible refine Below.adds_ ?_ ?_ _ _) | (with_reducible refine Below.alloc ?_ ?_ _) | (with_reducible refine Below.drew ?_) | (with_reducible refine Below.setCell ?_ ?_ _) | (with_reducible assumption) | go_size | (simp only [size_addsW, World.size_alloc, World.size_drew, World.size_setCell]; omega)))).mono ?_); rintro e w' ⟨rfl, hb⟩; obtain ⟨q6, m6, rfl⟩ := below_adds hb; clear hb) | (go_at_call 30; refine (L_abs _ _ (by omega)).mono ?_; rintro e w' ⟨rfl, rfl⟩))
                        try go_wp2_with fail
                        refine hK.out _ _ ?_ (fun hHeld => ?_)
                        · (first | (go_simp; done) | (go_keep; done))
                        clear hK K
                        try simp only [Act.put, List.setIfInBounds_toArray, List.set_cons_zero, List.set_cons_succ]
                        refine wpAnyH_take (i := 22) (oi := _) (v := ?_) rfl (by kernel_rfl) (by kernel_rfl) (by kernel_rfl) (fun _ _ _ h => h) (Or.inl ⟨by rfl, ?_⟩) (by assumption) ?_
                        rotate_left
                        · intro w hSw; (try dsimp only at hSw); go_simp; (try with_reducible rfl)
                        try dsimp only [List.getElem_toArray, List.getElem_cons_succ, List.getElem_cons_zero]
                        simp only [Act.put, List.setIfInBounds_toArray, List.set_cons_zero, List.set_cons_succ]
                        refine wpAnyH_ready (rs := [23]) (by kernel_rfl) (by simp) ?_
                        refine AllReadyH.cons (o := _) rfl (fun K hK => ?_) ?_
                        · (try dsimp only [List.getElem_toArray, List.getElem_cons_succ, List.getElem_cons_zero]); go_simp
                          (first | (go_at_call 27; (first | with_reducible refine (C1.out _ (by repeat' (first | (with_reducible exact Below.refl _ _) | (with_reducible refine Below.adds_ ?_ ?_ _ _) | (with_reducible refine Below.alloc ?_ ?_ _) | (with_reducible refine Below.drew ?_) | (with_reducible refine Below.setCell ?_ ?_ _) | (with_reducible assumption) | go_size | (simp only [size_addsW, World.size_alloc, World.size_drew, World.size_setCell]; omega)))).mono ?_ | with_reducible refine (C2.out _ (by repeat' (first | (with_reducible exact Below.refl _ _) | (with_reducible refine Below.adds_ ?_ ?_ _ _) | (with_reducible refine Below.alloc ?_ ?_ _) | (with_reducible refine Below.drew ?_) | (with_reducible refine Below.setCell ?_ ?_ _) | (with_reducible assumption) | go_size | (simp only [size_addsW, World.size_alloc, World.size_drew, World.size_setCell]; omega)))).mono ?_ | with_reducible refine (C3.out _ (by repeat' (first | (with_reducible exact Below.refl _ _) | (with_reducible refine Below.adds_ ?_ ?_ _ _) | (with_reducible refine Below.alloc ?_ ?_ _) | (with_reducible refine Below.drew ?_) | (with_reducible refine Below.setCell ?_ ?_ _) | (with_reducible assumption) | go_size | (simp only [size_addsW, World.size_alloc, World.size_drew, World.size_setCell]; omega)))).mono ?_); rintro e w' ⟨rfl, hb⟩; obtain ⟨q6, m6, rfl⟩ := below_adds hb; clear hb) | (go_at_call 30; refine (L_abs _ _ (by omega)).mono ?_; rintro e w' ⟨rfl, rfl⟩))
                          try go_wp2_with fail
                          refine hK.out _ _ ?_ (fun hHeld => ?_)
                          · (first | (go_simp; done) | (go_keep; done))
                          clear hK K
                          try simp only [Act.put, List.setIfInBounds_toArray, List.set_cons_zero, List.set_cons_succ]
                          refine wpAnyH_take (i := 24) (oi := _) (v := ?_) rfl (by kernel_rfl) (by kernel_rfl) (by kernel_rfl) (fun _ _ _ h => h) (Or.inl ⟨by rfl, ?_⟩) (by assumption) ?_
                          rotate_left
                          · intro w hSw; (try dsimp only at hSw); go_simp; (try with_reducible rfl)
                          try dsimp only [List.getElem_toArray, List.getElem_cons_succ, List.getElem_cons_zero]
                          simp only [Act.put, List.setIfInBounds_toArray, List.set_cons_zero, List.set_cons_succ]
                          refine wpAnyH_take (i := 25) (oi := _) (v := ?_) rfl (by kernel_rfl) (by kernel_rfl) (by kernel_rfl) (fun _ _ _ h => h) (Or.inl ⟨by rfl, ?_⟩) (by assumption) ?_
                          rotate_left
                          · intro w hSw; (try dsimp only at hSw); go_simp; (try with_reducible rfl)
                          try dsimp only [List.getElem_toArray, List.getElem_cons_succ, List.getElem_cons_zero]
                          simp only [Act.put, List.setIfInBounds_toArray, List.set_cons_zero, List.set_cons_succ]
                          refine wpAnyH_done (by kernel_rfl) ?_ _
                          go_wp2_with fail
                          go_roundw
                          case rel => exact ⟨nx + 1, by go_num, by omega, by rw [HE.out], HBR.out.trans ((show Below wr.heap.size wr _ from (by repeat' (first | (with_reducible exact Below.refl _ _) | (with_reducible refine Below.adds_ ?_ ?_ _ _) | (with_reducible refine Below.alloc ?_ ?_ _) | (with_reducible refine Below.drew ?_) | (with_reducible refine Below.setCell ?_ ?_ _) | (with_reducible assumption) | go_size | (simp only [size_addsW, World.size_alloc, World.size_drew, World.size_setCell]; omega)))).mono HBR.out.size)⟩
                          case measure => simp [intOf]; omega
                        exact AllReadyH.nil
                      exact AllReadyH.nil
                    exact AllReadyH.nil
                  exact AllReadyH.nil
                exact AllReadyH.nil
              exact AllReadyH.nil
            · obtain rfl : nx = na := by omega
              go_wp2_with fail
              go_roundw
              case rel => exact ⟨ny + 1, by go_num, by omega, by rw [sumN, aRow], HBR.out⟩
              case measure => simp [intOf]; omega
        · obtain rfl : ny = nb := by omega
          have hle := bl_all HV.out
          rw [← HNn.out] at hle
          have RR := Lib.hid (RY.out.keep HBR.out)
          obtain ⟨T, hT⟩ : ∃ T, T = sumN (aRow zs na ny na) ny := ⟨_, rfl⟩
          rw [← hT] at hle ⊢
          clear hT
          have HNeg := Lib.hid hneg
          go_wp2_with fail
          refine (I_Transpose na ny A c zs _ (RR.out.keep (by repeat' (first | (with_reducible exact Below.refl _ _) | (with_reducible refine Below.adds_ ?_ ?_ _ _) | (with_reducible refine Below.alloc ?_ ?_ _) | (with_reducible refine Below.drew ?_) | (with_reducible refine Below.setCell ?_ ?_ _) | (with_reducible assumption) | go_size | (simp only [size_addsW, World.size_alloc, World.size_drew, World.size_setCell]; omega)))) HZC.out HCM.out HV.out).mono ?_
          rintro e w5 ⟨g5, L, rfl, hL, hrL, hb5⟩
          have hLb : blV ny na L = n := by rw [tr_bl HV.out hL, ← HNn.out]
          have e5 := e3.below hb5 le3
          have HLl := Lib.hid hL.1
          have HBX := Lib.hid (HBR.out.trans (hb5.mono HBR.out.size))
          clear hb5 hL k0 k1 k2
          have k0 := e5.get (i := 0) rfl
          have k1 := e5.get (i := 1) rfl
          have le5 := e5.lt
          have hLn : L.length ≤ 1000000000000 := by rw [HLl.out]; exact Nat.le_trans (Nat.mul_le_mul hnb hna) (by decide)
          go_wp2_with fail
          refine (I_Blockiness ny na _ _ L _ (hrL.keep (by repeat' (first | (with_reducible exact Below.refl _ _) | (with_reducible refine Below.adds_ ?_ ?_ _ _) | (with_reducible refine Below.alloc ?_ ?_ _) | (with_reducible refine Below.drew ?_) | (with_reducible refine Below.setCell ?_ ?_ _) | (with_reducible assumption) | go_size | (simp only [size_addsW, World.size_alloc, World.size_drew, World.size_setCell]; omega)))) hLn).mono ?_
          rw [hLb]
          rintro e w6 ⟨rfl, hb6⟩
          obtain ⟨o6, n6, rfl⟩ := below_adds hb6
          clear hb6
          go_wp2_with fail
          refine (I_NewPictureB na ny 9 _ H1.out H2.out (by decide)).mono ?_
          rintro e w7 ⟨g7, rfl, hB7, -, hb7⟩
          have HB7 := Lib.hid ((show Below w5.heap.size w5 _ from (by repeat' (first | (with_reducible exact Below.refl _ _) | (with_reducible refine Below.adds_ ?_ ?_ _ _) | (with_reducible refine Below.alloc ?_ ?_ _) | (with_reducible refine Below.drew ?_) | (with_reducible refine Below.setCell ?_ ?_ _) | (with_reducible assumption) | go_size | (simp only [size_addsW, World.size_alloc, World.size_drew, World.size_setCell]; omega)))).trans (hb7.mono (by simp [size_addsW])))
          clear hb7
          have hF := flat_bl H1.out H2.out
          have hrl : RowAt .i64 w7 (some ⟨g7, 0, none⟩) (List.replicate (na * ny) 9) := row_blk hB7
          have C9 := Lib.hid (show Calls Try.prog 18 #[.agg #[.int .i64 na, .int .i64 ny, .slice (some ⟨g7, 0, none⟩) (na * ny) (na * ny)]] w7 fun e w' => e = .returned (.int .i64 0) ∧ Below w7.heap.size w7 w' from by
            have h := I_Blockiness na ny (some ⟨g7, 0, none⟩) (na * ny) (List.replicate (na * ny) 9) w7 hrl (by rw [List.length_replicate]; exact Nat.le_trans (Nat.mul_le_mul hna hnb) (by decide))
            rw [List.length_replicate, hF] at h
            exact h)
          clear hrl hF hB7
          go_wp2_with fail
          refine C9.out.mono ?_
          rintro e w8 ⟨rfl, hb8⟩
          obtain ⟨o8, n8, rfl⟩ := below_adds hb8
          clear hb8
          go_wp2_with fail
          go_returns
          exact ⟨by first | rfl | simp, HYw.out.trans ((HBX.out.trans ((HB7.out.trans ((show Below w7.heap.size w7 _ from (by repeat' (first | (with_reducible exact Below.refl _ _) | (with_reducible refine Below.adds_ ?_ ?_ _ _) | (with_reducible refine Below.alloc ?_ ?_ _) | (with_reducible refine Below.drew ?_) | (with_reducible refine Below.setCell ?_ ?_ _) | (with_reducible assumption) | go_size | (simp only [size_addsW, World.size_alloc, World.size_drew, World.size_setCell]; omega)))).mono HB7.out.size)).mono HBX.out.size)).mono HYw.out.size)⟩

set_option maxRecDepth 100000 in
theorem lifted (os : Os) (started : os.Started) (H : Type) (enc : TypeId × Value → H) :
    ReturnsInHanded {} Try.checked os 7 .any (Rows.fnBlockinessSpec.pre6 enc Try.prog Try.f7 Rows.fnBlockinessRow.domain false) (Rows.fnBlockinessSpec.post enc Try.prog Try.f7 false true false false) := by
  refine returnsInHanded_of_change (C := Try.checked) own started (by kernel_rfl) Try.func7
    (ChangeSpec.witness6 (enc := enc) (C := Try.checked) false ⟨#[], #[.slice none 0 0], []⟩ 8 (by kernel_rfl) (by kernel_rfl) (by kernel_rfl) (by kernel_rfl)) ?_
  intro W base args ds gs before hval0 hW hcnd _
  have hval : ∀ (j : Nat) t v, Try.f7.params[j]? = some t → args[j]? = some v → Value.okWide Try.prog W .any base t v := hval0
  have hW' := hW
  obtain ⟨p, q, hA0, hV, rfl, hfz, hnd⟩ := hW
  have hA : DataW.TrodAll enc Try.prog W 0 (fun _ => true) true Try.f7.params.toList args.toList ds p := hA0
  rw [Try.params7] at hA hval
  obtain ⟨v0, vs0, d0, ds0, p0, q0, hargs, rfl, rfl, h0, r0⟩ := trodAll_cons hA
  obtain ⟨rfl, rfl, rfl⟩ := trodAll_nil r0
  obtain rfl : args = #[v0] := by cases args; simp_all
  obtain ⟨rfl, rfl⟩ := trodVars_none hV
  have k0 := h0
  have lt0 : ∀ x ∈ p0, x.block < W.heap.size := by obtain ⟨m, hm⟩ := k0; exact DataW.trod_lt m _ _ _ hm
  obtain ⟨aa0, ll0, cc0, rfl⟩ := okWide_slice Try.underlying33 (hval 0 33 v0 rfl rfl)
  obtain ⟨f0, hf0⟩ := h0
  simp only [Value.cells] at hf0
  obtain ⟨a_cs, len_cs, cap_cs, cs, e_cs, w_cs⟩ : ∃ a l c zs, (.slice aa0 ll0 cc0 : Value) = .slice a l c ∧ IsRow .u8 W a l c zs := by
    rcases open_ints Try.underlying33 Try.underlying5 (by kernel_rfl) hf0 with ⟨hcs, _⟩ | ⟨x, l, c, zs, hcs, _, hl, hm, hz, _, hcell, hwz⟩
    · simp only [List.cons.injEq, and_true] at hcs; exact ⟨none, 0, 0, [], hcs, .inl ⟨rfl, rfl, rfl, rfl⟩⟩
    · simp only [List.cons.injEq, and_true] at hcs; exact ⟨some x, l, c, zs, hcs, .inr ⟨x, rfl, hl, hm, by simpa using hz, hcell, hwz⟩⟩
  simp only [Value.slice.injEq] at e_cs
  obtain ⟨rfl, rfl, rfl⟩ := e_cs
  clear hA0 hval0
  refine (walk _ _ _ cs W w_cs).mono fun e W' ⟨he, bel⟩ => ?_
  subst he
  exact ⟨_, rfl, _, _, _, [], _, [], hW', trodAll_mk1 (shut_bool Try.underlying4 _), (trodAll_cons_mk (Below.trod laidOut (by kernel_rfl) (of_decide_eq_true (by kernel_rfl)) k0 bel lt0) trodAll_mk0), rfl, bel.frame _, fun h => by cases h⟩

theorem over : Rows.fnBlockinessRow.holds Try.pinned (OpenSpec.ofChange Rows.fnBlockinessSpec) :=
  OpenClaim.holds_of_wide 7 Try.f7 rfl rfl rfl rfl rfl rfl rfl ⟨rfl, rfl, rfl, rfl, rfl⟩ rfl rfl rfl rfl rfl (by kernel_rfl) Try.func7 (by kernel_rfl)
    (of_decide_eq_true (by kernel_rfl)) (by unfold Func.isWrapper; first | (rw [if_pos (by decide +kernel)]; kernel_rfl) | (rw [if_neg (by decide +kernel)]; exact ⟨rfl, rfl⟩))
    (fun os started H enc _ => lifted os started H enc)

theorem proved : Rows.FnBlockinessSaid := over
#print axioms proved
end Go.Proofs.Ytobphddjoebfjaa.fnBlockiness
