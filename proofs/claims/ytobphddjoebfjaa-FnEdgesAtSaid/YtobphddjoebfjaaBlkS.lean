/- Blockiness, the reference's. -/
import Derived.Test.YtobphddjoebfjaaBlkM
import Derived.Test.YtobphddjoebfjaaVecS
import Derived.BigQuiet
import Derived.LoopTactic
namespace Go.Proofs.Ytobphddjoebfjaa
open Go.RowKit Go.Shelf
set_option linter.unusedVariables false
set_option linter.unusedSimpArgs false

attribute [local go_sem] size_addsW cell?_addsW frozen?_addsW setCell_addsW drew_addsW adds_addsW setCell_twice alloc_adds0 size_adds0 adds_adds0 sel2 sel3 sel4 sel5 sel6 sel7 sel8 sel9 lt_more lt_more2 lt_more3 lt_more4 adds_drew adds_drewN drewN_addsW ltA_1_1 ltA_1_2 ltA_1_3 ltA_1_4 ltA_1_5 ltA_1_6 ltA_2_1 ltA_2_2 ltA_2_3 ltA_2_4 ltA_2_5 ltA_2_6 ltA_3_1 ltA_3_2 ltA_3_3 ltA_3_4 ltA_3_5 ltA_3_6 ltA_4_1 ltA_4_2 ltA_4_3 ltA_4_4 ltA_4_5 ltA_4_6 ltA_5_1 ltA_5_2 ltA_5_3 ltA_5_4 ltA_5_5 ltA_5_6 ltA_6_1 ltA_6_2 ltA_6_3 ltA_6_4 ltA_6_5 ltA_6_6 ltA_7_1 ltA_7_2 ltA_7_3 ltA_7_4 ltA_7_5 ltA_7_6 ltA_8_1 ltA_8_2 ltA_8_3 ltA_8_4 ltA_8_5 ltA_8_6 ltA_9_1 ltA_9_2 ltA_9_3 ltA_9_4 ltA_9_5 ltA_9_6 ltA_10_1 ltA_10_2 ltA_10_3 ltA_10_4 ltA_10_5 ltA_10_6 ltA_11_1 ltA_11_2 ltA_11_3 ltA_11_4 ltA_11_5 ltA_11_6 ltA_12_1 ltA_12_2 ltA_12_3 ltA_12_4 ltA_12_5 ltA_12_6

def cellBl (zs : List Int) (a y : Nat) (x : Nat) : Int := vEdge zs a x y + hEdge zs a x y
def rowBl (zs : List Int) (a : Nat) (y : Nat) : Int := sumN (cellBl zs a y) a
theorem specBl_eq (zs : List Int) (a b : Nat) : specBl zs a b = sumN (rowBl zs a) b := rfl
theorem cellBl_bd {zs : List Int} (h : M.samplesB zs = true) (a y x : Nat) : 0 ≤ cellBl zs a y x ∧ cellBl zs a y x ≤ 510 := by
  have h1 := difZ_bd h (y * a + x, 1)
  have h2 := difZ_bd h (y * a + x, a)
  have e : ∀ (c : Prop) [Decidable c] (d : Int), 0 ≤ d ∧ d ≤ 255 → 0 ≤ (if c then d else 0) ∧ (if c then d else 0) ≤ 255 := by
    intro c _ d h
    split <;> omega
  have e1 := e (0 < x ∧ x % 4 = 0) _ h1
  have e2 := e (0 < y ∧ y % 4 = 0) _ h2
  unfold cellBl vEdge hEdge every4
  simp only at e1 e2 ⊢
  omega
theorem rowBl_bd {zs : List Int} (h : M.samplesB zs = true) {a : Nat} (ha : a ≤ 32) (y : Nat) : 0 ≤ rowBl zs a y ∧ rowBl zs a y ≤ 16320 := by
  have := sumN_bd (f := cellBl zs a y) (m := 510) a (fun k _ => cellBl_bd h a y k)
  unfold rowBl
  omega

def BlRel (zs : List Int) (a b : Nat) (Z : World) (t y : Value) (wr : World) : Prop := ∃ ny : Nat, y = .int .i64 (ny : Int) ∧ ny ≤ b ∧ t = .int .i64 (sumN (rowBl zs a) ny) ∧ Below Z.heap.size Z wr
def BlRel2 (zs : List Int) (a b ny : Nat) (Z : World) (t x : Value) (wr : World) : Prop := ∃ nx : Nat, x = .int .i64 (nx : Int) ∧ nx ≤ a ∧ t = .int .i64 (sumN (rowBl zs a) ny + sumN (cellBl zs a ny) nx) ∧ Below Z.heap.size Z wr

set_option maxRecDepth 100000 in
set_option maxHeartbeats 4000000 in
theorem S_Blockiness (a b : Int) (A : Option Addr) (c : Nat) (zs : List Int) (w : World) (hr : RowAt .i64 w A zs) (hl : zs.length ≤ 1000000000000) :
    Calls Try.prog 16 #[.agg #[.int .i64 a, .int .i64 b, .slice A zs.length c]] w fun e w' => e = .returned (.int .i64 (blV a b zs)) ∧ Below w.heap.size w w' := by
  have HR := Lib.hid hr
  clear hr
  cases hv : picB a b zs
  · rw [show blV a b zs = -1 by simp [blV, hv]]
    go_enter Try.func16, Try.ntmps16
    go_wp2_with (go_at_call 25; refine (S_PictureValid _ _ _ _ zs _ (HR.out.keep (by repeat' (first | (with_reducible exact Below.refl _ _) | (with_reducible refine Below.adds_ ?_ ?_ _ _) | (with_reducible refine Below.alloc ?_ ?_ _) | (with_reducible refine Below.drew ?_) | (with_reducible refine Below.setCell ?_ ?_ _) | (with_reducible assumption) | go_size | (simp only [size_addsW, World.size_alloc, World.size_drew, World.size_setCell]; omega)))) (by omega)).mono ?_; rintro e w' ⟨rfl, hb⟩; obtain ⟨o1, n1, rfl⟩ := below_adds hb; clear hb)
    go_returns
    exact ⟨rfl, (by repeat' (first | (with_reducible exact Below.refl _ _) | (with_reducible refine Below.adds_ ?_ ?_ _ _) | (with_reducible refine Below.alloc ?_ ?_ _) | (with_reducible refine Below.drew ?_) | (with_reducible refine Below.setCell ?_ ?_ _) | (with_reducible assumption) | go_size | (simp only [size_addsW, World.size_alloc, World.size_drew, World.size_setCell]; omega)))⟩
  · have HV := Lib.hid hv
    have HS := Lib.hid (picB_iff.1 hv).2.2.2
    obtain ⟨h1, h2, h3, -⟩ := picB_iff.1 hv
    have g1 := sideB_bd h1
    have g2 := sideB_bd h2
    obtain ⟨na, rfl⟩ := Int.eq_ofNat_of_zero_le (show 0 ≤ a by omega)
    obtain ⟨nb, rfl⟩ := Int.eq_ofNat_of_zero_le (show 0 ≤ b by omega)
    rw [show blV na nb zs = sumN (rowBl zs na) nb by rw [← specBl_eq, spec_edges (by omega) (by omega)]; simp [blV, hv]]
    have ha : 8 ≤ na ∧ na ≤ 32 := by omega
    have hb : 8 ≤ nb ∧ nb ≤ 32 := by omega
    have HN := Lib.hid (show zs.length = na * nb by rw [← Int.natCast_mul] at h3; omega)
    clear h1 h2 h3 g1 g2
    go_enter Try.func16, Try.ntmps16
    go_upto_region 3 with (first | (go_at_call 25; refine (S_PictureValid (na : Int) (nb : Int) _ _ zs _ (HR.out.keep (by repeat' (first | (with_reducible exact Below.refl _ _) | (with_reducible refine Below.adds_ ?_ ?_ _ _) | (with_reducible refine Below.alloc ?_ ?_ _) | (with_reducible refine Below.drew ?_) | (with_reducible refine Below.setCell ?_ ?_ _) | (with_reducible assumption) | go_size | (simp only [size_addsW, World.size_alloc, World.size_drew, World.size_setCell]; omega)))) (by omega)).mono ?_; rw [HV.out]; rintro e w' ⟨rfl, hb⟩; obtain ⟨o1, n1, rfl⟩ := below_adds hb; clear hb))
    clear hv
    have hP : Blk (w.alloc (.cells #[.int .i64 na, .int .i64 nb, .slice A zs.length c] 27)) w.heap.size #[.int .i64 na, .int .i64 nb, .slice A zs.length c] 27 := Blk.new w _ _ _ rfl
    have hbw : Below w.heap.size w (w.alloc (.cells #[.int .i64 na, .int .i64 nb, .slice A zs.length c] 27)) := (by repeat' (first | (with_reducible exact Below.refl _ _) | (with_reducible refine Below.adds_ ?_ ?_ _ _) | (with_reducible refine Below.alloc ?_ ?_ _) | (with_reducible refine Below.drew ?_) | (with_reducible refine Below.setCell ?_ ?_ _) | (with_reducible assumption) | go_size | (simp only [size_addsW, World.size_alloc, World.size_drew, World.size_setCell]; omega)))
    refine all_add ?_
    intro Z oo nn hZ
    have hP := hZ ▸ hP.adds oo nn
    have hbw := hZ ▸ Below.adds_ hbw hbw.size oo nn
    clear hZ oo nn
    have lP := hP.lt
    have HBW := Lib.hid hbw
    have hwz := hbw.size
    clear hbw
    generalize w.heap.size = g at hP lP hwz ⊢
    go_wp2_with fail
    go_loopw [3, 4] (fun t y wr => BlRel zs na nb Z t y wr) (fun _ y _ => nb - (intOf y).toNat)
    case atStart => exact ⟨0, rfl, Nat.zero_le _, rfl, Below.refl _ _⟩
    case round =>
      obtain ⟨ny, rfl, hny, rfl, hbr⟩ := hrel
      have hPr := hP.below hbr lP
      have HBR := Lib.hid hbr
      clear hbr
      have k0 := hPr.get (i := 0) rfl
      have k1 := hPr.get (i := 1) rfl
      have lPr := hPr.lt
      by_cases hlt : ny < nb
      · have hd1 : (ny : Int) < (nb : Int) := by omega
        go_wp2_with fail
        go_loopw [3, 5] (fun t x wr2 => BlRel2 zs na nb ny Z t x wr2) (fun _ x _ => na - (intOf x).toNat)
        case atStart => exact ⟨0, rfl, Nat.zero_le _, by simp [sumN], HBR.out⟩
        case round =>
          clear HBR k0 k1 hPr lPr
          obtain ⟨nx, rfl, hnx, rfl, hbr⟩ := hrel
          have hPr := hP.below hbr lP
          have HBR := Lib.hid hbr
          have k0 := hPr.get (i := 0) rfl
          have lPr := hPr.lt
          by_cases hltx : nx < na
          · have hd2 : (nx : Int) < (na : Int) := by omega
            have k2 := hPr.get (i := 2) rfl
            have hrow := HR.out.keep (HBW.out.trans (hbr.mono HBW.out.size))
            obtain ⟨K, hK⟩ : ∃ K, K = ny * na := ⟨_, rfl⟩
            have hyw : (ny : Int) * (na : Int) = (K : Int) := by rw [hK, Int.natCast_mul]
            have hKN : K + na ≤ zs.length := by
              have := Nat.mul_le_mul_right na (show ny + 1 ≤ nb by omega)
              rw [Nat.add_mul, Nat.one_mul, Nat.mul_comm nb na, ← HN.out] at this
              omega
            have hKa : 0 < ny → na ≤ K := fun h => by have := Nat.mul_le_mul_right na (show 1 ≤ ny by omega); omega
            have hNb : zs.length ≤ 1024 := by rw [HN.out]; exact Nat.mul_le_mul ha.2 hb.2
            obtain ⟨kk, hkk⟩ : ∃ kk, kk = K + nx := ⟨_, rfl⟩
            have hki : (K : Int) + (nx : Int) = (kk : Int) := by omega
            obtain ⟨bl, off, z0, rfl, hbl, hz0, hcl0⟩ := hrow.at_ (show kk < zs.length by omega)
            obtain ⟨j1, hj1⟩ : ∃ j1, j1 = kk - 1 := ⟨_, rfl⟩
            obtain ⟨j2, hj2⟩ : ∃ j2, j2 = kk - na := ⟨_, rfl⟩
            obtain ⟨bl2, off2, z1, e2, -, hz1, hcl1⟩ := hrow.at_ (show j1 < zs.length by omega)
            injection e2 with e2
            injection e2 with e3 e4
            subst e3 e4
            obtain ⟨bl2, off2, z2, e2, -, hz2, hcl2⟩ := hrow.at_ (show j2 < zs.length by omega)
            injection e2 with e2
            injection e2 with e3 e4
            subst e3 e4
            have hzz : (0 ≤ z0 ∧ z0 ≤ 255) ∧ (0 ≤ z1 ∧ z1 ≤ 255) ∧ 0 ≤ z2 ∧ z2 ≤ 255 := by rw [hz0, hz1, hz2]; exact ⟨byte_at HS.out kk, byte_at HS.out j1, byte_at HS.out j2⟩
            obtain ⟨T, hT⟩ : ∃ T, T = sumN (rowBl zs na) ny + sumN (cellBl zs na ny) nx := ⟨_, rfl⟩
            have hTb : 0 ≤ T ∧ T ≤ 600000 := by
              have h1 := sumN_bd (f := rowBl zs na) (m := 16320) ny (fun k _ => rowBl_bd HS.out ha.2 k)
              have h2 := sumN_bd (f := cellBl zs na ny) (m := 510) nx (fun k _ => cellBl_bd HS.out na ny k)
              omega
            rw [← hT]
            have HE := Lib.hid (show sumN (rowBl zs na) ny + sumN (cellBl zs na ny) (nx + 1) = T + ((if 0 < nx ∧ nx % 4 = 0 then max (z0 - z1) (z1 - z0) else 0) + (if 0 < ny ∧ ny % 4 = 0 then max (z0 - z2) (z2 - z0) else 0)) by
              rw [sumN, hT, cellBl, vEdge, hEdge, every4, every4, difZ, difZ]
              simp only
              rw [← hK, ← hkk, ← hj1, ← hj2, ← hz0, ← hz1, ← hz2]
              omega)
            have HJ1 := Lib.hid (show 0 < nx → (kk : Int) - 1 = (j1 : Int) ∧ j1 < zs.length by omega)
            have HJ2 := Lib.hid (show 0 < ny → (kk : Int) - (na : Int) = (j2 : Int) ∧ j2 < zs.length from fun h => by have := hKa h; omega)
            have hkb : kk < zs.length := by omega
            clear hrow hz0 hz1 hz2 hT hK hKa hkk hj1 hj2
            have hf1 : (kk : Int) < (zs.length : Int) := by omega
            obtain ⟨VX, hVX⟩ : ∃ V, V = (if 0 < nx ∧ nx % 4 = 0 then max (z0 - z1) (z1 - z0) else 0) := ⟨_, rfl⟩
            obtain ⟨VY, hVY⟩ : ∃ V, V = (if 0 < ny ∧ ny % 4 = 0 then max (z0 - z2) (z2 - z0) else 0) := ⟨_, rfl⟩
            have HVX := Lib.hid hVX
            have HVY := Lib.hid hVY
            rw [← hVX, ← hVY] at HE
            have hvx : 0 ≤ VX ∧ VX ≤ 255 := by rw [hVX]; split <;> omega
            have hvy : 0 ≤ VY ∧ VY ≤ 255 := by rw [hVY]; split <;> omega
            clear hVX hVY
            rcases (show nx = 0 ∨ (0 < nx ∧ ¬ nx % 4 = 0) ∨ (0 < nx ∧ nx % 4 = 0) by omega) with hx | hx | hx
            · have hx0 : ¬ (0 : Int) < (nx : Int) := by omega
              have HX := Lib.hid (show VX = _ from by rw [HVX.out, if_neg (by omega)])
              clear hx
              rcases (show ny = 0 ∨ (0 < ny ∧ ¬ ny % 4 = 0) ∨ (0 < ny ∧ ny % 4 = 0) by omega) with hy | hy | hy
              · have hy0 : ¬ (0 : Int) < (ny : Int) := by omega
                have HY := Lib.hid (show VY = _ from by rw [HVY.out, if_neg (by omega)])
                clear hy
                go_wp2_with (go_quiet (fail))
                go_roundw
                case rel => exact ⟨nx + 1, by go_num, by omega, by rw [HE.out, HX.out, HY.out]; congr 1; omega, (by first | exact HBR.out | exact HBR.out.trans ((drewN_below wr _).mono HBR.out.size) | exact HBR.out.trans (((drewN_below wr _).trans (drewN_below _ _ |>.mono (by simp))).mono HBR.out.size))⟩
                case measure => simp [intOf]; omega
              · have hy0 : (0 : Int) < (ny : Int) := by omega
                have hy3 : ((ny : Int) % 4 == 0) = false := by simp; omega
                have HY := Lib.hid (show VY = _ from by rw [HVY.out, if_neg (by omega)])
                clear hy
                go_wp2_with (go_quiet (fail))
                go_roundw
                case rel => exact ⟨nx + 1, by go_num, by omega, by rw [HE.out, HX.out, HY.out]; congr 1; omega, (by first | exact HBR.out | exact HBR.out.trans ((drewN_below wr _).mono HBR.out.size) | exact HBR.out.trans (((drewN_below wr _).trans (drewN_below _ _ |>.mono (by simp))).mono HBR.out.size))⟩
                case measure => simp [intOf]; omega
              · have hy0 : (0 : Int) < (ny : Int) := by omega
                have hy3 : (ny : Int) % 4 = 0 := by omega
                obtain ⟨hj5, hj6'⟩ := HJ2.out (by omega)
                have hj6 : (j2 : Int) < (zs.length : Int) := by omega
                have HY := Lib.hid (show VY = _ from by rw [HVY.out, if_pos hy])
                clear hy
                go_wp2_with (go_quiet (fail))
                go_roundw
                case rel => exact ⟨nx + 1, by go_num, by omega, by rw [HE.out, HX.out, HY.out]; congr 1; omega, (by first | exact HBR.out | exact HBR.out.trans ((drewN_below wr _).mono HBR.out.size) | exact HBR.out.trans (((drewN_below wr _).trans (drewN_below _ _ |>.mono (by simp))).mono HBR.out.size))⟩
                case measure => simp [intOf]; omega
            · have hx0 : (0 : Int) < (nx : Int) := by omega
              have hx3 : ((nx : Int) % 4 == 0) = false := by simp; omega
              have HX := Lib.hid (show VX = _ from by rw [HVX.out, if_neg (by omega)])
              clear hx
              rcases (show ny = 0 ∨ (0 < ny ∧ ¬ ny % 4 = 0) ∨ (0 < ny ∧ ny % 4 = 0) by omega) with hy | hy | hy
              · have hy0 : ¬ (0 : Int) < (ny : Int) := by omega
                have HY := Lib.hid (show VY = _ from by rw [HVY.out, if_neg (by omega)])
                clear hy
                go_wp2_with (go_quiet (fail))
                go_roundw
                case rel => exact ⟨nx + 1, by go_num, by omega, by rw [HE.out, HX.out, HY.out]; congr 1; omega, (by first | exact HBR.out | exact HBR.out.trans ((drewN_below wr _).mono HBR.out.size) | exact HBR.out.trans (((drewN_below wr _).trans (drewN_below _ _ |>.mono (by simp))).mono HBR.out.size))⟩
                case measure => simp [intOf]; omega
              · have hy0 : (0 : Int) < (ny : Int) := by omega
                have hy3 : ((ny : Int) % 4 == 0) = false := by simp; omega
                have HY := Lib.hid (show VY = _ from by rw [HVY.out, if_neg (by omega)])
                clear hy
                go_wp2_with (go_quiet (fail))
                go_roundw
                case rel => exact ⟨nx + 1, by go_num, by omega, by rw [HE.out, HX.out, HY.out]; congr 1; omega, (by first | exact HBR.out | exact HBR.out.trans ((drewN_below wr _).mono HBR.out.size) | exact HBR.out.trans (((drewN_below wr _).trans (drewN_below _ _ |>.mono (by simp))).mono HBR.out.size))⟩
                case measure => simp [intOf]; omega
              · have hy0 : (0 : Int) < (ny : Int) := by omega
                have hy3 : (ny : Int) % 4 = 0 := by omega
                obtain ⟨hj5, hj6'⟩ := HJ2.out (by omega)
                have hj6 : (j2 : Int) < (zs.length : Int) := by omega
                have HY := Lib.hid (show VY = _ from by rw [HVY.out, if_pos hy])
                clear hy
                go_wp2_with (go_quiet (fail))
                go_roundw
                case rel => exact ⟨nx + 1, by go_num, by omega, by rw [HE.out, HX.out, HY.out]; congr 1; omega, (by first | exact HBR.out | exact HBR.out.trans ((drewN_below wr _).mono HBR.out.size) | exact HBR.out.trans (((drewN_below wr _).trans (drewN_below _ _ |>.mono (by simp))).mono HBR.out.size))⟩
                case measure => simp [intOf]; omega
            · have hx0 : (0 : Int) < (nx : Int) := by omega
              have hx3 : (nx : Int) % 4 = 0 := by omega
              obtain ⟨hj3, hj4'⟩ := HJ1.out (by omega)
              have hj4 : (j1 : Int) < (zs.length : Int) := by omega
              have HX := Lib.hid (show VX = _ from by rw [HVX.out, if_pos hx])
              clear hx
              rcases (show ny = 0 ∨ (0 < ny ∧ ¬ ny % 4 = 0) ∨ (0 < ny ∧ ny % 4 = 0) by omega) with hy | hy | hy
              · have hy0 : ¬ (0 : Int) < (ny : Int) := by omega
                have HY := Lib.hid (show VY = _ from by rw [HVY.out, if_neg (by omega)])
                clear hy
                go_wp2_with (go_quiet (fail))
                go_roundw
                case rel => exact ⟨nx + 1, by go_num, by omega, by rw [HE.out, HX.out, HY.out]; congr 1; omega, (by first | exact HBR.out | exact HBR.out.trans ((drewN_below wr _).mono HBR.out.size) | exact HBR.out.trans (((drewN_below wr _).trans (drewN_below _ _ |>.mono (by simp))).mono HBR.out.size))⟩
                case measure => simp [intOf]; omega
              · have hy0 : (0 : Int) < (ny : Int) := by omega
                have hy3 : ((ny : Int) % 4 == 0) = false := by simp; omega
                have HY := Lib.hid (show VY = _ from by rw [HVY.out, if_neg (by omega)])
                clear hy
                go_wp2_with (go_quiet (fail))
                go_roundw
                case rel => exact ⟨nx + 1, by go_num, by omega, by rw [HE.out, HX.out, HY.out]; congr 1; omega, (by first | exact HBR.out | exact HBR.out.trans ((drewN_below wr _).mono HBR.out.size) | exact HBR.out.trans (((drewN_below wr _).trans (drewN_below _ _ |>.mono (by simp))).mono HBR.out.size))⟩
                case measure => simp [intOf]; omega
              · have hy0 : (0 : Int) < (ny : Int) := by omega
                have hy3 : (ny : Int) % 4 = 0 := by omega
                obtain ⟨hj5, hj6'⟩ := HJ2.out (by omega)
                have hj6 : (j2 : Int) < (zs.length : Int) := by omega
                have HY := Lib.hid (show VY = _ from by rw [HVY.out, if_pos hy])
                clear hy
                go_wp2_with (go_quiet (fail))
                go_roundw
                case rel => exact ⟨nx + 1, by go_num, by omega, by rw [HE.out, HX.out, HY.out]; congr 1; omega, (by first | exact HBR.out | exact HBR.out.trans ((drewN_below wr _).mono HBR.out.size) | exact HBR.out.trans (((drewN_below wr _).trans (drewN_below _ _ |>.mono (by simp))).mono HBR.out.size))⟩
                case measure => simp [intOf]; omega
          · obtain rfl : nx = na := by omega
            go_wp2_with fail
            go_roundw
            case rel => exact ⟨ny + 1, by go_num, by omega, by rw [sumN, rowBl], HBR.out⟩
            case measure => simp [intOf]; omega
      · obtain rfl : ny = nb := by omega
        go_wp2_with fail
        go_returns
        exact ⟨rfl, HBW.out.trans (HBR.out.mono HBW.out.size)⟩

end Go.Proofs.Ytobphddjoebfjaa
