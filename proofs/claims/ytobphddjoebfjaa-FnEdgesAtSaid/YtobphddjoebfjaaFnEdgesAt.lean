/- PROVED: the law laws.FnEdgesAt returns true for every input (edges are the neighbouring samples, 128 where there are none; it answers as the reference does); no conditions. -/
import Derived.Test.YtobphddjoebfjaaRows
import Derived.Test.YtobphddjoebfjaaEdgeV
import Derived.Test.YtobphddjoebfjaaEq4
import Derived.Test.YtobphddjoebfjaaDrawJ
import Derived.Deep.RegionHeld3
import Derived.Deep.DeepCutAuto
import Derived.WalkKit
import Derived.ProofKit
import Derived.OpenShut
import Derived.ShutString
import Derived.ChangeOld
import Derived.Below
import Derived.Lib.SmallJoins
namespace Go.Proofs.Ytobphddjoebfjaa.fnEdgesAt
open Go.ChangeShapes Go.WideShapes Go.ChangeAt Go.RowKit
open Go.ChangeMaps (open_string shut_string)
set_option linter.unusedVariables false
set_option linter.unusedSimpArgs false

theorem own : ownKnob Try.prog.godebug = none := by kernel_rfl
theorem laidOut : laidOutB Try.prog = true := by kernel_rfl

attribute [local go_sem] size_addsW cell?_addsW frozen?_addsW setCell_addsW drew_addsW adds_addsW setCell_twice alloc_adds0 size_adds0 adds_adds0 sel2 sel3 sel4 sel5 sel6 sel7 sel8 sel9 lt_more lt_more2 lt_more3 lt_more4 adds_drew adds_drewN drewN_addsW ltA_1_1 ltA_1_2 ltA_1_3 ltA_1_4 ltA_1_5 ltA_1_6 ltA_2_1 ltA_2_2 ltA_2_3 ltA_2_4 ltA_2_5 ltA_2_6 ltA_3_1 ltA_3_2 ltA_3_3 ltA_3_4 ltA_3_5 ltA_3_6 ltA_4_1 ltA_4_2 ltA_4_3 ltA_4_4 ltA_4_5 ltA_4_6 ltA_5_1 ltA_5_2 ltA_5_3 ltA_5_4 ltA_5_5 ltA_5_6 ltA_6_1 ltA_6_2 ltA_6_3 ltA_6_4 ltA_6_5 ltA_6_6 ltA_7_1 ltA_7_2 ltA_7_3 ltA_7_4 ltA_7_5 ltA_7_6 ltA_8_1 ltA_8_2 ltA_8_3 ltA_8_4 ltA_8_5 ltA_8_6 ltA_9_1 ltA_9_2 ltA_9_3 ltA_9_4 ltA_9_5 ltA_9_6 ltA_10_1 ltA_10_2 ltA_10_3 ltA_10_4 ltA_10_5 ltA_10_6 ltA_11_1 ltA_11_2 ltA_11_3 ltA_11_4 ltA_11_5 ltA_11_6 ltA_12_1 ltA_12_2 ltA_12_3 ltA_12_4 ltA_12_5 ltA_12_6
attribute [local go_sem] run_eq4

theorem edV_full {a b : Int} {zs : List Int} {x y t : Int} (h : edB a b zs x y t = true) : ∃ (f g : Nat → Int) (c' : Int) (u l : Bool), edV a b zs x y t = #[.int .i64 (f 0), .int .i64 (f 1), .int .i64 (f 2), .int .i64 (f 3), .int .i64 (g 0), .int .i64 (g 1), .int .i64 (g 2), .int .i64 (g 3), .int .i64 c', .bool u, .bool l] ∧ f = eUp a b zs x y t ∧ g = eLe a b zs x y ∧ c' = eCo a b zs x y t ∧ u = decide (t < y) ∧ l = decide (0 < x) :=
  ⟨_, _, _, _, _, by rw [edV, if_pos h]; rfl, rfl, rfl, rfl, rfl, rfl⟩
theorem ed_valid {a b : Int} {zs : List Int} {x y t : Int} (h : M.samplesB zs = true) : M.samplesB [eUp a b zs x y t 0, eUp a b zs x y t 1, eUp a b zs x y t 2, eUp a b zs x y t 3] = true ∧ M.samplesB [eLe a b zs x y 0, eLe a b zs x y 1, eLe a b zs x y 2, eLe a b zs x y 3] = true ∧ M.inB (eCo a b zs x y t) 0 255 = true := by
  have h1 : ∀ i, M.inB (eUp a b zs x y t i) 0 255 = true := fun i => by
    have := pix_bd (a := a) (b := b) h (x + i) (y - 1)
    unfold eUp; split <;> simp [M.inB] <;> omega
  have h2 : ∀ i, M.inB (eLe a b zs x y i) 0 255 = true := fun i => by
    have := pix_bd (a := a) (b := b) h (x - 1) (y + i)
    unfold eLe; split <;> simp [M.inB] <;> omega
  have h3 : M.inB (eCo a b zs x y t) 0 255 = true := by
    have := pix_bd (a := a) (b := b) h (x - 1) (y - 1)
    unfold eCo; split <;> simp [M.inB] <;> omega
  refine ⟨?_, ?_, h3⟩
  · simp only [M.samplesB, List.all_cons, List.all_nil, h1, Bool.and_true]
  · simp only [M.samplesB, List.all_cons, List.all_nil, h2, Bool.and_true]

set_option maxHeartbeats 4000000 in
set_option maxRecDepth 100000 in
theorem walk (a_cs : Option Addr) (len_cs cap_cs : Nat) (cs : List Int) (w : World) (w_cs : IsRow .u8 w a_cs len_cs cap_cs cs) :
    Calls Try.prog 5 #[.slice a_cs len_cs cap_cs] w fun e w' => e = .returned (.bool true) ∧ Below w.heap.size w w' := by
  have hlm := (RowAt.of_row w_cs).2.2.1
  unfold maxLen at hlm
  have HI := Lib.hid w_cs
  clear w_cs
  by_cases hbig : 1048576 < len_cs
  · go_enter Try.func5, Try.ntmps5
    go_wp2
    go_returns
    exact ⟨rfl, (by repeat' (first | (with_reducible exact Below.refl _ _) | (with_reducible refine Below.adds_ ?_ ?_ _ _) | (with_reducible refine Below.alloc ?_ ?_ _) | (with_reducible refine Below.drew ?_) | (with_reducible refine Below.setCell ?_ ?_ _) | (with_reducible assumption) | go_size | (simp only [size_addsW, World.size_alloc, World.size_drew, World.size_setCell]; omega)))⟩
  · go_enter Try.func5, Try.ntmps5
    go_wp2_with fail
    refine (S_DrawEdgesAt _ _ _ cs _ (IsRow.keep HI.out (by repeat' (first | (with_reducible exact Below.refl _ _) | (with_reducible refine Below.adds_ ?_ ?_ _ _) | (with_reducible refine Below.alloc ?_ ?_ _) | (with_reducible refine Below.drew ?_) | (with_reducible refine Below.setCell ?_ ?_ _) | (with_reducible assumption) | go_size | (simp only [size_addsW, World.size_alloc, World.size_drew, World.size_setCell]; omega))))).mono ?_
    rintro e w1 ⟨a, b, x, y, t, A, c, zs, rfl, hx0, hx1, hy0, hy1, ht0, ht1, ha0, ha1, hb0, hb1, hz, hzc, hcm, hrow, hb⟩
    have B1 := Lib.hid hb
    have R := Lib.hid hrow
    have z1 := hb.size
    clear hb hrow hzc hcm
    cases hok : edB a b zs x y t
    · have hE := edV_bad hok
      go_wp2_with fail
      refine (I_EdgesAt a b x y t A c zs _ (R.out.keep (by repeat' (first | (with_reducible exact Below.refl _ _) | (with_reducible refine Below.adds_ ?_ ?_ _ _) | (with_reducible refine Below.alloc ?_ ?_ _) | (with_reducible refine Below.drew ?_) | (with_reducible refine Below.setCell ?_ ?_ _) | (with_reducible assumption) | go_size | (simp only [size_addsW, World.size_alloc, World.size_drew, World.size_setCell]; omega)))) (by omega) (by omega) (by omega)).mono ?_
      rw [hE]
      rintro e w2 ⟨rfl, hb⟩
      obtain ⟨o2, n2, rfl⟩ := below_adds hb
      clear hb
      go_upto_region 5 with fail
      refine all_add' ?_
      intro Y hY
      have hYw : Below w1.heap.size w1 Y := by rw [hY]; exact (by repeat' (first | (with_reducible exact Below.refl _ _) | (with_reducible refine Below.adds_ ?_ ?_ _ _) | (with_reducible refine Below.alloc ?_ ?_ _) | (with_reducible refine Below.drew ?_) | (with_reducible refine Below.setCell ?_ ?_ _) | (with_reducible assumption) | go_size | (simp only [size_addsW, World.size_alloc, World.size_drew, World.size_setCell]; omega)))
      have b3 : Blk Y w1.heap.size #[.int .i64 a, .int .i64 b, .slice A zs.length c] 27 := by
        rw [hY]; exact ((Blk.new w1 _ _ _ rfl).adds _ _).alloc _
      have b7 : Blk Y (w1.heap.size + 1 + o2.size) #[.int .i64 0, .int .i64 0, .int .i64 0, .int .i64 0, .int .i64 0, .int .i64 0, .int .i64 0, .int .i64 0, .int .i64 0, .bool false, .bool false] 38 := by
        rw [hY]; exact Blk.new _ _ _ _ (by simp [size_addsW])
      clear hY
      generalize w1.heap.size + 1 + o2.size = k7 at b7 ⊢
      have RY := Lib.hid (R.out.keep hYw)
      have HYw := Lib.hid (B1.out.trans (hYw.mono z1))
      have l3 := b3.lt
      have l7 := b7.lt
      clear hYw
      generalize w1.heap.size = g3 at b3 l3 ⊢
      have k0 := b3.get (i := 0) rfl
      have k1 := b3.get (i := 1) rfl
      have k2 := b3.get (i := 2) rfl
      have m0 : Y.cell? ⟨k7, 0, none⟩ = some (.int .i64 0) := b7.get rfl
      have m1 : Y.cell? ⟨k7, 1, none⟩ = some (.int .i64 0) := b7.get rfl
      have m2 : Y.cell? ⟨k7, 2, none⟩ = some (.int .i64 0) := b7.get rfl
      have m3 : Y.cell? ⟨k7, 3, none⟩ = some (.int .i64 0) := b7.get rfl
      have m4 : Y.cell? ⟨k7, 4, none⟩ = some (.int .i64 0) := b7.get rfl
      have m5 : Y.cell? ⟨k7, 5, none⟩ = some (.int .i64 0) := b7.get rfl
      have m6 : Y.cell? ⟨k7, 6, none⟩ = some (.int .i64 0) := b7.get rfl
      have m7 : Y.cell? ⟨k7, 7, none⟩ = some (.int .i64 0) := b7.get rfl
      have m8 : Y.cell? ⟨k7, 8, none⟩ = some (.int .i64 0) := b7.get rfl
      have m9 : Y.cell? ⟨k7, 9, none⟩ = some (.bool false) := b7.get rfl
      have m10 : Y.cell? ⟨k7, 10, none⟩ = some (.bool false) := b7.get rfl
      go_cut [32] (fun s wx => s = .bool false ∧ Below Y.heap.size Y wx)
      case first =>
        go_region_held3 (fun w' => w'.cell? ⟨g3, 0, none⟩ = some (.int .i64 a) ∧ w'.cell? ⟨g3, 1, none⟩ = some (.int .i64 b) ∧ w'.cell? ⟨g3, 2, none⟩ = some (.slice A zs.length c) ∧ w'.cell? ⟨k7, 0, none⟩ = some (.int .i64 0) ∧ w'.cell? ⟨k7, 1, none⟩ = some (.int .i64 0) ∧ w'.cell? ⟨k7, 2, none⟩ = some (.int .i64 0) ∧ w'.cell? ⟨k7, 3, none⟩ = some (.int .i64 0) ∧ w'.cell? ⟨k7, 4, none⟩ = some (.int .i64 0) ∧ w'.cell? ⟨k7, 5, none⟩ = some (.int .i64 0) ∧ w'.cell? ⟨k7, 6, none⟩ = some (.int .i64 0) ∧ w'.cell? ⟨k7, 7, none⟩ = some (.int .i64 0) ∧ w'.cell? ⟨k7, 8, none⟩ = some (.int .i64 0) ∧ w'.cell? ⟨k7, 9, none⟩ = some (.bool false) ∧ w'.cell? ⟨k7, 10, none⟩ = some (.bool false)) (first | (go_simp; done) | (go_keep; done))
          (first | (go_at_call 24; refine (S_EdgesAt a b x y t A c zs _ (RY.out.keep (by repeat' (first | (with_reducible exact Below.refl _ _) | (with_reducible refine Below.adds_ ?_ ?_ _ _) | (with_reducible refine Below.alloc ?_ ?_ _) | (with_reducible refine Below.drew ?_) | (with_reducible refine Below.setCell ?_ ?_ _) | (with_reducible assumption) | go_size | (simp only [size_addsW, World.size_alloc, World.size_drew, World.size_setCell]; omega)))) (by omega) (by omega) (by omega)).mono ?_; rw [hE]; rintro e w' ⟨rfl, hb⟩; obtain ⟨q5, m5, rfl⟩ := below_adds hb; clear hb))
        all_goals
          go_wp2_with fail
          go_meet
          exact ⟨by first | rfl | simp, (by repeat' (first | (with_reducible exact Below.refl _ _) | (with_reducible refine Below.adds_ ?_ ?_ _ _) | (with_reducible refine Below.alloc ?_ ?_ _) | (with_reducible refine Below.drew ?_) | (with_reducible refine Below.setCell ?_ ?_ _) | (with_reducible assumption) | go_size | (simp only [size_addsW, World.size_alloc, World.size_drew, World.size_setCell]; omega)))⟩
      case rest =>
        obtain ⟨rfl, hbc⟩ := hcut
        have d3 := b3.below hbc l3
        have d7 := b7.below hbc l7
        have HBC := Lib.hid hbc
        have hzc := hbc.size
        clear k0 k1 k2 m0 m1 m2 m3 m4 m5 m6 m7 m8 m9 m10 hbc
        have k0 := d3.get (i := 0) rfl
        have k1 := d3.get (i := 1) rfl
        have k2 := d3.get (i := 2) rfl
        have RC := Lib.hid (RY.out.keep HBC.out)
        have m0 : wc.cell? ⟨k7, 0, none⟩ = some (.int .i64 0) := d7.get rfl
        have m1 : wc.cell? ⟨k7, 1, none⟩ = some (.int .i64 0) := d7.get rfl
        have m2 : wc.cell? ⟨k7, 2, none⟩ = some (.int .i64 0) := d7.get rfl
        have m3 : wc.cell? ⟨k7, 3, none⟩ = some (.int .i64 0) := d7.get rfl
        have m4 : wc.cell? ⟨k7, 4, none⟩ = some (.int .i64 0) := d7.get rfl
        have m5 : wc.cell? ⟨k7, 5, none⟩ = some (.int .i64 0) := d7.get rfl
        have m6 : wc.cell? ⟨k7, 6, none⟩ = some (.int .i64 0) := d7.get rfl
        have m7 : wc.cell? ⟨k7, 7, none⟩ = some (.int .i64 0) := d7.get rfl
        have m8 : wc.cell? ⟨k7, 8, none⟩ = some (.int .i64 0) := d7.get rfl
        have m9 : wc.cell? ⟨k7, 9, none⟩ = some (.bool false) := d7.get rfl
        have m10 : wc.cell? ⟨k7, 10, none⟩ = some (.bool false) := d7.get rfl
        have lc3 := d3.lt
        have lc7 := d7.lt
        cases hv : picB a b zs
        · clear hok
          go_wp2_with (first | (go_at_call 25; refine (S_PictureValid a b _ _ zs _ (RC.out.keep (by repeat' (first | (with_reducible exact Below.refl _ _) | (with_reducible refine Below.adds_ ?_ ?_ _ _) | (with_reducible refine Below.alloc ?_ ?_ _) | (with_reducible refine Below.drew ?_) | (with_reducible refine Below.setCell ?_ ?_ _) | (with_reducible assumption) | go_size | (simp only [size_addsW, World.size_alloc, World.size_drew, World.size_setCell]; omega)))) (by omega)).mono ?_; rw [hv]; rintro e w' ⟨rfl, hb⟩; obtain ⟨o1, n1, rfl⟩ := below_adds hb; clear hb) | (go_at_call 26; refine (L_alive _).mono ?_; rintro e w' ⟨rfl, hb⟩; obtain ⟨o1, n1, rfl⟩ := below_adds hb; clear hb))
          go_returns
          exact ⟨by first | rfl | simp, HYw.out.trans ((HBC.out.trans ((show Below wc.heap.size wc _ from (by repeat' (first | (with_reducible exact Below.refl _ _) | (with_reducible refine Below.adds_ ?_ ?_ _ _) | (with_reducible refine Below.alloc ?_ ?_ _) | (with_reducible refine Below.drew ?_) | (with_reducible refine Below.setCell ?_ ?_ _) | (with_reducible assumption) | go_size | (simp only [size_addsW, World.size_alloc, World.size_drew, World.size_setCell]; omega)))).mono hzc)).mono HYw.out.size)⟩
        · have hbd := picB_bd hv
          have HV := Lib.hid hv
          have s4 := sideB_bd (picB_iff.1 hv).1
          have s5 := sideB_bd (picB_iff.1 hv).2.1
          have hno : ¬ (0 ≤ x ∧ x < a ∧ x % 4 = 0 ∧ 0 ≤ y ∧ y < b ∧ y % 4 = 0 ∧ 0 ≤ t ∧ t ≤ y) := by
            intro h; simp [edB, hv, h] at hok
          clear hv hok
          rcases (show x < 0 ∨ (¬ x < 0 ∧ y < 0) ∨ (¬ x < 0 ∧ ¬ y < 0 ∧ a - 4 < x) ∨ (¬ x < 0 ∧ ¬ y < 0 ∧ ¬ a - 4 < x ∧ b - 4 < y) ∨ (¬ x < 0 ∧ ¬ y < 0 ∧ ¬ a - 4 < x ∧ ¬ b - 4 < y ∧ ¬ x % 4 = 0) ∨ (¬ x < 0 ∧ ¬ y < 0 ∧ ¬ a - 4 < x ∧ ¬ b - 4 < y ∧ x % 4 = 0 ∧ ¬ y % 4 = 0) ∨ (¬ x < 0 ∧ ¬ y < 0 ∧ ¬ a - 4 < x ∧ ¬ b - 4 < y ∧ x % 4 = 0 ∧ y % 4 = 0 ∧ t < 0) ∨ (¬ x < 0 ∧ ¬ y < 0 ∧ ¬ a - 4 < x ∧ ¬ b - 4 < y ∧ x % 4 = 0 ∧ y % 4 = 0 ∧ ¬ t < 0 ∧ y < t) by omega) with h1 | ⟨h1, h2⟩ | ⟨h1, h2, h3⟩ | ⟨h1, h2, h3, h6⟩ | ⟨h1, h2, h3, h6, h7⟩ | ⟨h1, h2, h3, h6, h7, h8⟩ | ⟨h1, h2, h3, h6, h7, h8, h9⟩ | ⟨h1, h2, h3, h6, h7, h8, h9, h10⟩
          all_goals
            clear hno
            try have g1 : 0 ≤ x := by omega
            try have g2 : 0 ≤ y := by omega
            try have e5 : (x % 4 != 0) = true := by simp only [bne_iff_ne, ne_eq]; omega
            try have e6 : (y % 4 != 0) = true := by simp only [bne_iff_ne, ne_eq]; omega
            go_wp2_with (first | (go_at_call 25; refine (S_PictureValid a b _ _ zs _ (RC.out.keep (by repeat' (first | (with_reducible exact Below.refl _ _) | (with_reducible refine Below.adds_ ?_ ?_ _ _) | (with_reducible refine Below.alloc ?_ ?_ _) | (with_reducible refine Below.drew ?_) | (with_reducible refine Below.setCell ?_ ?_ _) | (with_reducible assumption) | go_size | (simp only [size_addsW, World.size_alloc, World.size_drew, World.size_setCell]; omega)))) (by omega)).mono ?_; rw [HV.out]; rintro e w' ⟨rfl, hb⟩; obtain ⟨o1, n1, rfl⟩ := below_adds hb; clear hb) | (go_at_call 26; refine (L_alive _).mono ?_; rintro e w' ⟨rfl, hb⟩; obtain ⟨o1, n1, rfl⟩ := below_adds hb; clear hb))
            go_returns
            exact ⟨by first | rfl | simp, HYw.out.trans ((HBC.out.trans ((show Below wc.heap.size wc _ from (by repeat' (first | (with_reducible exact Below.refl _ _) | (with_reducible refine Below.adds_ ?_ ?_ _ _) | (with_reducible refine Below.alloc ?_ ?_ _) | (with_reducible refine Below.drew ?_) | (with_reducible refine Below.setCell ?_ ?_ _) | (with_reducible assumption) | go_size | (simp only [size_addsW, World.size_alloc, World.size_drew, World.size_setCell]; omega)))).mono hzc)).mono HYw.out.size)⟩
    · obtain ⟨hv, h1, h2, h3, h4, h5, h6, h7, h8⟩ := edB_bd hok
      obtain ⟨f, g, c', u, l, hE, hf, hg, hc', hu, hl⟩ := edV_full hok
      have hbd := picB_bd hv
      have HV := Lib.hid hv
      have s4 := sideB_bd (picB_iff.1 hv).1
      have s5 := sideB_bd (picB_iff.1 hv).2.1
      have HF := Lib.hid hf
      have HG := Lib.hid hg
      have HC := Lib.hid hc'
      have HU := Lib.hid hu
      have HL := Lib.hid hl
      clear hok hv hf hg hc' hu hl
      go_wp2_with fail
      refine (I_EdgesAt a b x y t A c zs _ (R.out.keep (by repeat' (first | (with_reducible exact Below.refl _ _) | (with_reducible refine Below.adds_ ?_ ?_ _ _) | (with_reducible refine Below.alloc ?_ ?_ _) | (with_reducible refine Below.drew ?_) | (with_reducible refine Below.setCell ?_ ?_ _) | (with_reducible assumption) | go_size | (simp only [size_addsW, World.size_alloc, World.size_drew, World.size_setCell]; omega)))) (by omega) (by omega) (by omega)).mono ?_
      rw [hE]
      rintro e w2 ⟨rfl, hb⟩
      obtain ⟨o2, n2, rfl⟩ := below_adds hb
      clear hb
      go_upto_region 5 with fail
      refine all_add' ?_
      intro Y hY
      have hYw : Below w1.heap.size w1 Y := by rw [hY]; exact (by repeat' (first | (with_reducible exact Below.refl _ _) | (with_reducible refine Below.adds_ ?_ ?_ _ _) | (with_reducible refine Below.alloc ?_ ?_ _) | (with_reducible refine Below.drew ?_) | (with_reducible refine Below.setCell ?_ ?_ _) | (with_reducible assumption) | go_size | (simp only [size_addsW, World.size_alloc, World.size_drew, World.size_setCell]; omega)))
      have b3 : Blk Y w1.heap.size #[.int .i64 a, .int .i64 b, .slice A zs.length c] 27 := by
        rw [hY]; exact ((Blk.new w1 _ _ _ rfl).adds _ _).alloc _
      have b7 : Blk Y (w1.heap.size + 1 + o2.size) #[.int .i64 (f 0), .int .i64 (f 1), .int .i64 (f 2), .int .i64 (f 3), .int .i64 (g 0), .int .i64 (g 1), .int .i64 (g 2), .int .i64 (g 3), .int .i64 c', .bool u, .bool l] 38 := by
        rw [hY]; exact Blk.new _ _ _ _ (by simp [size_addsW])
      clear hY
      generalize w1.heap.size + 1 + o2.size = k7 at b7 ⊢
      have RY := Lib.hid (R.out.keep hYw)
      have HYw := Lib.hid (B1.out.trans (hYw.mono z1))
      have l3 := b3.lt
      have l7 := b7.lt
      clear hYw
      generalize w1.heap.size = g3 at b3 l3 ⊢
      have k0 := b3.get (i := 0) rfl
      have k1 := b3.get (i := 1) rfl
      have k2 := b3.get (i := 2) rfl
      have m0 : Y.cell? ⟨k7, 0, none⟩ = some (.int .i64 (f 0)) := b7.get rfl
      have m1 : Y.cell? ⟨k7, 1, none⟩ = some (.int .i64 (f 1)) := b7.get rfl
      have m2 : Y.cell? ⟨k7, 2, none⟩ = some (.int .i64 (f 2)) := b7.get rfl
      have m3 : Y.cell? ⟨k7, 3, none⟩ = some (.int .i64 (f 3)) := b7.get rfl
      have m4 : Y.cell? ⟨k7, 4, none⟩ = some (.int .i64 (g 0)) := b7.get rfl
      have m5 : Y.cell? ⟨k7, 5, none⟩ = some (.int .i64 (g 1)) := b7.get rfl
      have m6 : Y.cell? ⟨k7, 6, none⟩ = some (.int .i64 (g 2)) := b7.get rfl
      have m7 : Y.cell? ⟨k7, 7, none⟩ = some (.int .i64 (g 3)) := b7.get rfl
      have m8 : Y.cell? ⟨k7, 8, none⟩ = some (.int .i64 c') := b7.get rfl
      have m9 : Y.cell? ⟨k7, 9, none⟩ = some (.bool u) := b7.get rfl
      have m10 : Y.cell? ⟨k7, 10, none⟩ = some (.bool l) := b7.get rfl
      go_cut [32] (fun s wx => s = .bool false ∧ Below Y.heap.size Y wx)
      case first =>
        go_region_held3 (fun w' => w'.cell? ⟨g3, 0, none⟩ = some (.int .i64 a) ∧ w'.cell? ⟨g3, 1, none⟩ = some (.int .i64 b) ∧ w'.cell? ⟨g3, 2, none⟩ = some (.slice A zs.length c) ∧ w'.cell? ⟨k7, 0, none⟩ = some (.int .i64 (f 0)) ∧ w'.cell? ⟨k7, 1, none⟩ = some (.int .i64 (f 1)) ∧ w'.cell? ⟨k7, 2, none⟩ = some (.int .i64 (f 2)) ∧ w'.cell? ⟨k7, 3, none⟩ = some (.int .i64 (f 3)) ∧ w'.cell? ⟨k7, 4, none⟩ = some (.int .i64 (g 0)) ∧ w'.cell? ⟨k7, 5, none⟩ = some (.int .i64 (g 1)) ∧ w'.cell? ⟨k7, 6, none⟩ = some (.int .i64 (g 2)) ∧ w'.cell? ⟨k7, 7, none⟩ = some (.int .i64 (g 3)) ∧ w'.cell? ⟨k7, 8, none⟩ = some (.int .i64 c') ∧ w'.cell? ⟨k7, 9, none⟩ = some (.bool u) ∧ w'.cell? ⟨k7, 10, none⟩ = some (.bool l)) (first | (go_simp; done) | (go_keep; done))
          (first | (go_at_call 24; refine (S_EdgesAt a b x y t A c zs _ (RY.out.keep (by repeat' (first | (with_reducible exact Below.refl _ _) | (with_reducible refine Below.adds_ ?_ ?_ _ _) | (with_reducible refine Below.alloc ?_ ?_ _) | (with_reducible refine Below.drew ?_) | (with_reducible refine Below.setCell ?_ ?_ _) | (with_reducible assumption) | go_size | (simp only [size_addsW, World.size_alloc, World.size_drew, World.size_setCell]; omega)))) (by omega) (by omega) (by omega)).mono ?_; rw [hE]; rintro e w' ⟨rfl, hb⟩; obtain ⟨q5, m5, rfl⟩ := below_adds hb; clear hb))
        all_goals
          go_wp2_with fail
          go_meet
          exact ⟨by first | rfl | simp, (by repeat' (first | (with_reducible exact Below.refl _ _) | (with_reducible refine Below.adds_ ?_ ?_ _ _) | (with_reducible refine Below.alloc ?_ ?_ _) | (with_reducible refine Below.drew ?_) | (with_reducible refine Below.setCell ?_ ?_ _) | (with_reducible assumption) | go_size | (simp only [size_addsW, World.size_alloc, World.size_drew, World.size_setCell]; omega)))⟩
      case rest =>
        obtain ⟨rfl, hbc⟩ := hcut
        have d3 := b3.below hbc l3
        have d7 := b7.below hbc l7
        have HBC := Lib.hid hbc
        have hzc := hbc.size
        clear k0 k1 k2 m0 m1 m2 m3 m4 m5 m6 m7 m8 m9 m10 hbc
        have k0 := d3.get (i := 0) rfl
        have k1 := d3.get (i := 1) rfl
        have k2 := d3.get (i := 2) rfl
        have RC := Lib.hid (RY.out.keep HBC.out)
        have m0 : wc.cell? ⟨k7, 0, none⟩ = some (.int .i64 (f 0)) := d7.get rfl
        have m1 : wc.cell? ⟨k7, 1, none⟩ = some (.int .i64 (f 1)) := d7.get rfl
        have m2 : wc.cell? ⟨k7, 2, none⟩ = some (.int .i64 (f 2)) := d7.get rfl
        have m3 : wc.cell? ⟨k7, 3, none⟩ = some (.int .i64 (f 3)) := d7.get rfl
        have m4 : wc.cell? ⟨k7, 4, none⟩ = some (.int .i64 (g 0)) := d7.get rfl
        have m5 : wc.cell? ⟨k7, 5, none⟩ = some (.int .i64 (g 1)) := d7.get rfl
        have m6 : wc.cell? ⟨k7, 6, none⟩ = some (.int .i64 (g 2)) := d7.get rfl
        have m7 : wc.cell? ⟨k7, 7, none⟩ = some (.int .i64 (g 3)) := d7.get rfl
        have m8 : wc.cell? ⟨k7, 8, none⟩ = some (.int .i64 c') := d7.get rfl
        have m9 : wc.cell? ⟨k7, 9, none⟩ = some (.bool u) := d7.get rfl
        have m10 : wc.cell? ⟨k7, 10, none⟩ = some (.bool l) := d7.get rfl
        have lc3 := d3.lt
        have lc7 := d7.lt
        have q1 : ¬ x < 0 := by omega
        have q2 : ¬ y < 0 := by omega
        have q3 : ¬ a - 4 < x := by omega
        have q4 : ¬ b - 4 < y := by omega
        have q5 : ¬ t < 0 := by omega
        have q6 : ¬ y < t := by omega
        go_wp2_with (go_at_call 25; refine (S_PictureValid a b _ _ zs _ (RC.out.keep (by repeat' (first | (with_reducible exact Below.refl _ _) | (with_reducible refine Below.adds_ ?_ ?_ _ _) | (with_reducible refine Below.alloc ?_ ?_ _) | (with_reducible refine Below.drew ?_) | (with_reducible refine Below.setCell ?_ ?_ _) | (with_reducible assumption) | go_size | (simp only [size_addsW, World.size_alloc, World.size_drew, World.size_setCell]; omega)))) (by omega)).mono ?_; rw [HV.out]; rintro e w' ⟨rfl, hb⟩; obtain ⟨o1, n1, rfl⟩ := below_adds hb; clear hb)
        have hc0 : Below wc.heap.size wc (addsW wc o1 n1) := (by repeat' (first | (with_reducible exact Below.refl _ _) | (with_reducible refine Below.adds_ ?_ ?_ _ _) | (with_reducible refine Below.alloc ?_ ?_ _) | (with_reducible refine Below.drew ?_) | (with_reducible refine Below.setCell ?_ ?_ _) | (with_reducible assumption) | go_size | (simp only [size_addsW, World.size_alloc, World.size_drew, World.size_setCell]; omega)))
        go_loopw [8] (fun i wr => ∃ k : Nat, i = .int .i64 (k : Int) ∧ k ≤ 4 ∧ Below wc.heap.size wc wr) (fun i _ => 4 - (intOf i).toNat)
        case atStart => exact ⟨0, rfl, by omega, hc0⟩
        case round =>
          clear k0 k1 k2 m0 m1 m2 m3 m4 m5 m6 m7 m8 m9 m10
          obtain ⟨k, rfl, hk, hbr⟩ := hrel
          have e3 := d3.below hbr lc3
          have e7 := d7.below hbr lc7
          have HBR := Lib.hid hbr
          have RR := Lib.hid (RC.out.keep hbr)
          clear hbr
          have k0 := e3.get (i := 0) rfl
          have k1 := e3.get (i := 1) rfl
          have k2 := e3.get (i := 2) rfl
          have le3 := e3.lt
          have le7 := e7.lt
          by_cases hlt : k < 4
          · have hd1 : (k : Int) < 4 := by omega
            have mu : wr.cell? ⟨k7, k, none⟩ = some (.int .i64 (f k)) := (show Blk wr k7 (eA f g c' u l) _ from e7).get (eA_up hlt)
            have ml : wr.cell? ⟨k7, 4 + k, none⟩ = some (.int .i64 (g k)) := (show Blk wr k7 (eA f g c' u l) _ from e7).get (eA_left hlt)
            have CU := Lib.hid (show t < y → ∀ W, Below wr.heap.size wr W → Calls Try.prog 27 #[.agg #[.int .i64 a, .int .i64 b, .slice A zs.length c], .int .i64 (x + (k : Int)), .int .i64 (y - 1)] W fun e w' => e = .returned (.int .i64 (f k)) ∧ Below W.heap.size W w' from fun h W hb => by
              have hs := I_SampleAt a b (x + (k : Int)) (y - 1) A c zs W (RR.out.keep hb) (by omega)
              rw [sampV, if_pos HV.out] at hs
              rw [HF.out, eUp, if_pos h]; exact hs)
            have CL := Lib.hid (show 0 < x → ∀ W, Below wr.heap.size wr W → Calls Try.prog 27 #[.agg #[.int .i64 a, .int .i64 b, .slice A zs.length c], .int .i64 (x - 1), .int .i64 (y + (k : Int))] W fun e w' => e = .returned (.int .i64 (g k)) ∧ Below W.heap.size W w' from fun h W hb => by
              have hs := I_SampleAt a b (x - 1) (y + (k : Int)) A c zs W (RR.out.keep hb) (by omega)
              rw [sampV, if_pos HV.out] at hs
              rw [HG.out, eLe, if_pos h]; exact hs)
            have NU := Lib.hid (show ¬ t < y → f k = 128 from fun h => by rw [HF.out, eUp, if_neg h])
            have NL := Lib.hid (show ¬ 0 < x → g k = 128 from fun h => by rw [HG.out, eLe, if_neg h])
            by_cases hty : t < y
            · by_cases hxp : 0 < x
              · have cu := Lib.hid (CU.out hty)
                have cl := Lib.hid (CL.out hxp)
                clear CU CL NU NL
                go_wp2_with (go_at_call 27; (first | with_reducible refine (cu.out _ (by repeat' (first | (with_reducible exact Below.refl _ _) | (with_reducible refine Below.adds_ ?_ ?_ _ _) | (with_reducible refine Below.alloc ?_ ?_ _) | (with_reducible refine Below.drew ?_) | (with_reducible refine Below.setCell ?_ ?_ _) | (with_reducible assumption) | go_size | (simp only [size_addsW, World.size_alloc, World.size_drew, World.size_setCell]; omega)))).mono ?_ | with_reducible refine (cl.out _ (by repeat' (first | (with_reducible exact Below.refl _ _) | (with_reducible refine Below.adds_ ?_ ?_ _ _) | (with_reducible refine Below.alloc ?_ ?_ _) | (with_reducible refine Below.drew ?_) | (with_reducible refine Below.setCell ?_ ?_ _) | (with_reducible assumption) | go_size | (simp only [size_addsW, World.size_alloc, World.size_drew, World.size_setCell]; omega)))).mono ?_); rintro e w' ⟨rfl, hb⟩; obtain ⟨o4, n4, rfl⟩ := below_adds hb; clear hb)
                go_roundw
                case rel => exact ⟨k + 1, by go_num, by omega, HBR.out.trans ((show Below wr.heap.size wr _ from (by repeat' (first | (with_reducible exact Below.refl _ _) | (with_reducible refine Below.adds_ ?_ ?_ _ _) | (with_reducible refine Below.alloc ?_ ?_ _) | (with_reducible refine Below.drew ?_) | (with_reducible refine Below.setCell ?_ ?_ _) | (with_reducible assumption) | go_size | (simp only [size_addsW, World.size_alloc, World.size_drew, World.size_setCell]; omega)))).mono HBR.out.size)⟩
                case measure => simp [intOf]; omega
              · have cu := Lib.hid (CU.out hty)
                have nl := NL.out hxp
                rw [nl] at ml
                clear CU CL NU NL
                go_wp2_with (go_at_call 27; (with_reducible refine (cu.out _ (by repeat' (first | (with_reducible exact Below.refl _ _) | (with_reducible refine Below.adds_ ?_ ?_ _ _) | (with_reducible refine Below.alloc ?_ ?_ _) | (with_reducible refine Below.drew ?_) | (with_reducible refine Below.setCell ?_ ?_ _) | (with_reducible assumption) | go_size | (simp only [size_addsW, World.size_alloc, World.size_drew, World.size_setCell]; omega)))).mono ?_); rintro e w' ⟨rfl, hb⟩; obtain ⟨o4, n4, rfl⟩ := below_adds hb; clear hb)
                go_roundw
                case rel => exact ⟨k + 1, by go_num, by omega, HBR.out.trans ((show Below wr.heap.size wr _ from (by repeat' (first | (with_reducible exact Below.refl _ _) | (with_reducible refine Below.adds_ ?_ ?_ _ _) | (with_reducible refine Below.alloc ?_ ?_ _) | (with_reducible refine Below.drew ?_) | (with_reducible refine Below.setCell ?_ ?_ _) | (with_reducible assumption) | go_size | (simp only [size_addsW, World.size_alloc, World.size_drew, World.size_setCell]; omega)))).mono HBR.out.size)⟩
                case measure => simp [intOf]; omega
            · have nu := NU.out hty
              rw [nu] at mu
              by_cases hxp : 0 < x
              · have cl := Lib.hid (CL.out hxp)
                clear CU CL NU NL
                go_wp2_with (go_at_call 27; (with_reducible refine (cl.out _ (by repeat' (first | (with_reducible exact Below.refl _ _) | (with_reducible refine Below.adds_ ?_ ?_ _ _) | (with_reducible refine Below.alloc ?_ ?_ _) | (with_reducible refine Below.drew ?_) | (with_reducible refine Below.setCell ?_ ?_ _) | (with_reducible assumption) | go_size | (simp only [size_addsW, World.size_alloc, World.size_drew, World.size_setCell]; omega)))).mono ?_); rintro e w' ⟨rfl, hb⟩; obtain ⟨o4, n4, rfl⟩ := below_adds hb; clear hb)
                go_roundw
                case rel => exact ⟨k + 1, by go_num, by omega, HBR.out.trans ((show Below wr.heap.size wr _ from (by repeat' (first | (with_reducible exact Below.refl _ _) | (with_reducible refine Below.adds_ ?_ ?_ _ _) | (with_reducible refine Below.alloc ?_ ?_ _) | (with_reducible refine Below.drew ?_) | (with_reducible refine Below.setCell ?_ ?_ _) | (with_reducible assumption) | go_size | (simp only [size_addsW, World.size_alloc, World.size_drew, World.size_setCell]; omega)))).mono HBR.out.size)⟩
                case measure => simp [intOf]; omega
              · have nl := NL.out hxp
                rw [nl] at ml
                clear CU CL NU NL
                go_wp2_with fail
                go_roundw
                case rel => exact ⟨k + 1, by go_num, by omega, HBR.out.trans ((show Below wr.heap.size wr _ from (by repeat' (first | (with_reducible exact Below.refl _ _) | (with_reducible refine Below.adds_ ?_ ?_ _ _) | (with_reducible refine Below.alloc ?_ ?_ _) | (with_reducible refine Below.drew ?_) | (with_reducible refine Below.setCell ?_ ?_ _) | (with_reducible assumption) | go_size | (simp only [size_addsW, World.size_alloc, World.size_drew, World.size_setCell]; omega)))).mono HBR.out.size)⟩
                case measure => simp [intOf]; omega
          · obtain rfl : k = 4 := by omega
            have m0 : wr.cell? ⟨k7, 0, none⟩ = some (.int .i64 (f 0)) := e7.get rfl
            have m1 : wr.cell? ⟨k7, 1, none⟩ = some (.int .i64 (f 1)) := e7.get rfl
            have m2 : wr.cell? ⟨k7, 2, none⟩ = some (.int .i64 (f 2)) := e7.get rfl
            have m3 : wr.cell? ⟨k7, 3, none⟩ = some (.int .i64 (f 3)) := e7.get rfl
            have m4 : wr.cell? ⟨k7, 4, none⟩ = some (.int .i64 (g 0)) := e7.get rfl
            have m5 : wr.cell? ⟨k7, 5, none⟩ = some (.int .i64 (g 1)) := e7.get rfl
            have m6 : wr.cell? ⟨k7, 6, none⟩ = some (.int .i64 (g 2)) := e7.get rfl
            have m7 : wr.cell? ⟨k7, 7, none⟩ = some (.int .i64 (g 3)) := e7.get rfl
            have m8 : wr.cell? ⟨k7, 8, none⟩ = some (.int .i64 c') := e7.get rfl
            have m9 : wr.cell? ⟨k7, 9, none⟩ = some (.bool u) := e7.get rfl
            have m10 : wr.cell? ⟨k7, 10, none⟩ = some (.bool l) := e7.get rfl
            obtain ⟨v1, v2, v3⟩ := ed_valid (a := a) (b := b) (x := x) (y := y) (t := t) (picB_iff.1 HV.out).2.2.2
            rw [← HF.out] at v1
            rw [← HG.out] at v2
            rw [← HC.out] at v3
            have CE := Lib.hid (fun W => I_EdgesValid f g c' u l W v1 v2 v3)
            clear v1 v2 v3
            obtain rfl := HU.out
            obtain rfl := HL.out
            go_wp2_with (go_at_call 28; refine (CE.out _).mono ?_; rintro e w' ⟨rfl, hb⟩; obtain ⟨o4, n4, rfl⟩ := below_adds hb; clear hb)
            go_returns
            exact ⟨by first | rfl | simp, HYw.out.trans ((HBC.out.trans ((HBR.out.trans ((show Below wr.heap.size wr _ from (by repeat' (first | (with_reducible exact Below.refl _ _) | (with_reducible refine Below.adds_ ?_ ?_ _ _) | (with_reducible refine Below.alloc ?_ ?_ _) | (with_reducible refine Below.drew ?_) | (with_reducible refine Below.setCell ?_ ?_ _) | (with_reducible assumption) | go_size | (simp only [size_addsW, World.size_alloc, World.size_drew, World.size_setCell]; omega)))).mono HBR.out.size)).mono hzc)).mono HYw.out.size)⟩

set_option maxRecDepth 100000 in
theorem lifted (os : Os) (started : os.Started) (H : Type) (enc : TypeId × Value → H) :
    ReturnsInHanded {} Try.checked os 5 .any (Rows.fnEdgesAtSpec.pre6 enc Try.prog Try.f5 Rows.fnEdgesAtRow.domain false) (Rows.fnEdgesAtSpec.post enc Try.prog Try.f5 false true false false) := by
  refine returnsInHanded_of_change (C := Try.checked) own started (by kernel_rfl) Try.func5
    (ChangeSpec.witness6 (enc := enc) (C := Try.checked) false ⟨#[], #[.slice none 0 0], []⟩ 8 (by kernel_rfl) (by kernel_rfl) (by kernel_rfl) (by kernel_rfl)) ?_
  intro W base args ds gs before hval0 hW hcnd _
  have hval : ∀ (j : Nat) t v, Try.f5.params[j]? = some t → args[j]? = some v → Value.okWide Try.prog W .any base t v := hval0
  have hW' := hW
  obtain ⟨p, q, hA0, hV, rfl, hfz, hnd⟩ := hW
  have hA : DataW.TrodAll enc Try.prog W 0 (fun _ => true) true Try.f5.params.toList args.toList ds p := hA0
  rw [Try.params5] at hA hval
  obtain ⟨v0, vs0, d0, ds0, p0, q0, hargs, rfl, rfl, h0, r0⟩ := trodAll_cons hA
  obtain ⟨rfl, rfl, rfl⟩ := trodAll_nil r0
  obtain rfl : args = #[v0] := by cases args; simp_all
  obtain ⟨rfl, rfl⟩ := trodVars_none hV
  have k0 := h0
  have lt0 : ∀ x ∈ p0, x.block < W.heap.size := by obtain ⟨m, hm⟩ := k0; exact DataW.trod_lt m _ _ _ hm
  obtain ⟨aa0, ll0, cc0, rfl⟩ := okWide_slice Try.underlying33 (hval 0 33 v0 rfl rfl)
  obtain ⟨f0, hf0⟩ := h0
  simp only [Value.cells] at hf0
  obtain ⟨a_cs, len_cs, cap_cs, cs, e_cs, w_cs⟩ : ∃ a l c zs, (.slice aa0 ll0 cc0 : Value) = .slice a l c ∧ IsRow .u8 W a l c zs := by
    rcases open_ints Try.underlying33 Try.underlying5 (by kernel_rfl) hf0 with ⟨hcs, _⟩ | ⟨x, l, c, zs, hcs, _, hl, hm, hz, _, hcell, hwz⟩
    · simp only [List.cons.injEq, and_true] at hcs; exact ⟨none, 0, 0, [], hcs, .inl ⟨rfl, rfl, rfl, rfl⟩⟩
    · simp only [List.cons.injEq, and_true] at hcs; exact ⟨some x, l, c, zs, hcs, .inr ⟨x, rfl, hl, hm, by simpa using hz, hcell, hwz⟩⟩
  simp only [Value.slice.injEq] at e_cs
  obtain ⟨rfl, rfl, rfl⟩ := e_cs
  clear hA0 hval0
  refine (walk _ _ _ cs W w_cs).mono fun e W' ⟨he, bel⟩ => ?_
  subst he
  exact ⟨_, rfl, _, _, _, [], _, [], hW', trodAll_mk1 (shut_bool Try.underlying4 _), (trodAll_cons_mk (Below.trod laidOut (by kernel_rfl) (of_decide_eq_true (by kernel_rfl)) k0 bel lt0) trodAll_mk0), rfl, bel.frame _, fun h => by cases h⟩

theorem over : Rows.fnEdgesAtRow.holds Try.pinned (OpenSpec.ofChange Rows.fnEdgesAtSpec) :=
  OpenClaim.holds_of_wide 5 Try.f5 rfl rfl rfl rfl rfl rfl rfl ⟨rfl, rfl, rfl, rfl, rfl⟩ rfl rfl rfl rfl rfl (by kernel_rfl) Try.func5 (by kernel_rfl)
    (of_decide_eq_true (by kernel_rfl)) (by unfold Func.isWrapper; first | (rw [if_pos (by decide +kernel)]; kernel_rfl) | (rw [if_neg (by decide +kernel)]; exact ⟨rfl, rfl⟩))
    (fun os started H enc _ => lifted os started H enc)

theorem proved : Rows.FnEdgesAtSaid := over
#print axioms proved
end Go.Proofs.Ytobphddjoebfjaa.fnEdgesAt
