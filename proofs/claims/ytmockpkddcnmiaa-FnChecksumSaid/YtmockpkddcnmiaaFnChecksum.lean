/- PROVED: the law laws.FnChecksum returns true for every input: whatever bytes are drawn from the code, Checksum answers as the reference does, is in 0..65535, is 0 with its own two bytes appended, and changes with one bit; no conditions. -/
import Derived.Test.YtmockpkddcnmiaaRows
import Derived.Test.YtmockpkddcnmiaaCrcLaw
import Derived.Test.YtmockpkddcnmiaaPkt
import Derived.RegionTactic
import Derived.WalkKit
import Derived.ProofKit
import Derived.OpenShut
import Derived.ShutString
import Derived.ChangeOld
import Derived.Below
import Derived.Lib.SmallJoins
namespace Go.Proofs.Ytmockpkddcnmiaa.fnChecksum
open Go.ChangeShapes Go.WideShapes Go.ChangeAt Go.RowKit
open Go.ChangeMaps (open_string shut_string)
set_option linter.unusedVariables false
set_option linter.unusedSimpArgs false

theorem own : ownKnob Try.prog.godebug = none := by kernel_rfl
theorem laidOut : laidOutB Try.prog = true := by kernel_rfl

attribute [local go_sem] size_addsW cell?_addsW frozen?_addsW setCell_addsW drew_addsW adds_addsW setCell_twice alloc_adds0 size_adds0 adds_adds0 sel2 sel3 sel4 sel5 sel6 sel7 sel8 sel9 lt_more lt_more2 lt_more3 lt_more4 adds_drew adds_drewN drewN_addsW ltA_1_1 ltA_1_2 ltA_1_3 ltA_1_4 ltA_1_5 ltA_1_6 ltA_2_1 ltA_2_2 ltA_2_3 ltA_2_4 ltA_2_5 ltA_2_6 ltA_3_1 ltA_3_2 ltA_3_3 ltA_3_4 ltA_3_5 ltA_3_6 ltA_4_1 ltA_4_2 ltA_4_3 ltA_4_4 ltA_4_5 ltA_4_6 ltA_5_1 ltA_5_2 ltA_5_3 ltA_5_4 ltA_5_5 ltA_5_6 ltA_6_1 ltA_6_2 ltA_6_3 ltA_6_4 ltA_6_5 ltA_6_6 ltA_7_1 ltA_7_2 ltA_7_3 ltA_7_4 ltA_7_5 ltA_7_6 ltA_8_1 ltA_8_2 ltA_8_3 ltA_8_4 ltA_8_5 ltA_8_6 ltA_9_1 ltA_9_2 ltA_9_3 ltA_9_4 ltA_9_5 ltA_9_6 ltA_10_1 ltA_10_2 ltA_10_3 ltA_10_4 ltA_10_5 ltA_10_6 ltA_11_1 ltA_11_2 ltA_11_3 ltA_11_4 ltA_11_5 ltA_11_6 ltA_12_1 ltA_12_2 ltA_12_3 ltA_12_4 ltA_12_5 ltA_12_6
theorem app_go {W0 W' w1 : World} {base E n s : Nat} {row : Option Nat} {v' : Value} {xs : List Value} (hown : w1.ownsRow base E s v' n xs) (hg : W'.grownBy w1 row) (hb : Below W0.heap.size W0 W') (hr : ∀ k, row = some k → W0.heap.size ≤ k) :
    ∃ (A : Option Addr) (c : Nat) (oo : Array Obj) (nn : Nat), v' = .slice A n c ∧ w1 = addsW W0 oo nn ∧ (addsW W0 oo nn).ownsRow base E s (.slice A n c) n xs := by
  obtain ⟨oo, nn, h⟩ := below_adds (hb.grown hg hb.size hr)
  obtain ⟨A, c, e, _⟩ := own_shape hown
  subst e
  subst h
  exact ⟨A, c, oo, nn, rfl, rfl, hown⟩
theorem own_cast {w : World} {base E s n : Nat} {v : Value} {xs xs' : List Value} (h : w.ownsRow base E s v n xs) (e : xs = xs') : w.ownsRow base E s v n xs' := e ▸ h
theorem own_bytes {zs : List Int} {n : Int} (h : ∀ z ∈ zs, 0 ≤ z ∧ z ≤ 255) (hn : 0 ≤ n ∧ n ≤ 65535) : ∀ z ∈ zs ++ [n / 256, n % 256], 0 ≤ z ∧ z ≤ 255 := by
  intro z hz
  rw [List.mem_append] at hz
  rcases hz with hz | hz
  · exact h z hz
  · simp only [List.mem_cons, List.not_mem_nil, or_false] at hz; omega
theorem own_zero {zs : List Int} {n : Int} (h : ((M.crcB zs).toNat : Int) = n) : ((M.crcB (zs ++ [n / 256, n % 256])).toNat : Int) = 0 := by
  subst h; rw [M.crc_own]; rfl
theorem pow_mod (j : Nat) (hj : j < 8) : (2 : Int) ^ j % 256 = ((2 ^ j : Nat) : Int) := by
  rcases (show j = 0 ∨ j = 1 ∨ j = 2 ∨ j = 3 ∨ j = 4 ∨ j = 5 ∨ j = 6 ∨ j = 7 by omega) with rfl | rfl | rfl | rfl | rfl | rfl | rfl | rfl <;> rfl
theorem rowbytes {w : World} {base E m c : Nat} {A : Option Addr} {l : List Int} (h : w.ownsRow base E 1 (.slice A m c) m (l.map (Value.int .u8))) : RowAt .u8 w A l := by
  obtain ⟨A', c', e, _, _, _, hr, _⟩ := RowAt.of_ownS h
  simp only [Value.slice.injEq] at e
  rw [e.1]; exact hr
theorem ints_one3 {k : IntKind} (zs : List Int) : ∀ u ∈ zs.map (Value.int k), u.oneCell' = true := by
  intro u hu
  obtain ⟨z, _, rfl⟩ := List.mem_map.1 hu
  rfl

set_option maxHeartbeats 2000000 in
theorem walk (a_zs : Option Addr) (len_zs cap_zs : Nat) (zs : List Int) (a_ms : Option Addr) (len_ms cap_ms : Nat) (ms : List Int) (w : World) (w_zs : IsRow .u8 w a_zs len_zs cap_zs zs) (w_ms : IsRow .u8 w a_ms len_ms cap_ms ms) :
    Calls Try.prog 5 #[.slice a_zs len_zs cap_zs, .slice a_ms len_ms cap_ms] w fun e w' => e = .returned (.bool true) ∧ Below w.heap.size w w' := by
  have hlm := (RowAt.of_row w_zs).2.2.1
  have hlm2 := (RowAt.of_row w_ms).2.2.1
  unfold maxLen at hlm hlm2
  have HI := Lib.hid w_zs
  clear w_zs w_ms
  obtain ⟨i0, hi, hz0, hz1, hz2⟩ := info_parts infoU8
  by_cases hbig : (1048576 : Int) < (len_zs : Int) ∨ (1048576 : Int) < (len_ms : Int)
  · rcases (show (1048576 : Int) < (len_zs : Int) ∨ ((len_zs : Int) ≤ 1048576 ∧ (1048576 : Int) < (len_ms : Int)) by omega) with h1 | ⟨h1, h2⟩
    all_goals
      clear hbig
      go_enter Try.func5, Try.ntmps5
      go_wp2
      go_returns
      exact ⟨rfl, (by repeat' (first | (with_reducible exact Below.refl _ _) | (with_reducible refine Below.adds_ ?_ ?_ _ _) | (with_reducible refine Below.alloc ?_ ?_ _) | (with_reducible refine Below.drew ?_) | (with_reducible refine Below.setCell ?_ ?_ _) | (with_reducible assumption) | go_size | (simp only [size_addsW, World.size_alloc, World.size_drew, World.size_setCell]; omega)))⟩
  · have h1 : (len_zs : Int) ≤ 1048576 := by omega
    have h2 : (len_ms : Int) ≤ 1048576 := by omega
    clear hbig
    go_enter Try.func5, Try.ntmps5
    go_wp2_with fail
    refine (S_DrawChecksum _ _ _ zs _ HI.out).mono ?_
    rintro e w' ⟨A, c, ys, rfl, hnc, hcm, hn, hby, hr, hA, hb⟩
    unfold maxLen at hcm
    have hsx := hb.size
    have HBX := Lib.hid hb
    have HR := Lib.hid hr
    have HY := Lib.hid hby
    have HG := Lib.hid (getD_bytes hby)
    clear hr hby hb HI
    obtain ⟨Wx, hWx⟩ : ∃ Wx, Wx = w' := ⟨_, rfl⟩
    rw [← hWx] at HR HBX hsx ⊢
    clear hWx
    go_wp2_with fail
    refine (I_Checksum _ _ ys _ HR.out (by omega) HG.out).mono ?_
    rintro e w'' ⟨rfl, hb⟩
    obtain ⟨o1, n1, rfl⟩ := below_adds hb
    clear hb
    have hcr : 0 ≤ ((M.crcB ys).toNat : Int) ∧ ((M.crcB ys).toNat : Int) ≤ 65535 := by have := (M.crcB ys).isLt; omega
    generalize hcc : ((M.crcB ys).toNat : Int) = crc at hcr
    have HCC := Lib.hid hcc
    clear hcc
    obtain ⟨Wy, hWy⟩ : ∃ Wy, Wy = addsW Wx o1 n1 := ⟨_, rfl⟩
    have hry := HR.out.keep (addsW_below Wx o1 n1)
    have hby := Below.adds_ HBX.out hsx o1 n1
    rw [← hWy] at hry hby ⊢
    clear hWy HR HBX hsx
    have HR := Lib.hid hry
    have HBX := Lib.hid hby
    have hsx := hby.size
    clear hry hby
    have HL1 := Lib.hid (show (Wy.alloc (.cells #[] 5)).ownsRow Wy.heap.size 5 1 (.slice (some ⟨Wy.heap.size, 0, none⟩) 0 0) 0 [] from World.ownsRow_lit (base := Wy.heap.size) (e := 5) (size := 1) Wy #[] 0 (Nat.le_refl _) (by decide) rfl)
    rcases hA with ⟨rfl, rfl⟩ | ⟨g, rfl⟩
    · obtain rfl : crc = 65535 := HCC.out.symm.trans (by decide)
      go_wp2_with (first | (go_at_call 14; refine (S_Checksum _ _ [] _ HR.out (by simp) HG.out).mono ?_; rintro e w' ⟨rfl, rfl⟩; rw [HCC.out]) | (at_builtin; refine wpList_append_own_none _ rfl (.tmp 33) (.tmp 34) 22 rfl Wy.heap.size 5 i0 1 Try.underlying22 hi _ _ _ rfl HL1.out rfl ?_) | (at_builtin; refine wpList_append_own _ rfl (.tmp 35) (.tmp 42) 22 rfl Wy.heap.size 5 i0 (.int .u8 0) 1 1 Try.underlying22 hi hz0 hz1 hz2 rfl (by decide) _ _ _ rfl (HL1.out.alloc _) ⟨Wy.heap.size + 1, 0, none⟩ 2 2 [.int .u8 (65535 / 256), .int .u8 (65535 % 256)] rfl rfl (news2 (by go_simp; done) (by go_simp; done)) (one2 rfl rfl) (by unfold maxLen; omega) (by omega) (by simp only [World.size_alloc]; omega) ?_; intro v' w1 hown1 hgrow1 _; obtain ⟨A1, c1, oo1, nn1, rfl, rfl, ho1⟩ := app_go (W0 := Wy) hown1 hgrow1 (by repeat' (first | (with_reducible exact Below.refl _ _) | (with_reducible refine Below.adds_ ?_ ?_ _ _) | (with_reducible refine Below.alloc ?_ ?_ _) | (with_reducible refine Below.drew ?_) | (with_reducible refine Below.setCell ?_ ?_ _) | (with_reducible assumption) | go_size | (simp only [size_addsW, World.size_alloc, World.size_drew, World.size_setCell]; omega))) (fun k e => (HL1.out.lt k e).1); clear hown1 hgrow1))
      refine (I_ChecksumN _ _ _ (([] : List Int) ++ [65535 / 256, 65535 % 256]) _ (by simp) (rowbytes (own_cast ho1 (by simp))) (by omega) (getD_bytes (own_bytes HY.out hcr)) 0 (own_zero HCC.out)).mono ?_
      rintro e w'' ⟨rfl, hb⟩
      obtain ⟨o3, n3, rfl⟩ := below_adds hb
      clear hb
      go_wp2_with fail
      go_returns
      have hbx := HBX.out
      exact ⟨rfl, (by repeat' (first | (with_reducible exact Below.refl _ _) | (with_reducible refine Below.adds_ ?_ ?_ _ _) | (with_reducible refine Below.alloc ?_ ?_ _) | (with_reducible refine Below.drew ?_) | (with_reducible refine Below.setCell ?_ ?_ _) | (with_reducible assumption) | go_size | (simp only [size_addsW, World.size_alloc, World.size_drew, World.size_setCell]; omega)))⟩
    · go_wp2_with (first | (go_at_call 14; refine (S_Checksum _ _ ys _ HR.out (by omega) HG.out).mono ?_; rintro e w' ⟨rfl, rfl⟩; rw [HCC.out]) | (at_builtin; refine wpList_append_own _ rfl (.tmp 33) (.tmp 34) 22 rfl Wy.heap.size 5 i0 (.int .u8 0) 1 1 Try.underlying22 hi hz0 hz1 hz2 rfl (by decide) _ _ _ rfl HL1.out ⟨g, 0, none⟩ ys.length c (ys.map (Value.int .u8)) rfl (by simp) (HR.out.keep (by repeat' (first | (with_reducible exact Below.refl _ _) | (with_reducible refine Below.adds_ ?_ ?_ _ _) | (with_reducible refine Below.alloc ?_ ?_ _) | (with_reducible refine Below.drew ?_) | (with_reducible refine Below.setCell ?_ ?_ _) | (with_reducible assumption) | go_size | (simp only [size_addsW, World.size_alloc, World.size_drew, World.size_setCell]; omega)))).news (ints_one3 ys) (by unfold maxLen; omega) (by omega) (by simp only [World.size_alloc]; omega) ?_; intro v0 w0 hown0 hgrow0 _; obtain ⟨A0, c0, oo, nn, rfl, rfl, ho0⟩ := app_go (W0 := Wy) hown0 hgrow0 (by repeat' (first | (with_reducible exact Below.refl _ _) | (with_reducible refine Below.adds_ ?_ ?_ _ _) | (with_reducible refine Below.alloc ?_ ?_ _) | (with_reducible refine Below.drew ?_) | (with_reducible refine Below.setCell ?_ ?_ _) | (with_reducible assumption) | go_size | (simp only [size_addsW, World.size_alloc, World.size_drew, World.size_setCell]; omega))) (fun k e => (HL1.out.lt k e).1); clear hown0 hgrow0; simp only [Nat.zero_add, List.nil_append] at ho0) | (at_builtin; refine wpList_append_own _ rfl (.tmp 35) (.tmp 42) 22 rfl Wy.heap.size 5 i0 (.int .u8 0) 1 1 Try.underlying22 hi hz0 hz1 hz2 rfl (by decide) _ _ _ rfl (ho0.alloc _) ⟨Wy.heap.size + oo.size, 0, none⟩ 2 2 [.int .u8 (crc / 256), .int .u8 (crc % 256)] rfl rfl (news2 (by go_simp; done) (by go_simp; done)) (one2 rfl rfl) (by unfold maxLen; omega) (by omega) (by simp only [World.size_alloc, size_addsW]; omega) ?_; intro v' w1 hown1 hgrow1 _; obtain ⟨A1, c1, oo1, nn1, rfl, rfl, ho1⟩ := app_go (W0 := Wy) hown1 hgrow1 (by repeat' (first | (with_reducible exact Below.refl _ _) | (with_reducible refine Below.adds_ ?_ ?_ _ _) | (with_reducible refine Below.alloc ?_ ?_ _) | (with_reducible refine Below.drew ?_) | (with_reducible refine Below.setCell ?_ ?_ _) | (with_reducible assumption) | go_size | (simp only [size_addsW, World.size_alloc, World.size_drew, World.size_setCell]; omega))) (fun k e => (ho0.lt k e).1); clear hown1 hgrow1))
      refine (I_ChecksumN _ _ _ (ys ++ [crc / 256, crc % 256]) _ (by simp) (rowbytes (own_cast ho1 (by simp))) (by omega) (getD_bytes (own_bytes HY.out hcr)) 0 (own_zero HCC.out)).mono ?_
      rintro e w'' ⟨rfl, hb⟩
      obtain ⟨o3, n3, rfl⟩ := below_adds hb
      clear hb
      simp only [adds_addsW]
      generalize oo1 ++ o3 = oo3
      clear ho1 ho0
      by_cases hys : ys = []
      · obtain rfl := hys
        obtain rfl : crc = 65535 := HCC.out.symm.trans (by decide)
        go_wp2_with fail
        go_returns
        have hbx := HBX.out
        exact ⟨rfl, (by repeat' (first | (with_reducible exact Below.refl _ _) | (with_reducible refine Below.adds_ ?_ ?_ _ _) | (with_reducible refine Below.alloc ?_ ?_ _) | (with_reducible refine Below.drew ?_) | (with_reducible refine Below.setCell ?_ ?_ _) | (with_reducible assumption) | go_size | (simp only [size_addsW, World.size_alloc, World.size_drew, World.size_setCell]; omega)))⟩
      · have hpos : 0 < ys.length := List.length_pos_iff.2 hys
        have hne0 : ((ys.length : Int) == 0) = false := by simp; omega
        have hk0 : len_ms % ys.length < ys.length := Nat.mod_lt _ hpos
        have HL3 := Lib.hid (show ((addsW Wy oo3 n3).alloc (.cells #[] 5)).ownsRow Wy.heap.size 5 1 (.slice (some ⟨Wy.heap.size + oo3.size, 0, none⟩) 0 0) 0 [] from by rw [← size_addsW Wy oo3 n3]; exact World.ownsRow_lit (base := Wy.heap.size) (e := 5) (size := 1) (addsW Wy oo3 n3) #[] 0 (by rw [size_addsW]; omega) (by decide) rfl)
        go_wp2_with (at_builtin; refine wpList_append_own _ rfl (.tmp 51) (.tmp 52) 22 rfl Wy.heap.size 5 i0 (.int .u8 0) 1 1 Try.underlying22 hi hz0 hz1 hz2 rfl (by decide) _ _ _ rfl HL3.out ⟨g, 0, none⟩ ys.length c (ys.map (Value.int .u8)) rfl (by simp) (HR.out.keep (by repeat' (first | (with_reducible exact Below.refl _ _) | (with_reducible refine Below.adds_ ?_ ?_ _ _) | (with_reducible refine Below.alloc ?_ ?_ _) | (with_reducible refine Below.drew ?_) | (with_reducible refine Below.setCell ?_ ?_ _) | (with_reducible assumption) | go_size | (simp only [size_addsW, World.size_alloc, World.size_drew, World.size_setCell]; omega)))).news (ints_one3 ys) (by unfold maxLen; omega) (by omega) (by simp only [World.size_alloc, size_addsW]; omega) ?_; intro v0 w0 hown0 hgrow0 _; obtain ⟨A4, c4, oo4, nn4, rfl, rfl, ho4⟩ := app_go (W0 := Wy) hown0 hgrow0 (by repeat' (first | (with_reducible exact Below.refl _ _) | (with_reducible refine Below.adds_ ?_ ?_ _ _) | (with_reducible refine Below.alloc ?_ ?_ _) | (with_reducible refine Below.drew ?_) | (with_reducible refine Below.setCell ?_ ?_ _) | (with_reducible assumption) | go_size | (simp only [size_addsW, World.size_alloc, World.size_drew, World.size_setCell]; omega))) (fun k e => (HL3.out.lt k e).1); clear hown0 hgrow0; simp only [Nat.zero_add, List.nil_append] at ho4)
        obtain ⟨A5, c5, e5, hnc5, hA5⟩ := own_shape ho4
        simp only [Value.slice.injEq] at e5
        obtain ⟨rfl, -, rfl⟩ := e5
        obtain ⟨g4, rfl, hg4, hg5⟩ : ∃ g4, A4 = some ⟨g4, 0, none⟩ ∧ Wy.heap.size ≤ g4 ∧ g4 < (addsW Wy oo4 nn4).heap.size := by
          rcases hA5 with ⟨_, h⟩ | ⟨g4, h⟩
          · omega
          · exact ⟨g4, h⟩
        clear hA5
        have HO4 := Lib.hid ho4
        obtain ⟨z, hz⟩ : ∃ z : Int, z = ys.getD (len_ms % ys.length) 0 := ⟨_, rfl⟩
        have hc := ho4.cellAt (len_ms % ys.length) (by omega)
        rw [List.getElem?_map, show ys[len_ms % ys.length]? = some z from by rw [hz, List.getD_eq_getElem?_getD, List.getElem?_eq_getElem hk0]; rfl] at hc
        have hf := ho4.frozenAt (len_ms % ys.length)
        have hzb := HG.out (len_ms % ys.length)
        rw [← hz] at hzb
        have HZ := Lib.hid hz
        clear hz ho4
        generalize hk : len_ms % ys.length = k at hc hf hk0 HZ
        have ek : (len_ms : Int) % (ys.length : Int) = (k : Int) := by rw [← hk]; simp
        rw [ek]
        clear ek hk
        have hk1 : (0 : Int) ≤ (k : Int) := by omega
        have hk2 : (k : Int) < (ys.length : Int) := by omega
        obtain ⟨j, hj⟩ : ∃ j : Nat, (len_ms : Int).tmod 8 = (j : Int) := ⟨len_ms % 8, by rw [Int.tmod_eq_emod_of_nonneg (by omega)]; simp⟩
        have hj8 : j < 8 := by rw [Int.tmod_eq_emod_of_nonneg (by omega)] at hj; omega
        have hbz : Below w.heap.size w (addsW Wy oo4 nn4) := Below.adds_ HBX.out hsx _ _
        generalize addsW Wy oo4 nn4 = Wz at hc hf hg5 HO4 hbz ⊢
        have HBZ := Lib.hid hbz
        clear hbz
        go_region
        all_goals
          go_wp2_with fail
          have e2 := pow_mod j hj8
          rw [e2]
          obtain ⟨hV1, hV2⟩ := M.xor_pow_ne z hzb j hj8
          generalize bits .xor .u8 z ((2 ^ j : Nat) : Int) = V at hV1 hV2
          have hne : M.crcB (ys.set k V) ≠ M.crcB ys := M.crc_set_ne hk0 HY.out hV2 (by rw [← HZ.out]; exact hV1)
          have hro : RowAt .u8 (Wz.setCell ⟨g4, k, none⟩ (.int .u8 V)).drew (some ⟨g4, 0, none⟩) (ys.set k V) := by
            have h5 := (HO4.out.stored k (.int .u8 V)).1
            rw [← List.map_set] at h5
            exact rowbytes h5
          have hby : ∀ y ∈ ys.set k V, 0 ≤ y ∧ y ≤ 255 := fun y hy => by
            rcases List.mem_or_eq_of_mem_set hy with h | h
            · exact HY.out y h
            · rw [h]; exact hV2
          refine (I_ChecksumN _ _ _ (ys.set k V) _ (by simp) hro (by omega) (getD_bytes hby) _ rfl).mono ?_
          rintro e w'' ⟨rfl, hb⟩
          obtain ⟨o6, n6, rfl⟩ := below_adds hb
          have hne2 : (((M.crcB (ys.set k V)).toNat : Int) != crc) = true := by
            rw [← HCC.out]
            simp only [bne_iff_ne, ne_eq]
            intro h
            exact hne (BitVec.eq_of_toNat_eq (by omega))
          clear hb hro hby hne e2
          generalize ((M.crcB (ys.set k V)).toNat : Int) = r at hne2
          go_wp2_with fail
          go_returns
          have hbz := HBZ.out
          have hg6 : w.heap.size ≤ g4 := by omega
          exact ⟨rfl, (by repeat' (first | (with_reducible exact Below.refl _ _) | (with_reducible refine Below.adds_ ?_ ?_ _ _) | (with_reducible refine Below.alloc ?_ ?_ _) | (with_reducible refine Below.drew ?_) | (with_reducible refine Below.setCell ?_ ?_ _) | (with_reducible assumption) | go_size | (simp only [size_addsW, World.size_alloc, World.size_drew, World.size_setCell]; omega)))⟩

set_option maxRecDepth 100000 in
theorem lifted (os : Os) (started : os.Started) (H : Type) (enc : TypeId × Value → H) :
    ReturnsInHanded {} Try.checked os 5 .any (Rows.fnChecksumSpec.pre6 enc Try.prog Try.f5 Rows.fnChecksumRow.domain false) (Rows.fnChecksumSpec.post enc Try.prog Try.f5 false true false false) := by
  refine returnsInHanded_of_change (C := Try.checked) own started (by kernel_rfl) Try.func5
    (ChangeSpec.witness6 (enc := enc) (C := Try.checked) false ⟨#[], #[.slice none 0 0, .slice none 0 0], []⟩ 8 (by kernel_rfl) (by kernel_rfl) (by kernel_rfl) (by kernel_rfl)) ?_
  intro W base args ds gs before hval0 hW hcnd _
  have hval : ∀ (j : Nat) t v, Try.f5.params[j]? = some t → args[j]? = some v → Value.okWide Try.prog W .any base t v := hval0
  have hW' := hW
  obtain ⟨p, q, hA0, hV, rfl, hfz, hnd⟩ := hW
  have hA : DataW.TrodAll enc Try.prog W 0 (fun _ => true) true Try.f5.params.toList args.toList ds p := hA0
  rw [Try.params5] at hA hval
  obtain ⟨v0, vs0, d0, ds0, p0, q0, hargs, rfl, rfl, h0, r0⟩ := trodAll_cons hA
  obtain ⟨v1, vs1, d1, ds1, p1, q1, rfl, rfl, rfl, h1, r1⟩ := trodAll_cons r0
  obtain ⟨rfl, rfl, rfl⟩ := trodAll_nil r1
  obtain rfl : args = #[v0, v1] := by cases args; simp_all
  obtain ⟨rfl, rfl⟩ := trodVars_none hV
  have k0 := h0
  have lt0 : ∀ x ∈ p0, x.block < W.heap.size := by obtain ⟨m, hm⟩ := k0; exact DataW.trod_lt m _ _ _ hm
  have k1 := h1
  have lt1 : ∀ x ∈ p1, x.block < W.heap.size := by obtain ⟨m, hm⟩ := k1; exact DataW.trod_lt m _ _ _ hm
  obtain ⟨aa0, ll0, cc0, rfl⟩ := okWide_slice Try.underlying22 (hval 0 22 v0 rfl rfl)
  obtain ⟨f0, hf0⟩ := h0
  simp only [Value.cells] at hf0
  obtain ⟨a_zs, len_zs, cap_zs, zs, e_zs, w_zs⟩ : ∃ a l c zs, (.slice aa0 ll0 cc0 : Value) = .slice a l c ∧ IsRow .u8 W a l c zs := by
    rcases open_ints Try.underlying22 Try.underlying5 (by kernel_rfl) hf0 with ⟨hcs, _⟩ | ⟨x, l, c, zs, hcs, _, hl, hm, hz, _, hcell, hwz⟩
    · simp only [List.cons.injEq, and_true] at hcs; exact ⟨none, 0, 0, [], hcs, .inl ⟨rfl, rfl, rfl, rfl⟩⟩
    · simp only [List.cons.injEq, and_true] at hcs; exact ⟨some x, l, c, zs, hcs, .inr ⟨x, rfl, hl, hm, by simpa using hz, hcell, hwz⟩⟩
  simp only [Value.slice.injEq] at e_zs
  obtain ⟨rfl, rfl, rfl⟩ := e_zs
  obtain ⟨aa1, ll1, cc1, rfl⟩ := okWide_slice Try.underlying22 (hval 1 22 v1 rfl rfl)
  obtain ⟨f1, hf1⟩ := h1
  simp only [Value.cells] at hf1
  obtain ⟨a_ms, len_ms, cap_ms, ms, e_ms, w_ms⟩ : ∃ a l c zs, (.slice aa1 ll1 cc1 : Value) = .slice a l c ∧ IsRow .u8 W a l c zs := by
    rcases open_ints Try.underlying22 Try.underlying5 (by kernel_rfl) hf1 with ⟨hcs, _⟩ | ⟨x, l, c, zs, hcs, _, hl, hm, hz, _, hcell, hwz⟩
    · simp only [List.cons.injEq, and_true] at hcs; exact ⟨none, 0, 0, [], hcs, .inl ⟨rfl, rfl, rfl, rfl⟩⟩
    · simp only [List.cons.injEq, and_true] at hcs; exact ⟨some x, l, c, zs, hcs, .inr ⟨x, rfl, hl, hm, by simpa using hz, hcell, hwz⟩⟩
  simp only [Value.slice.injEq] at e_ms
  obtain ⟨rfl, rfl, rfl⟩ := e_ms
  clear hA0 hval0
  refine (walk _ _ _ zs _ _ _ ms W w_zs w_ms).mono fun e W' ⟨he, bel⟩ => ?_
  subst he
  exact ⟨_, rfl, _, _, _, [], _, [], hW', trodAll_mk1 (shut_bool Try.underlying4 _), (trodAll_cons_mk (Below.trod laidOut (by kernel_rfl) (of_decide_eq_true (by kernel_rfl)) k0 bel lt0) (trodAll_cons_mk (Below.trod laidOut (by kernel_rfl) (of_decide_eq_true (by kernel_rfl)) k1 bel lt1) trodAll_mk0)), rfl, bel.frame _, fun h => by cases h⟩

theorem over : Rows.fnChecksumRow.holds Try.pinned (OpenSpec.ofChange Rows.fnChecksumSpec) :=
  OpenClaim.holds_of_wide 5 Try.f5 rfl rfl rfl rfl rfl rfl rfl ⟨rfl, rfl, rfl, rfl, rfl⟩ rfl rfl rfl rfl rfl (by kernel_rfl) Try.func5 (by kernel_rfl)
    (of_decide_eq_true (by kernel_rfl)) (by unfold Func.isWrapper; first | (rw [if_pos (by decide +kernel)]; kernel_rfl) | (rw [if_neg (by decide +kernel)]; exact ⟨rfl, rfl⟩))
    (fun os started H enc _ => lifted os started H enc)

theorem proved : Rows.FnChecksumSaid := over
#print axioms proved
end Go.Proofs.Ytmockpkddcnmiaa.fnChecksum
