/- PROVED: the law laws.FnMotionBlock returns true for every input: whatever picture, position and vector are drawn from the code, MotionBlock answers as the reference does, with the zero vector the samples of the picture, with a vector those of HalfSample; no conditions. -/
import Derived.Test.YtobphddjoebfjaaRows
import Derived.Test.YtobphddjoebfjaaDrawJ
import Derived.Test.YtobphddjoebfjaaSamp
import Derived.Test.YtobphddjoebfjaaNew
import Derived.Test.YtobphddjoebfjaaBlock
import Derived.Test.YtobphddjoebfjaaCostM
import Derived.Test.YtobphddjoebfjaaSame
import Derived.LoopTactic
import Derived.Deep.Light
import Derived.Deep.RegionHeld3
import Derived.WalkKit
import Derived.ProofKit
import Derived.OpenShut
import Derived.ShutString
import Derived.ChangeOld
import Derived.Below
import Derived.Lib.SmallJoins
namespace Go.Proofs.Ytobphddjoebfjaa.fnMotionBlock
open Go.ChangeShapes Go.WideShapes Go.ChangeAt Go.RowKit
open Go.ChangeMaps (open_string shut_string)
set_option linter.unusedVariables false
set_option linter.unusedSimpArgs false

theorem own : ownKnob Try.prog.godebug = none := by kernel_rfl
theorem laidOut : laidOutB Try.prog = true := by kernel_rfl

attribute [local go_sem] size_addsW cell?_addsW frozen?_addsW setCell_addsW drew_addsW adds_addsW setCell_twice alloc_adds0 size_adds0 adds_adds0 sel2 sel3 sel4 sel5 sel6 sel7 sel8 sel9 lt_more lt_more2 lt_more3 lt_more4 adds_drew adds_drewN drewN_addsW ltA_1_1 ltA_1_2 ltA_1_3 ltA_1_4 ltA_1_5 ltA_1_6 ltA_2_1 ltA_2_2 ltA_2_3 ltA_2_4 ltA_2_5 ltA_2_6 ltA_3_1 ltA_3_2 ltA_3_3 ltA_3_4 ltA_3_5 ltA_3_6 ltA_4_1 ltA_4_2 ltA_4_3 ltA_4_4 ltA_4_5 ltA_4_6 ltA_5_1 ltA_5_2 ltA_5_3 ltA_5_4 ltA_5_5 ltA_5_6 ltA_6_1 ltA_6_2 ltA_6_3 ltA_6_4 ltA_6_5 ltA_6_6 ltA_7_1 ltA_7_2 ltA_7_3 ltA_7_4 ltA_7_5 ltA_7_6 ltA_8_1 ltA_8_2 ltA_8_3 ltA_8_4 ltA_8_5 ltA_8_6 ltA_9_1 ltA_9_2 ltA_9_3 ltA_9_4 ltA_9_5 ltA_9_6 ltA_10_1 ltA_10_2 ltA_10_3 ltA_10_4 ltA_10_5 ltA_10_6 ltA_11_1 ltA_11_2 ltA_11_3 ltA_11_4 ltA_11_5 ltA_11_6 ltA_12_1 ltA_12_2 ltA_12_3 ltA_12_4 ltA_12_5 ltA_12_6

def MBRel (W0 : World) (OO : Array Obj) (j : Value) (wr : World) : Prop := ∃ (k : Nat) (oo : Array Obj) (nn : Nat), j = .int .i64 (k : Int) ∧ k ≤ 64 ∧ wr = addsW W0 (OO ++ oo) nn
theorem cell_more {W : World} {O o q : Array Obj} {n m b i : Nat} {v : Value} (hb : b < (addsW W (O ++ o) n).heap.size) (h : (addsW W (O ++ o) n).cell? ⟨b, i, none⟩ = some v) : (addsW W (O ++ (o ++ q)) m).cell? ⟨b, i, none⟩ = some v := by
  have := below_more W (O ++ o) q n m
  rw [Array.append_assoc] at this
  exact (this.cell (p := ⟨b, i, none⟩) hb).trans h
theorem half_even (a b : Int) (zs : List Int) (x y : Int) : halfV a b zs (2 * x + 0) (2 * y + 0) = pix a b zs x y := by
  unfold halfV
  rw [if_pos (by omega), if_pos (by omega), show (2 * x + 0) / 2 = x by omega, show (2 * y + 0) / 2 = y by omega]

set_option maxHeartbeats 8000000 in
set_option maxRecDepth 100000 in
theorem walk (a_zs : Option Addr) (len_zs cap_zs : Nat) (zs : List Int) (w : World) (w_zs : IsRow .u8 w a_zs len_zs cap_zs zs) :
    Calls Try.prog 11 #[.slice a_zs len_zs cap_zs] w fun e w' => e = .returned (.bool true) ∧ Below w.heap.size w w' := by
  have hlm := (RowAt.of_row w_zs).2.2.1
  unfold maxLen at hlm
  have HI := Lib.hid w_zs
  clear w_zs
  by_cases hbig : 1048576 < len_zs
  · go_enter Try.func11, Try.ntmps11
    go_wp2
    go_returns
    exact ⟨rfl, (by repeat' (first | (with_reducible exact Below.refl _ _) | (with_reducible refine Below.adds_ ?_ ?_ _ _) | (with_reducible refine Below.alloc ?_ ?_ _) | (with_reducible refine Below.drew ?_) | (with_reducible refine Below.setCell ?_ ?_ _) | (with_reducible assumption) | go_size | (simp only [size_addsW, World.size_alloc, World.size_drew, World.size_setCell]; omega)))⟩
  · go_enter Try.func11, Try.ntmps11
    go_wp2_with fail
    refine (S_DrawMotionBlock _ _ _ zs _ (IsRow.keep HI.out (by repeat' (first | (with_reducible exact Below.refl _ _) | (with_reducible refine Below.adds_ ?_ ?_ _ _) | (with_reducible refine Below.alloc ?_ ?_ _) | (with_reducible refine Below.drew ?_) | (with_reducible refine Below.setCell ?_ ?_ _) | (with_reducible assumption) | go_size | (simp only [size_addsW, World.size_alloc, World.size_drew, World.size_setCell]; omega))))).mono ?_
    rintro e w' ⟨a, b, x, y, u, v, A, c, ps, rfl, hx0, hx1, hy0, hy1, hu0, hu1, hv0, hv1, ha0, ha1, hb0, hb1, hz, hzc, hcm, hrow, hb⟩
    obtain ⟨o0, n0, rfl⟩ := below_adds hb
    clear hb
    have HR := Lib.hid hrow
    clear hrow
    cases hv : mbB a b ps x y u v
    · have hs : mbL a b ps x y u v = [] := by simp [mbL, hv]
      go_wp2_with fail
      refine (I_MotionBlock a b x y u v _ _ ps _ (HR.out.keep (by repeat' (first | (with_reducible exact Below.refl _ _) | (with_reducible refine Below.adds_ ?_ ?_ _ _) | (with_reducible refine Below.alloc ?_ ?_ _) | (with_reducible refine Below.drew ?_) | (with_reducible refine Below.setCell ?_ ?_ _) | (with_reducible assumption) | go_size | (simp only [size_addsW, World.size_alloc, World.size_drew, World.size_setCell]; omega)))) (by omega)).mono ?_
      rw [hs]
      rintro e w' ⟨A1, c1, rfl, hr1, -, -, hb⟩
      obtain ⟨o1, n1, rfl⟩ := below_adds hb
      clear hb hr1
      go_wp2_with fail
      refine (S_MotionBlock a b x y u v _ _ ps _ (HR.out.keep (by repeat' (first | (with_reducible exact Below.refl _ _) | (with_reducible refine Below.adds_ ?_ ?_ _ _) | (with_reducible refine Below.alloc ?_ ?_ _) | (with_reducible refine Below.drew ?_) | (with_reducible refine Below.setCell ?_ ?_ _) | (with_reducible assumption) | go_size | (simp only [size_addsW, World.size_alloc, World.size_drew, World.size_setCell]; omega)))) (by omega)).mono ?_
      rw [hs]
      rintro e w' ⟨A2, c2, rfl, hr1, -, -, hb⟩
      obtain ⟨o2, n2, rfl⟩ := below_adds hb
      clear hb hr1
      go_wp2_with (first | (go_at_call 47; refine (L_sameInts _ _ _ _ [] _ (fun h => absurd rfl h) (fun h => absurd rfl h) (by simp)).mono ?_; rintro e w' ⟨rfl, hb⟩; obtain ⟨o1, n1, rfl⟩ := below_adds hb; clear hb) | (go_at_call 26; refine (L_alive _).mono ?_; rintro e w' ⟨rfl, hb⟩; obtain ⟨o1, n1, rfl⟩ := below_adds hb; clear hb))
      go_returns
      exact ⟨rfl, (by repeat' (first | (with_reducible exact Below.refl _ _) | (with_reducible refine Below.adds_ ?_ ?_ _ _) | (with_reducible refine Below.alloc ?_ ?_ _) | (with_reducible refine Below.drew ?_) | (with_reducible refine Below.setCell ?_ ?_ _) | (with_reducible assumption) | go_size | (simp only [size_addsW, World.size_alloc, World.size_drew, World.size_setCell]; omega)))⟩
    · have hs : mbL a b ps x y u v = mvL a b ps x y u v 64 := by simp [mbL, hv]
      have h3 : picB a b ps = true ∧ begB a b x y = true ∧ M.vecB u v = true := by
        simp only [mbB, Bool.and_eq_true] at hv; exact ⟨hv.1.1, hv.1.2, hv.2⟩
      have hs0 : mbL a b ps x y 0 0 = mvL a b ps x y 0 0 64 := by
        have : mbB a b ps x y 0 0 = true := by simp only [mbB, Bool.and_eq_true]; exact ⟨⟨h3.1, h3.2.1⟩, by decide⟩
        simp [mbL, this]
      have hbg := begB_bd h3.2.1
      have hp := picB_bd h3.1
      have hab : a ≤ 32 ∧ b ≤ 32 := ⟨hp.1.2, hp.2.1.2⟩
      have hpv := h3.1
      clear h3 hv hp
      obtain ⟨L1, hL1⟩ : ∃ L, L = mvL a b ps x y u v 64 := ⟨_, rfl⟩
      obtain ⟨L0, hL0⟩ : ∃ L, L = mvL a b ps x y 0 0 64 := ⟨_, rfl⟩
      rw [← hL1] at hs
      rw [← hL0] at hs0
      have H1 := Lib.hid (show L1.length = 64 by rw [hL1, mvL_len])
      have H0 := Lib.hid (show L0.length = 64 by rw [hL0, mvL_len])
      have hl1 : 0 < L1.length := by have := H1.out; omega
      have hz0 : ((L1.length : Int) == 0) = false := by rw [H1.out]; rfl
      have HL1 := Lib.hid hL1
      have HL0 := Lib.hid hL0
      clear hL1 hL0
      go_wp2_with fail
      refine (I_MotionBlock a b x y u v _ _ ps _ (HR.out.keep (by repeat' (first | (with_reducible exact Below.refl _ _) | (with_reducible refine Below.adds_ ?_ ?_ _ _) | (with_reducible refine Below.alloc ?_ ?_ _) | (with_reducible refine Below.drew ?_) | (with_reducible refine Below.setCell ?_ ?_ _) | (with_reducible assumption) | go_size | (simp only [size_addsW, World.size_alloc, World.size_drew, World.size_setCell]; omega)))) (by omega)).mono ?_
      rw [hs]
      rintro e w' ⟨A1, c1, rfl, hr1, -, -, hb⟩
      obtain ⟨o1, n1, rfl⟩ := below_adds hb
      clear hb
      go_wp2_with fail
      refine (S_MotionBlock a b x y u v _ _ ps _ (HR.out.keep (by repeat' (first | (with_reducible exact Below.refl _ _) | (with_reducible refine Below.adds_ ?_ ?_ _ _) | (with_reducible refine Below.alloc ?_ ?_ _) | (with_reducible refine Below.drew ?_) | (with_reducible refine Below.setCell ?_ ?_ _) | (with_reducible assumption) | go_size | (simp only [size_addsW, World.size_alloc, World.size_drew, World.size_setCell]; omega)))) (by omega)).mono ?_
      rw [hs]
      rintro e w' ⟨A2, c2, rfl, hr2, -, -, hb⟩
      obtain ⟨o2, n2, rfl⟩ := below_adds hb
      clear hb
      simp only [adds_addsW] at hr2
      have hr1' := hr1.keep (below_more _ o1 o2 n1 n2)
      clear hr1
      simp only [adds_addsW]
      generalize o1 ++ o2 = O2 at hr1' hr2 ⊢
      have HR1 := Lib.hid hr1'
      have HR2 := Lib.hid hr2
      clear hr1' hr2
      go_wp2_with fail
      refine (L_sameInts _ _ _ _ L1 _ HR1.out HR2.out (by have := H1.out; omega)).mono ?_
      rintro e w' ⟨rfl, hb⟩
      obtain ⟨o3, n3, rfl⟩ := below_adds hb
      clear hb
      simp only [adds_addsW]
      have hr1' := HR1.out.keep (below_more _ O2 o3 n2 n3)
      clear HR1 HR2
      generalize O2 ++ o3 = O3 at hr1' ⊢
      have HR1 := Lib.hid hr1'
      clear hr1'
      go_wp2_with fail
      refine (I_MotionBlock a b x y 0 0 _ _ ps _ (HR.out.keep (by repeat' (first | (with_reducible exact Below.refl _ _) | (with_reducible refine Below.adds_ ?_ ?_ _ _) | (with_reducible refine Below.alloc ?_ ?_ _) | (with_reducible refine Below.drew ?_) | (with_reducible refine Below.setCell ?_ ?_ _) | (with_reducible assumption) | go_size | (simp only [size_addsW, World.size_alloc, World.size_drew, World.size_setCell]; omega)))) (by omega)).mono ?_
      rw [hs0]
      rintro e w' ⟨A0, c0, rfl, hr0, -, -, hb⟩
      obtain ⟨o4, n4, rfl⟩ := below_adds hb
      clear hb
      simp only [adds_addsW] at hr0
      have hr1' := HR1.out.keep (below_more _ O3 o4 n3 n4)
      clear HR1
      simp only [adds_addsW]
      generalize O3 ++ o4 = OO at hr1' hr0 ⊢
      have HR1 := Lib.hid hr1'
      have HR0 := Lib.hid hr0
      clear hr1' hr0
      have HPV := Lib.hid hpv
      clear hpv hs hs0
      go_wp2_with fail
      go_loopw [9, 10, 11] (fun j s10 s11 wr => MBRel (((addsW w o0 n0).alloc (.cells #[.int .i64 a, .int .i64 b, .slice A ps.length c] 27)).alloc (.cells #[.int .i64 u, .int .i64 v] 53)) OO j wr) (fun i _ _ _ => 64 - (intOf i).toNat)
      case atStart => exact ⟨0, #[], n4, rfl, by omega, by rw [Array.append_empty]⟩
      case round =>
        obtain ⟨k, oo, nn, rfl, hk, rfl⟩ := hrel
        by_cases hlt : k < 64
        · have hd1 : decide ((k : Int) < 64) = true := by simp; omega
          obtain ⟨b1, f1, z1, rfl, hb1_, hz1, hc1⟩ := (HR1.out.keep (below_more _ OO oo n4 nn)).at_ (i := k) (by have := H1.out; have := H0.out; omega)
          obtain ⟨b2, f2, z2, rfl, hb2_, hz2, hc2⟩ := (HR0.out.keep (below_more _ OO oo n4 nn)).at_ (i := k) (by have := H1.out; have := H0.out; omega)
          have e1 : halfS a b ps (2 * (x + ((k % 8 : Nat) : Int)) + u) (2 * (y + ((k / 8 : Nat) : Int)) + v) = z1 := by
            rw [hz1, HL1.out, mvL_get _ _ _ _ _ _ _ _ _ hlt, halfS, if_pos (by simp [halfB, HPV.out, M.inB]; omega), mvF]
          have e2 : sampV a b ps (x + ((k % 8 : Nat) : Int)) (y + ((k / 8 : Nat) : Int)) = z2 := by
            rw [hz2, HL0.out, mvL_get _ _ _ _ _ _ _ _ _ hlt, sampV, if_pos HPV.out, mvF, half_even]
          clear hz1 hz2
          have c8 : ((k % 8 : Nat) : Int) = (k : Int) % 8 := by omega
          have d8 : ((k / 8 : Nat) : Int) = (k : Int) / 8 := by omega
          rw [c8, d8] at e1 e2
          clear c8 d8
          have E1 := Lib.hid e1
          have E2 := Lib.hid e2
          clear e1 e2
          have hk0 : (0 : Int) ≤ (k : Int) := by omega
          have w1 : IntKind.i64.wrap (2 * (x + (k : Int) % 8)) = 2 * (x + (k : Int) % 8) := IntWalk.i64_in _ (by omega)
          have w2 : IntKind.i64.wrap (2 * (x + (k : Int) % 8) + u) = 2 * (x + (k : Int) % 8) + u := IntWalk.i64_in _ (by omega)
          have w3 : IntKind.i64.wrap (2 * (y + (k : Int) / 8)) = 2 * (y + (k : Int) / 8) := IntWalk.i64_in _ (by omega)
          have w4 : IntKind.i64.wrap (2 * (y + (k : Int) / 8) + v) = 2 * (y + (k : Int) / 8) + v := IntWalk.i64_in _ (by omega)
          have hk1 : (k : Int) < (L1.length : Int) := by have := H1.out; omega
          have hk2 : (k : Int) < (L0.length : Int) := by have := H0.out; omega
          go_wp2_with fail
          go_region_held3 (fun w' => w'.cell? ⟨w.heap.size + o0.size, 0, none⟩ = some (.int .i64 a) ∧ w'.cell? ⟨w.heap.size + o0.size, 1, none⟩ = some (.int .i64 b) ∧ w'.cell? ⟨w.heap.size + o0.size, 2, none⟩ = some (.slice A ps.length c) ∧ w'.cell? ⟨w.heap.size + o0.size + 1, 0, none⟩ = some (.int .i64 u) ∧ w'.cell? ⟨w.heap.size + o0.size + 1, 1, none⟩ = some (.int .i64 v) ∧ w'.cell? ⟨b1, f1 + k, none⟩ = some (.int .i64 z1) ∧ w'.cell? ⟨b2, f2 + k, none⟩ = some (.int .i64 z2)) ((go_light; (repeat' apply And.intro) <;> (first | (with_reducible exact cell_more hb1_ hc1) | (with_reducible exact cell_more hb2_ hc2) | (go_simp; done) | (go_keep; done))))
            (first | (go_at_call 27; refine (I_SampleAt _ _ _ _ _ _ ps _ (HR.out.keep (by repeat' (first | (with_reducible exact Below.refl _ _) | (with_reducible refine Below.adds_ ?_ ?_ _ _) | (with_reducible refine Below.alloc ?_ ?_ _) | (with_reducible refine Below.drew ?_) | (with_reducible refine Below.setCell ?_ ?_ _) | (with_reducible assumption) | go_size | (simp only [size_addsW, World.size_alloc, World.size_drew, World.size_setCell]; omega)))) (by omega)).mono ?_; rintro e w' ⟨rfl, hb⟩; obtain ⟨q1, m1, rfl⟩ := below_adds hb; clear hb; rw [E2.out]) | (go_at_call 21; refine (I_HalfSample _ _ _ _ _ _ ps _ (HR.out.keep (by repeat' (first | (with_reducible exact Below.refl _ _) | (with_reducible refine Below.adds_ ?_ ?_ _ _) | (with_reducible refine Below.alloc ?_ ?_ _) | (with_reducible refine Below.drew ?_) | (with_reducible refine Below.setCell ?_ ?_ _) | (with_reducible assumption) | go_size | (simp only [size_addsW, World.size_alloc, World.size_drew, World.size_setCell]; omega)))) (by omega)).mono ?_; rintro e w' ⟨rfl, hb⟩; obtain ⟨q2, m2, rfl⟩ := below_adds hb; clear hb; rw [E1.out]))
          all_goals
            go_wp2_with fail
            go_roundw
            case rel => exact ⟨k + 1, _, _, by go_num, by omega, rfl⟩
            case measure => simp [intOf]; omega
        · obtain rfl : k = 64 := by omega
          have h64 : ((L1.length : Int) == 64) = true := by rw [H1.out]; rfl
          go_wp2_with fail
          go_returns
          exact ⟨rfl, (by repeat' (first | (with_reducible exact Below.refl _ _) | (with_reducible refine Below.adds_ ?_ ?_ _ _) | (with_reducible refine Below.alloc ?_ ?_ _) | (with_reducible refine Below.drew ?_) | (with_reducible refine Below.setCell ?_ ?_ _) | (with_reducible assumption) | go_size | (simp only [size_addsW, World.size_alloc, World.size_drew, World.size_setCell]; omega)))⟩

set_option maxRecDepth 100000 in
theorem lifted (os : Os) (started : os.Started) (H : Type) (enc : TypeId × Value → H) :
    ReturnsInHanded {} Try.checked os 11 .any (Rows.fnMotionBlockSpec.pre6 enc Try.prog Try.f11 Rows.fnMotionBlockRow.domain false) (Rows.fnMotionBlockSpec.post enc Try.prog Try.f11 false true false false) := by
  refine returnsInHanded_of_change (C := Try.checked) own started (by kernel_rfl) Try.func11
    (ChangeSpec.witness6 (enc := enc) (C := Try.checked) false ⟨#[], #[.slice none 0 0], []⟩ 8 (by kernel_rfl) (by kernel_rfl) (by kernel_rfl) (by kernel_rfl)) ?_
  intro W base args ds gs before hval0 hW hcnd _
  have hval : ∀ (j : Nat) t v, Try.f11.params[j]? = some t → args[j]? = some v → Value.okWide Try.prog W .any base t v := hval0
  have hW' := hW
  obtain ⟨p, q, hA0, hV, rfl, hfz, hnd⟩ := hW
  have hA : DataW.TrodAll enc Try.prog W 0 (fun _ => true) true Try.f11.params.toList args.toList ds p := hA0
  rw [Try.params11] at hA hval
  obtain ⟨v0, vs0, d0, ds0, p0, q0, hargs, rfl, rfl, h0, r0⟩ := trodAll_cons hA
  obtain ⟨rfl, rfl, rfl⟩ := trodAll_nil r0
  obtain rfl : args = #[v0] := by cases args; simp_all
  obtain ⟨rfl, rfl⟩ := trodVars_none hV
  have k0 := h0
  have lt0 : ∀ x ∈ p0, x.block < W.heap.size := by obtain ⟨m, hm⟩ := k0; exact DataW.trod_lt m _ _ _ hm
  obtain ⟨aa0, ll0, cc0, rfl⟩ := okWide_slice Try.underlying33 (hval 0 33 v0 rfl rfl)
  obtain ⟨f0, hf0⟩ := h0
  simp only [Value.cells] at hf0
  obtain ⟨a_zs, len_zs, cap_zs, zs, e_zs, w_zs⟩ : ∃ a l c zs, (.slice aa0 ll0 cc0 : Value) = .slice a l c ∧ IsRow .u8 W a l c zs := by
    rcases open_ints Try.underlying33 Try.underlying5 (by kernel_rfl) hf0 with ⟨hcs, _⟩ | ⟨x, l, c, zs, hcs, _, hl, hm, hz, _, hcell, hwz⟩
    · simp only [List.cons.injEq, and_true] at hcs; exact ⟨none, 0, 0, [], hcs, .inl ⟨rfl, rfl, rfl, rfl⟩⟩
    · simp only [List.cons.injEq, and_true] at hcs; exact ⟨some x, l, c, zs, hcs, .inr ⟨x, rfl, hl, hm, by simpa using hz, hcell, hwz⟩⟩
  simp only [Value.slice.injEq] at e_zs
  obtain ⟨rfl, rfl, rfl⟩ := e_zs
  clear hA0 hval0
  refine (walk _ _ _ zs W w_zs).mono fun e W' ⟨he, bel⟩ => ?_
  subst he
  exact ⟨_, rfl, _, _, _, [], _, [], hW', trodAll_mk1 (shut_bool Try.underlying4 _), (trodAll_cons_mk (Below.trod laidOut (by kernel_rfl) (of_decide_eq_true (by kernel_rfl)) k0 bel lt0) trodAll_mk0), rfl, bel.frame _, fun h => by cases h⟩

theorem over : Rows.fnMotionBlockRow.holds Try.pinned (OpenSpec.ofChange Rows.fnMotionBlockSpec) :=
  OpenClaim.holds_of_wide 11 Try.f11 rfl rfl rfl rfl rfl rfl rfl ⟨rfl, rfl, rfl, rfl, rfl⟩ rfl rfl rfl rfl rfl (by kernel_rfl) Try.func11 (by kernel_rfl)
    (of_decide_eq_true (by kernel_rfl)) (by unfold Func.isWrapper; first | (rw [if_pos (by decide +kernel)]; kernel_rfl) | (rw [if_neg (by decide +kernel)]; exact ⟨rfl, rfl⟩))
    (fun os started H enc _ => lifted os started H enc)

theorem proved : Rows.FnMotionBlockSaid := over
#print axioms proved
end Go.Proofs.Ytobphddjoebfjaa.fnMotionBlock
