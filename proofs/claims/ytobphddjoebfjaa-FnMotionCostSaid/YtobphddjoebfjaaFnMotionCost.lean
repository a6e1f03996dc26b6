/- PROVED: the law laws.FnMotionCost returns true for every input (the cost of a picture with itself and the zero vector is 0, and every cost is at most 16320; it answers as the reference does); no conditions. -/
import Derived.Test.YtobphddjoebfjaaRows
import Derived.Test.YtobphddjoebfjaaCostM
import Derived.Test.YtobphddjoebfjaaDrawM
import Derived.Test.YtobphddjoebfjaaNew
import Derived.WalkKit
import Derived.ProofKit
import Derived.OpenShut
import Derived.ShutString
import Derived.ChangeOld
import Derived.Below
import Derived.Lib.SmallJoins
namespace Go.Proofs.Ytobphddjoebfjaa.fnMotionCost
open Go.ChangeShapes Go.WideShapes Go.ChangeAt Go.RowKit
open Go.ChangeMaps (open_string shut_string)
set_option linter.unusedVariables false
set_option linter.unusedSimpArgs false

theorem own : ownKnob Try.prog.godebug = none := by kernel_rfl
theorem laidOut : laidOutB Try.prog = true := by kernel_rfl

attribute [local go_sem] size_addsW cell?_addsW frozen?_addsW setCell_addsW drew_addsW adds_addsW setCell_twice alloc_adds0 size_adds0 adds_adds0 sel2 sel3 sel4 sel5 sel6 sel7 sel8 sel9 lt_more lt_more2 lt_more3 lt_more4 adds_drew adds_drewN drewN_addsW ltA_1_1 ltA_1_2 ltA_1_3 ltA_1_4 ltA_1_5 ltA_1_6 ltA_2_1 ltA_2_2 ltA_2_3 ltA_2_4 ltA_2_5 ltA_2_6 ltA_3_1 ltA_3_2 ltA_3_3 ltA_3_4 ltA_3_5 ltA_3_6 ltA_4_1 ltA_4_2 ltA_4_3 ltA_4_4 ltA_4_5 ltA_4_6 ltA_5_1 ltA_5_2 ltA_5_3 ltA_5_4 ltA_5_5 ltA_5_6 ltA_6_1 ltA_6_2 ltA_6_3 ltA_6_4 ltA_6_5 ltA_6_6 ltA_7_1 ltA_7_2 ltA_7_3 ltA_7_4 ltA_7_5 ltA_7_6 ltA_8_1 ltA_8_2 ltA_8_3 ltA_8_4 ltA_8_5 ltA_8_6 ltA_9_1 ltA_9_2 ltA_9_3 ltA_9_4 ltA_9_5 ltA_9_6 ltA_10_1 ltA_10_2 ltA_10_3 ltA_10_4 ltA_10_5 ltA_10_6 ltA_11_1 ltA_11_2 ltA_11_3 ltA_11_4 ltA_11_5 ltA_11_6 ltA_12_1 ltA_12_2 ltA_12_3 ltA_12_4 ltA_12_5 ltA_12_6

theorem sad_self (f : Nat → Int) (n : Nat) : sad f f n = 0 := by
  induction n with
  | zero => rfl
  | succ n ih => rw [sad, ih]; omega
theorem cost_self (a b : Int) (zs : List Int) (x y : Int) : cost a b zs zs x y 0 0 = 0 := by rw [← cost_lists]; exact sad_self _ _
theorem mc_facts {a b a' b' x y u v : Int} {zs zs' : List Int} (h : 0 ≤ mcV a b zs a' b' zs' x y u v) : mcV a b zs a' b' zs' x y u v ≤ 16320 ∧ mcV a b zs a b zs x y 0 0 = 0 := by
  cases hm : mcB a b zs a' b' zs' x y u v
  · simp [mcV, hm] at h
  · have h2 : sameB a b zs a' b' zs' = true ∧ begB a b x y = true ∧ M.vecB u v = true := by
      simp only [mcB, Bool.and_eq_true] at hm; exact ⟨hm.1.1, hm.1.2, hm.2⟩
    obtain ⟨p1, p2, e1, e2⟩ := sameB_of h2.1
    subst e1 e2
    have s1 := (picB_iff.1 p1).2.2.2
    have s2 := (picB_iff.1 p2).2.2.2
    constructor
    · rw [mcV, hm, if_pos rfl, ← cost_lists, mvL_len]
      exact (sad_bd 64 (fun k hk => ⟨mvL_bytes s1 x y 0 0 k, mvL_bytes s2 x y u v k⟩)).2
    · rw [mcV, show mcB a b zs a b zs x y 0 0 = true by simp [mcB, sameB, p1, h2.2.1, M.vecB], if_pos rfl, cost_self]

set_option maxHeartbeats 4000000 in
set_option maxRecDepth 100000 in
theorem walk (a_cs : Option Addr) (len_cs cap_cs : Nat) (cs : List Int) (w : World) (w_cs : IsRow .u8 w a_cs len_cs cap_cs cs) :
    Calls Try.prog 12 #[.slice a_cs len_cs cap_cs] w fun e w' => e = .returned (.bool true) ∧ Below w.heap.size w w' := by
  have hlm := (RowAt.of_row w_cs).2.2.1
  unfold maxLen at hlm
  have HI := Lib.hid w_cs
  clear w_cs
  by_cases hbig : 1048576 < len_cs
  · go_enter Try.func12, Try.ntmps12
    go_wp2
    go_returns
    exact ⟨rfl, (by repeat' (first | (with_reducible exact Below.refl _ _) | (with_reducible refine Below.adds_ ?_ ?_ _ _) | (with_reducible refine Below.alloc ?_ ?_ _) | (with_reducible refine Below.drew ?_) | (with_reducible refine Below.setCell ?_ ?_ _) | (with_reducible assumption) | go_size | (simp only [size_addsW, World.size_alloc, World.size_drew, World.size_setCell]; omega)))⟩
  · go_enter Try.func12, Try.ntmps12
    go_wp2_with fail
    refine (S_DrawMotionCost _ _ _ cs _ (IsRow.keep HI.out (by repeat' (first | (with_reducible exact Below.refl _ _) | (with_reducible refine Below.adds_ ?_ ?_ _ _) | (with_reducible refine Below.alloc ?_ ?_ _) | (with_reducible refine Below.drew ?_) | (with_reducible refine Below.setCell ?_ ?_ _) | (with_reducible assumption) | go_size | (simp only [size_addsW, World.size_alloc, World.size_drew, World.size_setCell]; omega))))).mono ?_
    rintro e w1 ⟨a, b, A, c, zs, a', b', A', c', zs', x, y, u, v, rfl, hxy, huv, hz, hz', -, -, -, -, hr, hr', hb⟩
    have B1 := Lib.hid hb
    have R := Lib.hid hr
    have R' := Lib.hid hr'
    have z1 := hb.size
    clear hb hr hr'
    obtain ⟨n, hn⟩ : ∃ n, n = mcV a b zs a' b' zs' x y u v := ⟨_, rfl⟩
    have HN := Lib.hid hn
    clear hn
    go_wp2_with fail
    refine (I_MotionCost a b a' b' x y u v _ _ _ _ zs zs' _ (R.out.keep (by repeat' (first | (with_reducible exact Below.refl _ _) | (with_reducible refine Below.adds_ ?_ ?_ _ _) | (with_reducible refine Below.alloc ?_ ?_ _) | (with_reducible refine Below.drew ?_) | (with_reducible refine Below.setCell ?_ ?_ _) | (with_reducible assumption) | go_size | (simp only [size_addsW, World.size_alloc, World.size_drew, World.size_setCell]; omega)))) (R'.out.keep (by repeat' (first | (with_reducible exact Below.refl _ _) | (with_reducible refine Below.adds_ ?_ ?_ _ _) | (with_reducible refine Below.alloc ?_ ?_ _) | (with_reducible refine Below.drew ?_) | (with_reducible refine Below.setCell ?_ ?_ _) | (with_reducible assumption) | go_size | (simp only [size_addsW, World.size_alloc, World.size_drew, World.size_setCell]; omega)))) (by omega) (by omega)).mono ?_
    rw [← HN.out]
    rintro e w2 ⟨rfl, hb⟩
    obtain ⟨o2, n2, rfl⟩ := below_adds hb
    clear hb
    go_wp2_with fail
    refine (S_MotionCost a b a' b' x y u v _ _ _ _ zs zs' _ (R.out.keep (by repeat' (first | (with_reducible exact Below.refl _ _) | (with_reducible refine Below.adds_ ?_ ?_ _ _) | (with_reducible refine Below.alloc ?_ ?_ _) | (with_reducible refine Below.drew ?_) | (with_reducible refine Below.setCell ?_ ?_ _) | (with_reducible assumption) | go_size | (simp only [size_addsW, World.size_alloc, World.size_drew, World.size_setCell]; omega)))) (R'.out.keep (by repeat' (first | (with_reducible exact Below.refl _ _) | (with_reducible refine Below.adds_ ?_ ?_ _ _) | (with_reducible refine Below.alloc ?_ ?_ _) | (with_reducible refine Below.drew ?_) | (with_reducible refine Below.setCell ?_ ?_ _) | (with_reducible assumption) | go_size | (simp only [size_addsW, World.size_alloc, World.size_drew, World.size_setCell]; omega)))) (by omega) (by omega)).mono ?_
    rw [← HN.out]
    rintro e w2 ⟨rfl, hb⟩
    obtain ⟨o3, n3, rfl⟩ := below_adds hb
    clear hb
    by_cases hneg : n < 0
    · go_wp2_with (go_at_call 26; refine (L_alive _).mono ?_; rintro e w' ⟨rfl, hb⟩; obtain ⟨o4, n4, rfl⟩ := below_adds hb; clear hb)
      go_returns
      exact ⟨rfl, B1.out.trans (Below.mono (show Below w1.heap.size w1 _ from (by repeat' (first | (with_reducible exact Below.refl _ _) | (with_reducible refine Below.adds_ ?_ ?_ _ _) | (with_reducible refine Below.alloc ?_ ?_ _) | (with_reducible refine Below.drew ?_) | (with_reducible refine Below.setCell ?_ ?_ _) | (with_reducible assumption) | go_size | (simp only [size_addsW, World.size_alloc, World.size_drew, World.size_setCell]; omega)))) z1)⟩
    · have hf := mc_facts (a := a) (b := b) (a' := a') (b' := b') (x := x) (y := y) (u := u) (v := v) (zs := zs) (zs' := zs') (by rw [← HN.out]; omega)
      have hn1 : n ≤ 16320 := by rw [HN.out]; exact hf.1
      have HF := Lib.hid hf.2
      clear hf
      go_wp2_with fail
      refine (I_MotionCost a b a b x y 0 0 _ _ _ _ zs zs _ (R.out.keep (by repeat' (first | (with_reducible exact Below.refl _ _) | (with_reducible refine Below.adds_ ?_ ?_ _ _) | (with_reducible refine Below.alloc ?_ ?_ _) | (with_reducible refine Below.drew ?_) | (with_reducible refine Below.setCell ?_ ?_ _) | (with_reducible assumption) | go_size | (simp only [size_addsW, World.size_alloc, World.size_drew, World.size_setCell]; omega)))) (R.out.keep (by repeat' (first | (with_reducible exact Below.refl _ _) | (with_reducible refine Below.adds_ ?_ ?_ _ _) | (with_reducible refine Below.alloc ?_ ?_ _) | (with_reducible refine Below.drew ?_) | (with_reducible refine Below.setCell ?_ ?_ _) | (with_reducible assumption) | go_size | (simp only [size_addsW, World.size_alloc, World.size_drew, World.size_setCell]; omega)))) (by omega) (by omega)).mono ?_
      rw [HF.out]
      rintro e w2 ⟨rfl, hb⟩
      obtain ⟨o4, n4, rfl⟩ := below_adds hb
      clear hb
      go_wp2_with fail
      go_returns
      exact ⟨rfl, B1.out.trans (Below.mono (show Below w1.heap.size w1 _ from (by repeat' (first | (with_reducible exact Below.refl _ _) | (with_reducible refine Below.adds_ ?_ ?_ _ _) | (with_reducible refine Below.alloc ?_ ?_ _) | (with_reducible refine Below.drew ?_) | (with_reducible refine Below.setCell ?_ ?_ _) | (with_reducible assumption) | go_size | (simp only [size_addsW, World.size_alloc, World.size_drew, World.size_setCell]; omega)))) z1)⟩

set_option maxRecDepth 100000 in
theorem lifted (os : Os) (started : os.Started) (H : Type) (enc : TypeId × Value → H) :
    ReturnsInHanded {} Try.checked os 12 .any (Rows.fnMotionCostSpec.pre6 enc Try.prog Try.f12 Rows.fnMotionCostRow.domain false) (Rows.fnMotionCostSpec.post enc Try.prog Try.f12 false true false false) := by
  refine returnsInHanded_of_change (C := Try.checked) own started (by kernel_rfl) Try.func12
    (ChangeSpec.witness6 (enc := enc) (C := Try.checked) false ⟨#[], #[.slice none 0 0], []⟩ 8 (by kernel_rfl) (by kernel_rfl) (by kernel_rfl) (by kernel_rfl)) ?_
  intro W base args ds gs before hval0 hW hcnd _
  have hval : ∀ (j : Nat) t v, Try.f12.params[j]? = some t → args[j]? = some v → Value.okWide Try.prog W .any base t v := hval0
  have hW' := hW
  obtain ⟨p, q, hA0, hV, rfl, hfz, hnd⟩ := hW
  have hA : DataW.TrodAll enc Try.prog W 0 (fun _ => true) true Try.f12.params.toList args.toList ds p := hA0
  rw [Try.params12] at hA hval
  obtain ⟨v0, vs0, d0, ds0, p0, q0, hargs, rfl, rfl, h0, r0⟩ := trodAll_cons hA
  obtain ⟨rfl, rfl, rfl⟩ := trodAll_nil r0
  obtain rfl : args = #[v0] := by cases args; simp_all
  obtain ⟨rfl, rfl⟩ := trodVars_none hV
  have k0 := h0
  have lt0 : ∀ x ∈ p0, x.block < W.heap.size := by obtain ⟨m, hm⟩ := k0; exact DataW.trod_lt m _ _ _ hm
  obtain ⟨aa0, ll0, cc0, rfl⟩ := okWide_slice Try.underlying33 (hval 0 33 v0 rfl rfl)
  obtain ⟨f0, hf0⟩ := h0
  simp only [Value.cells] at hf0
  obtain ⟨a_cs, len_cs, cap_cs, cs, e_cs, w_cs⟩ : ∃ a l c zs, (.slice aa0 ll0 cc0 : Value) = .slice a l c ∧ IsRow .u8 W a l c zs := by
    rcases open_ints Try.underlying33 Try.underlying5 (by kernel_rfl) hf0 with ⟨hcs, _⟩ | ⟨x, l, c, zs, hcs, _, hl, hm, hz, _, hcell, hwz⟩
    · simp only [List.cons.injEq, and_true] at hcs; exact ⟨none, 0, 0, [], hcs, .inl ⟨rfl, rfl, rfl, rfl⟩⟩
    · simp only [List.cons.injEq, and_true] at hcs; exact ⟨some x, l, c, zs, hcs, .inr ⟨x, rfl, hl, hm, by simpa using hz, hcell, hwz⟩⟩
  simp only [Value.slice.injEq] at e_cs
  obtain ⟨rfl, rfl, rfl⟩ := e_cs
  clear hA0 hval0
  refine (walk _ _ _ cs W w_cs).mono fun e W' ⟨he, bel⟩ => ?_
  subst he
  exact ⟨_, rfl, _, _, _, [], _, [], hW', trodAll_mk1 (shut_bool Try.underlying4 _), (trodAll_cons_mk (Below.trod laidOut (by kernel_rfl) (of_decide_eq_true (by kernel_rfl)) k0 bel lt0) trodAll_mk0), rfl, bel.frame _, fun h => by cases h⟩

theorem over : Rows.fnMotionCostRow.holds Try.pinned (OpenSpec.ofChange Rows.fnMotionCostSpec) :=
  OpenClaim.holds_of_wide 12 Try.f12 rfl rfl rfl rfl rfl rfl rfl ⟨rfl, rfl, rfl, rfl, rfl⟩ rfl rfl rfl rfl rfl (by kernel_rfl) Try.func12 (by kernel_rfl)
    (of_decide_eq_true (by kernel_rfl)) (by unfold Func.isWrapper; first | (rw [if_pos (by decide +kernel)]; kernel_rfl) | (rw [if_neg (by decide +kernel)]; exact ⟨rfl, rfl⟩))
    (fun os started H enc _ => lifted os started H enc)

theorem proved : Rows.FnMotionCostSaid := over
#print axioms proved
end Go.Proofs.Ytobphddjoebfjaa.fnMotionCost
