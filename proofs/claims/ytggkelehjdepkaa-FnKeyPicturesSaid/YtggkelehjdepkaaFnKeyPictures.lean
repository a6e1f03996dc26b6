/- PROVED: the law laws.FnKeyPictures returns true for every input: whatever coded pictures are drawn from the code, KeyPictures answers as the reference does: the ascending indices of exactly the intra pictures; no conditions. -/
import Derived.Test.YtggkelehjdepkaaRows
import Derived.Test.YtggkelehjdepkaaKeyM
import Derived.Test.YtggkelehjdepkaaSame
import Derived.Test.YtggkelehjdepkaaNew
import Derived.WalkKit
import Derived.ProofKit
import Derived.OpenShut
import Derived.ShutString
import Derived.ChangeOld
import Derived.Below
import Derived.Lib.SmallJoins
namespace Go.Proofs.Ytggkelehjdepkaa.fnKeyPictures
open Go.ChangeShapes Go.WideShapes Go.ChangeAt Go.RowKit
open Go.ChangeMaps (open_string shut_string)
set_option linter.unusedVariables false
set_option linter.unusedSimpArgs false

theorem own : ownKnob Try.prog.godebug = none := by kernel_rfl
theorem laidOut : laidOutB Try.prog = true := by kernel_rfl

attribute [local go_sem] size_addsW cell?_addsW frozen?_addsW setCell_addsW drew_addsW adds_addsW setCell_twice alloc_adds0 size_adds0 adds_adds0 sel2 sel3 sel4 sel5 sel6 sel7 sel8 sel9 lt_more lt_more2 lt_more3 lt_more4 adds_drew adds_drewN drewN_addsW ltA_1_1 ltA_1_2 ltA_1_3 ltA_1_4 ltA_1_5 ltA_1_6 ltA_2_1 ltA_2_2 ltA_2_3 ltA_2_4 ltA_2_5 ltA_2_6 ltA_3_1 ltA_3_2 ltA_3_3 ltA_3_4 ltA_3_5 ltA_3_6 ltA_4_1 ltA_4_2 ltA_4_3 ltA_4_4 ltA_4_5 ltA_4_6 ltA_5_1 ltA_5_2 ltA_5_3 ltA_5_4 ltA_5_5 ltA_5_6 ltA_6_1 ltA_6_2 ltA_6_3 ltA_6_4 ltA_6_5 ltA_6_6 ltA_7_1 ltA_7_2 ltA_7_3 ltA_7_4 ltA_7_5 ltA_7_6 ltA_8_1 ltA_8_2 ltA_8_3 ltA_8_4 ltA_8_5 ltA_8_6 ltA_9_1 ltA_9_2 ltA_9_3 ltA_9_4 ltA_9_5 ltA_9_6 ltA_10_1 ltA_10_2 ltA_10_3 ltA_10_4 ltA_10_5 ltA_10_6 ltA_11_1 ltA_11_2 ltA_11_3 ltA_11_4 ltA_11_5 ltA_11_6 ltA_12_1 ltA_12_2 ltA_12_3 ltA_12_4 ltA_12_5 ltA_12_6
theorem keysU_step (f : Nat → Bool) (k : Nat) : keysU f k <+: keysU f (k + 1) := by
  rw [keysU]; split
  · exact List.prefix_append _ _
  · exact List.prefix_refl _
theorem keysU_pre (f : Nat → Bool) (k : Nat) : ∀ d, keysU f k <+: keysU f (k + d)
  | 0 => List.prefix_refl _
  | d + 1 => (keysU_pre f k d).trans (keysU_step f (k + d))
theorem keys_at {f : Nat → Bool} {k n : Nat} (h : k < n) (hf : f k = true) : (keysU f k).length < (keysU f n).length ∧ (keysU f n).getD (keysU f k).length 0 = (k : Int) := by
  have hp := keysU_pre f (k + 1) (n - (k + 1))
  rw [show k + 1 + (n - (k + 1)) = n by omega] at hp
  have hs : keysU f (k + 1) = keysU f k ++ [(k : Int)] := by rw [keysU, if_pos hf]
  obtain ⟨t, ht⟩ := hp
  rw [hs] at ht
  rw [← ht]
  refine ⟨by simp, ?_⟩
  simp [List.getD_eq_getElem?_getD]

set_option maxHeartbeats 4000000 in
set_option maxRecDepth 100000 in
theorem walk (a_zs : Option Addr) (len_zs cap_zs : Nat) (zs : List Int) (w : World) (w_zs : IsRow .u8 w a_zs len_zs cap_zs zs) :
    Calls Try.prog 6 #[.slice a_zs len_zs cap_zs] w fun e w' => e = .returned (.bool true) ∧ Below w.heap.size w w' := by
  have hlm := (RowAt.of_row w_zs).2.2.1
  unfold maxLen at hlm
  have HI := Lib.hid w_zs
  clear w_zs
  by_cases hbig : 1048576 < len_zs
  · go_enter Try.func6, Try.ntmps6
    go_wp2
    go_returns
    exact ⟨rfl, (by repeat' (first | (with_reducible exact Below.refl _ _) | (with_reducible refine Below.adds_ ?_ ?_ _ _) | (with_reducible refine Below.alloc ?_ ?_ _) | (with_reducible refine Below.drew ?_) | (with_reducible refine Below.setCell ?_ ?_ _) | (with_reducible assumption) | go_size | (simp only [size_addsW, World.size_alloc, World.size_drew, World.size_setCell]; omega)))⟩
  · go_enter Try.func6, Try.ntmps6
    go_wp2_with fail
    refine (S_DrawKeyPictures _ _ _ zs _ HI.out).mono ?_
    rintro e w1 ⟨A, c, l, rfl, hl, hC, hb⟩
    obtain ⟨n, hn⟩ : ∃ n, n = l.length := ⟨_, rfl⟩
    rw [← hn] at hl hC ⊢
    obtain ⟨E, hE⟩ : ∃ E : Nat → CdE, E = fun i => l.getD i e0 := ⟨_, rfl⟩
    rw [← hE] at hC
    obtain ⟨f, hf⟩ : ∃ f : Nat → Bool, f = fun i => (E i).i := ⟨_, rfl⟩
    have hfi : ∀ k, k < n → (E k).i = f k := fun k _ => by rw [hf]
    have HC := Lib.hid hC
    have HB := Lib.hid hb
    have HF := Lib.hid hfi
    clear hC hb hfi hn hE hf HI hlm hbig
    clear l
    obtain ⟨L, hL⟩ : ∃ L, L = keysL f n := ⟨_, rfl⟩
    have hLn := keysL_len f n
    rw [← hL] at hLn
    have HL := Lib.hid (show L = keysU f n by rw [hL]; exact if_pos (by omega))
    have CI := Lib.hid (show ∀ W, CSAt W A n E → Calls Try.prog 27 #[.slice A n c] W (IntsGotK L W) from fun W hW => by rw [hL]; exact I_KeyPictures A n c E f W hW HF.out (by omega))
    have CS := Lib.hid (show ∀ W, CSAt W A n E → Calls Try.prog 29 #[.slice A n c] W (IntsGotK L W) from fun W hW => by rw [hL]; exact S_KeyPictures A n c E f W hW HF.out (by omega))
    clear hL
    go_wp2_with fail
    refine (CI.out _ HC.out).mono ?_
    rintro e w2 ⟨A1, c1, rfl, hr1, -, -, hb⟩
    have HC2 := Lib.hid (HC.out.keep hb)
    have HB2 := Lib.hid (HB.out.trans (hb.mono HB.out.size))
    have HR1 := Lib.hid hr1
    clear hr1 hb HC HB
    go_wp2_with fail
    refine (CS.out _ HC2.out).mono ?_
    rintro e w3 ⟨A2, c2, rfl, hr2, -, -, hb⟩
    have HC3 := Lib.hid (HC2.out.keep hb)
    have HB3 := Lib.hid (HB2.out.trans (hb.mono HB2.out.size))
    have HR2 := Lib.hid (HR1.out.keep hb)
    have HR3 := Lib.hid hr2
    clear hr2 hb HC2 HB2 HR1
    go_wp2_with fail
    refine (L_sameInts A1 A2 c1 c2 L _ HR2.out HR3.out (by omega)).mono ?_
    rintro e w4 ⟨rfl, hb⟩
    have HC4 := Lib.hid (HC3.out.keep hb)
    have HB4 := Lib.hid (HB3.out.trans (hb.mono HB3.out.size))
    have HR4 := Lib.hid (HR2.out.keep hb)
    clear hb HC3 HB3 HR2 HR3 CI CS
    have hn8 : ¬ (8 : Int) < (n : Int) := by omega
    go_wp2_with fail
    go_loop [5, 6] (fun m i => ∃ k : Nat, k ≤ n ∧ i = .int .i64 (k : Int) ∧ m = .int .i64 ((keysU f k).length : Int)) (fun _ i => n - (intOf i).toNat)
    case atStart => exact ⟨0, Nat.zero_le _, rfl, rfl⟩
    case round =>
      obtain ⟨k, hk, rfl, rfl⟩ := hrel
      have hkl := keysU_len f k
      by_cases hlt : k < n
      · have hd1 : decide ((k : Int) < (n : Int)) = true := by simp; omega
        have hk1 : (k : Int) < (n : Int) := by omega
        obtain ⟨b, off, rfl, hbl, -, -, c2', -, -⟩ := HC4.out.at_ hlt
        rw [HF.out k hlt] at c2'
        have HS := Lib.hid (show keysU f (k + 1) = if f k then keysU f k ++ [(k : Int)] else keysU f k from rfl)
        cases hfk : f k
        · rw [hfk] at c2' HS
          clear hfk
          go_wp2_with fail
          go_round
          case rel => exact ⟨k + 1, by omega, by go_num, by rw [HS.out, if_neg (by decide)]⟩
          case measure => simp [intOf]; omega
        · obtain ⟨h1, h2⟩ := keys_at hlt hfk
          rw [← HL.out] at h1 h2
          obtain ⟨gb, goff, z, rfl, hgl, hz, hcz⟩ := HR4.out.at_ h1
          rw [hz, h2] at hcz
          rw [hfk] at c2' HS
          have HS2 := Lib.hid (show (keysU f (k + 1)).length = (keysU f k).length + 1 by rw [HS.out, if_pos rfl]; simp)
          clear hfk hz h2 HS
          generalize (keysU f k).length = m at *
          have hm1 : (m : Int) < (L.length : Int) := by omega
          have hm2 : ¬ (L.length : Int) ≤ (m : Int) := by omega
          obtain ⟨LL, hLL⟩ : ∃ LL, LL = L.length := ⟨_, rfl⟩
          go_wp2_with fail
          go_round
          case rel => exact ⟨k + 1, by omega, by go_num, by rw [HS2.out]; go_num⟩
          case measure => simp [intOf]; omega
      · obtain rfl : k = n := by omega
        have hd1 : decide ((k : Int) < (k : Int)) = false := by simp
        have hLL : (keysU f k).length = L.length := by rw [HL.out]
        rw [hLL]
        clear hLL hkl
        generalize L.length = m at *
        go_wp2_with (go_at_call 11; refine (L_alive _).mono ?_; rintro e w' ⟨rfl, hb⟩; obtain ⟨o1, n1, rfl⟩ := below_adds hb; clear hb)
        go_returns
        exact ⟨rfl, Below.adds_ HB4.out HB4.out.size _ _⟩

set_option maxRecDepth 100000 in
theorem lifted (os : Os) (started : os.Started) (H : Type) (enc : TypeId × Value → H) :
    ReturnsInHanded {} Try.checked os 6 .any (Rows.fnKeyPicturesSpec.pre6 enc Try.prog Try.f6 Rows.fnKeyPicturesRow.domain false) (Rows.fnKeyPicturesSpec.post enc Try.prog Try.f6 false true false false) := by
  refine returnsInHanded_of_change (C := Try.checked) own started (by kernel_rfl) Try.func6
    (ChangeSpec.witness6 (enc := enc) (C := Try.checked) false ⟨#[], #[.slice none 0 0], []⟩ 8 (by kernel_rfl) (by kernel_rfl) (by kernel_rfl) (by kernel_rfl)) ?_
  intro W base args ds gs before hval0 hW hcnd _
  have hval : ∀ (j : Nat) t v, Try.f6.params[j]? = some t → args[j]? = some v → Value.okWide Try.prog W .any base t v := hval0
  have hW' := hW
  obtain ⟨p, q, hA0, hV, rfl, hfz, hnd⟩ := hW
  have hA : DataW.TrodAll enc Try.prog W 0 (fun _ => true) true Try.f6.params.toList args.toList ds p := hA0
  rw [Try.params6] at hA hval
  obtain ⟨v0, vs0, d0, ds0, p0, q0, hargs, rfl, rfl, h0, r0⟩ := trodAll_cons hA
  obtain ⟨rfl, rfl, rfl⟩ := trodAll_nil r0
  obtain rfl : args = #[v0] := by cases args; simp_all
  obtain ⟨rfl, rfl⟩ := trodVars_none hV
  have k0 := h0
  have lt0 : ∀ x ∈ p0, x.block < W.heap.size := by obtain ⟨m, hm⟩ := k0; exact DataW.trod_lt m _ _ _ hm
  obtain ⟨aa0, ll0, cc0, rfl⟩ := okWide_slice Try.underlying22 (hval 0 22 v0 rfl rfl)
  obtain ⟨f0, hf0⟩ := h0
  simp only [Value.cells] at hf0
  obtain ⟨a_zs, len_zs, cap_zs, zs, e_zs, w_zs⟩ : ∃ a l c zs, (.slice aa0 ll0 cc0 : Value) = .slice a l c ∧ IsRow .u8 W a l c zs := by
    rcases open_ints Try.underlying22 Try.underlying5 (by kernel_rfl) hf0 with ⟨hcs, _⟩ | ⟨x, l, c, zs, hcs, _, hl, hm, hz, _, hcell, hwz⟩
    · simp only [List.cons.injEq, and_true] at hcs; exact ⟨none, 0, 0, [], hcs, .inl ⟨rfl, rfl, rfl, rfl⟩⟩
    · simp only [List.cons.injEq, and_true] at hcs; exact ⟨some x, l, c, zs, hcs, .inr ⟨x, rfl, hl, hm, by simpa using hz, hcell, hwz⟩⟩
  simp only [Value.slice.injEq] at e_zs
  obtain ⟨rfl, rfl, rfl⟩ := e_zs
  clear hA0 hval0
  refine (walk _ _ _ zs W w_zs).mono fun e W' ⟨he, bel⟩ => ?_
  subst he
  exact ⟨_, rfl, _, _, _, [], _, [], hW', trodAll_mk1 (shut_bool Try.underlying4 _), (trodAll_cons_mk (Below.trod laidOut (by kernel_rfl) (of_decide_eq_true (by kernel_rfl)) k0 bel lt0) trodAll_mk0), rfl, bel.frame _, fun h => by cases h⟩

theorem over : Rows.fnKeyPicturesRow.holds Try.pinned (OpenSpec.ofChange Rows.fnKeyPicturesSpec) :=
  OpenClaim.holds_of_wide 6 Try.f6 rfl rfl rfl rfl rfl rfl rfl ⟨rfl, rfl, rfl, rfl, rfl⟩ rfl rfl rfl rfl rfl (by kernel_rfl) Try.func6 (by kernel_rfl)
    (of_decide_eq_true (by kernel_rfl)) (by unfold Func.isWrapper; first | (rw [if_pos (by decide +kernel)]; kernel_rfl) | (rw [if_neg (by decide +kernel)]; exact ⟨rfl, rfl⟩))
    (fun os started H enc _ => lifted os started H enc)

theorem proved : Rows.FnKeyPicturesSaid := over
#print axioms proved
end Go.Proofs.Ytggkelehjdepkaa.fnKeyPictures
