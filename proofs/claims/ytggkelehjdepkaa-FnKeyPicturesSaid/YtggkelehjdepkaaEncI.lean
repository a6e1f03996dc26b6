/- The program's EncodeBins. -/
import Derived.Test.YtggkelehjdepkaaChI
namespace Go.Proofs.Ytggkelehjdepkaa
open Go.RowKit
set_option linter.unusedVariables false
set_option linter.unusedSimpArgs false

attribute [local go_sem] size_addsW cell?_addsW frozen?_addsW setCell_addsW drew_addsW adds_addsW setCell_twice alloc_adds0 size_adds0 adds_adds0 sel2 sel3 sel4 sel5 sel6 sel7 sel8 sel9 lt_more lt_more2 lt_more3 lt_more4 adds_drew adds_drewN drewN_addsW ltA_1_1 ltA_1_2 ltA_1_3 ltA_1_4 ltA_1_5 ltA_1_6 ltA_2_1 ltA_2_2 ltA_2_3 ltA_2_4 ltA_2_5 ltA_2_6 ltA_3_1 ltA_3_2 ltA_3_3 ltA_3_4 ltA_3_5 ltA_3_6 ltA_4_1 ltA_4_2 ltA_4_3 ltA_4_4 ltA_4_5 ltA_4_6 ltA_5_1 ltA_5_2 ltA_5_3 ltA_5_4 ltA_5_5 ltA_5_6 ltA_6_1 ltA_6_2 ltA_6_3 ltA_6_4 ltA_6_5 ltA_6_6 ltA_7_1 ltA_7_2 ltA_7_3 ltA_7_4 ltA_7_5 ltA_7_6 ltA_8_1 ltA_8_2 ltA_8_3 ltA_8_4 ltA_8_5 ltA_8_6 ltA_9_1 ltA_9_2 ltA_9_3 ltA_9_4 ltA_9_5 ltA_9_6 ltA_10_1 ltA_10_2 ltA_10_3 ltA_10_4 ltA_10_5 ltA_10_6 ltA_11_1 ltA_11_2 ltA_11_3 ltA_11_4 ltA_11_5 ltA_11_6 ltA_12_1 ltA_12_2 ltA_12_3 ltA_12_4 ltA_12_5 ltA_12_6

/-- the coder's cells at the start -/
def encA : Array Value := (Value.int .u64 0 :: Value.int .u64 4294967295 :: ((List.replicate 40 (2048 : Int)).map (Value.int .i64) ++ [.slice none 0 0])).toArray
theorem encA_size : encA.size = 43 := by kernel_rfl
theorem encA_one : encA.all (·.oneCell') = true := by kernel_rfl
theorem encA_fold : Array.foldl (fun (cs : Array Value) (x : Value × Nat) => cs.setIfInBounds (2 + x.snd) x.fst) #[.int .u64 0, .int .u64 4294967295, .int .i64 0, .int .i64 0, .int .i64 0, .int .i64 0, .int .i64 0, .int .i64 0, .int .i64 0, .int .i64 0, .int .i64 0, .int .i64 0, .int .i64 0, .int .i64 0, .int .i64 0, .int .i64 0, .int .i64 0, .int .i64 0, .int .i64 0, .int .i64 0, .int .i64 0, .int .i64 0, .int .i64 0, .int .i64 0, .int .i64 0, .int .i64 0, .int .i64 0, .int .i64 0, .int .i64 0, .int .i64 0, .int .i64 0, .int .i64 0, .int .i64 0, .int .i64 0, .int .i64 0, .int .i64 0, .int .i64 0, .int .i64 0, .int .i64 0, .int .i64 0, .int .i64 0, .int .i64 0, .slice none 0 0] (ch40 40).zipIdx 0 (ch40 40).size = encA := by kernel_rfl
theorem infoEnc : (Try.prog.info? 110).map (·.size) = some 43 := by kernel_rfl
theorem heap_new_gI (w : World) (o : Obj) (g : Nat) (hg : g = w.heap.size) : (w.alloc o).heap[g]? = some o := by subst hg; exact heap_alloc_new w o
theorem setRow_gI (w : World) (old cs : Array Value) (t : TypeId) (g : Nat) (hg : g = w.heap.size) : (w.alloc (.cells old t)).setRow g cs = w.alloc (.cells cs t) := by
  subst hg
  show (⟨(w.heap.push (.cells old t)).modify w.heap.size _, w.tape, w.drawn, w.os, w.output⟩ : World) = ⟨w.heap.push (.cells cs t), w.tape, w.drawn, w.os, w.output⟩
  congr 1
  apply Array.ext_getElem?
  intro k
  rw [Array.getElem?_modify, Array.getElem?_push, Array.getElem?_push]
  by_cases h : k = w.heap.size
  · subst h; simp
  · rw [if_neg (fun e => h e.symm)]; simp only [if_neg h]

theorem CodIAt.keep {w w' : World} {C : Nat} {k : M.Coder} (h : CodIAt w C k) (hb : Below w.heap.size w w') : CodIAt w' C k := by
  obtain ⟨⟨low, out, vo, hc, r⟩, g⟩ := h
  exact ⟨⟨low, out, vo, hc.keep hb, r⟩, g⟩
theorem CodIAt.lt {w : World} {C : Nat} {k : M.Coder} (h : CodIAt w C k) : C < w.heap.size := by
  obtain ⟨⟨low, out, vo, hc, r⟩, g⟩ := h
  exact hc.lt
theorem low_step {j : Nat} {low q : Int} (hj : j < 4) (h : low = q * 256 ^ j) : ∃ q', low % 16777216 * 256 = q' * 256 ^ (j + 1) := by
  rcases (show j = 0 ∨ j = 1 ∨ j = 2 ∨ j = 3 by omega) with rfl | rfl | rfl | rfl
  · exact ⟨low % 16777216, by simp⟩
  · exact ⟨q % 65536, by simp at h ⊢; omega⟩
  · exact ⟨q % 256, by simp at h ⊢; omega⟩
  · exact ⟨0, by simp at h ⊢; omega⟩
/-- the last four bytes -/
def FlRelI (w : World) (C : Nat) (K : M.Coder) (i : Value) (wr : World) : Prop := ∃ (j : Nat) (low s q : Int) (out : List Int) (vo : Value) (ch : List Int), j ≤ 4 ∧ i = .int .i64 (j : Int) ∧ CodI wr C low s out vo ch ∧ 0 ≤ low ∧ low < 8589934592 ∧ (1 ≤ j → low < 4294967296) ∧ low = q * 256 ^ j ∧ M.bytesB out ∧ out.length = K.n + j ∧ M.num out * 4294967296 + low = K.N * 256 ^ j ∧ Below w.heap.size w wr

/-- the decisions so far -/
def EncRelI (w : World) (C : Nat) (zs : List Int) (n : Nat) (i : Value) (wr : World) : Prop := ∃ k : Nat, k ≤ n ∧ i = .int .i64 (k : Int) ∧ CodIAt wr C (M.encK (bnC zs) (bnB zs) k) ∧ Below w.heap.size w wr

set_option maxRecDepth 100000 in
set_option maxHeartbeats 400000 in
theorem I_EncodeBins (A : Option Addr) (n c : Nat) (zs : List Int) (w : World) (hr : RowAt .i64 w A zs) (hz : zs.length = n * 2) (hl : n ≤ 1000000000) :
    Calls Try.prog 41 #[.slice A n c] w (BytesGot (encL zs n) w) := by
  have HR := Lib.hid hr
  have HZ := Lib.hid hz
  clear hr hz
  cases hv : binsB zs n
  · rw [show encL zs n = [] by simp [encL, hv]]
    go_enter Try.func41, Try.ntmps41
    go_wp2_with (go_at_call 12; refine (I_BinsValid _ _ _ zs _ (HR.out.keep (by repeat' (first | (with_reducible exact Below.refl _ _) | (with_reducible refine Below.adds_ ?_ ?_ _ _) | (with_reducible refine Below.alloc ?_ ?_ _) | (with_reducible refine Below.drew ?_) | (with_reducible refine Below.setCell ?_ ?_ _) | (with_reducible assumption) | go_size | (simp only [size_addsW, World.size_alloc, World.size_drew, World.size_setCell]; omega)))) HZ.out (by omega)).mono ?_; rintro e w' ⟨rfl, hb⟩; obtain ⟨o1, n1, rfl⟩ := below_adds hb; clear hb)
    go_returns
    exact ⟨none, 0, rfl, (fun h => absurd rfl h), (fun d hd => by cases hd), ⟨(fun d hd => by cases hd), Nat.le_refl _⟩, (by repeat' (first | (with_reducible exact Below.refl _ _) | (with_reducible refine Below.adds_ ?_ ?_ _ _) | (with_reducible refine Below.alloc ?_ ?_ _) | (with_reducible refine Below.drew ?_) | (with_reducible refine Below.setCell ?_ ?_ _) | (with_reducible assumption) | go_size | (simp only [size_addsW, World.size_alloc, World.size_drew, World.size_setCell]; omega)))⟩
  · rw [show encL zs n = M.encBytes (bnC zs) (bnB zs) n by simp [encL, hv]]
    have HOK := Lib.hid (binsB_ok hv)
    have hn2 := (binsB_ok hv).1
    have hfold := encA_fold
    go_enter Try.func41, Try.ntmps41
    go_wp2_with (first | (go_at_call 12; refine (I_BinsValid _ _ _ zs _ (HR.out.keep (by repeat' (first | (with_reducible exact Below.refl _ _) | (with_reducible refine Below.adds_ ?_ ?_ _ _) | (with_reducible refine Below.alloc ?_ ?_ _) | (with_reducible refine Below.drew ?_) | (with_reducible refine Below.setCell ?_ ?_ _) | (with_reducible assumption) | go_size | (simp only [size_addsW, World.size_alloc, World.size_drew, World.size_setCell]; omega)))) HZ.out (by omega)).mono ?_; rintro e w' ⟨rfl, hb⟩; obtain ⟨o1, n1, rfl⟩ := below_adds hb; clear hb) | (go_at_call 67; refine (I_newChances _).mono ?_; rintro e w' ⟨rfl, hb⟩; obtain ⟨o2, n2, rfl⟩ := below_adds hb; clear hb) | (refine wpList_store_row rfl 110 (.tmp 3) (.tmp 10) rfl _ encA rfl rfl 110 _ (heap_new_gI _ _ _ (by simp only [size_addsW, Array.size_append])) (by rw [encA_size]; exact infoEnc) (by rw [encA_size]; rfl) encA_one ?_; rw [setRow_gI _ _ _ _ _ (by simp only [size_addsW, Array.size_append])]))
    clear hfold
    rw [← Array.size_append]
    generalize o1 ++ o2 = OO
    have hW : Below w.heap.size w ((addsW w OO n2).alloc (.cells encA 110)) := (by repeat' (first | (with_reducible exact Below.refl _ _) | (with_reducible refine Below.adds_ ?_ ?_ _ _) | (with_reducible refine Below.alloc ?_ ?_ _) | (with_reducible refine Below.drew ?_) | (with_reducible refine Below.setCell ?_ ?_ _) | (with_reducible assumption) | go_size | (simp only [size_addsW, World.size_alloc, World.size_drew, World.size_setCell]; omega)))
    have hcd : CodIAt ((addsW w OO n2).alloc (.cells encA 110)) (w.heap.size + OO.size) M.enc0 :=
      ⟨⟨0, [], .slice none 0 0, ⟨heap_new_gI _ _ _ (size_addsW _ _ _).symm, World.ownsRow_nil _ _ _ _, by simp [M.enc0]⟩, Int.le_refl _, by decide, fun x hx => by simp at hx, rfl, rfl⟩, M.good_zero⟩
    have hCge : w.heap.size ≤ w.heap.size + OO.size := by omega
    generalize w.heap.size + OO.size = C at hcd hCge ⊢
    generalize (addsW w OO n2).alloc (.cells encA 110) = W0 at hW hcd ⊢
    go_loopw [13, 5] (fun i s5 wr => EncRelI w C zs n i wr) (fun i _ _ => n - (intOf i).toNat)
    case atStart => exact ⟨0, Nat.zero_le _, rfl, hcd, hW⟩
    case round =>
      clear hcd hW
      obtain ⟨k, hk, rfl, hcod, hbel⟩ := hrel
      have HC := Lib.hid hcod
      have HB := Lib.hid hbel
      clear hcod hbel
      by_cases hlt : k < n
      · obtain ⟨b, off, x, y, rfl, hb, hx, hy, hc, hc2⟩ := (HR.out.keep HB.out).two HZ.out hlt
        have hxy := HOK.out.2 k hlt
        unfold bnC bnB at hxy
        rw [← hx, ← hy] at hxy
        have HX := Lib.hid hx
        have HY := Lib.hid hy
        have HXY := Lib.hid hxy
        have hkn := M.encK_len (bnC zs) (bnB zs) k
        have hsz := HB.out.size
        clear hx hy hxy
        go_wp2_with (go_at_call 68; refine (I_encode C _ x y _ (HC.out.keep (by repeat' (first | (with_reducible exact Below.refl _ _) | (with_reducible refine Below.adds_ ?_ ?_ _ _) | (with_reducible refine Below.alloc ?_ ?_ _) | (with_reducible refine Below.drew ?_) | (with_reducible refine Below.setCell ?_ ?_ _) | (with_reducible assumption) | go_size | (simp only [size_addsW, World.size_alloc, World.size_drew, World.size_setCell]; omega)))) HXY.out.1 HXY.out.2 (by omega)).mono ?_; rintro e w' ⟨⟨v, rfl⟩, hc', hb'⟩; have HC' := Lib.hid hc'; have HB' := Lib.hid hb'; clear hc' hb')
        go_roundw
        case rel =>
          refine ⟨k + 1, by omega, by go_num, ?_, ?_⟩
          · have := HC'.out
            rw [HX.out, HY.out] at this
            exact this
          · exact HB.out.trans (Below.trans (Below.mono (by repeat' (first | (with_reducible exact Below.refl _ _) | (with_reducible refine Below.adds_ ?_ ?_ _ _) | (with_reducible refine Below.alloc ?_ ?_ _) | (with_reducible refine Below.drew ?_) | (with_reducible refine Below.setCell ?_ ?_ _) | (with_reducible assumption) | go_size | (simp only [size_addsW, World.size_alloc, World.size_drew, World.size_setCell]; omega))) hsz) (HB'.out.mono hCge))
        case measure => simp [intOf]; omega
      · obtain rfl : k = n := by omega
        have hg := M.encK_good (c := bnC zs) (b := bnB zs) (n := k) HOK.out.2
        have HG := Lib.hid hg
        have hkn := M.encK_len (bnC zs) (bnB zs) k
        obtain ⟨K, hK⟩ : ∃ K, K = M.encK (bnC zs) (bnB zs) k := ⟨_, rfl⟩
        have HK := Lib.hid hK
        have hcod := HC.out
        rw [← hK] at hcod hg hkn
        have HG := Lib.hid hg
        clear hK HC
        go_wp2_with fail
        go_loopw [20] (fun i wr => FlRelI w C K i wr) (fun i _ => 4 - (intOf i).toNat)
        case atStart =>
          obtain ⟨⟨low, out, vo, hcd, h0, h1, hby, hln, hnm⟩, g⟩ := hcod
          exact ⟨0, low, K.s, low, out, vo, K.ch, by omega, rfl, hcd, h0, by have := g.s0; omega, fun h => by omega, by simp, hby, hln, by rw [hnm]; simp, HB.out⟩
        case round =>
          clear hcod HB
          obtain ⟨j, low, s, q, out, vo, ch, hj, rfl, hcd, h0, h1, h1', hq, hby, hln, hnm, hbel⟩ := hrel
          have H := Lib.hid hcd
          have HBY := Lib.hid hby
          have HLN := Lib.hid hln
          have HNM := Lib.hid hnm
          have HB := Lib.hid hbel
          have HQ := Lib.hid hq
          have hol : out.length ≤ 100000 := by omega
          clear hby hln hnm hbel hq
          by_cases hlt : j < 4
          · have hd1 : decide ((j : Int) < 4) = true := by simp; omega
            have hrm : M.num out * 4294967296 + low < 256 ^ out.length * 4294967296 := by
              rw [HNM.out, HLN.out]; exact low_room (s0 := K.s) HG.out.n1 (by have := HG.out.s0; omega)
            have HRM := Lib.hid hrm
            obtain ⟨q', hq'⟩ := low_step hlt HQ.out
            have HQ' := Lib.hid hq'
            clear hrm hq' hcd
            go_wp2_with (go_at_call 69; refine (I_putByte C low s out _ vo _ H.out ⟨h0, h1⟩ HBY.out HRM.out hol).mono ?_; rintro e w' ⟨v, vo2, out2, rfl, hcod2, hbel2, hlen2, hby2, hnum2⟩; have H2 := Lib.hid hcod2; have HB2 := Lib.hid hbel2; have HL2 := Lib.hid hlen2; have HY2 := Lib.hid hby2; have HN2 := Lib.hid hnum2; clear hcod2 hbel2 hlen2 hby2 hnum2)
            go_roundw
            case rel =>
              exact ⟨j + 1, low % 16777216 * 256, s, q', out2, vo2, ch, by omega, by go_num, H2.out, by omega, by omega, fun _ => by omega, HQ'.out, HY2.out, by rw [HL2.out, HLN.out]; rfl, by rw [HN2.out, HNM.out, Int.pow_succ, Int.mul_assoc], HB.out.trans (HB2.out.mono hCge)⟩
            case measure => simp [intOf]; omega
          · obtain rfl : j = 4 := by omega
            have hl0 : low = 0 := by have := HQ.out; have := h1' (by omega); simp at *; omega
            have hout : out = M.encBytes (bnC zs) (bnB zs) k := by
              refine M.encBytes_of (by rw [← HK.out]; exact HG.out) HBY.out (by rw [← HK.out]; exact HLN.out) ?_
              rw [← HK.out]
              have := HNM.out
              rw [hl0] at this
              simp at this
              omega
            have HOUT := Lib.hid hout
            obtain ⟨A1, c1, e1, -, hcc, -, hr1, hA1⟩ := RowAt.of_ownS hcd.row
            have hsf := Soft.of_own (e1 ▸ hcd.row)
            have hlt1 := hcd.row.lt
            subst e1
            have hc42 := hcd.cells.2.2.1
            have HR1 := Lib.hid hr1
            have HSF := Lib.hid hsf
            have hA2 : ∀ d, A1 = some d → w.heap.size ≤ d.block := fun d hd => by
              have := (hlt1 d.block (by rw [hd]; rfl)).1; omega
            have HA2 := Lib.hid hA2
            clear hr1 hsf hA2 hA1 hlt1 hcd hout
            go_wp2_with fail
            go_returns
            rw [← HOUT.out]
            exact ⟨A1, c1, rfl, HR1.out, HA2.out, ⟨HSF.out, by omega⟩, HB.out⟩

end Go.Proofs.Ytggkelehjdepkaa
