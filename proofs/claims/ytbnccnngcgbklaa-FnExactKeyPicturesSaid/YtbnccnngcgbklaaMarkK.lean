/- Marks in lists of coded pictures, and two lists compared. -/
import Derived.Test.YtbnccnngcgbklaaCodSt
import Derived.Test.YtbnccnngcgbklaaMarkU
namespace Go.Proofs.Ytbnccnngcgbklaa
open Go.RowKit Go.Deep
set_option linter.unusedVariables false
set_option linter.unusedSimpArgs false

attribute [local go_sem] size_addsW cell?_addsW frozen?_addsW setCell_addsW drew_addsW adds_addsW setCell_twice alloc_adds0 size_adds0 adds_adds0 sel2 sel3 sel4 sel5 sel6 sel7 sel8 sel9 lt_more lt_more2 lt_more3 lt_more4 adds_drew adds_drewN drewN_addsW ltA_1_1 ltA_1_2 ltA_1_3 ltA_1_4 ltA_1_5 ltA_1_6 ltA_2_1 ltA_2_2 ltA_2_3 ltA_2_4 ltA_2_5 ltA_2_6 ltA_3_1 ltA_3_2 ltA_3_3 ltA_3_4 ltA_3_5 ltA_3_6 ltA_4_1 ltA_4_2 ltA_4_3 ltA_4_4 ltA_4_5 ltA_4_6 ltA_5_1 ltA_5_2 ltA_5_3 ltA_5_4 ltA_5_5 ltA_5_6 ltA_6_1 ltA_6_2 ltA_6_3 ltA_6_4 ltA_6_5 ltA_6_6 ltA_7_1 ltA_7_2 ltA_7_3 ltA_7_4 ltA_7_5 ltA_7_6 ltA_8_1 ltA_8_2 ltA_8_3 ltA_8_4 ltA_8_5 ltA_8_6 ltA_9_1 ltA_9_2 ltA_9_3 ltA_9_4 ltA_9_5 ltA_9_6 ltA_10_1 ltA_10_2 ltA_10_3 ltA_10_4 ltA_10_5 ltA_10_6 ltA_11_1 ltA_11_2 ltA_11_3 ltA_11_4 ltA_11_5 ltA_11_6 ltA_12_1 ltA_12_2 ltA_12_3 ltA_12_4 ltA_12_5 ltA_12_6

/-- w' is w but for the blocks of P -/
structure Twx (P : Nat → Prop) (w w' : World) : Prop where
  os : w'.os = w.os
  tape : w'.tape = w.tape
  output : w'.output = w.output
  size : w'.heap.size = w.heap.size
  block : ∀ q, ¬ P q → w'.heap[q]? = w.heap[q]?
theorem Twx.refl (P : Nat → Prop) (w : World) : Twx P w w := ⟨rfl, rfl, rfl, rfl, fun _ _ => rfl⟩
theorem Twx.trans {P : Nat → Prop} {w w' w'' : World} (h : Twx P w w') (h' : Twx P w' w'') : Twx P w w'' :=
  ⟨h'.os.trans h.os, h'.tape.trans h.tape, h'.output.trans h.output, h'.size.trans h.size, fun q hq => (h'.block q hq).trans (h.block q hq)⟩
theorem Twx.mono {P Q : Nat → Prop} {w w' : World} (h : Twx P w w') (hPQ : ∀ b, P b → Q b) : Twx Q w w' :=
  ⟨h.os, h.tape, h.output, h.size, fun q hq => h.block q fun hp => hq (hPQ q hp)⟩
theorem Twx.of_marked {w w' : World} {b off : Nat} (h : Marked w (some ⟨b, off, none⟩) w') : Twx (fun q => q = b) w w' :=
  ⟨h.os, h.tape, h.output, h.size, fun q hq => h.block q fun d hd e => by cases hd; exact hq e⟩
theorem Twx.set {P : Nat → Prop} {w w' : World} (h : Twx P w w') {b : Nat} (hb : P b) (i : Nat) (v : Value) : Twx P w (w'.setCell ⟨b, i, none⟩ v) :=
  ⟨h.os, h.tape, h.output, by simpa [World.setCell] using h.size, fun q hq => by
    rw [← h.block q hq]
    exact Below.heap_setCell w' ⟨b, i, none⟩ v q (fun e => hq (by rw [e]; exact hb))⟩
theorem Twx.blk {P : Nat → Prop} {w w' : World} {k : Nat} {cs : Array Value} {t : TypeId} (ht : Twx P w w') (h : Blk w k cs t) (hk : ¬ P k) : Blk w' k cs t := (ht.block k hk).trans h
theorem Twx.below {P : Nat → Prop} {w w' : World} (h : Twx P w w') {N : Nat} (hN : ∀ b, P b → N ≤ b) : Below N w w' :=
  ⟨h.os, h.tape, h.output, by rw [h.size]; exact Nat.le_refl _, fun k hk => h.block k fun hp => by have := hN k hp; omega⟩
theorem Twx.ss {P : Nat → Prop} {w w' : World} {t n : Nat} {p l : Nat → Nat} {z : Nat → List Int} (ht : Twx P w w') (h : SSOwn w t n n p l z) (h1 : ¬ P t) (h2 : ∀ s, s < n → ¬ P (p s)) : SSOwn w' t n n p l z :=
  ⟨ht.blk h.b h1, fun i hi => ⟨ht.blk (h.r i hi).1 (h2 i hi), (h.r i hi).2⟩, h.inc⟩
theorem Twx.row {P : Nat → Prop} {w w' : World} {A : Option Addr} {kd : IntKind} {zs : List Int} (h : Twx P w w') (hr : RowAt kd w A zs) (hA : ∀ d, A = some d → ¬ P d.block) : RowAt kd w' A zs := fun hz => by
  obtain ⟨b, off, rfl, hlt, hc⟩ := hr hz
  exact ⟨b, off, rfl, by rw [h.size]; exact hlt, fun i hi => (World.cell?_of_block (w := w) (w' := w') (a := ⟨b, off + i, none⟩) (h.block b (hA _ rfl))).trans (hc i hi)⟩
theorem Twx.soft {P : Nat → Prop} {w w' : World} {A : Option Addr} (h : Twx P w w') (hs : Soft w A) (hA : ∀ d, A = some d → ¬ P d.block) : Soft w' A := fun d hd => by
  obtain ⟨cur, t, hc⟩ := hs d hd
  exact ⟨cur, t, (h.block d.block (hA d hd)).trans hc⟩
theorem Blk.soft_ {w : World} {g : Nat} {cs : Array Value} {t : TypeId} (h : Blk w g cs t) : Soft w (some ⟨g, 0, none⟩) := fun d hd => by
  cases hd; exact ⟨cs, t, h⟩

set_option maxRecDepth 100000 in
set_option maxHeartbeats 1000000 in
theorem L_markByteSS (g n c : Nat) (p l : Nat → Nat) (z : Nat → List Int) (k0 : Int) (w : World) (h : SSOwn w g n n p l z) (hz : ∀ i, i < n → (z i).length = l i ∧ l i ≤ 1048576) (hn : n + sm l n ≤ 1048576) (hk0 : 0 ≤ k0 ∧ k0 ≤ 10000000000) :
    Calls Try.prog 26 #[.slice (some ⟨g, 0, none⟩) n c, .int .i64 k0] w fun e w' => e = .returned (.int .i64 (k0 + (sm l n : Nat))) ∧ Twx (fun b => ∃ i, i < n ∧ b = p i) w w' := by
  have HS := Lib.hid h
  have HZ := Lib.hid hz
  have hn1 : n ≤ 1048576 := by omega
  have HN := Lib.hid hn
  clear h hz hn
  go_enter Try.func26, Try.ntmps26
  go_wp2
  go_loopw [1, 5] (fun x i wr => ∃ k : Nat, k ≤ n ∧ x = .int .i64 (k0 + (sm l k : Nat)) ∧ i = .int .i64 (k : Int) ∧ Twx (fun b => ∃ i, i < k ∧ b = p i) w wr) (fun _ i _ => n - (intOf i).toNat)
  case atStart => exact ⟨0, by omega, by simp [sm], rfl, Twx.refl _ _⟩
  case round =>
    obtain ⟨k, hk, rfl, rfl, ht⟩ := hrel
    have HT := Lib.hid ht
    clear ht
    by_cases hlt : k < n
    · have hg2 : ¬ (∃ i, i < k ∧ g = p i) := fun ⟨i, hi, e⟩ => by have := (HS.out.r i (by omega)).2; omega
      have hp2 : ¬ (∃ i, i < k ∧ p k = p i) := fun ⟨i, hi, e⟩ => by have := HS.out.inc i k hi hlt; omega
      have hB := HT.out.blk HS.out.b hg2
      have hR := HT.out.blk (HS.out.r k hlt).1 hp2
      have hc : wr.cell? ⟨g, k, none⟩ = some (.slice (some ⟨p k, 0, none⟩) (l k) (l k)) := hB.get (ssA_get hlt hlt)
      have hgl := hB.lt
      have hlm := sm_le l (show k + 1 ≤ n by omega)
      have hs1 : sm l (k + 1) = sm l k + l k := rfl
      have hnn := HN.out
      have hzk := HZ.out k hlt
      have CM := Lib.hid (show Calls Try.prog 33 #[.slice (some ⟨p k, 0, none⟩) (l k) (l k), .int .i64 (k0 + (sm l k : Nat))] wr fun e w' => e = .returned (.int .i64 (k0 + (sm l (k + 1) : Nat))) ∧ Twx (fun b => b = p k) wr w' from by
        have := L_markByteS (some ⟨p k, 0, none⟩) (l k) (z k) (k0 + (sm l k : Nat)) wr (rowU8 hR) (Blk.soft_ hR) (by omega) (by omega)
        rw [hzk.1] at this
        refine this.mono ?_
        rintro e w' ⟨rfl, hm, -, -⟩
        exact ⟨by rw [hs1]; congr 2; omega, Twx.of_marked hm⟩)
      clear hB hR hlm hs1 hnn hzk hg2 hp2
      have HP := Lib.hid (show ∀ W, Twx (fun b => b = p k) wr W → Twx (fun b => ∃ i, i < k + 1 ∧ b = p i) w W from fun W hW => (HT.out.mono (fun b ⟨i, hi, e⟩ => ⟨i, by omega, e⟩)).trans (hW.mono (fun b e => ⟨k, by omega, e⟩)))
      generalize p k = pk at hc CM HP
      generalize l k = lk at hc CM
      generalize k0 + (sm l k : Nat) = s0 at *
      generalize hs1 : k0 + (sm l (k + 1) : Nat) = s1 at CM
      have HS1 := Lib.hid hs1
      clear hs1
      go_wp2_with (go_at_call 33; refine (CM.out).mono ?_; rintro e w' ⟨rfl, ht1⟩; have HT1 := Lib.hid ht1; clear ht1)
      go_roundw
      case rel => exact ⟨k + 1, by omega, by rw [HS1.out], by go_num, HP.out _ HT1.out⟩
      case measure => simp [intOf]; omega
    · obtain rfl : k = n := by omega
      go_wp2
      go_returns
      exact ⟨rfl, HT.out⟩

end Go.Proofs.Ytbnccnngcgbklaa
