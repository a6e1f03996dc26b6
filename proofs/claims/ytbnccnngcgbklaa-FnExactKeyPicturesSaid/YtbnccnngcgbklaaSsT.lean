/- Slices of slices of bytes copied. -/
import Derived.Test.YtbnccnngcgbklaaSs
import Derived.LoopTactic
namespace Go.Proofs.Ytbnccnngcgbklaa
open Go.RowKit
set_option linter.unusedVariables false
set_option linter.unusedSimpArgs false

attribute [local go_sem] size_addsW cell?_addsW frozen?_addsW setCell_addsW drew_addsW adds_addsW setCell_twice alloc_adds0 size_adds0 adds_adds0 sel2 sel3 sel4 sel5 sel6 sel7 sel8 sel9 lt_more lt_more2 lt_more3 lt_more4 adds_drew adds_drewN drewN_addsW ltA_1_1 ltA_1_2 ltA_1_3 ltA_1_4 ltA_1_5 ltA_1_6 ltA_2_1 ltA_2_2 ltA_2_3 ltA_2_4 ltA_2_5 ltA_2_6 ltA_3_1 ltA_3_2 ltA_3_3 ltA_3_4 ltA_3_5 ltA_3_6 ltA_4_1 ltA_4_2 ltA_4_3 ltA_4_4 ltA_4_5 ltA_4_6 ltA_5_1 ltA_5_2 ltA_5_3 ltA_5_4 ltA_5_5 ltA_5_6 ltA_6_1 ltA_6_2 ltA_6_3 ltA_6_4 ltA_6_5 ltA_6_6 ltA_7_1 ltA_7_2 ltA_7_3 ltA_7_4 ltA_7_5 ltA_7_6 ltA_8_1 ltA_8_2 ltA_8_3 ltA_8_4 ltA_8_5 ltA_8_6 ltA_9_1 ltA_9_2 ltA_9_3 ltA_9_4 ltA_9_5 ltA_9_6 ltA_10_1 ltA_10_2 ltA_10_3 ltA_10_4 ltA_10_5 ltA_10_6 ltA_11_1 ltA_11_2 ltA_11_3 ltA_11_4 ltA_11_5 ltA_11_6 ltA_12_1 ltA_12_2 ltA_12_3 ltA_12_4 ltA_12_5 ltA_12_6

theorem sm_at (l : Nat → Nat) {k n : Nat} (h : k < n) : l k ≤ sm l n := by
  have := sm_le l (show k + 1 ≤ n by omega)
  rw [sm] at this; omega
def byA (zs : List Int) : Array Value := (zs.map (Value.int .u8)).toArray
/-- n slices of which the first k lie in the blocks p, the others are none -/
def ssA (n k : Nat) (p l : Nat → Nat) : Array Value := ((List.range n).map fun i => if i < k then (.slice (some ⟨p i, 0, none⟩) (l i) (l i) : Value) else .slice none 0 0).toArray
theorem ssA_size (n k : Nat) (p l : Nat → Nat) : (ssA n k p l).size = n := by simp [ssA]
theorem ssA_at {n k : Nat} {p l : Nat → Nat} (h : k < n) : (ssA n k p l)[k]? = some (.slice none 0 0) := by
  simp [ssA, h]
theorem ssA_get {n k i : Nat} {p l : Nat → Nat} (h : i < n) (hk : i < k) : (ssA n k p l)[i]? = some (.slice (some ⟨p i, 0, none⟩) (l i) (l i)) := by
  simp [ssA, h, hk]
def updN (p : Nat → Nat) (k g : Nat) : Nat → Nat := fun i => if i = k then g else p i
theorem updN_at (p : Nat → Nat) (k g : Nat) : updN p k g k = g := if_pos rfl
theorem updN_lo (p : Nat → Nat) {k i : Nat} (g : Nat) (h : i < k) : updN p k g i = p i := if_neg (by omega)
theorem ssA_set {n k : Nat} (p l : Nat → Nat) (h : k < n) (g : Nat) : (ssA n k p l).setIfInBounds k (.slice (some ⟨g, 0, none⟩) (l k) (l k)) = ssA n (k + 1) (updN p k g) l := by
  apply Array.ext_getElem?
  intro i
  simp only [ssA, Array.getElem?_setIfInBounds, List.getElem?_toArray, List.getElem?_map, List.size_toArray, List.length_map, List.length_range]
  by_cases e : k = i
  · subst e; simp [h, updN]
  · rw [if_neg e]
    by_cases hi : i < n
    · rw [List.getElem?_range hi]
      simp only [Option.map_some]
      by_cases h2 : i < k
      · rw [if_pos h2, if_pos (by omega), updN_lo p g h2]
      · rw [if_neg h2, if_neg (by omega)]
    · rw [List.getElem?_eq_none (by simp; omega)]; rfl
theorem made_ssA (n : Nat) (p l : Nat → Nat) : madeCells #[(.slice none 0 0 : Value)] n = ssA n 0 p l := by
  apply Array.ext_getElem?
  intro i
  simp only [madeCells, ssA, Array.getElem?_map, List.getElem?_toArray, List.getElem?_map, Array.getElem?_range]
  by_cases h : i < n <;> simp [h, Nat.mod_one]
theorem infoByteSl : (Try.prog.info? 42).map (fun i => (i.zero, i.size, i.bytes)) = some (some (.slice none 0 0), 1, 24) := by kernel_rfl

/-- the slices lie in blocks of their own: the table in g, the first k rows in p -/
structure SSOwn (W : World) (g n k : Nat) (p l : Nat → Nat) (z : Nat → List Int) : Prop where
  b : Blk W g (ssA n k p l) 42
  r : ∀ i, i < k → Blk W (p i) (byA (z i)) 5 ∧ g < p i
  inc : ∀ i j, i < j → j < k → p i < p j
theorem SSOwn.below {W W' : World} {g n k : Nat} {p l : Nat → Nat} {z : Nat → List Int} (h : SSOwn W g n k p l z) (hb : Below W.heap.size W W') : SSOwn W' g n k p l z :=
  ⟨h.b.below hb h.b.lt, fun i hi => ⟨(h.r i hi).1.below hb (h.r i hi).1.lt, (h.r i hi).2⟩, h.inc⟩
theorem SSOwn.set {W : World} {g n k : Nat} {p l : Nat → Nat} {z : Nat → List Int} (h : SSOwn W g n k p l z) {q : Addr} (hq : q.block < g) (v : Value) : SSOwn (W.setCell q v) g n k p l z :=
  ⟨h.b.other (by omega) _, fun i hi => ⟨(h.r i hi).1.other (by have := (h.r i hi).2; omega) _, (h.r i hi).2⟩, h.inc⟩
theorem SSOwn.row {W : World} {g n k : Nat} {p l : Nat → Nat} {z : Nat → List Int} (h : SSOwn W g n k p l z) {q : Nat} (hq : q < g) (cs : Array Value) : SSOwn (W.setRow q cs) g n k p l z :=
  ⟨(setRow_other _ _ _ _ (by omega)).trans h.b, fun i hi => ⟨(setRow_other _ _ _ _ (by have := (h.r i hi).2; omega)).trans (h.r i hi).1, (h.r i hi).2⟩, h.inc⟩
theorem SSOwn.step {W : World} {g n k : Nat} {p l : Nat → Nat} {z : Nat → List Int} (h : SSOwn W g n k p l z) (hk : k < n) (P : Nat) (hP : P = W.heap.size) :
    SSOwn ((W.setCell ⟨g, k, none⟩ (.slice (some ⟨P, 0, none⟩) (l k) (l k))).alloc (.cells (byA (z k)) 5)) g n (k + 1) (updN p k P) l z := by
  subst hP
  have hg := h.b.lt
  refine ⟨?_, fun i hi => ?_, fun i j hij hj => ?_⟩
  · have := h.b.set k (.slice (some ⟨W.heap.size, 0, none⟩) (l k) (l k))
    rw [ssA_set p l hk] at this
    exact this.alloc _
  · by_cases e : i = k
    · subst e
      rw [updN_at]
      exact ⟨Blk.new _ _ _ _ (by simp), hg⟩
    · have hi' : i < k := by omega
      rw [updN_lo p _ hi']
      have h1 := h.r i hi'
      exact ⟨(h1.1.other (by simp only; omega) _).alloc _, h1.2⟩
  · by_cases e : j = k
    · subst e
      rw [updN_at, updN_lo p _ hij]
      exact (h.r i hij).1.lt
    · rw [updN_lo p _ (show j < k by omega), updN_lo p _ (show i < k by omega)]
      exact h.inc i j hij (by omega)
theorem rowU8 {W : World} {g : Nat} {zs : List Int} {t : TypeId} (h : Blk W g (byA zs) t) : RowAt .u8 W (some ⟨g, 0, none⟩) zs := fun _ =>
  ⟨g, 0, rfl, h.lt, fun i hi => h.get (by rw [Nat.zero_add]; simp [byA, hi, List.getD_eq_getElem?_getD])⟩
theorem SSOwn.ss {W : World} {g n : Nat} {p l : Nat → Nat} {z : Nat → List Int} (h : SSOwn W g n n p l z) (hz : ∀ i, i < n → (z i).length = l i ∧ l i ≤ 1048576) : SSAt W (some ⟨g, 0, none⟩) n (fun i => some ⟨p i, 0, none⟩) l l z :=
  ⟨fun _ => ⟨g, 0, rfl, h.b.lt, fun i hi => h.b.get (by rw [Nat.zero_add]; exact ssA_get hi hi)⟩, fun i hi => ⟨rowU8 (h.r i hi).1, (hz i hi).1, by have := (hz i hi).2; omega⟩⟩

set_option maxRecDepth 100000 in
set_option maxHeartbeats 1000000 in
theorem L_toByteSS (A : Option Addr) (n cap : Nat) (a : Nat → Option Addr) (l c : Nat → Nat) (z : Nat → List Int) (w : World) (h : SSAt w A n a l c z) (hn : n + sm l n ≤ 1048576) :
    Calls Try.prog 24 #[.slice A n cap] w fun e w' => e = .returned (.slice (some ⟨w.heap.size, 0, none⟩) n n) ∧ ∃ p, SSOwn w' w.heap.size n n p l z ∧ Below w.heap.size w w' := by
  have HS := Lib.hid h
  have HN := Lib.hid hn
  have hn1 : n ≤ 1048576 := by omega
  have hmk : ∀ W : World, (Instr.makeSlice 22 (.int .i64 (n : Int)) (.int .i64 (n : Int))).run Try.prog W = .ok (.slice (some ⟨W.heap.size, 0, none⟩) n n) (W.alloc (.cells (ssA n 0 (fun _ => 0) l) 42)) := by
    intro W
    have := run_make_row' (P := Try.prog) 22 42 (.slice none 0 0) 24 Try.underlying22 infoByteSl rfl .i64 .i64 n (by omega) (by omega) W
    rw [made_ssA n (fun _ => 0) l] at this
    exact this
  clear h hn
  have HT0 := Lib.hid (⟨⟨Blk.new w _ _ _ rfl, fun i hi => by omega, fun i j _ hj => by omega⟩, (by repeat' (first | (with_reducible exact Below.refl _ _) | (with_reducible refine Below.adds_ ?_ ?_ _ _) | (with_reducible refine Below.alloc ?_ ?_ _) | (with_reducible refine Below.drew ?_) | (with_reducible refine Below.setCell ?_ ?_ _) | (with_reducible assumption) | go_size | (simp only [size_addsW, World.size_alloc, World.size_drew, World.size_setCell]; omega)))⟩ : SSOwn (w.alloc (.cells (ssA n 0 (fun _ => 0) l) 42)) w.heap.size n 0 (fun _ => 0) l z ∧ Below w.heap.size w (w.alloc (.cells (ssA n 0 (fun _ => 0) l) 42)))
  go_enter Try.func24, Try.ntmps24
  go_wp2_with fail
  go_loopw [4] (fun v wr => ∃ (k : Nat) (p : Nat → Nat), k ≤ n ∧ v = .int .i64 (k : Int) ∧ SSOwn wr w.heap.size n k p l z ∧ Below w.heap.size w wr) (fun v _ => n - (intOf v).toNat)
  case atStart => exact ⟨0, fun _ => 0, by omega, rfl, HT0.out.1, HT0.out.2⟩
  case round =>
    clear HT0
    obtain ⟨k, p, hk, rfl, ho, hb⟩ := hrel
    have HO := Lib.hid ho
    have HB := Lib.hid hb
    by_cases hlt : k < n
    · have hd1 : (k : Int) < (n : Int) := by omega
      obtain ⟨b, off, rfl, hbl, hc⟩ := HS.out.at_ hlt
      have hck : wr.cell? ⟨b, off + k, none⟩ = some (.slice (a k) (l k) (c k)) := (hb.cell (p := ⟨b, off + k, none⟩) hbl).trans hc
      have hs := ho.b.get (ssA_at (p := p) (l := l) hlt)
      have hf := ho.b.hot k
      have hgl := ho.b.lt
      have hrow := ((HS.out.2 k hlt).1).keep hb
      have hlen := (HS.out.2 k hlt).2.1
      have hlm := sm_at l hlt
      have hnn := HN.out
      have CT := Lib.hid (show Calls Try.prog 31 #[.slice (a k) (l k) (c k)] wr fun e w' => e = .returned (.slice (some ⟨wr.heap.size, 0, none⟩) (l k) (l k)) ∧ ∃ o : Obj, o = .cells (byA (z k)) 5 ∧ w' = wr.alloc o from by
        have := L_toByteS (a k) (c k) (z k) wr hrow (by omega)
        rw [hlen] at this
        exact this)
      have hsz := hb.size
      have HST := Lib.hid (ho.step hlt _ rfl)
      clear hc hrow hlen hlm hnn ho hb
      generalize a k = ak at hck CT
      generalize c k = ck at hck CT
      generalize l k = lk at hck CT HST
      have hbw : b < wr.heap.size := by omega
      go_wp2_with (go_at_call 31; refine (CT.out).mono ?_; rintro e w' ⟨rfl, o, ho, rfl⟩; have HOO := Lib.hid ho; clear ho)
      go_roundw
      case rel => exact ⟨k + 1, _, by omega, by go_num, by rw [HOO.out]; exact HST.out, Below.alloc (Below.setCell HB.out (Nat.le_refl _) _) (by simp only [World.size_setCell]; exact hsz) _⟩
      case measure => simp [intOf]; omega
    · obtain rfl : k = n := by omega
      clear ho hb
      go_wp2_with fail
      go_returns
      exact ⟨rfl, p, HO.out, HB.out⟩

end Go.Proofs.Ytbnccnngcgbklaa
