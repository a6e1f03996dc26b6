/- The reader of a code (spec.l20Rd): its memory, and what each draw may answer: some value within its bounds. -/
import Derived.Test.YtggkelehjdepkaaSmall
import Derived.Below
import Derived.Laws.OwnMore
import Derived.Laws.Rows
import Derived.Deep.Draws
import Derived.Deep.QuietTactic
import Derived.BigQuiet
import Derived.OpenShut
import Derived.Lib.Hide
import Derived.Outline
namespace Go.Proofs.Ytggkelehjdepkaa
open Go.RowKit
set_option linter.unusedVariables false
set_option linter.unusedSimpArgs false

attribute [local go_sem] size_addsW cell?_addsW frozen?_addsW setCell_addsW drew_addsW adds_addsW setCell_twice alloc_adds0 size_adds0 adds_adds0 sel2 sel3 sel4 sel5 sel6 sel7 sel8 sel9 lt_more lt_more2 lt_more3 lt_more4 adds_drew adds_drewN drewN_addsW ltA_1_1 ltA_1_2 ltA_1_3 ltA_1_4 ltA_1_5 ltA_1_6 ltA_2_1 ltA_2_2 ltA_2_3 ltA_2_4 ltA_2_5 ltA_2_6 ltA_3_1 ltA_3_2 ltA_3_3 ltA_3_4 ltA_3_5 ltA_3_6 ltA_4_1 ltA_4_2 ltA_4_3 ltA_4_4 ltA_4_5 ltA_4_6 ltA_5_1 ltA_5_2 ltA_5_3 ltA_5_4 ltA_5_5 ltA_5_6 ltA_6_1 ltA_6_2 ltA_6_3 ltA_6_4 ltA_6_5 ltA_6_6 ltA_7_1 ltA_7_2 ltA_7_3 ltA_7_4 ltA_7_5 ltA_7_6 ltA_8_1 ltA_8_2 ltA_8_3 ltA_8_4 ltA_8_5 ltA_8_6 ltA_9_1 ltA_9_2 ltA_9_3 ltA_9_4 ltA_9_5 ltA_9_6 ltA_10_1 ltA_10_2 ltA_10_3 ltA_10_4 ltA_10_5 ltA_10_6 ltA_11_1 ltA_11_2 ltA_11_3 ltA_11_4 ltA_11_5 ltA_11_6 ltA_12_1 ltA_12_2 ltA_12_3 ltA_12_4 ltA_12_5 ltA_12_6

/-- n bytes at a, below block B -/
def Bytes (w : World) (B : Nat) (a : Option Addr) (n : Nat) : Prop :=
  0 < n → ∃ b off, a = some ⟨b, off, none⟩ ∧ b < B ∧ ∀ i, i < n → ∃ z : Int, w.cell? ⟨b, off + i, none⟩ = some (.int .u8 z) ∧ 0 ≤ z ∧ z ≤ 255

/-- block B is the reader's struct, p bytes are read -/
def RdAt (w : World) (B p : Nat) : Prop :=
  ∃ (a : Option Addr) (n c : Nat), w.heap[B]? = some (.cells #[.slice a n c, .int .i64 (p : Int)] 84 (0, 0)) ∧ n ≤ 2000 ∧ Bytes w B a n

theorem RdAt.lt {w : World} {B p : Nat} (h : RdAt w B p) : B < w.heap.size := by
  obtain ⟨a, n, c, h, _⟩ := h
  rcases Nat.lt_or_ge B w.heap.size with hlt | hge
  · exact hlt
  · rw [Array.getElem?_eq_none hge] at h; cases h
theorem RdAt.keep {w w' : World} {B p : Nat} (h : RdAt w B p) (hk : ∀ k, k ≤ B → w'.heap[k]? = w.heap[k]?) : RdAt w' B p := by
  obtain ⟨a, n, c, h1, h2, h3⟩ := h
  refine ⟨a, n, c, (hk B (Nat.le_refl _)).trans h1, h2, fun hn => ?_⟩
  obtain ⟨b, off, rfl, hb, hc⟩ := h3 hn
  exact ⟨b, off, rfl, hb, fun i hi => by
    obtain ⟨z, hz, hz2⟩ := hc i hi
    exact ⟨z, (World.cell?_of_block (w := w) (w' := w') (a := ⟨b, off + i, none⟩) (hk b (by omega))).trans hz, hz2⟩⟩
theorem RdAt.drewN {w : World} {B p : Nat} (h : RdAt w B p) (n : Nat) : RdAt (w.drewN n) B p := h
theorem RdAt.drew {w : World} {B p : Nat} (h : RdAt w B p) : RdAt w.drew B p := h
theorem RdAt.alloc {w : World} {B p : Nat} (h : RdAt w B p) (o : Obj) : RdAt (w.alloc o) B p := h.keep fun k hk => Below.heap_alloc w o k (by have := h.lt; omega)
theorem RdAt.adds {w : World} {B p : Nat} (h : RdAt w B p) (os : Array Obj) (n : Nat) : RdAt (addsW w os n) B p := h.keep fun k hk => heap_addsW w os n k (by have := h.lt; omega)
theorem RdAt.far {w : World} {B p : Nat} (h : RdAt w B p) {q : Addr} (hq : B < q.block) (u : Value) : RdAt (w.setCell q u) B p := h.keep fun k hk => Below.heap_setCell w q u k (by omega)
theorem RdAt.below {w w' : World} {B p C : Nat} (h : RdAt w B p) (hb : Below C w w') (hC : B < C) : RdAt w' B p := h.keep fun k hk => hb.block k (by omega)
theorem RdAt.set {w : World} {B p : Nat} (h : RdAt w B p) (q : Nat) : RdAt (w.setCell ⟨B, 1, none⟩ (.int .i64 (q : Int))) B q := by
  obtain ⟨a, n, c, h1, h2, h3⟩ := h
  refine ⟨a, n, c, ?_, h2, fun hn => ?_⟩
  · simp [World.setCell, Array.getElem?_modify, h1]
  · obtain ⟨b, off, rfl, hb, hc⟩ := h3 hn
    refine ⟨b, off, rfl, hb, fun i hi => ?_⟩
    obtain ⟨z, hz, hz2⟩ := hc i hi
    exact ⟨z, (World.cell?_setCell_other w ⟨B, 1, none⟩ ⟨b, off + i, none⟩ _ (fun e => by injection e; omega)).trans hz, hz2⟩

/-- the reader at B has moved on by at most K bytes; besides that there is only new memory -/
def Moved (W : World) (B p K : Nat) (w' : World) : Prop := ∃ (p' : Nat) (os : Array Obj) (k : Nat), p' ≤ p + K ∧ w' = addsW (W.setCell ⟨B, 1, none⟩ (.int .i64 (p' : Int))) os k

theorem alloc_addsW (w : World) (os : Array Obj) (n : Nat) (o : Obj) : (addsW w os n).alloc o = addsW w (os.push o) n := by simp [addsW, World.alloc]
theorem Moved.base {W : World} {B p K p' : Nat} (h : p' ≤ p + K) : Moved W B p K (W.setCell ⟨B, 1, none⟩ (.int .i64 (p' : Int))) := ⟨p', #[], _, h, self_adds _⟩
theorem Moved.alloc {W w' : World} {B p K : Nat} (h : Moved W B p K w') (o : Obj) : Moved W B p K (w'.alloc o) := by
  obtain ⟨p', os, k, hp, rfl⟩ := h
  exact ⟨p', os.push o, k, hp, alloc_addsW _ _ _ _⟩
theorem Moved.adds {W w' : World} {B p K : Nat} (h : Moved W B p K w') (os : Array Obj) (n : Nat) : Moved W B p K (addsW w' os n) := by
  obtain ⟨p', os', k, hp, rfl⟩ := h
  exact ⟨p', os' ++ os, n, hp, adds_addsW _ _ _ _ _⟩
theorem Moved.drew {W w' : World} {B p K : Nat} (h : Moved W B p K w') : Moved W B p K w'.drew := by
  obtain ⟨p', os', k, hp, rfl⟩ := h
  exact ⟨p', os', k + 1, hp, rfl⟩
theorem Moved.below {a W w' : World} {B p K C : Nat} (h : Moved W B p K w') (hb : Below C a W) (hC : C ≤ B) (hW : C ≤ W.heap.size) : Below C a w' := by
  obtain ⟨p', os, k, hp, rfl⟩ := h
  exact Below.adds_ (hb.setCell (p := ⟨B, 1, none⟩) hC _) (by simpa [World.setCell] using hW) _ _

/-- what a number drawn from 0..n-1 is -/
def InR (n v : Int) : Prop := (1 ≤ n → 0 ≤ v ∧ v < n) ∧ (n < 1 → v = 0)

/-- the call has drawn a number: the reader has moved on, nothing else has turned -/
def Picked (n : Int) (W : World) (B p : Nat) (e : Ending) (w' : World) : Prop :=
  ∃ (v : Int) (p' k : Nat), e = .returned (.int .i64 v) ∧ InR n v ∧ p' ≤ p + 1 ∧ w' = addsW (W.setCell ⟨B, 1, none⟩ (.int .i64 (p' : Int))) #[] k

theorem rd_open {w : World} {B p : Nat} (h : RdAt w B p) : ∃ (a : Option Addr) (n c : Nat), w.cell? ⟨B, 0, none⟩ = some (.slice a n c) ∧ w.cell? ⟨B, 1, none⟩ = some (.int .i64 (p : Int)) ∧ w.frozen? ⟨B, 1, none⟩ = false ∧ n ≤ 2000 ∧ Bytes w B a n := by
  obtain ⟨a, n, c, h1, h2, h3⟩ := h
  exact ⟨a, n, c, by simp [World.cell?, h1], by simp [World.cell?, h1], by simp [World.frozen?, h1], h2, h3⟩

theorem picked_mk {n : Int} {W : World} {B p : Nat} {v : Int} (h : InR n v) : Picked n W B p (.returned (.int .i64 v)) (W.setCell ⟨B, 1, none⟩ (.int .i64 ((p : Int) + 1))) :=
  ⟨v, p + 1, _, rfl, h, Nat.le_refl _, self_adds _⟩
theorem picked_mkN {n : Int} {W : World} {B p : Nat} {v : Int} (h : InR n v) (k : Nat) : Picked n W B p (.returned (.int .i64 v)) ((W.setCell ⟨B, 1, none⟩ (.int .i64 ((p : Int) + 1))).drewN k) :=
  ⟨v, p + 1, _, rfl, h, Nat.le_refl _, drewN_adds _ _⟩
theorem inR_mod {n x : Int} (hx : 0 ≤ x) (hn : 1 ≤ n) : InR n (x % n) := ⟨fun _ => ⟨Int.emod_nonneg _ (by omega), Int.emod_lt_of_pos _ (by omega)⟩, fun h => by omega⟩

theorem inR_xor {n x : Int} (hx : 0 ≤ x ∧ x < 4611686018427387904) (hn : 1 ≤ n) : InR n ((bits .xor .i64 x (wrap64 (x.tdiv 64))).tmod n) := by
  obtain ⟨a, rfl⟩ := Int.eq_ofNat_of_zero_le hx.1
  have e1 : wrap64 ((a : Int).tdiv 64) = ((a / 64 : Nat) : Int) := by
    rw [Int.tdiv_eq_ediv_of_nonneg (by omega), IntWalk.wrap64_in _ (by omega)]; simp
  rw [e1]
  have hxr : a ^^^ (a / 64) < 2 ^ 63 := Nat.xor_lt_two_pow (by omega) (by omega)
  have e2 : bits .xor .i64 (a : Int) ((a / 64 : Nat) : Int) = ((a ^^^ (a / 64) : Nat) : Int) := by
    show IntKind.i64.wrap ((BitVec.ofInt 64 (a : Int) ^^^ BitVec.ofInt 64 ((a / 64 : Nat) : Int)).toNat : Int) = _
    rw [BitVec.toNat_xor, BitVec.ofInt_natCast, BitVec.ofInt_natCast, BitVec.toNat_ofNat, BitVec.toNat_ofNat, Nat.mod_eq_of_lt (by omega), Nat.mod_eq_of_lt (by omega), IntKind.wrap_i64]
    omega
  rw [e2, Int.tmod_eq_emod_of_nonneg (by omega)]
  exact inR_mod (by omega) hn
theorem mix_bd (y z : Int) (p len : Nat) (hp : p ≤ 1000000000) (hy0 : 0 ≤ y) (hy1 : y ≤ 255) (hz0 : 0 ≤ z) (hz1 : z ≤ 255) :
    0 ≤ wrap64 (y * 131 + z * 1117 + ↑p * 29 + wrap64 (wrap64 (↑p / ↑len) * 53)) ∧ wrap64 (y * 131 + z * 1117 + ↑p * 29 + wrap64 (wrap64 (↑p / ↑len) * 53)) < 4611686018427387904 := by
  have m3 : p / len ≤ p := Nat.div_le_self _ _
  have e : (p : Int) / (len : Int) = ((p / len : Nat) : Int) := by simp
  rw [e]
  generalize p / len = q at *
  rw [IntWalk.wrap64_in (q : Int) (by omega), IntWalk.wrap64_in ((q : Int) * 53) (by omega), IntWalk.wrap64_in _ (by omega)]
  omega

set_option maxRecDepth 100000 in
theorem S_pick_zero (B p : Nat) (n : Int) (w : World) (h : RdAt w B p) (hp : p ≤ 1000000000) (hn : n < 1) :
    Calls Try.prog 31 #[.pointer (some ⟨B, 0, none⟩), .int .i64 n] w (Picked n w B p) := by
  obtain ⟨a, len, c, hc0, hc1, hf1, hlen, hbytes⟩ := rd_open h
  clear h hbytes
  go_enter Try.func31, Try.ntmps31
  go_wp2
  go_ret
  exact picked_mk ⟨fun h => by omega, fun _ => rfl⟩

set_option maxRecDepth 100000 in
theorem S_pick_one (B p : Nat) (n : Int) (w : World) (a : Option Addr) (c : Nat) (hc0 : w.cell? ⟨B, 0, none⟩ = some (.slice a 0 c)) (hc1 : w.cell? ⟨B, 1, none⟩ = some (.int .i64 (p : Int))) (hf1 : w.frozen? ⟨B, 1, none⟩ = false) (hp : p ≤ 1000000000) (hn : 1 ≤ n) :
    Calls Try.prog 31 #[.pointer (some ⟨B, 0, none⟩), .int .i64 n] w (Picked n w B p) := by
  go_enter Try.func31, Try.ntmps31
  go_wp2
  go_ret
  exact picked_mk ⟨fun h => by omega, fun _ => rfl⟩

set_option maxRecDepth 100000 in
theorem S_pick_two (B p b off len c : Nat) (n z : Int) (w : World) (hc0 : w.cell? ⟨B, 0, none⟩ = some (.slice (some ⟨b, off, none⟩) len c)) (hc1 : w.cell? ⟨B, 1, none⟩ = some (.int .i64 (p : Int))) (hf1 : w.frozen? ⟨B, 1, none⟩ = false) (hp : p ≤ 1000000000) (hn : 1 ≤ n)
    (hlen : len ≤ 2000) (hlt : p < len) (hb : b < B) (hz : w.cell? ⟨b, off + p, none⟩ = some (.int .u8 z)) (hz0 : 0 ≤ z) (hz1 : z ≤ 255) :
    Calls Try.prog 31 #[.pointer (some ⟨B, 0, none⟩), .int .i64 n] w (Picked n w B p) := by
  have hzz : (w.setCell ⟨B, 1, none⟩ (.int .i64 ((p : Int) + 1))).cell? ⟨b, off + p, none⟩ = some (.int .u8 z) := (World.cell?_setCell_other w ⟨B, 1, none⟩ ⟨b, off + p, none⟩ _ (fun e => by injection e; omega)).trans hz
  have hl0 : ((len : Int) == 0) = false := by simp; omega
  go_enter Try.func31, Try.ntmps31
  go_wp2
  go_ret
  exact picked_mk (inR_mod hz0 hn)

set_option maxRecDepth 100000 in
theorem S_pick_three (B p b off len c : Nat) (n y z : Int) (w : World) (hc0 : w.cell? ⟨B, 0, none⟩ = some (.slice (some ⟨b, off, none⟩) len c)) (hc1 : w.cell? ⟨B, 1, none⟩ = some (.int .i64 (p : Int))) (hf1 : w.frozen? ⟨B, 1, none⟩ = false) (hp : p ≤ 1000000000) (hn : 1 ≤ n)
    (hlen : len ≤ 2000) (hpos : 1 ≤ len) (hge : len ≤ p) (hb : b < B) (hy : w.cell? ⟨b, off + p % len, none⟩ = some (.int .u8 y)) (hy0 : 0 ≤ y) (hy1 : y ≤ 255) (hz : w.cell? ⟨b, off + (p * 7 + 3) % len, none⟩ = some (.int .u8 z)) (hz0 : 0 ≤ z) (hz1 : z ≤ 255) :
    Calls Try.prog 31 #[.pointer (some ⟨B, 0, none⟩), .int .i64 n] w (Picked n w B p) := by
  have hyy : (w.setCell ⟨B, 1, none⟩ (.int .i64 ((p : Int) + 1))).cell? ⟨b, off + p % len, none⟩ = some (.int .u8 y) := (World.cell?_setCell_other w ⟨B, 1, none⟩ ⟨b, off + p % len, none⟩ _ (fun e => by injection e; omega)).trans hy
  have hzz : (w.setCell ⟨B, 1, none⟩ (.int .i64 ((p : Int) + 1))).cell? ⟨b, off + (p * 7 + 3) % len, none⟩ = some (.int .u8 z) := (World.cell?_setCell_other w ⟨B, 1, none⟩ ⟨b, off + (p * 7 + 3) % len, none⟩ _ (fun e => by injection e; omega)).trans hz
  have hl0 : ((len : Int) == 0) = false := by simp; omega
  have m1 : p % len < len := Nat.mod_lt _ (by omega)
  have m2 : (p * 7 + 3) % len < len := Nat.mod_lt _ (by omega)
  have m3 : p / len ≤ p := Nat.div_le_self _ _
  go_enter Try.func31, Try.ntmps31
  go_wp2
  have i1 : (0 : Int) ≤ ((p : Int) * 7 + 3) % (len : Int) := Int.emod_nonneg _ (by omega)
  have i2 : ((p : Int) * 7 + 3) % (len : Int) < (len : Int) := Int.emod_lt_of_pos _ (by omega)
  have i3 : (((p : Int) * 7 + 3) % (len : Int)).toNat = (p * 7 + 3) % len := by
    rw [show ((p : Int) * 7 + 3) % (len : Int) = (((p * 7 + 3) % len : Nat) : Int) from by rw [Int.natCast_emod, Int.natCast_add, Int.natCast_mul]; rfl]
    exact Int.toNat_natCast _
  refine wp_region_quiet_lit (by kernel_rfl) (by kernel_rfl) ?_
  repeat (first | go_big_quiet_step (fail) | quiet_step (fail))
  refine wpQuiet_nil ?_
  intro _ hw'
  obtain ⟨nq, hw''⟩ := hw'
  subst hw''
  go_wp2
  go_ret
  exact picked_mkN (inR_xor (mix_bd y z p len hp hy0 hy1 hz0 hz1) hn) nq

theorem S_pick (B p : Nat) (n : Int) (w : World) (h : RdAt w B p) (hp : p ≤ 1000000000) :
    Calls Try.prog 31 #[.pointer (some ⟨B, 0, none⟩), .int .i64 n] w (Picked n w B p) := by
  by_cases hn : n < 1
  · exact S_pick_zero B p n w h hp hn
  · obtain ⟨a, len, c, hc0, hc1, hf1, hlen, hbytes⟩ := rd_open h
    rcases Nat.eq_zero_or_pos len with h0 | h0
    · subst h0
      exact S_pick_one B p n w a c hc0 hc1 hf1 hp (by omega)
    · obtain ⟨b, off, rfl, hb, hc⟩ := hbytes h0
      by_cases hlt : p < len
      · obtain ⟨z, hz, hz0, hz1⟩ := hc p hlt
        exact S_pick_two B p b off len c n z w hc0 hc1 hf1 hp (by omega) hlen hlt hb hz hz0 hz1
      · obtain ⟨y, hy, hy0, hy1⟩ := hc (p % len) (Nat.mod_lt _ h0)
        obtain ⟨z, hz, hz0, hz1⟩ := hc ((p * 7 + 3) % len) (Nat.mod_lt _ h0)
        exact S_pick_three B p b off len c n y z w hc0 hc1 hf1 hp (by omega) hlen h0 (by omega) hb hy hy0 hy1 hz hz0 hz1

/-- the bit drawn by odd -/
def Odded (W : World) (B p : Nat) (e : Ending) (w' : World) : Prop :=
  ∃ (v : Bool) (p' k : Nat), e = .returned (.bool v) ∧ p' ≤ p + 1 ∧ w' = addsW (W.setCell ⟨B, 1, none⟩ (.int .i64 (p' : Int))) #[] k

theorem rd_same {w : World} {B p : Nat} (h : RdAt w B p) : w.setCell ⟨B, 1, none⟩ (.int .i64 (p : Int)) = w := by
  obtain ⟨a, n, c, h1, _⟩ := h
  have e : (w.setCell ⟨B, 1, none⟩ (.int .i64 (p : Int))).heap = w.heap := by
    apply Array.ext_getElem?
    intro k
    by_cases hk : k = B
    · subst hk; simp [World.setCell, Array.getElem?_modify, h1]
    · exact Below.heap_setCell w _ _ k hk
  have e2 : w.setCell ⟨B, 1, none⟩ (.int .i64 (p : Int)) = { w with heap := (w.setCell ⟨B, 1, none⟩ (.int .i64 (p : Int))).heap } := rfl
  rw [e2, e]

theorem S_odd (B p : Nat) (n : Int) (w : World) (h : RdAt w B p) (hp : p ≤ 1000000000) (hn : -1000000 ≤ n) :
    Calls Try.prog 50 #[.pointer (some ⟨B, 0, none⟩), .int .i64 n] w (Odded w B p) := by
  have H := Lib.hid h
  clear h
  by_cases hn0 : 0 < n
  · go_enter Try.func50, Try.ntmps50
    go_wp2_with (go_at_call 31; refine (S_pick B p n _ H.out hp).mono ?_; rintro e w' ⟨v, p1, k1, rfl, hv, hp1, rfl⟩)
    go_ret
    exact ⟨_, p1, k1, rfl, hp1, rfl⟩
  · go_enter Try.func50, Try.ntmps50
    go_wp2
    go_ret
    exact ⟨_, p, _, rfl, by omega, by rw [rd_same H.out]; exact self_adds w⟩

theorem S_l20Open (a : Option Addr) (len cap : Nat) (zs : List Int) (w : World) (h : IsRow .u8 w a len cap zs) :
    Calls Try.prog 30 #[.slice a len cap] w fun e w' => e = .returned (.pointer (some ⟨w.heap.size, 0, none⟩)) ∧ RdAt w' w.heap.size 0 ∧ Below w.heap.size w w' ∧ w.heap.size < w'.heap.size := by
  have hb : ∀ n, n ≤ len → Bytes w w.heap.size a n := by
    intro n hn hpos
    obtain ⟨hr, hl, _, hw⟩ := RowAt.of_row h
    obtain ⟨b, off, rfl, hlt, hc⟩ := hr (by intro e; rw [e] at hl; simp at hl; omega)
    exact ⟨b, off, rfl, hlt, fun i hi => ⟨_, hc i (by omega), bounds_u8 (hw i)⟩⟩
  have HB := Lib.hid hb
  clear hb
  have fin : ∀ n c, n ≤ len → n ≤ 2000 → RdAt (w.alloc (.cells #[.slice a n c, .int .i64 0] 84)) w.heap.size 0 := by
    intro n c h1 h2
    refine ⟨a, n, c, heap_alloc_new w _, h2, fun hpos => ?_⟩
    obtain ⟨b, off, rfl, hlt, hc⟩ := HB.out n h1 hpos
    exact ⟨b, off, rfl, hlt, fun i hi => by
      obtain ⟨z, hz, hz2⟩ := hc i hi
      exact ⟨z, (World.cell?_alloc_lt _ _ _ hlt).trans hz, hz2⟩⟩
  have HF := Lib.hid fin
  clear fin
  by_cases hbig : 2000 < len
  · rcases h with ⟨rfl, rfl, rfl, rfl⟩ | ⟨x, rfl, hl, hm, hz, hcell, hwz⟩
    · omega
    · obtain ⟨b, off, spot⟩ := x
      have hspot : spot = none := by simpa [Addr.add] using World.cell?_spot (hcell 0 (by omega))
      subst hspot
      clear hcell hwz
      unfold maxLen at hm
      go_enter Try.func30, Try.ntmps30
      go_wp2
      go_ret
      exact ⟨rfl, HF.out 2000 _ (by omega) (by omega), (by repeat' (first | (with_reducible exact Below.refl _ _) | (with_reducible refine Below.adds_ ?_ ?_ _ _) | (with_reducible refine Below.alloc ?_ ?_ _) | (with_reducible refine Below.drew ?_) | (with_reducible refine Below.setCell ?_ ?_ _) | (with_reducible assumption) | go_size | (simp only [size_addsW, World.size_alloc, World.size_drew, World.size_setCell]; omega))), by simp⟩
  · have hlm := (RowAt.of_row h).2.2.1
    unfold maxLen at hlm
    clear h
    go_enter Try.func30, Try.ntmps30
    go_wp2
    go_ret
    exact ⟨rfl, HF.out len _ (by omega) (by omega), (by repeat' (first | (with_reducible exact Below.refl _ _) | (with_reducible refine Below.adds_ ?_ ?_ _ _) | (with_reducible refine Below.alloc ?_ ?_ _) | (with_reducible refine Below.drew ?_) | (with_reducible refine Below.setCell ?_ ?_ _) | (with_reducible assumption) | go_size | (simp only [size_addsW, World.size_alloc, World.size_drew, World.size_setCell]; omega))), by simp⟩

end Go.Proofs.Ytggkelehjdepkaa
