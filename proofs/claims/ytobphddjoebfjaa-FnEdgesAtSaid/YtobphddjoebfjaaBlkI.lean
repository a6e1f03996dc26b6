/- The program's iterator over the edges of a picture. -/
import Derived.Test.YtobphddjoebfjaaBlkP
import Derived.Test.YtobphddjoebfjaaStillR
namespace Go.Proofs.Ytobphddjoebfjaa
open Go.RowKit Go.Shelf
set_option linter.unusedVariables false
set_option linter.unusedSimpArgs false

attribute [local go_sem] Oper.semAt_some

/-- the cells of block Bn hold what they held -/
def KpC (Bn : Nat) (W W' : World) : Prop := ∀ i v, W.cell? ⟨Bn, i, none⟩ = some v → W'.cell? ⟨Bn, i, none⟩ = some v
theorem KpC.trans {Bn : Nat} {A B C : World} (h : KpC Bn A B) (k : KpC Bn B C) : KpC Bn A C := fun i v hv => k i v (h i v hv)
theorem kpC_b {Bn : Nat} {w : World} (W : World) (l : Nat) (o o' : Obj) (_ : w.heap.size ≤ l) (h : W.heap[l]? = some o) (ho : o.isCells = false) (_ : o.isWalk = false) : KpC Bn W (W.putObj l o') := fun i v hv =>
  cell_kept hv (grownBy_putObj' W l o') (fun r e => by cases e; exact ⟨_, h, ho⟩)
theorem KpC.refl (Bn : Nat) (W : World) : KpC Bn W W := fun _ _ h => h
theorem KpC.set {Bn : Nat} {W W' : World} (h : KpC Bn W W') {q : Addr} (hq : Bn ≠ q.block) (u : Value) : KpC Bn W (W'.setCell q u) := fun i v hv => (World.cell?_of_block (w := W') (Below.heap_setCell W' q u Bn hq)).trans (h i v hv)
theorem KpC.drew {Bn : Nat} {W W' : World} (h : KpC Bn W W') : KpC Bn W W'.drew := fun i v hv => h i v hv
theorem els_len {N : Nat} (l : List (EE N)) : (els l).length = l.length := by simp [els]

set_option maxRecDepth 100000 in
set_option maxHeartbeats 2000000 in
theorem I_edges1 (n l Bn a b N : Nat) (hn : 1 ≤ n) (ha : 8 ≤ a ∧ a ≤ 32 ∧ a % 4 = 0) (hb : 8 ≤ b ∧ b ≤ 32 ∧ b % 4 = 0) (hN : N = a * b) (J Jx : List (EE N) → World → Prop)
    (hY : ∀ pre x W, J pre W → pre.length < (edgE a b).length → YieldAt Fence.wide (n - 1) Try.prog l (eEnc x) W fun e W' =>
      (e = .returned (.bool true) ∧ J (pre ++ [x]) W' ∧ KpC Bn W W') ∨ (e = .returned (.bool false) ∧ Jx (pre ++ [x]) W'))
    (W : World) (hc0 : W.cell? ⟨Bn, 0, none⟩ = some (.int .i64 (a : Int))) (hc1 : W.cell? ⟨Bn, 1, none⟩ = some (.int .i64 (b : Int))) (h0 : J [] W) :
    CallsIn Fence.wide n Try.prog 84 #[.func (.yield l) #[] #[], .pointer (some ⟨Bn, 0, none⟩)] W fun e W' => (∃ v, e = .returned v) ∧
      ((∃ ys, els ys = edgE a b ∧ J ys W') ∨ (∃ pre, els pre <+: edgE a b ∧ Jx pre W')) := by
  have HY := Lib.hid hY
  clear hY
  refine callsIn_of_wp Try.func84 rfl trivial ?_ rfl
  simp only [Try.ntmps84, List.size_toArray, List.length_cons, List.length_nil, Nat.reduceAdd, Nat.reduceSub, Array.replicate_succ, Array.replicate_zero, List.push_toArray, List.append_toArray, List.nil_append, List.cons_append]
  gi_wp2
  gi_loopw [9] (fun i wr => ∃ (y : Nat) (pre : List (EE N)), i = .int .i64 (y : Int) ∧ y ≤ b ∧ els pre = vertE a y ∧ J pre wr ∧ wr.cell? ⟨Bn, 0, none⟩ = some (.int .i64 (a : Int)) ∧ wr.cell? ⟨Bn, 1, none⟩ = some (.int .i64 (b : Int))) (fun i _ => b - (intOf i).toNat)
  case atStart => exact ⟨0, [], rfl, by omega, rfl, h0, hc0, hc1⟩
  case round =>
    clear hc0 hc1
    obtain ⟨y, pre, rfl, hy, hp, hJ, hc0, hc1⟩ := hrel
    have HP := Lib.hid hp
    have HJ := Lib.hid hJ
    clear hp hJ
    by_cases hlt : y < b
    · have hd1 : (y : Int) < (b : Int) := by omega
      obtain ⟨K, hK⟩ : ∃ K, K = y * a := ⟨_, rfl⟩
      have hyw : (y : Int) * (a : Int) = (K : Int) := by rw [hK, Int.natCast_mul]
      have hKN : K + a ≤ N := by
        have := Nat.mul_le_mul_right a (show y + 1 ≤ b by omega)
        rw [Nat.add_mul, Nat.one_mul, Nat.mul_comm b a] at this
        omega
      have hNb : N ≤ 1024 := by rw [hN]; exact Nat.mul_le_mul ha.2.1 hb.2.1
      have HK := Lib.hid hK
      clear hK
      gi_wp2
      gi_loopw [4] (fun x wr => ∃ (m : Nat) (pre : List (EE N)), x = .int .i64 ((4 * (m + 1) : Nat) : Int) ∧ m ≤ a / 4 - 1 ∧ els pre = vertE a y ++ rowE a y m ∧ J pre wr ∧ wr.cell? ⟨Bn, 0, none⟩ = some (.int .i64 (a : Int)) ∧ wr.cell? ⟨Bn, 1, none⟩ = some (.int .i64 (b : Int))) (fun x _ => a - (intOf x).toNat)
      case atStart => exact ⟨0, pre, rfl, by omega, by rw [HP.out, rowE, List.append_nil], HJ.out, hc0, hc1⟩
      case round =>
        clear HP HJ hc0 hc1
        clear pre
        obtain ⟨m, pre, rfl, hm, hp, hJ, hc0, hc1⟩ := hrel
        have HP := Lib.hid hp
        have HJ := Lib.hid hJ
        clear hp hJ
        obtain ⟨X, hX⟩ : ∃ X, X = 4 * (m + 1) := ⟨_, rfl⟩
        rw [← hX]
        by_cases hlt2 : m < a / 4 - 1
        · have hd2 : (X : Int) < (a : Int) := by omega
          have hX1 : 1 ≤ X := by omega
          have hpre := vert_item hlt hlt2
          rw [← HP.out] at hpre
          have hlen := hpre.length_le
          rw [List.length_append, els_len, List.length_singleton] at hlen
          have HPre := Lib.hid hpre
          clear hpre
          have HX := Lib.hid hX
          clear hX
          obtain ⟨fn, tmps, assign, body, hy, hR⟩ := HY.out pre ⟨((K : Int) + (X : Int), 1), by simp only; omega⟩ wr HJ.out (by omega)
          have HE := Lib.hid (show els (pre ++ [(⟨((K : Int) + (X : Int), 1), by simp only; omega⟩ : EE N)]) = els pre ++ [(y * a + 4 * (m + 1), 1)] by
            rw [els, List.map_append, List.map_singleton, ← HK.out, ← HX.out]; simp only; congr 3 <;> omega)
          gi_wp2
          refine hR.mono ?_
          clear hy hR
          rintro e W3 (⟨rfl, hJ3, hk3⟩ | ⟨rfl, hJx3⟩)
          · have hk0 := hk3 _ _ hc0
            have hk1 := hk3 _ _ hc1
            gi_wp2
            go_roundw
            case rel => exact ⟨m + 1, _, by rw [HX.out]; go_num, by omega, by rw [HE.out, rowE, ← List.append_assoc, ← HP.out], hJ3, hk0, hk1⟩
            case measure => simp [intOf]; omega
          · gi_wp2
            refine bodyPost_ret (results_none rfl _ _ _) rfl ?_
            exact ⟨⟨_, rfl⟩, .inr ⟨_, by rw [HE.out]; exact HPre.out, hJx3⟩⟩
        · obtain rfl : m = a / 4 - 1 := by omega
          have hd2 : ¬ (X : Int) < (a : Int) := by omega
          gi_wp2
          go_roundw
          case rel => exact ⟨y + 1, pre, by go_num, by omega, by rw [HP.out, vertE], HJ.out, hc0, hc1⟩
          case measure => simp [intOf]; omega
    · obtain rfl : y = b := by omega
      gi_wp2
      gi_loopw [30] (fun i wr => ∃ (x : Nat) (pre : List (EE N)), i = .int .i64 (x : Int) ∧ x ≤ a ∧ els pre = vertE a y ++ horE a y x ∧ J pre wr ∧ wr.cell? ⟨Bn, 0, none⟩ = some (.int .i64 (a : Int)) ∧ wr.cell? ⟨Bn, 1, none⟩ = some (.int .i64 (y : Int))) (fun i _ => a - (intOf i).toNat)
      case atStart => exact ⟨0, pre, rfl, by omega, by rw [HP.out, horE, List.append_nil], HJ.out, hc0, hc1⟩
      case round =>
        clear HP HJ hc0 hc1
        clear pre
        obtain ⟨x, pre, rfl, hx, hp, hJ, hc0, hc1⟩ := hrel
        have HP := Lib.hid hp
        have HJ := Lib.hid hJ
        clear hp hJ
        by_cases hltx : x < a
        · have hdx : (x : Int) < (a : Int) := by omega
          gi_wp2
          gi_loopw [6] (fun v wr => ∃ (m : Nat) (pre : List (EE N)), v = .int .i64 ((4 * (m + 1) : Nat) : Int) ∧ m ≤ y / 4 - 1 ∧ els pre = vertE a y ++ (horE a y x ++ colE a x m) ∧ J pre wr ∧ wr.cell? ⟨Bn, 0, none⟩ = some (.int .i64 (a : Int)) ∧ wr.cell? ⟨Bn, 1, none⟩ = some (.int .i64 (y : Int))) (fun v _ => y - (intOf v).toNat)
          case atStart => exact ⟨0, pre, rfl, by omega, by rw [HP.out, colE, List.append_nil], HJ.out, hc0, hc1⟩
          case round =>
            clear HP HJ hc0 hc1
            clear pre
            obtain ⟨m, pre, rfl, hm, hp, hJ, hc0, hc1⟩ := hrel
            have HP := Lib.hid hp
            have HJ := Lib.hid hJ
            clear hp hJ
            obtain ⟨X, hX⟩ : ∃ X, X = 4 * (m + 1) := ⟨_, rfl⟩
            rw [← hX]
            by_cases hlt2 : m < y / 4 - 1
            · have hd2 : (X : Int) < (y : Int) := by omega
              obtain ⟨K, hK⟩ : ∃ K, K = X * a := ⟨_, rfl⟩
              have hyw : (X : Int) * (a : Int) = (K : Int) := by rw [hK, Int.natCast_mul]
              have hKN : K + a ≤ N := by
                have := Nat.mul_le_mul_right a (show X + 1 ≤ y by omega)
                rw [Nat.add_mul, Nat.one_mul, Nat.mul_comm y a] at this
                omega
              have hKa : a ≤ K := by
                have := Nat.mul_le_mul_right a (show 1 ≤ X by omega)
                omega
              have hNb : N ≤ 1024 := by rw [hN]; exact Nat.mul_le_mul ha.2.1 hb.2.1
              have HK := Lib.hid hK
              clear hK
              have hpre := hor_item hltx hlt2
              rw [← HP.out] at hpre
              have hlen := hpre.length_le
              rw [List.length_append, els_len, List.length_singleton] at hlen
              have HPre := Lib.hid hpre
              clear hpre
              have HX := Lib.hid hX
              clear hX
              obtain ⟨fn, tmps, assign, body, hy, hR⟩ := HY.out pre ⟨((K : Int) + (x : Int), (a : Int)), by simp only; omega⟩ wr HJ.out (by omega)
              have HE := Lib.hid (show els (pre ++ [(⟨((K : Int) + (x : Int), (a : Int)), by simp only; omega⟩ : EE N)]) = els pre ++ [(4 * (m + 1) * a + x, a)] by
                rw [els, List.map_append, List.map_singleton, ← HX.out, ← HK.out]; simp only; congr 3)
              gi_wp2
              refine hR.mono ?_
              clear hy hR
              rintro e W3 (⟨rfl, hJ3, hk3⟩ | ⟨rfl, hJx3⟩)
              · have hk0 := hk3 _ _ hc0
                have hk1 := hk3 _ _ hc1
                gi_wp2
                go_roundw
                case rel => exact ⟨m + 1, _, by rw [HX.out]; go_num, by omega, by rw [HE.out, HP.out, colE, List.append_assoc, List.append_assoc], hJ3, hk0, hk1⟩
                case measure => simp [intOf]; omega
              · gi_wp2
                refine bodyPost_ret (results_none rfl _ _ _) rfl ?_
                exact ⟨⟨_, rfl⟩, .inr ⟨_, by rw [HE.out]; exact HPre.out, hJx3⟩⟩
            · obtain rfl : m = y / 4 - 1 := by omega
              have hd2 : ¬ (X : Int) < (y : Int) := by omega
              gi_wp2
              go_roundw
              case rel => exact ⟨x + 1, pre, by go_num, by omega, by rw [HP.out, horE], HJ.out, hc0, hc1⟩
              case measure => simp [intOf]; omega
        · obtain rfl : x = a := by omega
          gi_wp2
          go_end0
          exact ⟨⟨_, rfl⟩, .inl ⟨pre, HP.out, HJ.out⟩⟩

theorem I_blockEdges (v : Value) (x y : Value) (w : World) : Calls Try.prog 53 #[.agg #[x, y, v]] w fun e w' => e = .returned (.func (.func 84) #[] #[.pointer (some ⟨w.heap.size, 0, none⟩)]) ∧ w' = w.alloc (.cells #[x, y, v] 27) := by
  go_enter Try.func53, Try.ntmps53
  go_wp2
  go_ret
  exact ⟨rfl, rfl⟩
theorem enters_edge : ∀ args w, (callFunc 84 args).run Try.prog w = .ok (.enter 84 args) w := enters_of Try.func84 (by kernel_rfl) rfl

theorem edge_stops (n Bn a b N : Nat) (hn : 1 ≤ n) (ha : 8 ≤ a ∧ a ≤ 32 ∧ a % 4 = 0) (hb : 8 ≤ b ∧ b ≤ 32 ∧ b % 4 = 0) (hN : N = a * b) (w : World) (hB : Bn < w.heap.size) (hc0 : w.cell? ⟨Bn, 0, none⟩ = some (.int .i64 (a : Int))) (hc1 : w.cell? ⟨Bn, 1, none⟩ = some (.int .i64 (b : Int))) :
    SeqStopsK Fence.wide n Try.prog 84 #[.pointer (some ⟨Bn, 0, none⟩)] eEnc (KpC Bn) (fun ys : List (EE N) => els ys = edgE a b) (fun pre => els pre <+: edgE a b) (edgE a b).length w := fun l J Jx W hW _ _ hY h0 =>
  I_edges1 n l Bn a b N hn ha hb hN J Jx hY W ((hW.cell (p := ⟨Bn, 0, none⟩) hB).trans hc0) ((hW.cell (p := ⟨Bn, 1, none⟩) hB).trans hc1) h0

end Go.Proofs.Ytobphddjoebfjaa
