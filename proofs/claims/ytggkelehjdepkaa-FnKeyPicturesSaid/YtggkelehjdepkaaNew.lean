/- NewPicture, and alive, which asks it. -/
import Derived.Test.YtggkelehjdepkaaSmall
import Derived.LoopTactic
import Derived.Deep.OwnRows
namespace Go.Proofs.Ytggkelehjdepkaa
open Go.RowKit
set_option linter.unusedVariables false
set_option linter.unusedSimpArgs false

attribute [local go_sem] size_addsW cell?_addsW frozen?_addsW setCell_addsW drew_addsW adds_addsW setCell_twice alloc_adds0 size_adds0 adds_adds0 sel2 sel3 sel4 sel5 sel6 sel7 sel8 sel9 lt_more lt_more2 lt_more3 lt_more4 adds_drew adds_drewN drewN_addsW ltA_1_1 ltA_1_2 ltA_1_3 ltA_1_4 ltA_1_5 ltA_1_6 ltA_2_1 ltA_2_2 ltA_2_3 ltA_2_4 ltA_2_5 ltA_2_6 ltA_3_1 ltA_3_2 ltA_3_3 ltA_3_4 ltA_3_5 ltA_3_6 ltA_4_1 ltA_4_2 ltA_4_3 ltA_4_4 ltA_4_5 ltA_4_6 ltA_5_1 ltA_5_2 ltA_5_3 ltA_5_4 ltA_5_5 ltA_5_6 ltA_6_1 ltA_6_2 ltA_6_3 ltA_6_4 ltA_6_5 ltA_6_6 ltA_7_1 ltA_7_2 ltA_7_3 ltA_7_4 ltA_7_5 ltA_7_6 ltA_8_1 ltA_8_2 ltA_8_3 ltA_8_4 ltA_8_5 ltA_8_6 ltA_9_1 ltA_9_2 ltA_9_3 ltA_9_4 ltA_9_5 ltA_9_6 ltA_10_1 ltA_10_2 ltA_10_3 ltA_10_4 ltA_10_5 ltA_10_6 ltA_11_1 ltA_11_2 ltA_11_3 ltA_11_4 ltA_11_5 ltA_11_6 ltA_12_1 ltA_12_2 ltA_12_3 ltA_12_4 ltA_12_5 ltA_12_6

/-- n cells of which the first k hold v, the others 0 -/
def fillA (n k : Nat) (v : Int) : Array Value := ((List.replicate k v ++ List.replicate (n - k) 0).map (Value.int .i64)).toArray

theorem fillA_at {n k : Nat} {v : Int} (h : k < n) : (fillA n k v)[k]? = some (.int .i64 0) := by
  simp only [fillA, List.getElem?_toArray, List.getElem?_map]
  rw [List.getElem?_append_right (by simp), List.getElem?_replicate]
  simp; omega
theorem fillA_set {n k : Nat} {v : Int} (h : k < n) : (fillA n k v).setIfInBounds k (.int .i64 v) = fillA n (k + 1) v := by
  apply Array.ext_getElem?
  intro i
  simp only [fillA, Array.getElem?_setIfInBounds, List.getElem?_toArray, List.getElem?_map, List.size_toArray, List.length_map, List.length_append, List.length_replicate, List.getElem?_append, List.getElem?_replicate]
  by_cases h1 : k = i
  · subst h1; simp; omega
  · by_cases h2 : i < k
    · have h3 : i < k + 1 := by omega
      simp [h1, h2, h3]
    · have h3 : ¬ i < k + 1 := by omega
      simp only [h1, if_false, h2, h3]
      have : (i - k < n - k) ↔ (i - (k + 1) < n - (k + 1)) := by omega
      by_cases h4 : i - k < n - k
      · simp [h4, this.1 h4]
      · have h5 : ¬ i - (k + 1) < n - (k + 1) := fun h => h4 (this.2 h)
        simp [h4, h5]
theorem made_fillA (n : Nat) (v : Int) : madeCells #[.int .i64 0] n = fillA n 0 v := by
  apply Array.ext_getElem?
  intro i
  simp only [madeCells, fillA, Array.getElem?_map, List.getElem?_toArray, List.getElem?_map, List.replicate_zero, List.nil_append, Nat.sub_zero, List.getElem?_replicate, Array.getElem?_range]
  by_cases h : i < n <;> simp [h, Nat.mod_one]
theorem fillA_full (n : Nat) (v : Int) : fillA n n v = ((List.replicate n v).map (Value.int .i64)).toArray := by simp [fillA]

theorem infoInt : (Try.prog.info? 3).map (fun i => (i.zero, i.size, i.bytes)) = some (some (.int .i64 0), 1, 8) := by kernel_rfl

def sideB (n : Int) : Bool := decide (8 ≤ n ∧ n ≤ 32 ∧ n % 8 = 0)

theorem I_sideValid (n : Int) (w : World) : Calls Try.prog 61 #[.int .i64 n] w fun e w' => e = .returned (.bool (sideB n)) ∧ w = w' := by
  go_enter Try.func61, Try.ntmps61
  go_wp2
  all_goals
    go_returns
    exact ⟨M.ret_bool (by rw [Bool.eq_iff_iff]; simp [sideB] <;> omega), rfl⟩

/-- a picture in new memory -/
def NewPic (a b : Nat) (v : Int) (w : World) (e : Ending) (w' : World) : Prop :=
  ∃ g : Nat, e = .returned (.agg #[.int .i64 (a : Int), .int .i64 (b : Int), .slice (some ⟨g, 0, none⟩) (a * b) (a * b)]) ∧ RowAt .i64 w' (some ⟨g, 0, none⟩) (List.replicate (a * b) v) ∧ w.heap.size ≤ g ∧ Below w.heap.size w w'

theorem I_NewPicture (a b : Nat) (v : Int) (w : World) (ha : sideB a = true) (hb : sideB b = true) (hv : M.inB v 0 255 = true) :
    Calls Try.prog 39 #[.int .i64 (a : Int), .int .i64 (b : Int), .int .i64 v] w (NewPic a b v w) := by
  have ha' : a ≤ 32 := by simp [sideB] at ha; omega
  have hb' : b ≤ 32 := by simp [sideB] at hb; omega
  obtain ⟨N, hYtggkelehjdepkaa⟩ : ∃ N, N = a * b := ⟨_, rfl⟩
  have hab : N ≤ 1024 := by have := Nat.mul_le_mul ha' hb'; omega
  have hN : (a : Int) * (b : Int) = (N : Int) := by rw [hYtggkelehjdepkaa, Int.natCast_mul]
  have HN := Lib.hid hYtggkelehjdepkaa
  clear hYtggkelehjdepkaa
  have hmk : ∀ W : World, (Instr.makeSlice 59 (.int .i64 (N : Int)) (.int .i64 (N : Int))).run Try.prog W = .ok (.slice (some ⟨W.heap.size, 0, none⟩) N N) (W.alloc (.cells (fillA N 0 v) 3)) := by
    intro W
    have := run_make_row' (P := Try.prog) 59 3 (.int .i64 0) 8 Try.underlying59 infoInt rfl .i64 .i64 N (by omega) (by omega) W
    rw [made_fillA N v] at this
    exact this
  go_enter Try.func39, Try.ntmps39
  go_wp2_with (first | (go_at_call 61; refine (I_sideValid _ _).mono ?_; rintro e w' ⟨rfl, rfl⟩) | (go_at_call 62; refine (I_sampleValid _ _).mono ?_; rintro e w' ⟨rfl, rfl⟩))
  go_loopw [33] (fun i wr => ∃ k : Nat, k ≤ N ∧ i = .int .i64 (k : Int) ∧ wr = ((w.alloc (.cells #[.int .i64 0, .int .i64 0, .slice none 0 0] 74)).alloc (.cells (fillA N k v) 3)).alloc (.cells #[.int .i64 (a : Int), .int .i64 (b : Int), .slice (some ⟨w.heap.size + 1, 0, none⟩) N N] 74)) (fun i _ => N - (intOf i).toNat)
  case atStart => exact ⟨0, Nat.zero_le _, rfl, rfl⟩
  case round =>
    obtain ⟨k, hk, rfl, rfl⟩ := hrel
    by_cases hlt : k < N
    · have hF := fillA_at (v := v) hlt
      have HS := Lib.hid (fillA_set (v := v) hlt)
      go_wp2
      go_roundw
      case rel => exact ⟨k + 1, by omega, by go_num, by rw [HS.out]⟩
      case measure => simp [intOf]; omega
    · obtain rfl : k = N := by omega
      go_wp2
      go_returns
      have hr := RowAt.new .i64 (w.alloc (.cells #[.int .i64 (a : Int), .int .i64 (b : Int), .slice (some ⟨w.heap.size + 1, 0, none⟩) k k] 74)) (List.replicate k v) 3
      rw [World.size_alloc, ← fillA_full] at hr
      unfold NewPic
      rw [← HN.out]
      exact ⟨w.heap.size + 1, rfl, hr.keep (by go_grown), by omega, (by repeat' (first | (with_reducible exact Below.refl _ _) | (with_reducible refine Below.adds_ ?_ ?_ _ _) | (with_reducible refine Below.alloc ?_ ?_ _) | (with_reducible refine Below.drew ?_) | (with_reducible refine Below.setCell ?_ ?_ _) | (with_reducible assumption) | go_size | (simp only [size_addsW, World.size_alloc, World.size_drew, World.size_setCell]; omega)))⟩

theorem L_alive (w : World) : Calls Try.prog 11 #[] w fun e w' => e = .returned (.bool true) ∧ Below w.heap.size w w' := by
  have hfd : ∀ (W : World) (x y z : Value), (Instr.field 74 (.agg #[x, y, z]) 2).run Try.prog W = .ok z W := fun _ _ _ _ => by kernel_rfl
  go_enter Try.func11, Try.ntmps11
  go_wp2_with (go_at_call 39; refine (I_NewPicture 8 8 7 _ (by decide) (by decide) (by decide)).mono ?_; rintro e w' ⟨g, rfl, hr, hg, hb⟩; clear hr)
  go_returns
  exact ⟨rfl, hb⟩

end Go.Proofs.Ytggkelehjdepkaa
