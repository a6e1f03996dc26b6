/- What predictions obey: flat edges, turned edges, bounds. Two arrays of sixteen numbers compared. -/
import Derived.Test.YthnigldbpikcaaaPredV
import Derived.Test.YthnigldbpikcaaaArm
namespace Go.Proofs.Ythnigldbpikcaaa
open Go.RowKit
set_option linter.unusedVariables false
set_option linter.unusedSimpArgs false

theorem prL_ok {m : Int} {f g : Nat → Int} {c : Int} {u l : Bool} (h : 0 ≤ m ∧ m ≤ 4 ∧ evB f g c = true) {k : Nat} (hk : k < 16) : (prL m f g c u l).getD k 0 = pS m.toNat f g c u l (k % 4) (k / 4) := by
  rw [prL, if_pos h, pL_get _ _ _ _ _ _ hk]
theorem prL_bd {m : Int} {f g : Nat → Int} {c : Int} {u l : Bool} (h : 0 ≤ m ∧ m ≤ 4 ∧ evB f g c = true) {k : Nat} (hk : k < 16) : 0 ≤ (prL m f g c u l).getD k 0 ∧ (prL m f g c u l).getD k 0 ≤ 255 := by
  rw [prL_ok h hk]
  exact pS_bd (evB_ok h.2.2) (by omega) (by omega)
theorem prL_bad {m : Int} {f g : Nat → Int} {c : Int} {u l : Bool} (h : ¬ (0 ≤ m ∧ m ≤ 4 ∧ evB f g c = true)) : prL m f g c u l = z16 := by rw [prL, if_neg h]
theorem evB_of {f g : Nat → Int} {c : Int} (h : eOk f g c) : evB f g c = true := by
  have a0 := h.1 0 (by omega); have a1 := h.1 1 (by omega); have a2 := h.1 2 (by omega); have a3 := h.1 3 (by omega)
  have b0 := h.2.1 0 (by omega); have b1 := h.2.1 1 (by omega); have b2 := h.2.1 2 (by omega); have b3 := h.2.1 3 (by omega)
  simp only [evB, M.samplesB, List.all_cons, List.all_nil, Bool.and_true, Bool.and_eq_true, M.inB, decide_eq_true_eq]
  exact ⟨⟨⟨a0, a1, a2, a3⟩, b0, b1, b2, b3⟩, h.2.2⟩
/-- the first k of four are c -/
def flF (c : Int) (k : Nat) : Nat → Int := fun i => if i < k then c else 0
theorem flF_upd (c : Int) (k : Nat) : upd (flF c k) k c = flF c (k + 1) := by
  funext i
  unfold upd flF
  by_cases h : i = k
  · rw [if_pos h, if_pos (by omega)]
  · rw [if_neg h]
    by_cases h2 : i < k
    · rw [if_pos h2, if_pos (by omega)]
    · rw [if_neg h2, if_neg (by omega)]
theorem flF_in {c : Int} {i : Nat} (h : i < 4) : flF c 4 i = c := if_pos h
theorem flF_ok {c : Int} (h : 0 ≤ c ∧ c ≤ 255) : eOk (flF c 4) (flF c 4) c := ⟨fun i hi => by rw [flF_in hi]; exact h, fun i hi => by rw [flF_in hi]; exact h, h⟩
theorem pS_flat {c : Int} (h : 0 ≤ c ∧ c ≤ 255) {m x y : Nat} (hx : x < 4) (hy : y < 4) : pS m (flF c 4) (flF c 4) c true false x y = c := by
  unfold pS
  split
  · have e : mT true false (flF c 4) (flF c 4) 4 = 4 * c := by
      simp [mT, flF]; omega
    unfold mV
    rw [e]
    simp only [if_true, Bool.false_eq_true, if_false]
    omega
  · exact flF_in hx
  · exact flF_in hy
  · have hb : ∀ k, k < 9 → bo (flF c 4) (flF c 4) c k = c := by
      intro k hk
      unfold bo
      split
      · exact flF_in (by omega)
      · split
        · rfl
        · exact flF_in (by omega)
    unfold diV
    rw [hb _ (by omega), hb _ (by omega), hb _ (by omega)]
    omega
  · unfold plV
    rw [flF_in hx, flF_in hy]
    omega
theorem prL_flat {m c : Int} (hm : 0 ≤ m ∧ m ≤ 4) (h : 0 ≤ c ∧ c ≤ 255) {k : Nat} (hk : k < 16) : (prL m (flF c 4) (flF c 4) c true false).getD k 0 = c := by
  rw [prL_ok ⟨hm.1, hm.2, evB_of (flF_ok h)⟩ hk]
  exact pS_flat h (by omega) (by omega)
theorem prL_none : (prL 0 (fun _ => 0) (fun _ => 0) 0 false false).getD 0 0 = 128 := by decide

/-- the mode of the turned edges -/
def tuM (m : Nat) : Nat := if m = 1 then 2 else if m = 2 then 1 else m
theorem mT_turn (u l : Bool) (f g : Nat → Int) (n : Nat) : mT l u g f n = mT u l f g n := by
  induction n with
  | zero => rfl
  | succ n ih => rw [mT, mT, ih]; omega
theorem mV_turn (u l : Bool) (f g : Nat → Int) : mV l u g f = mV u l f g := by
  unfold mV
  rw [mT_turn u l]
  cases u <;> cases l <;> rfl
theorem bo_turn (f g : Nat → Int) (c : Int) {k : Nat} (h : k < 9) : bo g f c (8 - k) = bo f g c k := by
  unfold bo
  by_cases h1 : k < 4
  · rw [if_pos h1, if_neg (by omega), if_neg (by omega)]; congr 1; omega
  · by_cases h2 : k = 4
    · subst h2; rfl
    · rw [if_neg h1, if_neg h2, if_pos (by omega)]; congr 1; omega
theorem pS_turn {m : Nat} (hm : m ≤ 4) (f g : Nat → Int) (c : Int) (u l : Bool) {x y : Nat} (hx : x < 4) (hy : y < 4) : pS (tuM m) g f c l u y x = pS m f g c u l x y := by
  match m, hm with
  | 0, _ => exact mV_turn u l f g
  | 1, _ => rfl
  | 2, _ => rfl
  | 3, _ =>
    show diV g f c y x = diV f g c x y
    unfold diV
    rw [show 3 + y - x = 8 - (5 + x - y) by omega, show 4 + y - x = 8 - (4 + x - y) by omega, show 5 + y - x = 8 - (3 + x - y) by omega, bo_turn f g c (by omega), bo_turn f g c (by omega), bo_turn f g c (by omega)]
    omega
  | 4, _ =>
    show plV g f c y x = plV f g c x y
    unfold plV
    congr 2; omega
theorem evB_turn {f g : Nat → Int} {c : Int} (h : evB f g c = true) : evB g f c = true := by
  have h1 := evB_ok h
  exact evB_of ⟨h1.2.1, h1.1, h1.2.2⟩
theorem prL_turn {m : Int} {f g : Nat → Int} {c : Int} {u l : Bool} (h : 0 ≤ m ∧ m ≤ 4 ∧ evB f g c = true) {k : Nat} (hk : k < 16) :
    (prL (tuM m.toNat : Nat) g f c l u).getD (k % 4 * 4 + k / 4) 0 = (prL m f g c u l).getD k 0 := by
  have hm : tuM m.toNat ≤ 4 := by
    have h4 : m.toNat ≤ 4 := by omega
    unfold tuM
    repeat' split
    all_goals omega
  rw [prL_ok ⟨by omega, by omega, evB_turn h.2.2⟩ (by omega), prL_ok h hk, show ((tuM m.toNat : Nat) : Int).toNat = tuM m.toNat by omega, show (k % 4 * 4 + k / 4) % 4 = k / 4 by omega, show (k % 4 * 4 + k / 4) / 4 = k % 4 by omega]
  exact pS_turn (by omega) f g c u l (by omega) (by omega)
theorem prL_up {f g : Nat → Int} {c : Int} {u l : Bool} (h : evB f g c = true) {k : Nat} (hk : k < 16) : (prL 1 f g c u l).getD k 0 = f (k % 4) := by
  rw [prL_ok ⟨by omega, by omega, h⟩ hk]; rfl

theorem eq16 (w : World) (xs ys : List Int) (hx : xs.length = 16) (hy : ys.length = 16) : (Op.equalIn 10000 28 (.agg (rowI xs)) (.agg (rowI ys))).run Try.prog w = .ok (xs == ys) w :=
  run_equalIn_ints w 9998 28 3 16 Try.underlying28 Try.underlying3 (by kernel_rfl) xs ys hx hy
theorem eq16_same (w : World) (xs : List Int) (hx : xs.length = 16) : (Op.equalIn 10000 28 (.agg (rowI xs)) (.agg (rowI xs))).run Try.prog w = .ok true w := by
  rw [eq16 w xs xs hx hx, beq_self_eq_true]
theorem infoEd (f g : Nat → Int) (c : Int) (u l : Bool) : (Try.prog.info? 25).map (·.size) = some (eA f g c u l).size := by kernel_rfl
theorem eA_one (f g : Nat → Int) (c : Int) (u l : Bool) : (eA f g c u l).all (·.oneCell') = true := by simp [eA, Value.oneCell']

end Go.Proofs.Ythnigldbpikcaaa
