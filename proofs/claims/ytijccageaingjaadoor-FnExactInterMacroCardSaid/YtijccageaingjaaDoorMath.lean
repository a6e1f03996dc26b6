/- Plain functions on numbers that the contracts speak of; no program in sight. -/
import Derived.WalkKit
namespace Go.Proofs.YtijccageaingjaaDoor.M

def inB (n lo hi : Int) : Bool := decide (lo ≤ n ∧ n ≤ hi)
def clip (n lo hi : Int) : Int := max lo (min hi n)
def med (a b c : Int) : Int := max (min a b) (min (max a b) c)
def intraB (k p : Int) : Bool := decide (0 ≤ k ∧ 1 ≤ p ∧ k % p = 0)
def vecB (x y : Int) : Bool := decide (-16 ≤ x ∧ x ≤ 16 ∧ -16 ≤ y ∧ y ≤ 16)
def bufB (s r f : Int) : Bool := decide (1 ≤ s ∧ s ≤ 1000000 ∧ 0 ≤ r ∧ r ≤ s ∧ 0 ≤ f ∧ f ≤ s)
def chance (p b : Int) : Int := if 1 ≤ p ∧ p ≤ 4095 ∧ 0 ≤ b ∧ b ≤ 1 then (if b = 0 then p + (4096 - p) / 16 else p - p / 16) else 0

def nextIx (q b t : Int) : Int := if 0 ≤ q ∧ q ≤ 15 ∧ 0 ≤ b ∧ 1 ≤ t ∧ t ≤ 1000000 then (if t + t / 8 < b then min 15 (q + 1) else if b < t - t / 8 then max 0 (q - 1) else q) else -1

def filtE (a b c d l : Int) : Int := max (-l) (min l ((4 * (c - b) + a - d + 4) / 8))
def filt1 (a b c d l : Int) : Int := if 4 * l ≤ max (b - c) (c - b) then b else max 0 (min 255 (b + filtE a b c d l))
def filt2 (a b c d l : Int) : Int := if 4 * l ≤ max (b - c) (c - b) then c else max 0 (min 255 (c - filtE a b c d l))
def feB (a b c d l : Int) : Bool := inB a 0 255 && inB b 0 255 && inB c 0 255 && inB d 0 255 && inB l 0 12
def samplesB (zs : List Int) : Bool := zs.all fun z => inB z 0 255
theorem samplesB_cons (z : Int) (zs : List Int) : samplesB (z :: zs) = (inB z 0 255 && samplesB zs) := rfl
theorem samplesB_nil : samplesB [] = true := rfl
theorem samplesB_take {zs : List Int} {k : Nat} (h : k < zs.length) (ht : samplesB (zs.take k) = true) (hz : inB (zs.getD k 0) 0 255 = true) : samplesB (zs.take (k + 1)) = true := by
  rw [List.take_succ_eq_append_getElem h]
  simp only [samplesB, List.all_append, List.all_cons, List.all_nil, Bool.and_true, Bool.and_eq_true] at ht ⊢
  exact ⟨ht, by simpa [List.getD_eq_getElem?_getD, h] using hz⟩
theorem samplesB_no {zs : List Int} {k : Nat} (h : k < zs.length) (hz : inB (zs.getD k 0) 0 255 = false) : samplesB zs = false := by
  simp only [samplesB, List.all_eq_false]
  exact ⟨zs[k], List.getElem_mem h, by simpa [List.getD_eq_getElem?_getD, h] using hz⟩

def fe1 (a b c d l : Int) : Int := if feB a b c d l then filt1 a b c d l else 0
def fe2 (a b c d l : Int) : Int := if feB a b c d l then filt2 a b c d l else 0

theorem inB_iff {n lo hi : Int} : inB n lo hi = true ↔ lo ≤ n ∧ n ≤ hi := by simp [inB]
theorem inB_no {n lo hi : Int} : inB n lo hi = false ↔ n < lo ∨ hi < n := by simp [inB]; omega
theorem ret_bool {a b : Bool} (h : a = b) : Ending.returned (.bool a) = .returned (.bool b) := by rw [h]
theorem ret_pair {a b c d : Int} (h1 : a = c) (h2 : b = d) : Ending.returned (.tuple #[.int .i64 a, .int .i64 b]) = .returned (.tuple #[.int .i64 c, .int .i64 d]) := by rw [h1, h2]
theorem ret_int {k : IntKind} {a b : Int} (h : a = b) : Ending.returned (.int k a) = .returned (.int k b) := by rw [h]

theorem tdiv_le (n d : Int) (hd : 1 ≤ d) (B : Int) (h : -B ≤ n ∧ n ≤ B) : -B ≤ n.tdiv d ∧ n.tdiv d ≤ B := by
  have key : ∀ m : Int, 0 ≤ m → 0 ≤ m.tdiv d ∧ m.tdiv d ≤ m := fun m hm => by
    rw [Int.tdiv_eq_ediv_of_nonneg hm]
    exact ⟨Int.ediv_nonneg hm (by omega), Int.ediv_le_self d hm⟩
  rcases Int.le_total 0 n with h0 | h0
  · have := key n h0; omega
  · have := key (-n) (by omega)
    rw [Int.neg_tdiv] at this
    omega
theorem floor_of (n d : Int) (hd : 1 ≤ d) : (n.tmod d < 0 → n.tdiv d - 1 = n / d) ∧ (0 ≤ n.tmod d → n.tdiv d = n / d) := by
  have e1 := Int.tmod_add_mul_tdiv n d
  have e2 := Int.tmod_lt_of_pos n (show 0 < d by omega)
  have e3 := Int.lt_tmod_of_pos n (show 0 < d by omega)
  constructor
  · intro h
    symm
    rw [Int.ediv_eq_iff_of_pos (by omega)]
    have : (n.tdiv d - 1) * d = d * n.tdiv d - d := by rw [Int.sub_mul, Int.mul_comm]; omega
    constructor <;> omega
  · intro h
    symm
    rw [Int.ediv_eq_iff_of_pos (by omega)]
    have h1 : n.tdiv d * d = d * n.tdiv d := Int.mul_comm _ _
    constructor <;> omega

end Go.Proofs.YtijccageaingjaaDoor.M
