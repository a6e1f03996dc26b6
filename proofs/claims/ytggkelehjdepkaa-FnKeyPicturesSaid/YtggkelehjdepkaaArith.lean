/- The arithmetic coder by numbers: what has been put out and the lower bound are one number N; no program in sight. -/
import Derived.Test.YtggkelehjdepkaaMath
namespace Go.Proofs.Ytggkelehjdepkaa.M
set_option linter.unusedVariables false
set_option linter.unusedSimpArgs false

/-- the number that bytes represent, highest first -/
def num : List Int → Int := fun l => l.foldl (fun a x => a * 256 + x) 0
theorem num_go (l : List Int) (a : Int) : l.foldl (fun a x => a * 256 + x) a = a * 256 ^ l.length + num l := by
  induction l generalizing a with
  | nil => simp [num]
  | cons x t ih =>
    simp only [List.foldl_cons, List.length_cons, num]
    rw [ih, ih (0 * 256 + x), Int.pow_succ]
    have e : (a * 256 + x) * 256 ^ t.length = a * (256 ^ t.length * 256) + x * 256 ^ t.length := by
      rw [Int.add_mul, Int.mul_assoc, Int.mul_comm 256]
    rw [e, Int.zero_mul, Int.zero_add, Int.add_assoc]
theorem num_append (l m : List Int) : num (l ++ m) = num l * 256 ^ m.length + num m := by
  show (l ++ m).foldl _ _ = _
  rw [List.foldl_append, num_go]; rfl
theorem num_nil : num [] = 0 := rfl
theorem num_one (x : Int) : num [x] = x := by simp [num]
theorem num_snoc (l : List Int) (x : Int) : num (l ++ [x]) = num l * 256 + x := by rw [num_append, num_one]; simp
def bytesB (l : List Int) : Prop := ∀ x ∈ l, 0 ≤ x ∧ x ≤ 255
theorem pow_pos256 (n : Nat) : (0 : Int) < 256 ^ n := Int.pow_pos (by decide)
theorem num_bd {l : List Int} (h : bytesB l) : 0 ≤ num l ∧ num l + 1 ≤ 256 ^ l.length := by
  have key : ∀ n (l : List Int), l.length = n → bytesB l → 0 ≤ num l ∧ num l + 1 ≤ 256 ^ l.length := by
    intro n
    induction n with
    | zero => intro l hl _; rw [List.length_eq_zero_iff.1 hl]; simp [num]
    | succ n ih =>
      intro l hl h
      have hne : l ≠ [] := by intro e; rw [e] at hl; simp at hl
      rw [← List.dropLast_concat_getLast hne] at h ⊢
      have hd : l.dropLast.length = n := by simp [hl]
      have h1 := ih l.dropLast hd (fun x hx => h x (by simp [hx]))
      have h2 := h (l.getLast hne) (by simp)
      rw [num_snoc, List.length_append, List.length_singleton, Int.pow_succ]
      generalize (256 : Int) ^ l.dropLast.length = P at *
      omega
  exact key _ l rfl h
theorem num_inj {l m : List Int} (hl : bytesB l) (hm : bytesB m) (hlen : l.length = m.length) (h : num l = num m) : l = m := by
  have key : ∀ n (l m : List Int), l.length = n → m.length = n → bytesB l → bytesB m → num l = num m → l = m := by
    intro n
    induction n with
    | zero => intro l m h1 h2 _ _ _; rw [List.length_eq_zero_iff.1 h1, List.length_eq_zero_iff.1 h2]
    | succ n ih =>
      intro l m h1 h2 hl hm h
      have hne : l ≠ [] := by intro e; rw [e] at h1; simp at h1
      have hne2 : m ≠ [] := by intro e; rw [e] at h2; simp at h2
      rw [← List.dropLast_concat_getLast hne, ← List.dropLast_concat_getLast hne2] at h ⊢
      have a1 := hl (l.getLast hne) (List.getLast_mem hne)
      have a2 := hm (m.getLast hne2) (List.getLast_mem hne2)
      rw [num_snoc, num_snoc] at h
      have e1 : l.getLast hne = m.getLast hne2 := by omega
      have e2 : num l.dropLast = num m.dropLast := by omega
      rw [e1, ih l.dropLast m.dropLast (by simp [h1]) (by simp [h2]) (fun x hx => hl x (List.dropLast_subset _ hx)) (fun x hx => hm x (List.dropLast_subset _ hx)) e2]
  exact key _ l m rfl hlen.symm hl hm h
theorem num_zeros (m : Nat) : num (List.replicate m 0) = 0 := by
  induction m with
  | zero => rfl
  | succ m ih => rw [List.replicate_succ', num_snoc, ih]; rfl
theorem num_full (m : Nat) : num (List.replicate m 255) = 256 ^ m - 1 := by
  induction m with
  | zero => rfl
  | succ m ih => rw [List.replicate_succ', num_snoc, ih, Int.pow_succ]; omega

/-- one more: the last 255s become 0, the number before them grows -/
def incAt (l : List Int) (k : Nat) : List Int := l.take k ++ (l.getD k 0 + 1) :: List.replicate (l.length - 1 - k) 0
theorem incAt_len {l : List Int} {k : Nat} (h : k < l.length) : (incAt l k).length = l.length := by simp [incAt]; omega
theorem incAt_num {l : List Int} {k : Nat} (h : k < l.length) (hd : ∀ i, k < i → i < l.length → l.getD i 0 = 255) : num (incAt l k) = num l + 1 := by
  have e : l = l.take k ++ l.getD k 0 :: List.replicate (l.length - 1 - k) 255 := by
    apply List.ext_getElem?
    intro i
    rcases Nat.lt_trichotomy i k with h1 | h1 | h1
    · rw [List.getElem?_append_left (by simp; omega), List.getElem?_take, if_pos h1]
    · subst h1
      rw [List.getElem?_append_right (by simp; omega)]
      simp [List.getD_eq_getElem?_getD, h, show i - min i l.length = 0 by omega]
    · rw [List.getElem?_append_right (by simp; omega), List.length_take, show min k l.length = k by omega, show i - k = (i - k - 1) + 1 by omega, List.getElem?_cons_succ, List.getElem?_replicate]
      by_cases h2 : i < l.length
      · have := hd i h1 h2
        rw [if_pos (by omega), List.getElem?_eq_getElem h2]
        rw [List.getD_eq_getElem?_getD, List.getElem?_eq_getElem h2] at this
        simpa using this
      · rw [if_neg (by omega), List.getElem?_eq_none (by omega)]
  have e1 : num l = (num (l.take k) * 256 + l.getD k 0) * 256 ^ (l.length - 1 - k) + (256 ^ (l.length - 1 - k) - 1) := by
    conv => lhs; rw [e]
    rw [show l.take k ++ l.getD k 0 :: List.replicate (l.length - 1 - k) 255 = (l.take k ++ [l.getD k 0]) ++ List.replicate (l.length - 1 - k) 255 by simp, num_append, num_snoc, num_full, List.length_replicate]
  rw [e1, incAt, show l.take k ++ (l.getD k 0 + 1) :: List.replicate (l.length - 1 - k) 0 = (l.take k ++ [l.getD k 0 + 1]) ++ List.replicate (l.length - 1 - k) 0 by simp, num_append, num_snoc, num_zeros, List.length_replicate]
  generalize (256 : Int) ^ (l.length - 1 - k) = P
  rw [show num (l.take k) * 256 + (l.getD k 0 + 1) = (num (l.take k) * 256 + l.getD k 0) + 1 by omega, Int.add_mul _ 1]
  omega
theorem incAt_bytes {l : List Int} {k : Nat} (hl : bytesB l) (h : k < l.length) (hk : l.getD k 0 ≠ 255) : bytesB (incAt l k) := by
  intro x hx
  simp only [incAt, List.mem_append, List.mem_cons, List.mem_replicate] at hx
  rcases hx with h1 | h1 | ⟨-, h1⟩
  · exact hl x (List.mem_of_mem_take h1)
  · have hk2 := hl (l.getD k 0) (by rw [List.getD_eq_getElem?_getD, List.getElem?_eq_getElem h]; exact List.getElem_mem h)
    omega
  · omega
/-- not all are 255 -/
theorem not_full {l : List Int} (h : num l + 1 < 256 ^ l.length) : ¬ ∀ i, i < l.length → l.getD i 0 = 255 := by
  intro ha
  have e : l = List.replicate l.length 255 := by
    apply List.ext_getElem?
    intro i
    rw [List.getElem?_replicate]
    by_cases h2 : i < l.length
    · have := ha i h2
      rw [if_pos h2, List.getElem?_eq_getElem h2]
      rw [List.getD_eq_getElem?_getD, List.getElem?_eq_getElem h2] at this
      simpa using this
    · rw [if_neg h2, List.getElem?_eq_none (by omega)]
  have e1 : num l = 256 ^ l.length - 1 := by
    conv => lhs; rw [e]
    rw [num_full]
  omega

/-- a coder: N is the number that is put out times 2^32, plus low; n bytes are put out -/
structure Coder where
  N : Int
  n : Nat
  s : Int
  ch : List Int

/-- how many bytes go out behind a decision -/
def nrm (s : Int) : Nat := if 16777216 ≤ s then 0 else if 65536 ≤ s then 1 else 2
def cutS (s p b : Int) : Int := if b = 0 then s / 4096 * p else s - s / 4096 * p
def cutN (N s p b : Int) : Int := if b = 0 then N else N + s / 4096 * p
def enc1 (k : Coder) (c : Nat) (b : Int) : Coder :=
  let s' := cutS k.s (k.ch.getD c 0) b
  ⟨cutN k.N k.s (k.ch.getD c 0) b * 256 ^ nrm s', k.n + nrm s', s' * 256 ^ nrm s', k.ch.set c (chance (k.ch.getD c 0) b)⟩
def enc0 : Coder := ⟨0, 0, 4294967295, List.replicate 40 2048⟩
/-- the coder behind k decisions -/
def encK (c b : Nat → Int) : Nat → Coder
  | 0 => enc0
  | k + 1 => enc1 (encK c b k) (c k).toNat (b k)

def chOk (ch : List Int) : Prop := ch.length = 40 ∧ ∀ i, i < 40 → 1 ≤ ch.getD i 0 ∧ ch.getD i 0 ≤ 4095
structure Good (k : Coder) : Prop where
  s0 : 16777216 ≤ k.s
  s1 : k.s ≤ 4294967295
  n0 : 0 ≤ k.N
  n1 : k.N + k.s ≤ 256 ^ (k.n + 4)
  ch : chOk k.ch

theorem chance_bd {p b : Int} (h : 1 ≤ p ∧ p ≤ 4095) (hb : b = 0 ∨ b = 1) : 1 ≤ chance p b ∧ chance p b ≤ 4095 := by
  rcases hb with rfl | rfl
  · simp only [chance]; split <;> simp <;> omega
  · simp only [chance]; split <;> simp <;> omega
theorem chOk_set {ch : List Int} (h : chOk ch) (c : Nat) {v : Int} (hv : 1 ≤ v ∧ v ≤ 4095) : chOk (ch.set c v) := by
  refine ⟨by simp [h.1], fun i hi => ?_⟩
  have := h.2 i hi
  rw [List.getD_eq_getElem?_getD] at this ⊢
  rw [List.getElem?_set]
  by_cases e : c = i
  · subst e; rw [if_pos rfl, if_pos (by rw [h.1]; exact hi)]; simpa using hv
  · rw [if_neg e]; exact this
theorem chOk_zero : chOk (List.replicate 40 2048) := by
  refine ⟨by simp, fun i hi => ?_⟩
  rw [List.getD_eq_getElem?_getD, List.getElem?_replicate, if_pos hi]; simp
theorem cut_bd {s p b : Int} (h0 : 16777216 ≤ s) (h1 : s ≤ 4294967295) (hp : 1 ≤ p ∧ p ≤ 4095) : 4096 ≤ cutS s p b ∧ cutS s p b ≤ 4294967295 ∧ 0 ≤ s / 4096 * p ∧ s / 4096 * p ≤ s ∧ s / 4096 * p ≤ 4294963200 := by
  have a1 : s / 4096 * 1 ≤ s / 4096 * p := Int.mul_le_mul_of_nonneg_left hp.1 (by omega)
  have a2 : s / 4096 * p ≤ s / 4096 * 4095 := Int.mul_le_mul_of_nonneg_left hp.2 (by omega)
  unfold cutS
  split <;> omega
theorem good_zero : Good enc0 := ⟨by decide, by decide, by decide, by decide, chOk_zero⟩
theorem nrm_two (s : Int) : nrm s ≤ 2 := by unfold nrm; split <;> (try split) <;> omega
theorem good_one {k : Coder} (h : Good k) {c : Nat} {b : Int} (hc : c < 40) (hb : b = 0 ∨ b = 1) : Good (enc1 k c b) := by
  have hp := h.ch.2 c hc
  obtain ⟨c1, c2, c3, c4, -⟩ := cut_bd (b := b) h.s0 h.s1 hp
  have hs : cutN k.N k.s (k.ch.getD c 0) b + cutS k.s (k.ch.getD c 0) b ≤ k.N + k.s := by unfold cutN cutS; split <;> omega
  have hn : 0 ≤ cutN k.N k.s (k.ch.getD c 0) b := by have := h.n0; unfold cutN; split <;> omega
  have hh := h.n1
  refine ⟨?_, ?_, ?_, ?_, chOk_set h.ch _ (chance_bd hp hb)⟩
  · simp only [enc1]; generalize cutS k.s (k.ch.getD c 0) b = s' at *; unfold nrm; split <;> (try split) <;> omega
  · simp only [enc1]; generalize cutS k.s (k.ch.getD c 0) b = s' at *; unfold nrm; split <;> (try split) <;> omega
  · simp only [enc1]; exact Int.mul_nonneg hn (Int.le_of_lt (pow_pos256 _))
  · simp only [enc1]
    rw [← Int.add_mul, show k.n + nrm (cutS k.s (k.ch.getD c 0) b) + 4 = (k.n + 4) + nrm (cutS k.s (k.ch.getD c 0) b) by omega, Int.pow_add]
    exact Int.mul_le_mul_of_nonneg_right (by omega) (Int.le_of_lt (pow_pos256 _))
theorem encK_good {c b : Nat → Int} {n : Nat} (h : ∀ i, i < n → (0 ≤ c i ∧ c i < 40) ∧ (b i = 0 ∨ b i = 1)) : Good (encK c b n) := by
  induction n with
  | zero => exact good_zero
  | succ n ih => exact good_one (ih fun i hi => h i (by omega)) (by have := h n (by omega); omega) (h n (by omega)).2
theorem encK_len (c b : Nat → Int) (n : Nat) : (encK c b n).n ≤ 2 * n := by
  induction n with
  | zero => simp [encK, enc0]
  | succ n ih =>
    have := nrm_two (cutS (encK c b n).s ((encK c b n).ch.getD (c n).toNat 0) (b n))
    simp only [encK, enc1]; omega

/-- n bytes of a number -/
def dig (m : Nat) (N : Int) : List Int := (List.range m).map fun i => N / 256 ^ (m - 1 - i) % 256
theorem dig_len (m : Nat) (N : Int) : (dig m N).length = m := by simp [dig]
theorem dig_bytes (m : Nat) (N : Int) : bytesB (dig m N) := by
  intro x hx
  simp only [dig, List.mem_map] at hx
  obtain ⟨i, -, rfl⟩ := hx
  omega
theorem dig_succ (m : Nat) (N : Int) : dig (m + 1) N = dig m (N / 256) ++ [N % 256] := by
  simp only [dig, List.range_succ, List.map_append, List.map_cons, List.map_nil]
  congr 1
  · apply List.map_congr_left
    intro i hi
    have hi' := List.mem_range.1 hi
    rw [show m + 1 - 1 - i = 1 + (m - 1 - i) by omega, Int.pow_add, Int.ediv_ediv_of_nonneg (by omega : (0 : Int) ≤ 256)]
    rfl
  · simp
theorem dig_num (m : Nat) (N : Int) (h0 : 0 ≤ N) (h1 : N < 256 ^ m) : num (dig m N) = N := by
  induction m generalizing N with
  | zero => simp [dig, num] at *; omega
  | succ m ih =>
    rw [dig_succ, num_snoc, ih (N / 256) (by omega) (by rw [Int.pow_succ] at h1; omega)]
    omega
/-- the bytes that the coder hands back behind n decisions -/
def encBytes (c b : Nat → Int) (n : Nat) : List Int := dig ((encK c b n).n + 4) (encK c b n).N
theorem encBytes_of {c b : Nat → Int} {n : Nat} {l : List Int} (hg : Good (encK c b n)) (hl : bytesB l) (hlen : l.length = (encK c b n).n + 4) (hn : num l = (encK c b n).N) : l = encBytes c b n := by
  refine num_inj hl (dig_bytes _ _) (by rw [hlen, encBytes, dig_len]) ?_
  have := hg.n1; have := hg.s0
  rw [hn, encBytes, dig_num _ _ hg.n0 (by omega)]

/-- the decoder -/
structure Dec where
  code : Int
  s : Int
  at_ : Nat
  ch : List Int

def take1 (d : Nat → Int) (code : Int) (a : Nat) : Int := code % 16777216 * 256 + d a
def takeR (d : Nat → Int) (code : Int) (a : Nat) : Nat → Int
  | 0 => code
  | r + 1 => take1 d (takeR d code a r) (a + r)
def decBit (k : Dec) (c : Nat) : Int := if k.code < k.s / 4096 * k.ch.getD c 0 then 0 else 1
def dec1 (d : Nat → Int) (k : Dec) (c : Nat) : Dec :=
  let b := decBit k c
  let s' := cutS k.s (k.ch.getD c 0) b
  ⟨takeR d (if b = 0 then k.code else k.code - k.s / 4096 * k.ch.getD c 0) k.at_ (nrm s'), s' * 256 ^ nrm s', k.at_ + nrm s', k.ch.set c (chance (k.ch.getD c 0) b)⟩
def dec0 (d : Nat → Int) : Dec := ⟨takeR d 0 0 4, 4294967295, 4, List.replicate 40 2048⟩
def decK (d c : Nat → Int) : Nat → Dec
  | 0 => dec0 d
  | k + 1 => dec1 d (decK d c k) (c k).toNat
/-- bit k that is decoded -/
def decB (d c : Nat → Int) (k : Nat) : Int := decBit (decK d c k) (c k).toNat

structure GoodD (k : Dec) : Prop where
  s0 : 16777216 ≤ k.s
  s1 : k.s ≤ 4294967295
  c0 : 0 ≤ k.code
  c1 : k.code ≤ 4294967295
  ch : chOk k.ch
def byteF (d : Nat → Int) : Prop := ∀ i, 0 ≤ d i ∧ d i ≤ 255
theorem take1_bd {d : Nat → Int} (hd : byteF d) (code : Int) (a : Nat) : 0 ≤ take1 d code a ∧ take1 d code a ≤ 4294967295 := by
  have := hd a; unfold take1; omega
theorem takeR_bd {d : Nat → Int} (hd : byteF d) {code : Int} (a r : Nat) (h : 0 ≤ code ∧ code ≤ 4294967295) : 0 ≤ takeR d code a r ∧ takeR d code a r ≤ 4294967295 := by
  cases r with
  | zero => exact h
  | succ r => exact take1_bd hd _ _
theorem decBit_or (k : Dec) (c : Nat) : decBit k c = 0 ∨ decBit k c = 1 := by unfold decBit; split <;> simp
theorem goodD_zero {d : Nat → Int} (hd : byteF d) : GoodD (dec0 d) := ⟨by simp [dec0], by simp [dec0], (takeR_bd hd 0 4 (by omega)).1, (takeR_bd hd 0 4 (by omega)).2, chOk_zero⟩
theorem goodD_one {d : Nat → Int} (hd : byteF d) {k : Dec} (h : GoodD k) {c : Nat} (hc : c < 40) : GoodD (dec1 d k c) := by
  have hp := h.ch.2 c hc
  obtain ⟨c1, c2, c3, c4, -⟩ := cut_bd (b := decBit k c) h.s0 h.s1 hp
  have hcode : 0 ≤ (if decBit k c = 0 then k.code else k.code - k.s / 4096 * k.ch.getD c 0) ∧ (if decBit k c = 0 then k.code else k.code - k.s / 4096 * k.ch.getD c 0) ≤ 4294967295 := by
    have := h.c0; have := h.c1
    unfold decBit
    split
    · rw [if_pos rfl]; omega
    · rw [if_neg (by omega)]; omega
  refine ⟨?_, ?_, (takeR_bd hd _ _ hcode).1, (takeR_bd hd _ _ hcode).2, chOk_set h.ch _ (chance_bd hp (decBit_or k c))⟩
  · simp only [dec1]; generalize cutS k.s (k.ch.getD c 0) (decBit k c) = s' at *; unfold nrm; split <;> (try split) <;> omega
  · simp only [dec1]; generalize cutS k.s (k.ch.getD c 0) (decBit k c) = s' at *; unfold nrm; split <;> (try split) <;> omega
theorem decK_good {d c : Nat → Int} (hd : byteF d) {n : Nat} (h : ∀ i, i < n → 0 ≤ c i ∧ c i < 40) : GoodD (decK d c n) := by
  induction n with
  | zero => exact goodD_zero hd
  | succ n ih => exact goodD_one hd (ih fun i hi => h i (by omega)) (by have := h n (by omega); omega)
theorem decB_or (d c : Nat → Int) (k : Nat) : decB d c k = 0 ∨ decB d c k = 1 := decBit_or _ _

/-- the number of the first j bytes -/
def upto (d : Nat → Int) : Nat → Int
  | 0 => 0
  | j + 1 => upto d j * 256 + d j
theorem upto_add {d : Nat → Int} (hd : byteF d) (j r : Nat) : upto d j * 256 ^ r ≤ upto d (j + r) ∧ upto d (j + r) < (upto d j + 1) * 256 ^ r := by
  induction r with
  | zero => simp; omega
  | succ r ih =>
    have := hd (j + r)
    rw [show j + (r + 1) = (j + r) + 1 from rfl, upto, Int.pow_succ, ← Int.mul_assoc, ← Int.mul_assoc]
    omega
theorem upto_num (d : Nat → Int) (l : List Int) (h : ∀ i, i < l.length → d i = l.getD i 0) : upto d l.length = num l := by
  have key : ∀ j, j ≤ l.length → upto d j = num (l.take j) := by
    intro j
    induction j with
    | zero => intro _; simp [upto, num]
    | succ j ih =>
      intro hj
      rw [upto, ih (by omega), h j (by omega), List.take_succ_eq_append_getElem (by omega), num_snoc, List.getD_eq_getElem?_getD, List.getElem?_eq_getElem (by omega)]
      rfl
  rw [key _ (Nat.le_refl _), List.take_length]

/-- coder and decoder in step: where the bytes begin with what the coder hands back -/
theorem inside1 {k : Coder} {c : Nat} {b : Int} {d : Nat → Int} (hd : byteF d) (hg : Good k) (hc : c < 40) (h1 : (enc1 k c b).N ≤ upto d ((enc1 k c b).n + 4)) (h2 : upto d ((enc1 k c b).n + 4) < (enc1 k c b).N + (enc1 k c b).s) :
    cutN k.N k.s (k.ch.getD c 0) b ≤ upto d (k.n + 4) ∧ upto d (k.n + 4) < cutN k.N k.s (k.ch.getD c 0) b + cutS k.s (k.ch.getD c 0) b := by
  simp only [enc1] at h1 h2
  generalize nrm (cutS k.s (k.ch.getD c 0) b) = r at *
  rw [show k.n + r + 4 = k.n + 4 + r by omega] at h1 h2
  obtain ⟨u1, u2⟩ := upto_add hd (k.n + 4) r
  rw [← Int.add_mul] at h2
  have hP := pow_pos256 r
  generalize (256 : Int) ^ r = P at *
  have a1 : cutN k.N k.s (k.ch.getD c 0) b * P < (upto d (k.n + 4) + 1) * P := Int.lt_of_le_of_lt h1 u2
  have a2 : upto d (k.n + 4) * P < (cutN k.N k.s (k.ch.getD c 0) b + cutS k.s (k.ch.getD c 0) b) * P := Int.lt_of_le_of_lt u1 h2
  have b1 := Int.lt_of_mul_lt_mul_right a1 (Int.le_of_lt hP)
  have b2 := Int.lt_of_mul_lt_mul_right a2 (Int.le_of_lt hP)
  omega
theorem inside {c b d : Nat → Int} {n : Nat} (hd : byteF d) (hv : ∀ i, i < n → (0 ≤ c i ∧ c i < 40) ∧ (b i = 0 ∨ b i = 1)) (he : upto d ((encK c b n).n + 4) = (encK c b n).N) :
    ∀ j i, j + i = n → (encK c b i).N ≤ upto d ((encK c b i).n + 4) ∧ upto d ((encK c b i).n + 4) < (encK c b i).N + (encK c b i).s := by
  intro j
  induction j with
  | zero =>
    intro i hi
    obtain rfl : i = n := by omega
    have := (encK_good hv).s0
    omega
  | succ j ih =>
    intro i hi
    have h1 := ih (i + 1) (by omega)
    have hg := encK_good (n := i) (fun x hx => hv x (by omega))
    obtain ⟨hc, hb⟩ := hv i (by omega)
    have hp := hg.ch.2 (c i).toNat (by omega)
    obtain ⟨c1, c2, c3, c4, -⟩ := cut_bd (b := b i) hg.s0 hg.s1 hp
    have h2 := inside1 hd hg (show (c i).toNat < 40 by omega) h1.1 h1.2
    have hs : cutN (encK c b i).N (encK c b i).s ((encK c b i).ch.getD (c i).toNat 0) (b i) + cutS (encK c b i).s ((encK c b i).ch.getD (c i).toNat 0) (b i) ≤ (encK c b i).N + (encK c b i).s ∧ (encK c b i).N ≤ cutN (encK c b i).N (encK c b i).s ((encK c b i).ch.getD (c i).toNat 0) (b i) := by unfold cutN cutS; split <;> omega
    omega
theorem takeR_step {d : Nat → Int} (hd : byteF d) {a : Nat} {M s : Int} (hs : 4096 ≤ s) (h0 : M ≤ upto d a) (h1 : upto d a < M + s) : takeR d (upto d a - M) a (nrm s) = upto d (a + nrm s) - M * 256 ^ nrm s := by
  have d0 := hd a
  have d1 := hd (a + 1)
  unfold nrm
  split
  · simp [takeR]
  · split
    · simp only [takeR, take1, upto, Nat.add_zero]
      omega
    · simp only [takeR, take1, upto, Nat.add_zero]
      omega
theorem take_first {d : Nat → Int} (hd : byteF d) : takeR d 0 0 4 = upto d 4 := by
  have d0 := hd 0
  have d1 := hd 1
  have d2 := hd 2
  have d3 := hd 3
  simp only [takeR, take1, upto, Nat.zero_add]
  omega
theorem in_step {c b d : Nat → Int} {n : Nat} (hd : byteF d) (hv : ∀ i, i < n → (0 ≤ c i ∧ c i < 40) ∧ (b i = 0 ∨ b i = 1)) (he : upto d ((encK c b n).n + 4) = (encK c b n).N) :
    ∀ i, i ≤ n → decK d c i = ⟨upto d ((encK c b i).n + 4) - (encK c b i).N, (encK c b i).s, (encK c b i).n + 4, (encK c b i).ch⟩ ∧ (i < n → decB d c i = b i) := by
  intro i hi
  induction i with
  | zero =>
    have key : decK d c 0 = ⟨upto d ((encK c b 0).n + 4) - (encK c b 0).N, (encK c b 0).s, (encK c b 0).n + 4, (encK c b 0).ch⟩ := by
      simp only [decK, dec0, encK, enc0, take_first hd]
      simp
    refine ⟨key, fun hlt => ?_⟩
    have h1 := inside hd hv he (n - 1) 1 (by omega)
    obtain ⟨hc, hb⟩ := hv 0 hlt
    have h2 := inside1 hd good_zero (show (c 0).toNat < 40 by omega) h1.1 h1.2
    rw [decB, key]
    simp only [decBit, encK] at h2 ⊢
    unfold cutN cutS at h2
    rcases hb with e | e <;> rw [e] at h2 ⊢ <;> simp at h2 ⊢ <;> omega
  | succ i ih =>
    obtain ⟨k1, k2⟩ := ih (by omega)
    have kb := k2 (by omega)
    have hg := encK_good (n := i) (fun x hx => hv x (by omega))
    obtain ⟨hc, hb⟩ := hv i (by omega)
    have hp := hg.ch.2 (c i).toNat (by omega)
    obtain ⟨c1, c2, c3, c4, -⟩ := cut_bd (b := b i) hg.s0 hg.s1 hp
    have h1 := inside hd hv he (n - (i + 1)) (i + 1) (by omega)
    have h2 := inside1 hd hg (show (c i).toNat < 40 by omega) h1.1 h1.2
    have key : decK d c (i + 1) = ⟨upto d ((encK c b (i + 1)).n + 4) - (encK c b (i + 1)).N, (encK c b (i + 1)).s, (encK c b (i + 1)).n + 4, (encK c b (i + 1)).ch⟩ := by
      rw [decB, k1] at kb
      rw [decK, k1]
      simp only [dec1]
      rw [kb]
      simp only [encK, enc1]
      have e1 : (if b i = 0 then upto d ((encK c b i).n + 4) - (encK c b i).N else upto d ((encK c b i).n + 4) - (encK c b i).N - (encK c b i).s / 4096 * (encK c b i).ch.getD (c i).toNat 0) = upto d ((encK c b i).n + 4) - cutN (encK c b i).N (encK c b i).s ((encK c b i).ch.getD (c i).toNat 0) (b i) := by
        unfold cutN; split <;> omega
      rw [e1, takeR_step hd c1 h2.1 h2.2]
      simp only [Dec.mk.injEq, and_true, true_and]
      refine ⟨?_, by omega⟩
      rw [show ∀ r, (encK c b i).n + 4 + r = (encK c b i).n + r + 4 from fun r => by omega]
    refine ⟨key, fun hlt => ?_⟩
    have hg1 := encK_good (n := i + 1) (fun x hx => hv x (by omega))
    obtain ⟨hc', hb'⟩ := hv (i + 1) hlt
    have h3 := inside hd hv he (n - (i + 1 + 1)) (i + 1 + 1) (by omega)
    have h4 := inside1 hd hg1 (show (c (i + 1)).toNat < 40 by omega) h3.1 h3.2
    rw [decB, key]
    generalize encK c b (i + 1) = k at *
    simp only [decBit]
    unfold cutN cutS at h4
    rcases hb' with e | e <;> rw [e] at h4 ⊢ <;> simp at h4 ⊢ <;> omega
/-- **what is coded can be decoded** -/
theorem round_trip {c b d : Nat → Int} {n : Nat} (hd : byteF d) (hv : ∀ i, i < n → (0 ≤ c i ∧ c i < 40) ∧ (b i = 0 ∨ b i = 1)) (he : ∀ i, i < (encBytes c b n).length → d i = (encBytes c b n).getD i 0) : ∀ i, i < n → decB d c i = b i := by
  intro i hi
  have hg := encK_good hv
  have e1 := upto_num d _ he
  have := hg.n1; have := hg.s0
  rw [encBytes, dig_num _ _ hg.n0 (by omega), dig_len] at e1
  exact (in_step hd hv e1 i (by omega)).2 hi

end Go.Proofs.Ytggkelehjdepkaa.M
