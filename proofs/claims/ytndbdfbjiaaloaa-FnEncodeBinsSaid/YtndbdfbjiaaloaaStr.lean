/- A row of bytes made a string: at an operation. -/
import Derived.Test.YtndbdfbjiaaloaaRound
import Derived.Laws.IdiomStrings
namespace Go.Proofs.Ytndbdfbjiaaloaa
open Go.RowKit
set_option linter.unusedVariables false
set_option linter.unusedSimpArgs false

attribute [local go_sem] size_addsW cell?_addsW frozen?_addsW setCell_addsW drew_addsW adds_addsW setCell_twice alloc_adds0 size_adds0 adds_adds0 sel2 sel3 sel4 sel5 sel6 sel7 sel8 sel9 lt_more lt_more2 lt_more3 lt_more4 adds_drew adds_drewN drewN_addsW ltA_1_1 ltA_1_2 ltA_1_3 ltA_1_4 ltA_1_5 ltA_1_6 ltA_2_1 ltA_2_2 ltA_2_3 ltA_2_4 ltA_2_5 ltA_2_6 ltA_3_1 ltA_3_2 ltA_3_3 ltA_3_4 ltA_3_5 ltA_3_6 ltA_4_1 ltA_4_2 ltA_4_3 ltA_4_4 ltA_4_5 ltA_4_6 ltA_5_1 ltA_5_2 ltA_5_3 ltA_5_4 ltA_5_5 ltA_5_6 ltA_6_1 ltA_6_2 ltA_6_3 ltA_6_4 ltA_6_5 ltA_6_6 ltA_7_1 ltA_7_2 ltA_7_3 ltA_7_4 ltA_7_5 ltA_7_6 ltA_8_1 ltA_8_2 ltA_8_3 ltA_8_4 ltA_8_5 ltA_8_6 ltA_9_1 ltA_9_2 ltA_9_3 ltA_9_4 ltA_9_5 ltA_9_6 ltA_10_1 ltA_10_2 ltA_10_3 ltA_10_4 ltA_10_5 ltA_10_6 ltA_11_1 ltA_11_2 ltA_11_3 ltA_11_4 ltA_11_5 ltA_11_6 ltA_12_1 ltA_12_2 ltA_12_3 ltA_12_4 ltA_12_5 ltA_12_6

/-- the string of a list of bytes -/
def strA (l : List Int) : ByteArray := ⟨(l.map (fun z => UInt8.ofNat z.toNat)).toArray⟩
abbrev strB (l : List Int) : Value := .string (strA l)
theorem run_strB (w : World) (A : Option Addr) (c : Nat) (l : List Int) (hr : RowAt .u8 w A l) (hb : ∀ i, 0 ≤ l.getD i 0 ∧ l.getD i 0 ≤ 255) :
    (convert 22 9 (.slice A l.length c)).run Try.prog w = .ok (strB l) w := by
  cases l with
  | nil =>
    rw [run_convert_bytes_string w 22 9 5 A _ c Try.underlying22 Try.underlying5 Try.underlying9]
    cases A <;> rfl
  | cons x xs =>
    obtain ⟨b, off, rfl, hlt, hc⟩ := hr (by simp)
    have h := run_convert_bytes_back (P := Try.prog) w 22 9 5 ⟨b, off, none⟩ c ((x :: xs).map (fun z => UInt8.ofNat z.toNat)) Try.underlying22 Try.underlying5 Try.underlying9 (fun j hj => by
      have hj' : j < (x :: xs).length := by simpa using hj
      have h1 := hc j hj'
      have h2 := hb j
      have e : (x :: xs).getD j 0 = (x :: xs)[j] := by rw [List.getD_eq_getElem?_getD, List.getElem?_eq_getElem hj']; rfl
      rw [e] at h1 h2
      rw [show (⟨b, off, none⟩ : Addr).add j = ⟨b, off + j, none⟩ by simp [Addr.add]]
      rw [h1, List.getElem_map]
      congr 2
      rw [UInt8.toNat_ofNat']
      omega)
    rw [List.length_map] at h
    exact h
theorem wp_strB {o : Oper} {a : Act} {K : Act → World → Prop} {Q : Exit → Act → World → Prop} (w : World) (x : Operand) (A : Option Addr) (c n : Nat) (l : List Int) (ho : o.op = .convert 22 9 x) (hx : a.eval x = .slice A n c) (hn : n = l.length) (hr : RowAt .u8 w A l) (hb : ∀ i, 0 ≤ l.getD i 0 ∧ l.getD i 0 ≤ 255)
    (h : K (a.put o.dst (strB l)) w) : o.wp Try.prog a w K Q := by
  subst hn
  have hr' := run_strB w A c l hr hb
  unfold Oper.wp execOp
  simp only [ho, resolve, Sem.run_bind, Sem.run_pure, Result.andThen_ok, hx, hr']
  exact h

end Go.Proofs.Ytndbdfbjiaaloaa
