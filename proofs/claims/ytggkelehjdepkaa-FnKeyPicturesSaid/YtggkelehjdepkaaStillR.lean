/- A drawn region within a round of a range over a function: what holds outside of a round holds within. -/
import Derived.Test.YtggkelehjdepkaaRange
import Derived.StillTail
import Derived.StillTailTactics
import Derived.OrdersIn
namespace Go.Proofs.Ytggkelehjdepkaa
open Go.RowKit
set_option linter.unusedVariables false
set_option linter.unusedSimpArgs false

section
variable {P : Program} {n l : Nat} {ops : Array Oper} {Q : Exit → Act → World → Prop} {md : Region.Mode}
theorem op_in_round {o : Oper} {a : Act} {w : World} {K : Act → World → Prop} (hd : ∀ c, o.op ≠ .defer c) (h : o.wp P a w K Q) : o.wpIn (Fence.wide.inRound l) n P a w K Q := by
  refine ⟨fun _ _ => trivial, ?_⟩
  rw [Oper.semAt_eq _ _ _ hd]
  unfold Oper.wp at h
  generalize (execOp a.eval o).run P w = r at h ⊢
  cases r with
  | ok x w' =>
    cases x with
    | enter f args => exact ⟨fun e => (by cases e), CallsIn.inRound l (callsIn_wide.2 h)⟩
    | row r args => exact ⟨fun e => (by cases e), fun c cs _ => by obtain ⟨v, w'', q, s⟩ := h c cs; exact ⟨v, w'', q, stepsIn_wide.2 s⟩⟩
    | round _ _ _ _ _ => exact h.elim
    | _ => exact h
  | halt x w' => cases x <;> exact h

def plainB (o : Oper) : Bool := match o.op with | .defer _ => false | _ => true
theorem plain_of {o : Oper} (h : plainB o = true) : ∀ c, o.op ≠ .defer c := fun c e => by simp [plainB, e] at h

theorem any_in_round (hd : ∀ (i : Nat) (o : Oper), ops[i]? = some o → plainB o = true) (hL : ¬ LetsOut Q) : ∀ (fuel : Nat) (listed : Array Bool) (a : Act) (w : World), wpAny P md ops Q fuel listed a w → wpAnyIn (Fence.wide.inRound l) n P md ops Q fuel listed a w
  | 0, _, _, _, h => h
  | fuel + 1, listed, a, w, h => ⟨h.1, fun i hi => by
      have h2 := h.2 i hi
      unfold wpOp at h2
      unfold wpOpIn
      cases ho : ops[i]? with
      | none => simp only [ho] at h2 ⊢; exact any_in_round hd hL fuel _ _ _ h2
      | some o =>
        simp only [ho] at h2 ⊢
        by_cases hw : Region.wanted o (yielded ops a.tmps) = true
        · rw [if_pos hw] at h2 ⊢
          rcases h2 with h2 | h2
          · exact op_in_round (plain_of (hd i o ho)) (Oper.wp_mono (fun a w h => any_in_round hd hL fuel _ a w h) h2)
          · exact (hL h2.2).elim
        · rw [if_neg hw] at h2 ⊢
          exact ⟨fun _ _ => trivial, any_in_round hd hL fuel _ _ _ h2⟩⟩

/-- a drawn region of loads and quiet calls with a tail, within a round -/
theorem wpIn_tail_round {id : Nat} {a : Act} {w : World} {ls : List Oper} (k : Nat) (hm : P.follows .mixedOrders = true) (hd : ls.all plainB = true) (hL : ¬ LetsOut Q) (hB : Region.lexTailB .any ls.toArray k = true)
    (h : wpStill P ls.toArray w.drew (fun a' => wpList P ls.toArray Q (ls.drop k) a' w.drew) (ls.take k) a) : (Code.region id ls.toArray true).wpIn (Fence.wide.inRound l) n P Q a w := by
  refine wpIn_region_any hm (any_in_round (fun i o ho => ?_) hL _ _ _ _ ?_)
  · exact List.all_eq_true.1 hd o (List.mem_of_getElem? (by simpa using ho))
  · unfold Region.lexTailB at hB
    simp only [Bool.and_eq_true, decide_eq_true_eq] at hB
    obtain ⟨⟨⟨⟨h1, h2⟩, h3⟩, h4⟩, h5⟩ := hB
    have e2 : k < ls.length := by simpa using h2
    have e1 : (ls.take k).length = k := by rw [List.length_take]; omega
    have e3 : (ls.drop k).length = ls.toArray.size - k := by simp
    have hi : HeadInv .any ls.toArray k (Array.replicate ls.toArray.size false) := {
      size := by simp
      closed := fun j oj _ hl => by rw [getD_replicate_false] at hl; cases hl
      tail := fun t _ ht => getD_in (by simpa using ht) (getD_replicate_false _ _) }
    have hH := wpAnyL_lex (g := ls.toArray.size - k) h1 h3 h4 h2 (ls.take k) 0 _ a (fun j hj => by
      rw [e1] at hj
      rw [Nat.zero_add, List.getElem?_toArray, List.getElem?_take, if_pos hj]) (by rw [e1, Nat.zero_add]) hi (by rw [e1]; exact h5) h
    have hT := wpAny_of_head (Q' := Q) (g := ls.toArray.size - k) (fun listed a' hq => by
      rw [← e3]
      exact wpAny_of_seq (ls.drop k) k listed a' w.drew (fun j => by rw [List.getElem?_drop, List.getElem?_toArray]) (by rw [e3]; exact hq.1) hq.2) _ _ _ hH
    rw [e1, show k + (ls.toArray.size - k) = ls.toArray.size by omega] at hT
    exact hT
end

end Go.Proofs.Ytggkelehjdepkaa
