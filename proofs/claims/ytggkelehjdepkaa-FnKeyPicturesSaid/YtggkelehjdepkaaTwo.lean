/- Two lists that grow beside each other; a row appended, whether nil or not. -/
import Derived.Test.YtggkelehjdepkaaGrow
import Derived.Maps.AppendAt
import Derived.Laws.AppendOwnNone
namespace Go.Proofs.Ytggkelehjdepkaa
open Go.RowKit
set_option linter.unusedVariables false
set_option linter.unusedSimpArgs false

theorem own_lit_b (W : World) (e : TypeId) (g base : Nat) (hg : g = W.heap.size) (hb : base ≤ g) : (W.alloc (.cells #[] e)).ownsRow base e 1 (.slice (some ⟨g, 0, none⟩) 0 0) 0 [] := by
  subst hg; exact World.ownsRow_lit (base := base) (e := e) (size := 1) W #[] 0 hb (by decide) rfl

/-- two rows, neither in the other's block -/
def Rows2 (base E1 E2 s1 s2 : Nat) (v1 v2 : Value) (n1 n2 : Nat) (xs1 xs2 : List Value) (w : World) : Prop :=
  w.ownsRow base E1 s1 v1 n1 xs1 ∧ w.ownsRow base E2 s2 v2 n2 xs2 ∧ (v1.ownBlock ≠ none → v1.ownBlock ≠ v2.ownBlock)
theorem Rows2.swap {base E1 E2 s1 s2 n1 n2 : Nat} {v1 v2 : Value} {xs1 xs2 : List Value} {w : World} (h : Rows2 base E1 E2 s1 s2 v1 v2 n1 n2 xs1 xs2 w) : Rows2 base E2 E1 s2 s1 v2 v1 n2 n1 xs2 xs1 w :=
  ⟨h.2.1, h.1, fun hn e => h.2.2 (by rw [← e]; exact hn) e.symm⟩
theorem Rows2.alloc {base E1 E2 s1 s2 n1 n2 : Nat} {v1 v2 : Value} {xs1 xs2 : List Value} {w : World} (h : Rows2 base E1 E2 s1 s2 v1 v2 n1 n2 xs1 xs2 w) (o : Obj) : Rows2 base E1 E2 s1 s2 v1 v2 n1 n2 xs1 xs2 (w.alloc o) :=
  ⟨h.1.alloc o, h.2.1.alloc o, h.2.2⟩
theorem Rows2.below {base E1 E2 s1 s2 n1 n2 : Nat} {v1 v2 : Value} {xs1 xs2 : List Value} {w w' : World} (h : Rows2 base E1 E2 s1 s2 v1 v2 n1 n2 xs1 xs2 w) (hb : Below w.heap.size w w') : Rows2 base E1 E2 s1 s2 v1 v2 n1 n2 xs1 xs2 w' :=
  ⟨ownsRow_below h.1 hb, ownsRow_below h.2.1 hb, h.2.2⟩
/-- the first one has grown -/
theorem Rows2.app {base E1 E2 s1 s2 n1 n2 n1' : Nat} {v1 v2 v1' : Value} {xs1 xs2 xs1' : List Value} {w w1 : World} (h : Rows2 base E1 E2 s1 s2 v1 v2 n1 n2 xs1 xs2 w)
    (hown : w1.ownsRow base E1 s1 v1' n1' xs1') (hg : w.grownBy w1 v1.ownBlock) (hat : v1'.ownBlock = v1.ownBlock ∨ v1'.ownBlock = some w.heap.size) : Rows2 base E1 E2 s1 s2 v1' v2 n1' n2 xs1' xs2 w1 := by
  obtain ⟨h1, h2, h3⟩ := h
  refine ⟨hown, h2.kept hg ?_, fun hn => ?_⟩
  · cases e : v2.ownBlock with
    | none => exact .inl rfl
    | some k => exact .inr (fun e2 => h3 (by rw [← e2]; simp) (by rw [← e2, e]))
  · rcases hat with e | e
    · rw [e] at hn ⊢; exact h3 hn
    · rw [e]
      intro e2
      have := (h2.lt w.heap.size e2.symm).2
      omega
theorem Rows2.grow {base E1 E2 s1 s2 n1 n2 : Nat} {v1 v2 : Value} {xs1 xs2 : List Value} {W w w1 : World} (h : Rows2 base E1 E2 s1 s2 v1 v2 n1 n2 xs1 xs2 w)
    (hg : w.grownBy w1 v1.ownBlock) (hb : Below W.heap.size W w) (hB : W.heap.size ≤ base) : Below W.heap.size W w1 :=
  hb.grown hg hb.size (fun q e => by have := (h.1.lt q e).1; omega)

/-- 'append(s, x...)' of a row of integers, nil or not, to a row of the call's own -/
theorem wp_app_row {P : Program} {o : Oper} {a : Act} {K : Act → World → Prop} {Q : Exit → Act → World → Prop} (w : World) (s x : Operand) (t : TypeId)
    (ho : o.op = .call { callee := .builtin .append, args := #[s, x], argTypes := #[t, t] })
    (base : Nat) (e : TypeId) (i : TypeInfo) (z : Value) (bytes : Nat) (ht : P.underlying t = some (.slice e)) (hi : P.info? e = some i) (hz : i.zero = some z)
    (hsize : i.size = 1) (hby : i.bytes = bytes) (hzs : z.cells.size = 1)
    (v : Value) (n : Nat) (xs : List Value) (hs : a.eval s = v) (hown : w.ownsRow base e 1 v n xs)
    (kd : IntKind) (A : Option Addr) (m c : Nat) (l : List Int) (hx : a.eval x = .slice A m c) (hl : l.length = m) (hr : RowAt kd w A l) (hnil : A = none → c = 0)
    (h63 : n + m ≤ maxLen) (hbytes : (n + m) * bytes ≤ 140737488355328) (hbase : base ≤ w.heap.size)
    (h : ∀ v' w', w'.ownsRow base e 1 v' (n + m) (xs ++ l.map (Value.int kd)) → w.grownBy w' v.ownBlock → K (a.put o.dst v') w') : o.wp P a w K Q := by
  cases A with
  | none =>
    have hl0 : l = [] := by
      cases l with
      | nil => rfl
      | cons y ys => obtain ⟨b, off, e, _⟩ := hr (by simp); cases e
    subst hl0
    have hm0 : m = 0 := hl.symm
    subst hm0
    rw [hnil rfl] at hx
    have hrun := run_append_owned_none (P := P) (w := w) base t o.type e i 1 ht hi v n xs hown
    unfold Oper.wp execOp
    simp only [ho, resolve, invoke, builtin, Sem.run_bind, Sem.run_pure, Result.andThen_ok, List.map_toArray, List.map_cons, List.map_nil, hs, hx, hrun]
    exact h v w (by simpa using hown) ⟨rfl, rfl, rfl, Nat.le_refl _, fun _ _ _ => rfl⟩
  | some ad =>
    refine wp_append_own w s x t ho base e i z 1 bytes ht hi hz hsize hby hzs (by decide) v n xs hs hown ad m c (l.map (Value.int kd)) hx (by simp [hl]) ?_ (fun u hu => by obtain ⟨z, -, rfl⟩ := List.mem_map.1 hu; rfl) h63 hbytes hbase (fun v' w' h1 h2 _ => h v' w' h1 h2)
    intro j u hj
    rw [List.getElem?_map] at hj
    obtain ⟨y, hy, rfl⟩ := Option.map_eq_some_iff.1 hj
    have hlt : j < l.length := (List.getElem?_eq_some_iff.1 hy).1
    obtain ⟨b, off, e, _, hc⟩ := hr (by intro e; subst e; simp at hlt)
    injection e with e
    subst e
    have := hc j hlt
    rw [show (⟨b, off, none⟩ : Addr).add j = ⟨b, off + j, none⟩ by unfold Addr.add; split <;> simp_all]
    rw [this, List.getD_eq_getElem?_getD, hy]; rfl

end Go.Proofs.Ytggkelehjdepkaa
