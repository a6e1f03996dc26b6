/- The program's prediction of a block. -/
import Derived.Test.YtijccageaingjaaDoorMac
import Derived.Test.YtijccageaingjaaDoorPredI
import Derived.Laws.EntriesVeiled
namespace Go.Proofs.YtijccageaingjaaDoor
open Go.RowKit
set_option linter.unusedVariables false
set_option linter.unusedSimpArgs false

attribute [local go_sem] size_addsW cell?_addsW frozen?_addsW setCell_addsW drew_addsW adds_addsW setCell_twice alloc_adds0 size_adds0 adds_adds0 sel2 sel3 sel4 sel5 sel6 sel7 sel8 sel9 lt_more lt_more2 lt_more3 lt_more4 adds_drew adds_drewN drewN_addsW ltA_1_1 ltA_1_2 ltA_1_3 ltA_1_4 ltA_1_5 ltA_1_6 ltA_2_1 ltA_2_2 ltA_2_3 ltA_2_4 ltA_2_5 ltA_2_6 ltA_3_1 ltA_3_2 ltA_3_3 ltA_3_4 ltA_3_5 ltA_3_6 ltA_4_1 ltA_4_2 ltA_4_3 ltA_4_4 ltA_4_5 ltA_4_6 ltA_5_1 ltA_5_2 ltA_5_3 ltA_5_4 ltA_5_5 ltA_5_6 ltA_6_1 ltA_6_2 ltA_6_3 ltA_6_4 ltA_6_5 ltA_6_6 ltA_7_1 ltA_7_2 ltA_7_3 ltA_7_4 ltA_7_5 ltA_7_6 ltA_8_1 ltA_8_2 ltA_8_3 ltA_8_4 ltA_8_5 ltA_8_6 ltA_9_1 ltA_9_2 ltA_9_3 ltA_9_4 ltA_9_5 ltA_9_6 ltA_10_1 ltA_10_2 ltA_10_3 ltA_10_4 ltA_10_5 ltA_10_6 ltA_11_1 ltA_11_2 ltA_11_3 ltA_11_4 ltA_11_5 ltA_11_6 ltA_12_1 ltA_12_2 ltA_12_3 ltA_12_4 ltA_12_5 ltA_12_6

def z16 : List Int := List.replicate 16 0

theorem Blk.row {W : World} {k : Nat} {cs : Array Value} {t : TypeId} (h : Blk W k cs t) (cs' : Array Value) : Blk (W.setRow k cs') k cs' t := setRow_heap W k cs cs' t (0, 0) h

theorem grown_setRow (w : World) (g : Nat) (cs : Array Value) : w.grownBy (w.setRow g cs) (some g) :=
  ⟨rfl, rfl, rfl, by simp [World.setRow], fun k hk hne => by
    have : ¬ g = k := fun e => hne (by rw [e])
    simp [World.setRow, Array.getElem?_modify, this]⟩

theorem below_row {D g : Nat} {w W : World} (h : Below D w W) (hs : D ≤ W.heap.size) (hg : D ≤ g) (cs : Array Value) : Below D w (W.setRow g cs) :=
  h.grown (grown_setRow W g cs) hs (fun k e => by injection e with e; omega)

theorem set_ok {zs : List Int} {F : Nat → Int} {k : Nat} {v : Int} (hz : zs.length = 16) (hk : k < 16) (h : ∀ i, i < k → zs.getD i 0 = F i) (hv : v = F k) : ∀ i, i < k + 1 → (zs.set k v).getD i 0 = F i := fun i hi => by
  by_cases e : i = k
  · subst e
    rw [List.getD_eq_getElem?_getD, List.getElem?_set_self (by omega), Option.getD_some, hv]
  · rw [List.getD_eq_getElem?_getD, List.getElem?_set_ne (Ne.symm e), ← List.getD_eq_getElem?_getD]
    exact h i (by omega)

theorem pL_of {zs : List Int} {m : Nat} {f g : Nat → Int} {c : Int} {u l : Bool} (hz : zs.length = 16) (h : ∀ i, i < 16 → zs.getD i 0 = pS m f g c u l (i % 4) (i / 4)) : zs = pL m f g c u l := by
  apply List.ext_getElem (by rw [hz, pL_len])
  intro i h1 h2
  have e := h i (by omega)
  rw [← pL_get m f g c u l (show i < 16 by omega), List.getD_eq_getElem?_getD, List.getD_eq_getElem?_getD, List.getElem?_eq_getElem h1, List.getElem?_eq_getElem h2] at e
  exact e

end Go.Proofs.YtijccageaingjaaDoor
