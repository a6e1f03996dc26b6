/- The program's prediction of a block. -/
import Derived.Test.YthnigldbpikcaaaPredI
import Derived.Laws.EntriesVeiled
namespace Go.Proofs.Ythnigldbpikcaaa
open Go.RowKit
set_option linter.unusedVariables false
set_option linter.unusedSimpArgs false

attribute [local go_sem] size_addsW cell?_addsW frozen?_addsW setCell_addsW drew_addsW adds_addsW setCell_twice alloc_adds0 size_adds0 adds_adds0 sel2 sel3 sel4 sel5 sel6 sel7 sel8 sel9 lt_more lt_more2 lt_more3 lt_more4 adds_drew adds_drewN drewN_addsW ltA_1_1 ltA_1_2 ltA_1_3 ltA_1_4 ltA_1_5 ltA_1_6 ltA_2_1 ltA_2_2 ltA_2_3 ltA_2_4 ltA_2_5 ltA_2_6 ltA_3_1 ltA_3_2 ltA_3_3 ltA_3_4 ltA_3_5 ltA_3_6 ltA_4_1 ltA_4_2 ltA_4_3 ltA_4_4 ltA_4_5 ltA_4_6 ltA_5_1 ltA_5_2 ltA_5_3 ltA_5_4 ltA_5_5 ltA_5_6 ltA_6_1 ltA_6_2 ltA_6_3 ltA_6_4 ltA_6_5 ltA_6_6 ltA_7_1 ltA_7_2 ltA_7_3 ltA_7_4 ltA_7_5 ltA_7_6 ltA_8_1 ltA_8_2 ltA_8_3 ltA_8_4 ltA_8_5 ltA_8_6 ltA_9_1 ltA_9_2 ltA_9_3 ltA_9_4 ltA_9_5 ltA_9_6 ltA_10_1 ltA_10_2 ltA_10_3 ltA_10_4 ltA_10_5 ltA_10_6 ltA_11_1 ltA_11_2 ltA_11_3 ltA_11_4 ltA_11_5 ltA_11_6 ltA_12_1 ltA_12_2 ltA_12_3 ltA_12_4 ltA_12_5 ltA_12_6

def z16 : List Int := List.replicate 16 0
theorem infoA16 : (Try.prog.info? 28).map (·.size) = some 16 := by kernel_rfl
theorem Blk.row {W : World} {k : Nat} {cs : Array Value} {t : TypeId} (h : Blk W k cs t) (cs' : Array Value) : Blk (W.setRow k cs') k cs' t := setRow_heap W k cs cs' t (0, 0) h
theorem grown_setRow (w : World) (g : Nat) (cs : Array Value) : w.grownBy (w.setRow g cs) (some g) :=
  ⟨rfl, rfl, rfl, by simp [World.setRow], fun k hk hne => by
    have : ¬ g = k := fun e => hne (by rw [e])
    simp [World.setRow, Array.getElem?_modify, this]⟩
theorem below_row {D g : Nat} {w W : World} (h : Below D w W) (hs : D ≤ W.heap.size) (hg : D ≤ g) (cs : Array Value) : Below D w (W.setRow g cs) :=
  h.grown (grown_setRow W g cs) hs (fun k e => by injection e with e; omega)
/-- the five functions -/
def fnA : Array Value := #[.func (.func 35) #[] #[], .func (.func 36) #[] #[], .func (.func 37) #[] #[], .func (.func 38) #[] #[], .func (.func 39) #[] #[]]

structure PrS (G : Nat) (f g : Nat → Int) (c : Int) (u l : Bool) (w : World) (zs : List Int) (W : World) : Prop where
  e : Blk W G (eA f g c u l) 25
  r : Blk W (G + 1) (rowI z16) 28
  m : Blk W (G + 1 + 1) fnA 60
  b : Blk W (G + 1 + 1 + 1) (rowI zs) 28
  below : Below w.heap.size w W
theorem PrS.adds {G : Nat} {f g : Nat → Int} {c : Int} {u l : Bool} {w W : World} {zs : List Int} (h : PrS G f g c u l w zs W) (os : Array Obj) (n : Nat) : PrS G f g c u l w zs (addsW W os n) :=
  ⟨h.e.adds os n, h.r.adds os n, h.m.adds os n, h.b.adds os n, Below.adds_ h.below h.below.size os n⟩
theorem PrS.drew {G : Nat} {f g : Nat → Int} {c : Int} {u l : Bool} {w W : World} {zs : List Int} (h : PrS G f g c u l w zs W) : PrS G f g c u l w zs W.drew := ⟨h.e.drew, h.r.drew, h.m.drew, h.b.drew, h.below.drew⟩
theorem PrS.set {G : Nat} {f g : Nat → Int} {c : Int} {u l : Bool} {w W : World} {zs : List Int} (h : PrS G f g c u l w zs W) (hg : w.heap.size ≤ G) (i : Nat) (v : Int) : PrS G f g c u l w (zs.set i v) (W.setCell ⟨G + 1 + 1 + 1, i, none⟩ (.int .i64 v)) :=
  ⟨h.e.other (by simp only; omega) _, h.r.other (by simp only; omega) _, h.m.other (by simp only; omega) _, by have := h.b.set i (.int .i64 v); rwa [rowI_set] at this, h.below.setCell (by simp only; omega) _⟩
theorem set_ok {zs : List Int} {F : Nat → Int} {k : Nat} {v : Int} (hz : zs.length = 16) (hk : k < 16) (h : ∀ i, i < k → zs.getD i 0 = F i) (hv : v = F k) : ∀ i, i < k + 1 → (zs.set k v).getD i 0 = F i := fun i hi => by
  by_cases e : i = k
  · subst e
    rw [List.getD_eq_getElem?_getD, List.getElem?_set_self (by omega), Option.getD_some, hv]
  · rw [List.getD_eq_getElem?_getD, List.getElem?_set_ne (Ne.symm e), ← List.getD_eq_getElem?_getD]
    exact h i (by omega)
theorem pL_of {zs : List Int} {m : Nat} {f g : Nat → Int} {c : Int} {u l : Bool} (hz : zs.length = 16) (h : ∀ i, i < 16 → zs.getD i 0 = pS m f g c u l (i % 4) (i / 4)) : zs = pL m f g c u l := by
  apply List.ext_getElem (by rw [hz, pL_len])
  intro i h1 h2
  have e := h i (by omega)
  rw [← pL_get m f g c u l (show i < 16 by omega), List.getD_eq_getElem?_getD, List.getD_eq_getElem?_getD, List.getElem?_eq_getElem h1, List.getElem?_eq_getElem h2] at e
  exact e

set_option maxRecDepth 100000 in
set_option maxHeartbeats 4000000 in
theorem I_predict (m : Nat) (hm : m ≤ 4) (f g : Nat → Int) (c : Int) (u l : Bool) (w : World) (hok : eOk f g c) :
    Calls Try.prog 22 #[.agg (eA f g c u l), .int .i64 m] w fun e w' => e = .returned (.agg (rowI (pL m f g c u l))) ∧ Below w.heap.size w w' := by
  have HOK := Lib.hid hok
  clear hok
  have hwg : w.heap.size ≤ w.heap.size := Nat.le_refl _
  have T0 : PrS w.heap.size f g c u l w z16 ((((w.alloc (.cells (eA f g c u l) 25)).alloc (.cells (rowI z16) 28)).alloc (.cells fnA 60)).alloc (.cells (rowI z16) 28)) :=
    ⟨(((Blk.new w _ _ _ rfl).alloc _).alloc _).alloc _, ((Blk.new _ _ _ _ (by simp)).alloc _).alloc _, (Blk.new _ _ _ _ (by simp)).alloc _, Blk.new _ _ _ _ (by simp), (by repeat' (first | (with_reducible exact Below.refl _ _) | (with_reducible refine Below.adds_ ?_ ?_ _ _) | (with_reducible refine Below.alloc ?_ ?_ _) | (with_reducible refine Below.drew ?_) | (with_reducible refine Below.setCell ?_ ?_ _) | (with_reducible assumption) | go_size | (simp only [size_addsW, World.size_alloc, World.size_drew, World.size_setCell]; omega)))⟩
  have HT0 := Lib.hid T0
  clear T0
  obtain ⟨F, hF⟩ : ∃ F, F = pS m f g c u l := ⟨_, rfl⟩
  have HFF := Lib.hid hF
  clear hF
  obtain ⟨mi, hmi⟩ : ∃ mi : Int, mi = (m : Int) := ⟨_, rfl⟩
  rw [← hmi]
  rcases (show (m = 0 ∧ mi = 0) ∨ (m = 1 ∧ mi = 1) ∨ (m = 2 ∧ mi = 2) ∨ (m = 3 ∧ mi = 3) ∨ (m = 4 ∧ mi = 4) by omega) with ⟨rfl, rfl⟩ | ⟨rfl, rfl⟩ | ⟨rfl, rfl⟩ | ⟨rfl, rfl⟩ | ⟨rfl, rfl⟩
  all_goals
    clear hmi
    unfold eA
    go_enter Try.func22, Try.ntmps22
    go_upto_region 3 with fail
    refine all_add' ?_
    intro Z hZ
    have T1 := Lib.hid (show PrS w.heap.size f g c u l w z16 Z from hZ ▸ HT0.out)
    clear hZ HT0
    go_wp2_with fail
    go_loopw [9] (fun v wr => ∃ (k : Nat) (zs : List Int), v = .int .i64 (k : Int) ∧ k ≤ 16 ∧ zs.length = 16 ∧ (∀ i, i < k → zs.getD i 0 = F (i % 4) (i / 4)) ∧ PrS w.heap.size f g c u l w zs wr) (fun v _ => 16 - (intOf v).toNat)
    case atStart => exact ⟨0, z16, rfl, by omega, rfl, fun i hi => by omega, T1.out⟩
    case round =>
      clear T1
      obtain ⟨k, zs, rfl, hk, hz, hf, hst⟩ := hrel
      have HF := Lib.hid hf
      have HZ := Lib.hid hz
      have HST := Lib.hid hst
      clear hf hz
      by_cases hlt : k < 16
      · have hd1 : (k : Int) < 16 := by omega
        have e0 : wr.cell? ⟨w.heap.size, 0, none⟩ = some (.int .i64 (f 0)) := hst.e.get rfl
        have e1 : wr.cell? ⟨w.heap.size, 1, none⟩ = some (.int .i64 (f 1)) := hst.e.get rfl
        have e2 : wr.cell? ⟨w.heap.size, 2, none⟩ = some (.int .i64 (f 2)) := hst.e.get rfl
        have e3 : wr.cell? ⟨w.heap.size, 3, none⟩ = some (.int .i64 (f 3)) := hst.e.get rfl
        have e4 : wr.cell? ⟨w.heap.size, 4, none⟩ = some (.int .i64 (g 0)) := hst.e.get rfl
        have e5 : wr.cell? ⟨w.heap.size, 5, none⟩ = some (.int .i64 (g 1)) := hst.e.get rfl
        have e6 : wr.cell? ⟨w.heap.size, 6, none⟩ = some (.int .i64 (g 2)) := hst.e.get rfl
        have e7 : wr.cell? ⟨w.heap.size, 7, none⟩ = some (.int .i64 (g 3)) := hst.e.get rfl
        have e8 : wr.cell? ⟨w.heap.size, 8, none⟩ = some (.int .i64 c) := hst.e.get rfl
        have e9 : wr.cell? ⟨w.heap.size, 9, none⟩ = some (.bool u) := hst.e.get rfl
        have e10 : wr.cell? ⟨w.heap.size, 10, none⟩ = some (.bool l) := hst.e.get rfl
        have d0 : wr.cell? ⟨w.heap.size + 1 + 1, 0, none⟩ = some (.func (.func 35) #[] #[]) := hst.m.get rfl
        have d1 : wr.cell? ⟨w.heap.size + 1 + 1, 1, none⟩ = some (.func (.func 36) #[] #[]) := hst.m.get rfl
        have d2 : wr.cell? ⟨w.heap.size + 1 + 1, 2, none⟩ = some (.func (.func 37) #[] #[]) := hst.m.get rfl
        have d3 : wr.cell? ⟨w.heap.size + 1 + 1, 3, none⟩ = some (.func (.func 38) #[] #[]) := hst.m.get rfl
        have d4 : wr.cell? ⟨w.heap.size + 1 + 1, 4, none⟩ = some (.func (.func 39) #[] #[]) := hst.m.get rfl
        have bk := hst.b.get (rowI_get (zs := zs) (j := k) (by rw [HZ.out]; exact hlt))
        have bf := hst.b.hot k
        have le := hst.e.lt
        have lm := hst.m.lt
        have lb := hst.b.lt
        clear hst
        generalize zs.getD k 0 = old at bk
        obtain ⟨X, hX⟩ : ∃ X, X = k % 4 := ⟨_, rfl⟩
        obtain ⟨Y, hY⟩ : ∃ Y, Y = k / 4 := ⟨_, rfl⟩
        have hX4 : X < 4 := by omega
        have hY4 : Y < 4 := by omega
        have x1 : (k : Int).tmod 4 = (X : Int) := by rw [Int.tmod_eq_emod_of_nonneg (by omega)]; omega
        have x2 : (k : Int) % 4 = (X : Int) := by omega
        have y1 : (k : Int).tdiv 4 = (Y : Int) := by rw [Int.tdiv_eq_ediv_of_nonneg (by omega)]; omega
        have y2 : (k : Int) / 4 = (Y : Int) := by omega
        have x3 : IntKind.i64.wrap (X : Int) = (X : Int) := IntWalk.i64_in _ (by omega)
        have y3 : IntKind.i64.wrap (Y : Int) = (Y : Int) := IntWalk.i64_in _ (by omega)
        have HX := Lib.hid hX
        have HY := Lib.hid hY
        clear hX hY
        have hFk := Lib.hid (show ∀ v, v = F X Y → ∀ i, i < k + 1 → (zs.set k v).getD i 0 = F (i % 4) (i / 4) from fun v hv => set_ok (F := fun i => F (i % 4) (i / 4)) HZ.out hlt HF.out (by rw [hv, HX.out, HY.out]))
        go_upto_region 6 with fail
        refine wp_region_held_drew (S := (fun w' => w'.cell? ⟨w.heap.size, 0, none⟩ = some (.int .i64 (f 0)) ∧ w'.cell? ⟨w.heap.size, 1, none⟩ = some (.int .i64 (f 1)) ∧ w'.cell? ⟨w.heap.size, 2, none⟩ = some (.int .i64 (f 2)) ∧ w'.cell? ⟨w.heap.size, 3, none⟩ = some (.int .i64 (f 3)) ∧ w'.cell? ⟨w.heap.size, 4, none⟩ = some (.int .i64 (g 0)) ∧ w'.cell? ⟨w.heap.size, 5, none⟩ = some (.int .i64 (g 1)) ∧ w'.cell? ⟨w.heap.size, 6, none⟩ = some (.int .i64 (g 2)) ∧ w'.cell? ⟨w.heap.size, 7, none⟩ = some (.int .i64 (g 3)) ∧ w'.cell? ⟨w.heap.size, 8, none⟩ = some (.int .i64 c) ∧ w'.cell? ⟨w.heap.size, 9, none⟩ = some (.bool u) ∧ w'.cell? ⟨w.heap.size, 10, none⟩ = some (.bool l) ∧ w'.cell? ⟨w.heap.size + 1 + 1, 0, none⟩ = some (.func (.func 35) #[] #[]) ∧ w'.cell? ⟨w.heap.size + 1 + 1, 1, none⟩ = some (.func (.func 36) #[] #[]) ∧ w'.cell? ⟨w.heap.size + 1 + 1, 2, none⟩ = some (.func (.func 37) #[] #[]) ∧ w'.cell? ⟨w.heap.size + 1 + 1, 3, none⟩ = some (.func (.func 38) #[] #[]) ∧ w'.cell? ⟨w.heap.size + 1 + 1, 4, none⟩ = some (.func (.func 39) #[] #[]))) (by kernel_rfl) ?_ (fun hHeld => ?_)
        · (first | (go_simp; done) | (go_keep; done))
        refine wpAnyH_take (i := 0) (oi := _) (v := ?_) rfl (by kernel_rfl) (by kernel_rfl) (by kernel_rfl) (fun _ _ _ h => h) (Or.inl ⟨by rfl, ?_⟩) (by assumption) ?_
        rotate_left
        · intro w hSw; (try dsimp only at hSw); go_simp; (try with_reducible rfl)
        try dsimp only [List.getElem_toArray, List.getElem_cons_succ, List.getElem_cons_zero]
        simp only [Act.put, List.setIfInBounds_toArray, List.set_cons_zero, List.set_cons_succ]
        refine wpAnyH_take (i := 1) (oi := _) (v := ?_) rfl (by kernel_rfl) (by kernel_rfl) (by kernel_rfl) (fun _ _ _ h => h) (Or.inl ⟨by rfl, ?_⟩) (by assumption) ?_
        rotate_left
        · intro w hSw; (try dsimp only at hSw); go_simp; (try with_reducible rfl)
        try dsimp only [List.getElem_toArray, List.getElem_cons_succ, List.getElem_cons_zero]
        simp only [Act.put, List.setIfInBounds_toArray, List.set_cons_zero, List.set_cons_succ]
        refine wpAnyH_take (i := 2) (oi := _) (v := ?_) rfl (by kernel_rfl) (by kernel_rfl) (by kernel_rfl) (fun _ _ _ h => h) (Or.inl ⟨by rfl, ?_⟩) (by assumption) ?_
        rotate_left
        · intro w hSw; (try dsimp only at hSw); go_simp; (try with_reducible rfl)
        try dsimp only [List.getElem_toArray, List.getElem_cons_succ, List.getElem_cons_zero]
        simp only [Act.put, List.setIfInBounds_toArray, List.set_cons_zero, List.set_cons_succ]
        refine wpAnyH_take (i := 3) (oi := _) (v := ?_) rfl (by kernel_rfl) (by kernel_rfl) (by kernel_rfl) (fun _ _ _ h => h) (Or.inl ⟨by rfl, ?_⟩) (by assumption) ?_
        rotate_left
        · intro w hSw; (try dsimp only at hSw); go_simp; (try with_reducible rfl)
        try dsimp only [List.getElem_toArray, List.getElem_cons_succ, List.getElem_cons_zero]
        simp only [Act.put, List.setIfInBounds_toArray, List.set_cons_zero, List.set_cons_succ]
        refine wpAnyH_take (i := 4) (oi := _) (v := ?_) rfl (by kernel_rfl) (by kernel_rfl) (by kernel_rfl) (fun _ _ _ h => h) (Or.inl ⟨by rfl, ?_⟩) (by assumption) ?_
        rotate_left
        · intro w hSw; (try dsimp only at hSw); go_simp; (try with_reducible rfl)
        try dsimp only [List.getElem_toArray, List.getElem_cons_succ, List.getElem_cons_zero]
        simp only [Act.put, List.setIfInBounds_toArray, List.set_cons_zero, List.set_cons_succ]
        refine wpAnyH_take (i := 5) (oi := _) (v := ?_) rfl (by kernel_rfl) (by kernel_rfl) (by kernel_rfl) (fun _ _ _ h => h) (Or.inl ⟨by rfl, ?_⟩) (by assumption) ?_
        rotate_left
        · intro w hSw; (try dsimp only at hSw); go_simp; (try with_reducible rfl)
        try dsimp only [List.getElem_toArray, List.getElem_cons_succ, List.getElem_cons_zero]
        simp only [Act.put, List.setIfInBounds_toArray, List.set_cons_zero, List.set_cons_succ]
        refine wpAnyH_take (i := 6) (oi := _) (v := ?_) rfl (by kernel_rfl) (by kernel_rfl) (by kernel_rfl) (fun _ _ _ h => h) (Or.inl ⟨by rfl, ?_⟩) (by assumption) ?_
        rotate_left
        · intro w hSw; (try dsimp only at hSw); go_simp; (try with_reducible rfl)
        try dsimp only [List.getElem_toArray, List.getElem_cons_succ, List.getElem_cons_zero]
        simp only [Act.put, List.setIfInBounds_toArray, List.set_cons_zero, List.set_cons_succ]
        refine wpAnyH_take (i := 7) (oi := _) (v := ?_) rfl (by kernel_rfl) (by kernel_rfl) (by kernel_rfl) (fun _ _ _ h => h) (Or.inl ⟨by rfl, ?_⟩) (by assumption) ?_
        rotate_left
        · intro w hSw; (try dsimp only at hSw); go_simp; (try with_reducible rfl)
        try dsimp only [List.getElem_toArray, List.getElem_cons_succ, List.getElem_cons_zero]
        simp only [Act.put, List.setIfInBounds_toArray, List.set_cons_zero, List.set_cons_succ]
        refine wpAnyH_take (i := 8) (oi := _) (v := ?_) rfl (by kernel_rfl) (by kernel_rfl) (by kernel_rfl) (fun _ _ _ h => h) (Or.inl ⟨by rfl, ?_⟩) (by assumption) ?_
        rotate_left
        · intro w hSw; (try dsimp only at hSw); go_simp; (try with_reducible rfl)
        try dsimp only [List.getElem_toArray, List.getElem_cons_succ, List.getElem_cons_zero]
        simp only [Act.put, List.setIfInBounds_toArray, List.set_cons_zero, List.set_cons_succ]
        refine wpAnyH_ready (rs := [9]) (by kernel_rfl) (by simp) ?_
        refine AllReadyH.cons (o := _) rfl (fun K hK => ?_) ?_
        · (try dsimp only [List.getElem_toArray, List.getElem_cons_succ, List.getElem_cons_zero]); go_simp
          (first | (go_at_call 35; refine (I_mean f g c u l _ _ _ HOK.out).mono ?_; rintro e w' ⟨rfl, hb⟩; obtain ⟨q6, m6, rfl⟩ := below_adds hb; clear hb) | (go_at_call 36; refine (I_vertical f g c u l X Y _ hX4).mono ?_; rintro e w' ⟨rfl, hb⟩; obtain ⟨q6, m6, rfl⟩ := below_adds hb; clear hb) | (go_at_call 37; refine (I_horizontal f g c u l X Y _ hY4).mono ?_; rintro e w' ⟨rfl, hb⟩; obtain ⟨q6, m6, rfl⟩ := below_adds hb; clear hb) | (go_at_call 38; refine (I_diagonal f g c u l X Y _ hX4 hY4 HOK.out).mono ?_; rintro e w' ⟨rfl, hb⟩; obtain ⟨q6, m6, rfl⟩ := below_adds hb; clear hb) | (go_at_call 39; refine (I_plane f g c u l X Y _ hX4 hY4 HOK.out).mono ?_; rintro e w' ⟨rfl, hb⟩; obtain ⟨q6, m6, rfl⟩ := below_adds hb; clear hb))
          try go_wp2_with fail
          refine hK.out _ _ ?_ (fun hHeld => ?_)
          · (first | (go_simp; done) | (go_keep; done))
          clear hK K
          try simp only [Act.put, List.setIfInBounds_toArray, List.set_cons_zero, List.set_cons_succ]
          refine wpAnyH_take (i := 10) (oi := _) (v := ?_) rfl (by kernel_rfl) (by kernel_rfl) (by kernel_rfl) (fun _ _ _ h => h) (Or.inl ⟨by rfl, ?_⟩) (by assumption) ?_
          rotate_left
          · intro w hSw; (try dsimp only at hSw); go_simp; (try with_reducible rfl)
          try dsimp only [List.getElem_toArray, List.getElem_cons_succ, List.getElem_cons_zero]
          simp only [Act.put, List.setIfInBounds_toArray, List.set_cons_zero, List.set_cons_succ]
          refine wpAnyH_ready (rs := [11]) (by kernel_rfl) (by simp) ?_
          refine AllReadyH.cons (o := _) rfl (fun K hK => ?_) ?_
          · (try dsimp only [List.getElem_toArray, List.getElem_cons_succ, List.getElem_cons_zero]); go_simp
            refine hK.out _ _ ?_ (fun hHeld => ?_)
            · (first | (go_simp; done) | (go_keep; done))
            clear hK K
            try simp only [Act.put, List.setIfInBounds_toArray, List.set_cons_zero, List.set_cons_succ]
            refine wpAnyH_done (by kernel_rfl) ?_ _
            go_wp2_with fail
            go_roundw
            case rel => exact ⟨k + 1, zs.set k (F X Y), by go_num, by omega, by rw [List.length_set]; exact HZ.out, hFk.out _ rfl, by (rw [HFF.out]; repeat (first | (with_reducible apply PrS.adds) | (with_reducible apply PrS.drew) | exact PrS.set HST.out hwg k _))⟩
            case measure => simp [intOf]; omega
          exact AllReadyH.nil
        exact AllReadyH.nil
      · obtain rfl : k = 16 := by omega
        have hpl := pL_of HZ.out (fun i hi => by have h9 := HF.out i hi; rw [HFF.out] at h9; exact h9)
        have HP := Lib.hid hpl
        clear hpl
        have hst := HST.out
        go_upto_region 8 with fail
        refine wp_region_lit ?_
        refine wpList_load_sub rfl 28 (.tmp 6) rfl (w.heap.size + 1 + 1 + 1) 0 16 rfl 28 zs (0, 0) _ hst.b Try.underlying28 rfl infoA16 (by rw [HZ.out]; exact Nat.le_refl _) ?_
        rw [show sub zs 0 16 = zs by rw [← HZ.out]; exact sub_all zs]
        refine wpList_store_sub rfl 28 (.tmp 4) (.tmp 24) rfl (w.heap.size + 1) 0 zs rfl rfl 28 z16 hst.r (by rw [HZ.out]; exact infoA16) (by rw [HZ.out]; decide) ?_
        rw [spl_full (by rw [HZ.out]; rfl)]
        go_wp2_with fail
        refine bodyPost_ret (v := .agg (rowI zs)) (by exact results_cell_row Try.results22 _ _ (w.heap.size + 1) 28 (rowI zs) (0, 0) _ rfl (hst.r.row (rowI zs)) Try.underlying28 rfl (by rw [rowI_size, HZ.out]; exact infoA16)) rfl ?_
        exact ⟨by rw [← HP.out], below_row hst.below hst.below.size (by omega) _⟩

end Go.Proofs.Ythnigldbpikcaaa
