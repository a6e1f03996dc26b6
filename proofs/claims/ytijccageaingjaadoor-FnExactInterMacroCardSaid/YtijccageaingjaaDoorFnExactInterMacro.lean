/- PROVED: the law laws.FnExactInterMacro returns true for every input (the program's InterMacro answers as the reference's does), the table quantSteps holding what the program's text lays (the card ties it); no other conditions. -/
import Derived.Test.YtijccageaingjaaDoorCards
import Derived.Test.YtijccageaingjaaDoorTie
import Derived.Test.YtijccageaingjaaDoorIntS
import Derived.Test.YtijccageaingjaaDoorMeq
import Derived.Test.YtijccageaingjaaDoorMark
import Derived.Deep.RegionHeld3
import Derived.Deep.DeepCutAuto
import Derived.WalkKit
import Derived.WalkLawsBesides
import Derived.Handy
import Derived.ProofKit
import Derived.OpenShut
import Derived.ChangeOld
import Derived.Below
import Derived.Deep.DeepHandedRow
import Derived.Lib.LaidTab
import Derived.Lib.SmallJoins
import Derived.Lib.Hide
import Derived.ShutString
namespace Go.Proofs.YtijccageaingjaaDoor.fnExactInterMacro
open Go.ChangeShapes Go.WideShapes Go.ChangeAt Go.RowKit
set_option linter.unusedVariables false
set_option linter.unusedSimpArgs false

theorem own : ownKnob Tryd.prog.godebug = none := by kernel_rfl
theorem laidOut : laidOutB Tryd.prog = true := by kernel_rfl
theorem gTab : Tryd.prog.globalNamed "loop.example/videocodec/impl.quantSteps" = some 0 := by kernel_rfl
theorem gTabType : (Tryd.prog.globals[0]?).map (·.type) = some 30 := by kernel_rfl
theorem cellsT : Tryd.prog.cellsOf 30 = 16 := by kernel_rfl
theorem cellsI : Tryd.prog.cellsOf 3 = 1 := by kernel_rfl
theorem table {W : World} (h : laidMetH Tryd.prog Rows.fnExactInterMacroRow.laid W) : Lib.TabIs Tryd.prog W "loop.example/videocodec/impl.quantSteps" .i64 steps :=
  Lib.tabIs_of_head (rest := []) gTab gTabType Tryd.underlying30 Tryd.underlying3 cellsI cellsT h


attribute [local go_sem] size_addsW cell?_addsW frozen?_addsW setCell_addsW drew_addsW adds_addsW setCell_twice alloc_adds0 size_adds0 adds_adds0 sel2 sel3 sel4 sel5 sel6 sel7 sel8 sel9 lt_more lt_more2 lt_more3 lt_more4 adds_drew adds_drewN drewN_addsW ltA_1_1 ltA_1_2 ltA_1_3 ltA_1_4 ltA_1_5 ltA_1_6 ltA_2_1 ltA_2_2 ltA_2_3 ltA_2_4 ltA_2_5 ltA_2_6 ltA_3_1 ltA_3_2 ltA_3_3 ltA_3_4 ltA_3_5 ltA_3_6 ltA_4_1 ltA_4_2 ltA_4_3 ltA_4_4 ltA_4_5 ltA_4_6 ltA_5_1 ltA_5_2 ltA_5_3 ltA_5_4 ltA_5_5 ltA_5_6 ltA_6_1 ltA_6_2 ltA_6_3 ltA_6_4 ltA_6_5 ltA_6_6 ltA_7_1 ltA_7_2 ltA_7_3 ltA_7_4 ltA_7_5 ltA_7_6 ltA_8_1 ltA_8_2 ltA_8_3 ltA_8_4 ltA_8_5 ltA_8_6 ltA_9_1 ltA_9_2 ltA_9_3 ltA_9_4 ltA_9_5 ltA_9_6 ltA_10_1 ltA_10_2 ltA_10_3 ltA_10_4 ltA_10_5 ltA_10_6 ltA_11_1 ltA_11_2 ltA_11_3 ltA_11_4 ltA_11_5 ltA_11_6 ltA_12_1 ltA_12_2 ltA_12_3 ltA_12_4 ltA_12_5 ltA_12_6
theorem below_more2 (w : World) (os o1 o2 : Array Obj) (n n' : Nat) : Below (addsW w os n).heap.size (addsW w os n) (addsW w (os ++ o1 ++ o2) n') := by
  rw [Array.append_assoc]; exact below_more _ _ _ _ _
theorem below_more3 (w : World) (os o1 o2 o3 : Array Obj) (n n' : Nat) : Below (addsW w os n).heap.size (addsW w os n) (addsW w (os ++ o1 ++ o2 ++ o3) n') := by
  rw [Array.append_assoc, Array.append_assoc]; exact below_more _ _ _ _ _
/-- a macroblock in a new block -/
def MaCut (B : World) (zs : List Int) (s : Value) (wx : World) : Prop := ∃ g : Nat, s = .pointer (some ⟨g, 0, none⟩) ∧ B.heap.size ≤ g ∧ Below B.heap.size B wx ∧ Blk wx g (rowI zs) 33
theorem wp_store_mac {o : Oper} {a : Act} {W : World} {K : Act → World → Prop} {Q : Exit → Act → World → Prop} (x y : Operand) (ho : o.op = .store 33 x y)
    (g : Nat) (zs : List Int) (hx : a.eval x = .pointer (some ⟨g, 0, none⟩)) (hy : a.eval y = .agg (rowI zs)) (hz : zs.length = 71) (B : World) (hB : Below B.heap.size B W) (hgB : B.heap.size ≤ g)
    (hg : Blk W g (rowI (zL 71)) 33) (h : ∀ W', B.heap.size ≤ g → Below B.heap.size B W' → Blk W' g (rowI zs) 33 → K (a.put o.dst undef) W') : o.wp Tryd.prog a W K Q := by
  refine wp_store_sub 33 x y ho g 0 zs hx hy 33 (zL 71) hg (by rw [hz]; exact infoMac) (by rw [hz, zL_len]; exact Nat.le_refl _) ?_
  rw [spl_full (by rw [hz, zL_len])]
  exact h _ hgB (below_row hB hB.size hgB _) (hg.row _)
/-- the law's own boxes -/
structure Lw (G : Nat) (a b : Int) (A : Option Addr) (n c : Nat) (a' b' : Int) (A' : Option Addr) (n' c' : Nat) (u v : Int) (W : World) : Prop where
  p : Blk W G #[.int .i64 a, .int .i64 b, .slice A n c] 24
  p' : Blk W (G + 1) #[.int .i64 a', .int .i64 b', .slice A' n' c'] 24
  v : Blk W (G + 1 + 1) #[.int .i64 u, .int .i64 v] 26
theorem Lw.below {G : Nat} {a b : Int} {A : Option Addr} {n c : Nat} {a' b' : Int} {A' : Option Addr} {n' c' : Nat} {u v : Int} {W W' : World} (h : Lw G a b A n c a' b' A' n' c' u v W) (hb : Below W.heap.size W W') : Lw G a b A n c a' b' A' n' c' u v W' :=
  ⟨h.p.below hb h.p.lt, h.p'.below hb h.p'.lt, h.v.below hb h.v.lt⟩
theorem Lw.cells {G : Nat} {a b : Int} {A : Option Addr} {n c : Nat} {a' b' : Int} {A' : Option Addr} {n' c' : Nat} {u v : Int} {W : World} (h : Lw G a b A n c a' b' A' n' c' u v W) :
    W.cell? ⟨G, 0, none⟩ = some (.int .i64 a) ∧ W.cell? ⟨G, 1, none⟩ = some (.int .i64 b) ∧ W.cell? ⟨G, 2, none⟩ = some (.slice A n c) ∧ W.cell? ⟨G + 1, 0, none⟩ = some (.int .i64 a') ∧ W.cell? ⟨G + 1, 1, none⟩ = some (.int .i64 b') ∧ W.cell? ⟨G + 1, 2, none⟩ = some (.slice A' n' c') ∧ W.cell? ⟨G + 1 + 1, 0, none⟩ = some (.int .i64 u) ∧ W.cell? ⟨G + 1 + 1, 1, none⟩ = some (.int .i64 v) :=
  ⟨h.p.get rfl, h.p.get rfl, h.p.get rfl, h.p'.get rfl, h.p'.get rfl, h.p'.get rfl, h.v.get rfl, h.v.get rfl⟩

set_option maxHeartbeats 40000000 in
theorem walk (a : Int) (b : Int) (a_ts0 : Option Addr) (len_ts0 cap_ts0 : Nat) (ts0 : List Int) (a' : Int) (b' : Int) (a_rs0 : Option Addr) (len_rs0 cap_rs0 : Nat) (rs0 : List Int) (x : Int) (y : Int) (u : Int) (v : Int) (iq : Int) (w : World) (w_a : (Lit.int .i64 a).wf = true) (w_b : (Lit.int .i64 b).wf = true) (w_ts0 : IsRow .i64 w a_ts0 len_ts0 cap_ts0 ts0) (w_a' : (Lit.int .i64 a').wf = true) (w_b' : (Lit.int .i64 b').wf = true) (w_rs0 : IsRow .i64 w a_rs0 len_rs0 cap_rs0 rs0) (w_x : (Lit.int .i64 x).wf = true) (w_y : (Lit.int .i64 y).wf = true) (w_u : (Lit.int .i64 u).wf = true) (w_v : (Lit.int .i64 v).wf = true) (w_iq : (Lit.int .i64 iq).wf = true) (htab : TabOk w) :
    Calls Tryd.prog 3 #[.agg #[.int .i64 a, .int .i64 b, .slice a_ts0 len_ts0 cap_ts0], .agg #[.int .i64 a', .int .i64 b', .slice a_rs0 len_rs0 cap_rs0], .int .i64 x, .int .i64 y, .agg #[.int .i64 u, .int .i64 v], .int .i64 iq] w fun e w' => e = .returned (.bool true) ∧ Below w.heap.size w w' := by
  obtain ⟨q, rfl⟩ : ∃ z, z = iq := ⟨_, rfl⟩
  obtain ⟨hr, hlen, hlm, -⟩ := RowAt.of_row w_ts0
  obtain ⟨hr', hlen', hlm', -⟩ := RowAt.of_row w_rs0
  unfold maxLen at hlm hlm'
  generalize ts0.take len_ts0 = ts at hr hlen
  generalize rs0.take len_rs0 = rs at hr' hlen'
  obtain rfl := hlen
  obtain rfl := hlen'
  clear w_ts0 w_rs0
  have HR := Lib.hid hr
  have HR' := Lib.hid hr'
  have HTab := Lib.hid htab
  clear hr hr' htab
  obtain ⟨a_ts, rfl⟩ : ∃ q, q = a_ts0 := ⟨_, rfl⟩
  obtain ⟨a_rs, rfl⟩ : ∃ q, q = a_rs0 := ⟨_, rfl⟩
  obtain ⟨cap_ts, rfl⟩ : ∃ q, q = cap_ts0 := ⟨_, rfl⟩
  obtain ⟨cap_rs, rfl⟩ : ∃ q, q = cap_rs0 := ⟨_, rfl⟩
  by_cases hbig : (1048576 : Int) < (ts.length : Int)
  · go_enter Tryd.func3, Tryd.ntmps3
    go_wp2_with (go_at_call 4; refine (L_szPicture _ _ _ _ _ _ _ (by omega) (by omega)).mono ?_; rintro e w' ⟨rfl, hb⟩; obtain ⟨o1, n1, rfl⟩ := below_adds hb; clear hb; rw [if_pos (by omega)])
    go_returns
    exact ⟨rfl, (by repeat' (first | (with_reducible exact Below.refl _ _) | (with_reducible refine Below.adds_ ?_ ?_ _ _) | (with_reducible refine Below.alloc ?_ ?_ _) | (with_reducible refine Below.drew ?_) | (with_reducible refine Below.setCell ?_ ?_ _) | (with_reducible assumption) | go_size | (simp only [size_addsW, World.size_alloc, World.size_drew, World.size_setCell]; omega)))⟩
  · by_cases hbig2 : (1048576 : Int) - (ts.length : Int) < (rs.length : Int)
    · go_enter Tryd.func3, Tryd.ntmps3
      go_wp2_with (first | (go_at_call 4; (with_reducible refine (L_szPicture a b _ ts.length _ _ _ (by omega) (by omega)).mono ?_); rintro e w' ⟨rfl, hb⟩; obtain ⟨o1, n1, rfl⟩ := below_adds hb; clear hb; rw [if_neg (by omega)]) | (go_at_call 4; refine (L_szPicture _ _ _ _ _ _ _ (by omega) (by omega)).mono ?_; rintro e w' ⟨rfl, hb⟩; obtain ⟨o1, n1, rfl⟩ := below_adds hb; clear hb; rw [if_pos (by omega)]))
      go_returns
      exact ⟨rfl, (by repeat' (first | (with_reducible exact Below.refl _ _) | (with_reducible refine Below.adds_ ?_ ?_ _ _) | (with_reducible refine Below.alloc ?_ ?_ _) | (with_reducible refine Below.drew ?_) | (with_reducible refine Below.setCell ?_ ?_ _) | (with_reducible assumption) | go_size | (simp only [size_addsW, World.size_alloc, World.size_drew, World.size_setCell]; omega)))⟩
    · obtain ⟨zs, hzs⟩ : ∃ zs, zs = imV a b ts a' b' rs x y u v q := ⟨_, rfl⟩
      have HZ := Lib.hid (show zs.length = 71 by rw [hzs, imV_len])
      have CS := Lib.hid (show ∀ W A A' c c', RowAt .i64 W A ts → RowAt .i64 W A' rs → Calls Tryd.prog 5 #[.agg #[.int .i64 a, .int .i64 b, .slice A ts.length c], .agg #[.int .i64 a', .int .i64 b', .slice A' rs.length c'], .int .i64 x, .int .i64 y, .agg #[.int .i64 u, .int .i64 v], .int .i64 q] W fun e w' => e = .returned (.agg (rowI zs)) ∧ Below W.heap.size W w' from fun W A A' c c' h1 h2 => by rw [hzs]; exact S_InterMacro a b a' b' x y u v q A A' c c' ts rs W h1 h2 (by omega) (by omega))
      have CI := Lib.hid (show ∀ W A A' c c', RowAt .i64 W A ts → RowAt .i64 W A' rs → TabOk W → Calls Tryd.prog 8 #[.agg #[.int .i64 a, .int .i64 b, .slice A ts.length c], .agg #[.int .i64 a', .int .i64 b', .slice A' rs.length c'], .int .i64 x, .int .i64 y, .agg #[.int .i64 u, .int .i64 v], .int .i64 q] W fun e w' => e = .returned (.agg (rowI zs)) ∧ Below W.heap.size W w' from fun W A A' c c' h1 h2 h3 => by rw [hzs]; exact I_InterMacro a b a' b' x y u v q A A' c c' ts rs W h1 h2 (by omega) (by omega) h3)
      clear hzs
      go_enter Tryd.func3, Tryd.ntmps3
      go_wp2_with fail
      refine (L_szPicture _ _ _ _ _ _ _ (by omega) (by omega)).mono ?_
      rintro e w' ⟨rfl, hb⟩
      obtain ⟨o1, n1, rfl⟩ := below_adds hb
      clear hb
      rw [if_neg (by omega)]
      go_wp2_with fail
      refine (L_szPicture _ _ _ _ _ _ _ (by omega) (by omega)).mono ?_
      rintro e w' ⟨rfl, hb⟩
      obtain ⟨o2, n2, rfl⟩ := below_adds hb
      clear hb
      rw [if_neg (by omega)]
      go_upto_region 8 with fail
      refine all_add' ?_
      intro B hB
      have hwB : Below w.heap.size w B := hB ▸ (by exact (by repeat' (first | (with_reducible exact Below.refl _ _) | (with_reducible refine Below.adds_ ?_ ?_ _ _) | (with_reducible refine Below.alloc ?_ ?_ _) | (with_reducible refine Below.drew ?_) | (with_reducible refine Below.setCell ?_ ?_ _) | (with_reducible assumption) | go_size | (simp only [size_addsW, World.size_alloc, World.size_drew, World.size_setCell]; omega))))
      have LB := Lib.hid (show Lw w.heap.size a b a_ts ts.length cap_ts a' b' a_rs rs.length cap_rs u v B from hB ▸ ⟨(((Blk.new w _ _ _ rfl).alloc _).alloc _).adds _ _, ((Blk.new _ _ _ _ (by simp)).alloc _).adds _ _, (Blk.new _ _ _ _ (by simp)).adds _ _⟩)
      clear hB
      have HRB := Lib.hid (HR.out.keep hwB)
      have HRB' := Lib.hid (HR'.out.keep hwB)
      have HTB := Lib.hid (HTab.out.keep hwB)
      have HWB := Lib.hid hwB
      have l1 := LB.out.p.lt
      have l2 := LB.out.p'.lt
      have l3 := LB.out.v.lt
      have hwBs := hwB.size
      clear HR HR' HTab hwB
      obtain ⟨c0, c1, c2, c3, c4, c5, c6, c7⟩ := LB.out.cells
      go_cut [14] (fun s14 wx => MaCut B zs s14 wx)
      case first =>
        refine wp_region_held_drew (S := (fun w' => w'.cell? ⟨w.heap.size, 0, none⟩ = some (.int .i64 a) ∧ w'.cell? ⟨w.heap.size, 1, none⟩ = some (.int .i64 b) ∧ w'.cell? ⟨w.heap.size, 2, none⟩ = some (.slice a_ts ts.length cap_ts) ∧ w'.cell? ⟨w.heap.size + 1, 0, none⟩ = some (.int .i64 a') ∧ w'.cell? ⟨w.heap.size + 1, 1, none⟩ = some (.int .i64 b') ∧ w'.cell? ⟨w.heap.size + 1, 2, none⟩ = some (.slice a_rs rs.length cap_rs) ∧ w'.cell? ⟨w.heap.size + 1 + 1, 0, none⟩ = some (.int .i64 u) ∧ w'.cell? ⟨w.heap.size + 1 + 1, 1, none⟩ = some (.int .i64 v))) (by kernel_rfl) ?_ (fun hHeld => ?_)
        · (first | exact (LB.out.below hBW).cells | (go_simp; done) | (go_keep; done))
        refine wpAnyH_take (i := 0) (oi := _) (v := ?_) rfl (by kernel_rfl) (by kernel_rfl) (by kernel_rfl) (fun _ _ _ h => h) (Or.inl ⟨by rfl, ?_⟩) (by assumption) ?_
        rotate_left
        · intro w hSw; (try dsimp only at hSw); go_simp; (try with_reducible rfl)
        try dsimp only [List.getElem_toArray, List.getElem_cons_succ, List.getElem_cons_zero]
        simp only [Act.put, List.setIfInBounds_toArray, List.set_cons_zero, List.set_cons_succ]
        refine wpAnyH_take (i := 2) (oi := _) (v := ?_) rfl (by kernel_rfl) (by kernel_rfl) (by kernel_rfl) (fun _ _ _ h => h) (Or.inl ⟨by rfl, ?_⟩) (by assumption) ?_
        rotate_left
        · intro w hSw; (try dsimp only at hSw); go_simp; (try with_reducible rfl)
        try dsimp only [List.getElem_toArray, List.getElem_cons_succ, List.getElem_cons_zero]
        simp only [Act.put, List.setIfInBounds_toArray, List.set_cons_zero, List.set_cons_succ]
        refine wpAnyH_take (i := 4) (oi := _) (v := ?_) rfl (by kernel_rfl) (by kernel_rfl) (by kernel_rfl) (fun _ _ _ h => h) (Or.inl ⟨by rfl, ?_⟩) (by assumption) ?_
        rotate_left
        · intro w hSw; (try dsimp only at hSw); go_simp; (try with_reducible rfl)
        try dsimp only [List.getElem_toArray, List.getElem_cons_succ, List.getElem_cons_zero]
        simp only [Act.put, List.setIfInBounds_toArray, List.set_cons_zero, List.set_cons_succ]
        refine wpAnyH_take (i := 5) (oi := _) (v := ?_) rfl (by kernel_rfl) (by kernel_rfl) (by kernel_rfl) (fun _ _ _ h => h) (Or.inl ⟨by rfl, ?_⟩) (by assumption) ?_
        rotate_left
        · intro w hSw; (try dsimp only at hSw); go_simp; (try with_reducible rfl)
        try dsimp only [List.getElem_toArray, List.getElem_cons_succ, List.getElem_cons_zero]
        simp only [Act.put, List.setIfInBounds_toArray, List.set_cons_zero, List.set_cons_succ]
        refine wpAnyH_take (i := 6) (oi := _) (v := ?_) rfl (by kernel_rfl) (by kernel_rfl) (by kernel_rfl) (fun _ _ _ h => h) (Or.inl ⟨by rfl, ?_⟩) (by assumption) ?_
        rotate_left
        · intro w hSw; (try dsimp only at hSw); go_simp; (try with_reducible rfl)
        try dsimp only [List.getElem_toArray, List.getElem_cons_succ, List.getElem_cons_zero]
        simp only [Act.put, List.setIfInBounds_toArray, List.set_cons_zero, List.set_cons_succ]
        refine wpAnyH_take (i := 8) (oi := _) (v := ?_) rfl (by kernel_rfl) (by kernel_rfl) (by kernel_rfl) (fun _ _ _ h => h) (Or.inl ⟨by rfl, ?_⟩) (by assumption) ?_
        rotate_left
        · intro w hSw; (try dsimp only at hSw); go_simp; (try with_reducible rfl)
        try dsimp only [List.getElem_toArray, List.getElem_cons_succ, List.getElem_cons_zero]
        simp only [Act.put, List.setIfInBounds_toArray, List.set_cons_zero, List.set_cons_succ]
        refine wpAnyH_ready (rs := [1, 10]) (by kernel_rfl) (by simp) ?_
        refine AllReadyH.cons (o := _) rfl (fun K hK => ?_) ?_
        · (try dsimp only [List.getElem_toArray, List.getElem_cons_succ, List.getElem_cons_zero]); go_simp
          (first | (go_at_call 6; (with_reducible refine (L_toPicture a b _ _ ts _ (HRB.out.keep (by repeat' (first | (with_reducible exact Below.refl _ _) | (with_reducible refine Below.adds_ ?_ ?_ _ _) | (with_reducible refine Below.alloc ?_ ?_ _) | (with_reducible refine Below.drew ?_) | (with_reducible refine Below.setCell ?_ ?_ _) | (with_reducible assumption) | go_size | (simp only [size_addsW, World.size_alloc, World.size_drew, World.size_setCell]; omega)))) (by omega)).mono ?_); rintro e w' ⟨g1, rfl, hrb, -, hb⟩; obtain ⟨q1, m1, rfl⟩ := below_adds hb; clear hb; (try simp only [adds_addsW, Array.append_assoc] at hrb); have HP1 := Lib.hid hrb; clear hrb) | (go_at_call 6; (with_reducible refine (L_toPicture a' b' _ _ rs _ (HRB'.out.keep (by repeat' (first | (with_reducible exact Below.refl _ _) | (with_reducible refine Below.adds_ ?_ ?_ _ _) | (with_reducible refine Below.alloc ?_ ?_ _) | (with_reducible refine Below.drew ?_) | (with_reducible refine Below.setCell ?_ ?_ _) | (with_reducible assumption) | go_size | (simp only [size_addsW, World.size_alloc, World.size_drew, World.size_setCell]; omega)))) (by omega)).mono ?_); rintro e w' ⟨g2, rfl, hrb, -, hb⟩; obtain ⟨q2, m2, rfl⟩ := below_adds hb; clear hb; (try simp only [adds_addsW, Array.append_assoc] at hrb); have HP2 := Lib.hid hrb; clear hrb) | (go_at_call 7; refine (L_toVector _ _ _).mono ?_; rintro e w' ⟨rfl, hb⟩; obtain ⟨qv, mv, rfl⟩ := below_adds hb; clear hb) | (go_at_call 5; refine (CS.out _ _ _ _ _ (HP1.out.keep (by first | (with_reducible exact Below.refl _ _) | (simp only [alloc_addsW, adds_addsW, Array.push_eq_append, ← Array.append_assoc]; first | (with_reducible exact Below.refl _ _) | exact below_more _ _ _ _ _ | exact below_more2 _ _ _ _ _ _ | exact below_more3 _ _ _ _ _ _ _))) (HP2.out.keep (by first | (with_reducible exact Below.refl _ _) | (simp only [alloc_addsW, adds_addsW, Array.push_eq_append, ← Array.append_assoc]; first | (with_reducible exact Below.refl _ _) | exact below_more _ _ _ _ _ | exact below_more2 _ _ _ _ _ _ | exact below_more3 _ _ _ _ _ _ _)))).mono ?_; rintro e w' ⟨rfl, hb⟩; obtain ⟨q5, m5, rfl⟩ := below_adds hb; clear hb))
          try go_wp2_with fail
          refine hK.out _ _ ?_ (fun hHeld => ?_)
          · (first | exact (LB.out.below hBW).cells | (go_simp; done) | (go_keep; done))
          clear hK K
          try simp only [Act.put, List.setIfInBounds_toArray, List.set_cons_zero, List.set_cons_succ]
          refine wpAnyH_ready (rs := [3, 10]) (by kernel_rfl) (by simp) ?_
          refine AllReadyH.cons (o := _) rfl (fun K hK => ?_) ?_
          · (try dsimp only [List.getElem_toArray, List.getElem_cons_succ, List.getElem_cons_zero]); go_simp
            (first | (go_at_call 6; (with_reducible refine (L_toPicture a b _ _ ts _ (HRB.out.keep (by repeat' (first | (with_reducible exact Below.refl _ _) | (with_reducible refine Below.adds_ ?_ ?_ _ _) | (with_reducible refine Below.alloc ?_ ?_ _) | (with_reducible refine Below.drew ?_) | (with_reducible refine Below.setCell ?_ ?_ _) | (with_reducible assumption) | go_size | (simp only [size_addsW, World.size_alloc, World.size_drew, World.size_setCell]; omega)))) (by omega)).mono ?_); rintro e w' ⟨g1, rfl, hrb, -, hb⟩; obtain ⟨q1, m1, rfl⟩ := below_adds hb; clear hb; (try simp only [adds_addsW, Array.append_assoc] at hrb); have HP1 := Lib.hid hrb; clear hrb) | (go_at_call 6; (with_reducible refine (L_toPicture a' b' _ _ rs _ (HRB'.out.keep (by repeat' (first | (with_reducible exact Below.refl _ _) | (with_reducible refine Below.adds_ ?_ ?_ _ _) | (with_reducible refine Below.alloc ?_ ?_ _) | (with_reducible refine Below.drew ?_) | (with_reducible refine Below.setCell ?_ ?_ _) | (with_reducible assumption) | go_size | (simp only [size_addsW, World.size_alloc, World.size_drew, World.size_setCell]; omega)))) (by omega)).mono ?_); rintro e w' ⟨g2, rfl, hrb, -, hb⟩; obtain ⟨q2, m2, rfl⟩ := below_adds hb; clear hb; (try simp only [adds_addsW, Array.append_assoc] at hrb); have HP2 := Lib.hid hrb; clear hrb) | (go_at_call 7; refine (L_toVector _ _ _).mono ?_; rintro e w' ⟨rfl, hb⟩; obtain ⟨qv, mv, rfl⟩ := below_adds hb; clear hb) | (go_at_call 5; refine (CS.out _ _ _ _ _ (HP1.out.keep (by first | (with_reducible exact Below.refl _ _) | (simp only [alloc_addsW, adds_addsW, Array.push_eq_append, ← Array.append_assoc]; first | (with_reducible exact Below.refl _ _) | exact below_more _ _ _ _ _ | exact below_more2 _ _ _ _ _ _ | exact below_more3 _ _ _ _ _ _ _))) (HP2.out.keep (by first | (with_reducible exact Below.refl _ _) | (simp only [alloc_addsW, adds_addsW, Array.push_eq_append, ← Array.append_assoc]; first | (with_reducible exact Below.refl _ _) | exact below_more _ _ _ _ _ | exact below_more2 _ _ _ _ _ _ | exact below_more3 _ _ _ _ _ _ _)))).mono ?_; rintro e w' ⟨rfl, hb⟩; obtain ⟨q5, m5, rfl⟩ := below_adds hb; clear hb))
            try go_wp2_with fail
            refine hK.out _ _ ?_ (fun hHeld => ?_)
            · (first | exact (LB.out.below hBW).cells | (go_simp; done) | (go_keep; done))
            clear hK K
            try simp only [Act.put, List.setIfInBounds_toArray, List.set_cons_zero, List.set_cons_succ]
            refine wpAnyH_ready (rs := [7, 10]) (by kernel_rfl) (by simp) ?_
            refine AllReadyH.cons (o := _) rfl (fun K hK => ?_) ?_
            · (try dsimp only [List.getElem_toArray, List.getElem_cons_succ, List.getElem_cons_zero]); go_simp
              (first | (go_at_call 6; (with_reducible refine (L_toPicture a b _ _ ts _ (HRB.out.keep (by repeat' (first | (with_reducible exact Below.refl _ _) | (with_reducible refine Below.adds_ ?_ ?_ _ _) | (with_reducible refine Below.alloc ?_ ?_ _) | (with_reducible refine Below.drew ?_) | (with_reducible refine Below.setCell ?_ ?_ _) | (with_reducible assumption) | go_size | (simp only [size_addsW, World.size_alloc, World.size_drew, World.size_setCell]; omega)))) (by omega)).mono ?_); rintro e w' ⟨g1, rfl, hrb, -, hb⟩; obtain ⟨q1, m1, rfl⟩ := below_adds hb; clear hb; (try simp only [adds_addsW, Array.append_assoc] at hrb); have HP1 := Lib.hid hrb; clear hrb) | (go_at_call 6; (with_reducible refine (L_toPicture a' b' _ _ rs _ (HRB'.out.keep (by repeat' (first | (with_reducible exact Below.refl _ _) | (with_reducible refine Below.adds_ ?_ ?_ _ _) | (with_reducible refine Below.alloc ?_ ?_ _) | (with_reducible refine Below.drew ?_) | (with_reducible refine Below.setCell ?_ ?_ _) | (with_reducible assumption) | go_size | (simp only [size_addsW, World.size_alloc, World.size_drew, World.size_setCell]; omega)))) (by omega)).mono ?_); rintro e w' ⟨g2, rfl, hrb, -, hb⟩; obtain ⟨q2, m2, rfl⟩ := below_adds hb; clear hb; (try simp only [adds_addsW, Array.append_assoc] at hrb); have HP2 := Lib.hid hrb; clear hrb) | (go_at_call 7; refine (L_toVector _ _ _).mono ?_; rintro e w' ⟨rfl, hb⟩; obtain ⟨qv, mv, rfl⟩ := below_adds hb; clear hb) | (go_at_call 5; refine (CS.out _ _ _ _ _ (HP1.out.keep (by first | (with_reducible exact Below.refl _ _) | (simp only [alloc_addsW, adds_addsW, Array.push_eq_append, ← Array.append_assoc]; first | (with_reducible exact Below.refl _ _) | exact below_more _ _ _ _ _ | exact below_more2 _ _ _ _ _ _ | exact below_more3 _ _ _ _ _ _ _))) (HP2.out.keep (by first | (with_reducible exact Below.refl _ _) | (simp only [alloc_addsW, adds_addsW, Array.push_eq_append, ← Array.append_assoc]; first | (with_reducible exact Below.refl _ _) | exact below_more _ _ _ _ _ | exact below_more2 _ _ _ _ _ _ | exact below_more3 _ _ _ _ _ _ _)))).mono ?_; rintro e w' ⟨rfl, hb⟩; obtain ⟨q5, m5, rfl⟩ := below_adds hb; clear hb))
              try go_wp2_with fail
              refine hK.out _ _ ?_ (fun hHeld => ?_)
              · (first | exact (LB.out.below hBW).cells | (go_simp; done) | (go_keep; done))
              clear hK K
              try simp only [Act.put, List.setIfInBounds_toArray, List.set_cons_zero, List.set_cons_succ]
              refine wpAnyH_ready (rs := [9, 10]) (by kernel_rfl) (by simp) ?_
              refine AllReadyH.cons (o := _) rfl (fun K hK => ?_) ?_
              · (try dsimp only [List.getElem_toArray, List.getElem_cons_succ, List.getElem_cons_zero]); go_simp
                (first | (go_at_call 6; (with_reducible refine (L_toPicture a b _ _ ts _ (HRB.out.keep (by repeat' (first | (with_reducible exact Below.refl _ _) | (with_reducible refine Below.adds_ ?_ ?_ _ _) | (with_reducible refine Below.alloc ?_ ?_ _) | (with_reducible refine Below.drew ?_) | (with_reducible refine Below.setCell ?_ ?_ _) | (with_reducible assumption) | go_size | (simp only [size_addsW, World.size_alloc, World.size_drew, World.size_setCell]; omega)))) (by omega)).mono ?_); rintro e w' ⟨g1, rfl, hrb, -, hb⟩; obtain ⟨q1, m1, rfl⟩ := below_adds hb; clear hb; (try simp only [adds_addsW, Array.append_assoc] at hrb); have HP1 := Lib.hid hrb; clear hrb) | (go_at_call 6; (with_reducible refine (L_toPicture a' b' _ _ rs _ (HRB'.out.keep (by repeat' (first | (with_reducible exact Below.refl _ _) | (with_reducible refine Below.adds_ ?_ ?_ _ _) | (with_reducible refine Below.alloc ?_ ?_ _) | (with_reducible refine Below.drew ?_) | (with_reducible refine Below.setCell ?_ ?_ _) | (with_reducible assumption) | go_size | (simp only [size_addsW, World.size_alloc, World.size_drew, World.size_setCell]; omega)))) (by omega)).mono ?_); rintro e w' ⟨g2, rfl, hrb, -, hb⟩; obtain ⟨q2, m2, rfl⟩ := below_adds hb; clear hb; (try simp only [adds_addsW, Array.append_assoc] at hrb); have HP2 := Lib.hid hrb; clear hrb) | (go_at_call 7; refine (L_toVector _ _ _).mono ?_; rintro e w' ⟨rfl, hb⟩; obtain ⟨qv, mv, rfl⟩ := below_adds hb; clear hb) | (go_at_call 5; refine (CS.out _ _ _ _ _ (HP1.out.keep (by first | (with_reducible exact Below.refl _ _) | (simp only [alloc_addsW, adds_addsW, Array.push_eq_append, ← Array.append_assoc]; first | (with_reducible exact Below.refl _ _) | exact below_more _ _ _ _ _ | exact below_more2 _ _ _ _ _ _ | exact below_more3 _ _ _ _ _ _ _))) (HP2.out.keep (by first | (with_reducible exact Below.refl _ _) | (simp only [alloc_addsW, adds_addsW, Array.push_eq_append, ← Array.append_assoc]; first | (with_reducible exact Below.refl _ _) | exact below_more _ _ _ _ _ | exact below_more2 _ _ _ _ _ _ | exact below_more3 _ _ _ _ _ _ _)))).mono ?_; rintro e w' ⟨rfl, hb⟩; obtain ⟨q5, m5, rfl⟩ := below_adds hb; clear hb))
                try go_wp2_with fail
                refine hK.out _ _ ?_ (fun hHeld => ?_)
                · (first | exact (LB.out.below hBW).cells | (go_simp; done) | (go_keep; done))
                clear hK K
                try simp only [Act.put, List.setIfInBounds_toArray, List.set_cons_zero, List.set_cons_succ]
                refine wpAnyH_ready (rs := [10]) (by kernel_rfl) (by simp) ?_
                refine AllReadyH.cons (o := _) rfl (fun K hK => ?_) ?_
                · (try dsimp only [List.getElem_toArray, List.getElem_cons_succ, List.getElem_cons_zero]); go_simp
                  refine hK.out _ _ ?_ (fun hHeld => ?_)
                  · (first | exact (LB.out.below hBW).cells | (go_simp; done) | (go_keep; done))
                  clear hK K
                  try simp only [Act.put, List.setIfInBounds_toArray, List.set_cons_zero, List.set_cons_succ]
                  refine wpAnyH_ready (rs := [11]) (by kernel_rfl) (by simp) ?_
                  refine AllReadyH.cons (o := _) rfl (fun K hK => ?_) ?_
                  · (try dsimp only [List.getElem_toArray, List.getElem_cons_succ, List.getElem_cons_zero])
                    (rw [if_pos (by rfl)]; (try simp only [zcMac]); refine wp_store_mac (.tmp 14) (.tmp 37) (by with_reducible rfl) _ zs rfl rfl HZ.out B (by exact (by repeat' (first | (with_reducible exact Below.refl _ _) | (with_reducible refine Below.adds_ ?_ ?_ _ _) | (with_reducible refine Below.alloc ?_ ?_ _) | (with_reducible refine Below.drew ?_) | (with_reducible refine Below.setCell ?_ ?_ _) | (with_reducible assumption) | go_size | (simp only [size_addsW, World.size_alloc, World.size_drew, World.size_setCell]; omega)))) (by first | omega | (simp only [size_addsW, World.size_alloc, World.size_drew, Array.size_append]; omega)) (by first | exact Blk.new _ _ _ _ (by first | rfl | (simp only [size_addsW, World.size_alloc, World.size_drew, Array.size_append]; done) | (simp only [size_addsW, World.size_alloc, World.size_drew, Array.size_append]; omega)) | exact (Blk.new _ _ _ _ (by first | rfl | (simp only [size_addsW, World.size_alloc, World.size_drew, Array.size_append]; done) | (simp only [size_addsW, World.size_alloc, World.size_drew, Array.size_append]; omega))).adds _ _) ?_; intro W8 hgB hBW hblk)
                    refine hK.out _ _ ?_ (fun hHeld => ?_)
                    · (first | exact (LB.out.below hBW).cells | (go_simp; done) | (go_keep; done))
                    clear hK K
                    try simp only [Act.put, List.setIfInBounds_toArray, List.set_cons_zero, List.set_cons_succ]
                    refine wpAnyH_done (by kernel_rfl) ?_ _
                    go_wp2_with fail
                    go_meet
                    exact ⟨_, rfl, hgB, hBW, hblk⟩
                  exact AllReadyH.nil
                exact AllReadyH.nil
              refine AllReadyH.cons (o := _) rfl (fun K hK => ?_) ?_
              · (try dsimp only [List.getElem_toArray, List.getElem_cons_succ, List.getElem_cons_zero]); go_simp
                refine hK.out _ _ ?_ (fun hHeld => ?_)
                · (first | exact (LB.out.below hBW).cells | (go_simp; done) | (go_keep; done))
                clear hK K
                try simp only [Act.put, List.setIfInBounds_toArray, List.set_cons_zero, List.set_cons_succ]
                refine wpAnyH_ready (rs := [9]) (by kernel_rfl) (by simp) ?_
                refine AllReadyH.cons (o := _) rfl (fun K hK => ?_) ?_
                · (try dsimp only [List.getElem_toArray, List.getElem_cons_succ, List.getElem_cons_zero]); go_simp
                  (first | (go_at_call 6; (with_reducible refine (L_toPicture a b _ _ ts _ (HRB.out.keep (by repeat' (first | (with_reducible exact Below.refl _ _) | (with_reducible refine Below.adds_ ?_ ?_ _ _) | (with_reducible refine Below.alloc ?_ ?_ _) | (with_reducible refine Below.drew ?_) | (with_reducible refine Below.setCell ?_ ?_ _) | (with_reducible assumption) | go_size | (simp only [size_addsW, World.size_alloc, World.size_drew, World.size_setCell]; omega)))) (by omega)).mono ?_); rintro e w' ⟨g1, rfl, hrb, -, hb⟩; obtain ⟨q1, m1, rfl⟩ := below_adds hb; clear hb; (try simp only [adds_addsW, Array.append_assoc] at hrb); have HP1 := Lib.hid hrb; clear hrb) | (go_at_call 6; (with_reducible refine (L_toPicture a' b' _ _ rs _ (HRB'.out.keep (by repeat' (first | (with_reducible exact Below.refl _ _) | (with_reducible refine Below.adds_ ?_ ?_ _ _) | (with_reducible refine Below.alloc ?_ ?_ _) | (with_reducible refine Below.drew ?_) | (with_reducible refine Below.setCell ?_ ?_ _) | (with_reducible assumption) | go_size | (simp only [size_addsW, World.size_alloc, World.size_drew, World.size_setCell]; omega)))) (by omega)).mono ?_); rintro e w' ⟨g2, rfl, hrb, -, hb⟩; obtain ⟨q2, m2, rfl⟩ := below_adds hb; clear hb; (try simp only [adds_addsW, Array.append_assoc] at hrb); have HP2 := Lib.hid hrb; clear hrb) | (go_at_call 7; refine (L_toVector _ _ _).mono ?_; rintro e w' ⟨rfl, hb⟩; obtain ⟨qv, mv, rfl⟩ := below_adds hb; clear hb) | (go_at_call 5; refine (CS.out _ _ _ _ _ (HP1.out.keep (by first | (with_reducible exact Below.refl _ _) | (simp only [alloc_addsW, adds_addsW, Array.push_eq_append, ← Array.append_assoc]; first | (with_reducible exact Below.refl _ _) | exact below_more _ _ _ _ _ | exact below_more2 _ _ _ _ _ _ | exact below_more3 _ _ _ _ _ _ _))) (HP2.out.keep (by first | (with_reducible exact Below.refl _ _) | (simp only [alloc_addsW, adds_addsW, Array.push_eq_append, ← Array.append_assoc]; first | (with_reducible exact Below.refl _ _) | exact below_more _ _ _ _ _ | exact below_more2 _ _ _ _ _ _ | exact below_more3 _ _ _ _ _ _ _)))).mono ?_; rintro e w' ⟨rfl, hb⟩; obtain ⟨q5, m5, rfl⟩ := below_adds hb; clear hb))
                  try go_wp2_with fail
                  refine hK.out _ _ ?_ (fun hHeld => ?_)
                  · (first | exact (LB.out.below hBW).cells | (go_simp; done) | (go_keep; done))
                  clear hK K
                  try simp only [Act.put, List.setIfInBounds_toArray, List.set_cons_zero, List.set_cons_succ]
                  refine wpAnyH_ready (rs := [11]) (by kernel_rfl) (by simp) ?_
                  refine AllReadyH.cons (o := _) rfl (fun K hK => ?_) ?_
                  · (try dsimp only [List.getElem_toArray, List.getElem_cons_succ, List.getElem_cons_zero])
                    (rw [if_pos (by rfl)]; (try simp only [zcMac]); refine wp_store_mac (.tmp 14) (.tmp 37) (by with_reducible rfl) _ zs rfl rfl HZ.out B (by exact (by repeat' (first | (with_reducible exact Below.refl _ _) | (with_reducible refine Below.adds_ ?_ ?_ _ _) | (with_reducible refine Below.alloc ?_ ?_ _) | (with_reducible refine Below.drew ?_) | (with_reducible refine Below.setCell ?_ ?_ _) | (with_reducible assumption) | go_size | (simp only [size_addsW, World.size_alloc, World.size_drew, World.size_setCell]; omega)))) (by first | omega | (simp only [size_addsW, World.size_alloc, World.size_drew, Array.size_append]; omega)) (by first | exact Blk.new _ _ _ _ (by first | rfl | (simp only [size_addsW, World.size_alloc, World.size_drew, Array.size_append]; done) | (simp only [size_addsW, World.size_alloc, World.size_drew, Array.size_append]; omega)) | exact (Blk.new _ _ _ _ (by first | rfl | (simp only [size_addsW, World.size_alloc, World.size_drew, Array.size_append]; done) | (simp only [size_addsW, World.size_alloc, World.size_drew, Array.size_append]; omega))).adds _ _) ?_; intro W8 hgB hBW hblk)
                    refine hK.out _ _ ?_ (fun hHeld => ?_)
                    · (first | exact (LB.out.below hBW).cells | (go_simp; done) | (go_keep; done))
                    clear hK K
                    try simp only [Act.put, List.setIfInBounds_toArray, List.set_cons_zero, List.set_cons_succ]
                    refine wpAnyH_done (by kernel_rfl) ?_ _
                    go_wp2_with fail
                    go_meet
                    exact ⟨_, rfl, hgB, hBW, hblk⟩
                  exact AllReadyH.nil
                exact AllReadyH.nil
              exact AllReadyH.nil
            refine AllReadyH.cons (o := _) rfl (fun K hK => ?_) ?_
            · (try dsimp only [List.getElem_toArray, List.getElem_cons_succ, List.getElem_cons_zero]); go_simp
              refine hK.out _ _ ?_ (fun hHeld => ?_)
              · (first | exact (LB.out.below hBW).cells | (go_simp; done) | (go_keep; done))
              clear hK K
              try simp only [Act.put, List.setIfInBounds_toArray, List.set_cons_zero, List.set_cons_succ]
              refine wpAnyH_ready (rs := [7]) (by kernel_rfl) (by simp) ?_
              refine AllReadyH.cons (o := _) rfl (fun K hK => ?_) ?_
              · (try dsimp only [List.getElem_toArray, List.getElem_cons_succ, List.getElem_cons_zero]); go_simp
                (first | (go_at_call 6; (with_reducible refine (L_toPicture a b _ _ ts _ (HRB.out.keep (by repeat' (first | (with_reducible exact Below.refl _ _) | (with_reducible refine Below.adds_ ?_ ?_ _ _) | (with_reducible refine Below.alloc ?_ ?_ _) | (with_reducible refine Below.drew ?_) | (with_reducible refine Below.setCell ?_ ?_ _) | (with_reducible assumption) | go_size | (simp only [size_addsW, World.size_alloc, World.size_drew, World.size_setCell]; omega)))) (by omega)).mono ?_); rintro e w' ⟨g1, rfl, hrb, -, hb⟩; obtain ⟨q1, m1, rfl⟩ := below_adds hb; clear hb; (try simp only [adds_addsW, Array.append_assoc] at hrb); have HP1 := Lib.hid hrb; clear hrb) | (go_at_call 6; (with_reducible refine (L_toPicture a' b' _ _ rs _ (HRB'.out.keep (by repeat' (first | (with_reducible exact Below.refl _ _) | (with_reducible refine Below.adds_ ?_ ?_ _ _) | (with_reducible refine Below.alloc ?_ ?_ _) | (with_reducible refine Below.drew ?_) | (with_reducible refine Below.setCell ?_ ?_ _) | (with_reducible assumption) | go_size | (simp only [size_addsW, World.size_alloc, World.size_drew, World.size_setCell]; omega)))) (by omega)).mono ?_); rintro e w' ⟨g2, rfl, hrb, -, hb⟩; obtain ⟨q2, m2, rfl⟩ := below_adds hb; clear hb; (try simp only [adds_addsW, Array.append_assoc] at hrb); have HP2 := Lib.hid hrb; clear hrb) | (go_at_call 7; refine (L_toVector _ _ _).mono ?_; rintro e w' ⟨rfl, hb⟩; obtain ⟨qv, mv, rfl⟩ := below_adds hb; clear hb) | (go_at_call 5; refine (CS.out _ _ _ _ _ (HP1.out.keep (by first | (with_reducible exact Below.refl _ _) | (simp only [alloc_addsW, adds_addsW, Array.push_eq_append, ← Array.append_assoc]; first | (with_reducible exact Below.refl _ _) | exact below_more _ _ _ _ _ | exact below_more2 _ _ _ _ _ _ | exact below_more3 _ _ _ _ _ _ _))) (HP2.out.keep (by first | (with_reducible exact Below.refl _ _) | (simp only [alloc_addsW, adds_addsW, Array.push_eq_append, ← Array.append_assoc]; first | (with_reducible exact Below.refl _ _) | exact below_more _ _ _ _ _ | exact below_more2 _ _ _ _ _ _ | exact below_more3 _ _ _ _ _ _ _)))).mono ?_; rintro e w' ⟨rfl, hb⟩; obtain ⟨q5, m5, rfl⟩ := below_adds hb; clear hb))
                try go_wp2_with fail
                refine hK.out _ _ ?_ (fun hHeld => ?_)
                · (first | exact (LB.out.below hBW).cells | (go_simp; done) | (go_keep; done))
                clear hK K
                try simp only [Act.put, List.setIfInBounds_toArray, List.set_cons_zero, List.set_cons_succ]
                refine wpAnyH_ready (rs := [9]) (by kernel_rfl) (by simp) ?_
                refine AllReadyH.cons (o := _) rfl (fun K hK => ?_) ?_
                · (try dsimp only [List.getElem_toArray, List.getElem_cons_succ, List.getElem_cons_zero]); go_simp
                  (first | (go_at_call 6; (with_reducible refine (L_toPicture a b _ _ ts _ (HRB.out.keep (by repeat' (first | (with_reducible exact Below.refl _ _) | (with_reducible refine Below.adds_ ?_ ?_ _ _) | (with_reducible refine Below.alloc ?_ ?_ _) | (with_reducible refine Below.drew ?_) | (with_reducible refine Below.setCell ?_ ?_ _) | (with_reducible assumption) | go_size | (simp only [size_addsW, World.size_alloc, World.size_drew, World.size_setCell]; omega)))) (by omega)).mono ?_); rintro e w' ⟨g1, rfl, hrb, -, hb⟩; obtain ⟨q1, m1, rfl⟩ := below_adds hb; clear hb; (try simp only [adds_addsW, Array.append_assoc] at hrb); have HP1 := Lib.hid hrb; clear hrb) | (go_at_call 6; (with_reducible refine (L_toPicture a' b' _ _ rs _ (HRB'.out.keep (by repeat' (first | (with_reducible exact Below.refl _ _) | (with_reducible refine Below.adds_ ?_ ?_ _ _) | (with_reducible refine Below.alloc ?_ ?_ _) | (with_reducible refine Below.drew ?_) | (with_reducible refine Below.setCell ?_ ?_ _) | (with_reducible assumption) | go_size | (simp only [size_addsW, World.size_alloc, World.size_drew, World.size_setCell]; omega)))) (by omega)).mono ?_); rintro e w' ⟨g2, rfl, hrb, -, hb⟩; obtain ⟨q2, m2, rfl⟩ := below_adds hb; clear hb; (try simp only [adds_addsW, Array.append_assoc] at hrb); have HP2 := Lib.hid hrb; clear hrb) | (go_at_call 7; refine (L_toVector _ _ _).mono ?_; rintro e w' ⟨rfl, hb⟩; obtain ⟨qv, mv, rfl⟩ := below_adds hb; clear hb) | (go_at_call 5; refine (CS.out _ _ _ _ _ (HP1.out.keep (by first | (with_reducible exact Below.refl _ _) | (simp only [alloc_addsW, adds_addsW, Array.push_eq_append, ← Array.append_assoc]; first | (with_reducible exact Below.refl _ _) | exact below_more _ _ _ _ _ | exact below_more2 _ _ _ _ _ _ | exact below_more3 _ _ _ _ _ _ _))) (HP2.out.keep (by first | (with_reducible exact Below.refl _ _) | (simp only [alloc_addsW, adds_addsW, Array.push_eq_append, ← Array.append_assoc]; first | (with_reducible exact Below.refl _ _) | exact below_more _ _ _ _ _ | exact below_more2 _ _ _ _ _ _ | exact below_more3 _ _ _ _ _ _ _)))).mono ?_; rintro e w' ⟨rfl, hb⟩; obtain ⟨q5, m5, rfl⟩ := below_adds hb; clear hb))
                  try go_wp2_with fail
                  refine hK.out _ _ ?_ (fun hHeld => ?_)
                  · (first | exact (LB.out.below hBW).cells | (go_simp; done) | (go_keep; done))
                  clear hK K
                  try simp only [Act.put, List.setIfInBounds_toArray, List.set_cons_zero, List.set_cons_succ]
                  refine wpAnyH_ready (rs := [11]) (by kernel_rfl) (by simp) ?_
                  refine AllReadyH.cons (o := _) rfl (fun K hK => ?_) ?_
                  · (try dsimp only [List.getElem_toArray, List.getElem_cons_succ, List.getElem_cons_zero])
                    (rw [if_pos (by rfl)]; (try simp only [zcMac]); refine wp_store_mac (.tmp 14) (.tmp 37) (by with_reducible rfl) _ zs rfl rfl HZ.out B (by exact (by repeat' (first | (with_reducible exact Below.refl _ _) | (with_reducible refine Below.adds_ ?_ ?_ _ _) | (with_reducible refine Below.alloc ?_ ?_ _) | (with_reducible refine Below.drew ?_) | (with_reducible refine Below.setCell ?_ ?_ _) | (with_reducible assumption) | go_size | (simp only [size_addsW, World.size_alloc, World.size_drew, World.size_setCell]; omega)))) (by first | omega | (simp only [size_addsW, World.size_alloc, World.size_drew, Array.size_append]; omega)) (by first | exact Blk.new _ _ _ _ (by first | rfl | (simp only [size_addsW, World.size_alloc, World.size_drew, Array.size_append]; done) | (simp only [size_addsW, World.size_alloc, World.size_drew, Array.size_append]; omega)) | exact (Blk.new _ _ _ _ (by first | rfl | (simp only [size_addsW, World.size_alloc, World.size_drew, Array.size_append]; done) | (simp only [size_addsW, World.size_alloc, World.size_drew, Array.size_append]; omega))).adds _ _) ?_; intro W8 hgB hBW hblk)
                    refine hK.out _ _ ?_ (fun hHeld => ?_)
                    · (first | exact (LB.out.below hBW).cells | (go_simp; done) | (go_keep; done))
                    clear hK K
                    try simp only [Act.put, List.setIfInBounds_toArray, List.set_cons_zero, List.set_cons_succ]
                    refine wpAnyH_done (by kernel_rfl) ?_ _
                    go_wp2_with fail
                    go_meet
                    exact ⟨_, rfl, hgB, hBW, hblk⟩
                  exact AllReadyH.nil
                exact AllReadyH.nil
              exact AllReadyH.nil
            exact AllReadyH.nil
          refine AllReadyH.cons (o := _) rfl (fun K hK => ?_) ?_
          · (try dsimp only [List.getElem_toArray, List.getElem_cons_succ, List.getElem_cons_zero]); go_simp
            refine hK.out _ _ ?_ (fun hHeld => ?_)
            · (first | exact (LB.out.below hBW).cells | (go_simp; done) | (go_keep; done))
            clear hK K
            try simp only [Act.put, List.setIfInBounds_toArray, List.set_cons_zero, List.set_cons_succ]
            refine wpAnyH_ready (rs := [3]) (by kernel_rfl) (by simp) ?_
            refine AllReadyH.cons (o := _) rfl (fun K hK => ?_) ?_
            · (try dsimp only [List.getElem_toArray, List.getElem_cons_succ, List.getElem_cons_zero]); go_simp
              (first | (go_at_call 6; (with_reducible refine (L_toPicture a b _ _ ts _ (HRB.out.keep (by repeat' (first | (with_reducible exact Below.refl _ _) | (with_reducible refine Below.adds_ ?_ ?_ _ _) | (with_reducible refine Below.alloc ?_ ?_ _) | (with_reducible refine Below.drew ?_) | (with_reducible refine Below.setCell ?_ ?_ _) | (with_reducible assumption) | go_size | (simp only [size_addsW, World.size_alloc, World.size_drew, World.size_setCell]; omega)))) (by omega)).mono ?_); rintro e w' ⟨g1, rfl, hrb, -, hb⟩; obtain ⟨q1, m1, rfl⟩ := below_adds hb; clear hb; (try simp only [adds_addsW, Array.append_assoc] at hrb); have HP1 := Lib.hid hrb; clear hrb) | (go_at_call 6; (with_reducible refine (L_toPicture a' b' _ _ rs _ (HRB'.out.keep (by repeat' (first | (with_reducible exact Below.refl _ _) | (with_reducible refine Below.adds_ ?_ ?_ _ _) | (with_reducible refine Below.alloc ?_ ?_ _) | (with_reducible refine Below.drew ?_) | (with_reducible refine Below.setCell ?_ ?_ _) | (with_reducible assumption) | go_size | (simp only [size_addsW, World.size_alloc, World.size_drew, World.size_setCell]; omega)))) (by omega)).mono ?_); rintro e w' ⟨g2, rfl, hrb, -, hb⟩; obtain ⟨q2, m2, rfl⟩ := below_adds hb; clear hb; (try simp only [adds_addsW, Array.append_assoc] at hrb); have HP2 := Lib.hid hrb; clear hrb) | (go_at_call 7; refine (L_toVector _ _ _).mono ?_; rintro e w' ⟨rfl, hb⟩; obtain ⟨qv, mv, rfl⟩ := below_adds hb; clear hb) | (go_at_call 5; refine (CS.out _ _ _ _ _ (HP1.out.keep (by first | (with_reducible exact Below.refl _ _) | (simp only [alloc_addsW, adds_addsW, Array.push_eq_append, ← Array.append_assoc]; first | (with_reducible exact Below.refl _ _) | exact below_more _ _ _ _ _ | exact below_more2 _ _ _ _ _ _ | exact below_more3 _ _ _ _ _ _ _))) (HP2.out.keep (by first | (with_reducible exact Below.refl _ _) | (simp only [alloc_addsW, adds_addsW, Array.push_eq_append, ← Array.append_assoc]; first | (with_reducible exact Below.refl _ _) | exact below_more _ _ _ _ _ | exact below_more2 _ _ _ _ _ _ | exact below_more3 _ _ _ _ _ _ _)))).mono ?_; rintro e w' ⟨rfl, hb⟩; obtain ⟨q5, m5, rfl⟩ := below_adds hb; clear hb))
              try go_wp2_with fail
              refine hK.out _ _ ?_ (fun hHeld => ?_)
              · (first | exact (LB.out.below hBW).cells | (go_simp; done) | (go_keep; done))
              clear hK K
              try simp only [Act.put, List.setIfInBounds_toArray, List.set_cons_zero, List.set_cons_succ]
              refine wpAnyH_ready (rs := [7]) (by kernel_rfl) (by simp) ?_
              refine AllReadyH.cons (o := _) rfl (fun K hK => ?_) ?_
              · (try dsimp only [List.getElem_toArray, List.getElem_cons_succ, List.getElem_cons_zero]); go_simp
                (first | (go_at_call 6; (with_reducible refine (L_toPicture a b _ _ ts _ (HRB.out.keep (by repeat' (first | (with_reducible exact Below.refl _ _) | (with_reducible refine Below.adds_ ?_ ?_ _ _) | (with_reducible refine Below.alloc ?_ ?_ _) | (with_reducible refine Below.drew ?_) | (with_reducible refine Below.setCell ?_ ?_ _) | (with_reducible assumption) | go_size | (simp only [size_addsW, World.size_alloc, World.size_drew, World.size_setCell]; omega)))) (by omega)).mono ?_); rintro e w' ⟨g1, rfl, hrb, -, hb⟩; obtain ⟨q1, m1, rfl⟩ := below_adds hb; clear hb; (try simp only [adds_addsW, Array.append_assoc] at hrb); have HP1 := Lib.hid hrb; clear hrb) | (go_at_call 6; (with_reducible refine (L_toPicture a' b' _ _ rs _ (HRB'.out.keep (by repeat' (first | (with_reducible exact Below.refl _ _) | (with_reducible refine Below.adds_ ?_ ?_ _ _) | (with_reducible refine Below.alloc ?_ ?_ _) | (with_reducible refine Below.drew ?_) | (with_reducible refine Below.setCell ?_ ?_ _) | (with_reducible assumption) | go_size | (simp only [size_addsW, World.size_alloc, World.size_drew, World.size_setCell]; omega)))) (by omega)).mono ?_); rintro e w' ⟨g2, rfl, hrb, -, hb⟩; obtain ⟨q2, m2, rfl⟩ := below_adds hb; clear hb; (try simp only [adds_addsW, Array.append_assoc] at hrb); have HP2 := Lib.hid hrb; clear hrb) | (go_at_call 7; refine (L_toVector _ _ _).mono ?_; rintro e w' ⟨rfl, hb⟩; obtain ⟨qv, mv, rfl⟩ := below_adds hb; clear hb) | (go_at_call 5; refine (CS.out _ _ _ _ _ (HP1.out.keep (by first | (with_reducible exact Below.refl _ _) | (simp only [alloc_addsW, adds_addsW, Array.push_eq_append, ← Array.append_assoc]; first | (with_reducible exact Below.refl _ _) | exact below_more _ _ _ _ _ | exact below_more2 _ _ _ _ _ _ | exact below_more3 _ _ _ _ _ _ _))) (HP2.out.keep (by first | (with_reducible exact Below.refl _ _) | (simp only [alloc_addsW, adds_addsW, Array.push_eq_append, ← Array.append_assoc]; first | (with_reducible exact Below.refl _ _) | exact below_more _ _ _ _ _ | exact below_more2 _ _ _ _ _ _ | exact below_more3 _ _ _ _ _ _ _)))).mono ?_; rintro e w' ⟨rfl, hb⟩; obtain ⟨q5, m5, rfl⟩ := below_adds hb; clear hb))
                try go_wp2_with fail
                refine hK.out _ _ ?_ (fun hHeld => ?_)
                · (first | exact (LB.out.below hBW).cells | (go_simp; done) | (go_keep; done))
                clear hK K
                try simp only [Act.put, List.setIfInBounds_toArray, List.set_cons_zero, List.set_cons_succ]
                refine wpAnyH_ready (rs := [9]) (by kernel_rfl) (by simp) ?_
                refine AllReadyH.cons (o := _) rfl (fun K hK => ?_) ?_
                · (try dsimp only [List.getElem_toArray, List.getElem_cons_succ, List.getElem_cons_zero]); go_simp
                  (first | (go_at_call 6; (with_reducible refine (L_toPicture a b _ _ ts _ (HRB.out.keep (by repeat' (first | (with_reducible exact Below.refl _ _) | (with_reducible refine Below.adds_ ?_ ?_ _ _) | (with_reducible refine Below.alloc ?_ ?_ _) | (with_reducible refine Below.drew ?_) | (with_reducible refine Below.setCell ?_ ?_ _) | (with_reducible assumption) | go_size | (simp only [size_addsW, World.size_alloc, World.size_drew, World.size_setCell]; omega)))) (by omega)).mono ?_); rintro e w' ⟨g1, rfl, hrb, -, hb⟩; obtain ⟨q1, m1, rfl⟩ := below_adds hb; clear hb; (try simp only [adds_addsW, Array.append_assoc] at hrb); have HP1 := Lib.hid hrb; clear hrb) | (go_at_call 6; (with_reducible refine (L_toPicture a' b' _ _ rs _ (HRB'.out.keep (by repeat' (first | (with_reducible exact Below.refl _ _) | (with_reducible refine Below.adds_ ?_ ?_ _ _) | (with_reducible refine Below.alloc ?_ ?_ _) | (with_reducible refine Below.drew ?_) | (with_reducible refine Below.setCell ?_ ?_ _) | (with_reducible assumption) | go_size | (simp only [size_addsW, World.size_alloc, World.size_drew, World.size_setCell]; omega)))) (by omega)).mono ?_); rintro e w' ⟨g2, rfl, hrb, -, hb⟩; obtain ⟨q2, m2, rfl⟩ := below_adds hb; clear hb; (try simp only [adds_addsW, Array.append_assoc] at hrb); have HP2 := Lib.hid hrb; clear hrb) | (go_at_call 7; refine (L_toVector _ _ _).mono ?_; rintro e w' ⟨rfl, hb⟩; obtain ⟨qv, mv, rfl⟩ := below_adds hb; clear hb) | (go_at_call 5; refine (CS.out _ _ _ _ _ (HP1.out.keep (by first | (with_reducible exact Below.refl _ _) | (simp only [alloc_addsW, adds_addsW, Array.push_eq_append, ← Array.append_assoc]; first | (with_reducible exact Below.refl _ _) | exact below_more _ _ _ _ _ | exact below_more2 _ _ _ _ _ _ | exact below_more3 _ _ _ _ _ _ _))) (HP2.out.keep (by first | (with_reducible exact Below.refl _ _) | (simp only [alloc_addsW, adds_addsW, Array.push_eq_append, ← Array.append_assoc]; first | (with_reducible exact Below.refl _ _) | exact below_more _ _ _ _ _ | exact below_more2 _ _ _ _ _ _ | exact below_more3 _ _ _ _ _ _ _)))).mono ?_; rintro e w' ⟨rfl, hb⟩; obtain ⟨q5, m5, rfl⟩ := below_adds hb; clear hb))
                  try go_wp2_with fail
                  refine hK.out _ _ ?_ (fun hHeld => ?_)
                  · (first | exact (LB.out.below hBW).cells | (go_simp; done) | (go_keep; done))
                  clear hK K
                  try simp only [Act.put, List.setIfInBounds_toArray, List.set_cons_zero, List.set_cons_succ]
                  refine wpAnyH_ready (rs := [11]) (by kernel_rfl) (by simp) ?_
                  refine AllReadyH.cons (o := _) rfl (fun K hK => ?_) ?_
                  · (try dsimp only [List.getElem_toArray, List.getElem_cons_succ, List.getElem_cons_zero])
                    (rw [if_pos (by rfl)]; (try simp only [zcMac]); refine wp_store_mac (.tmp 14) (.tmp 37) (by with_reducible rfl) _ zs rfl rfl HZ.out B (by exact (by repeat' (first | (with_reducible exact Below.refl _ _) | (with_reducible refine Below.adds_ ?_ ?_ _ _) | (with_reducible refine Below.alloc ?_ ?_ _) | (with_reducible refine Below.drew ?_) | (with_reducible refine Below.setCell ?_ ?_ _) | (with_reducible assumption) | go_size | (simp only [size_addsW, World.size_alloc, World.size_drew, World.size_setCell]; omega)))) (by first | omega | (simp only [size_addsW, World.size_alloc, World.size_drew, Array.size_append]; omega)) (by first | exact Blk.new _ _ _ _ (by first | rfl | (simp only [size_addsW, World.size_alloc, World.size_drew, Array.size_append]; done) | (simp only [size_addsW, World.size_alloc, World.size_drew, Array.size_append]; omega)) | exact (Blk.new _ _ _ _ (by first | rfl | (simp only [size_addsW, World.size_alloc, World.size_drew, Array.size_append]; done) | (simp only [size_addsW, World.size_alloc, World.size_drew, Array.size_append]; omega))).adds _ _) ?_; intro W8 hgB hBW hblk)
                    refine hK.out _ _ ?_ (fun hHeld => ?_)
                    · (first | exact (LB.out.below hBW).cells | (go_simp; done) | (go_keep; done))
                    clear hK K
                    try simp only [Act.put, List.setIfInBounds_toArray, List.set_cons_zero, List.set_cons_succ]
                    refine wpAnyH_done (by kernel_rfl) ?_ _
                    go_wp2_with fail
                    go_meet
                    exact ⟨_, rfl, hgB, hBW, hblk⟩
                  exact AllReadyH.nil
                exact AllReadyH.nil
              exact AllReadyH.nil
            exact AllReadyH.nil
          exact AllReadyH.nil
        refine AllReadyH.cons (o := _) rfl (fun K hK => ?_) ?_
        · (try dsimp only [List.getElem_toArray, List.getElem_cons_succ, List.getElem_cons_zero]); go_simp
          refine hK.out _ _ ?_ (fun hHeld => ?_)
          · (first | exact (LB.out.below hBW).cells | (go_simp; done) | (go_keep; done))
          clear hK K
          try simp only [Act.put, List.setIfInBounds_toArray, List.set_cons_zero, List.set_cons_succ]
          refine wpAnyH_ready (rs := [1]) (by kernel_rfl) (by simp) ?_
          refine AllReadyH.cons (o := _) rfl (fun K hK => ?_) ?_
          · (try dsimp only [List.getElem_toArray, List.getElem_cons_succ, List.getElem_cons_zero]); go_simp
            (first | (go_at_call 6; (with_reducible refine (L_toPicture a b _ _ ts _ (HRB.out.keep (by repeat' (first | (with_reducible exact Below.refl _ _) | (with_reducible refine Below.adds_ ?_ ?_ _ _) | (with_reducible refine Below.alloc ?_ ?_ _) | (with_reducible refine Below.drew ?_) | (with_reducible refine Below.setCell ?_ ?_ _) | (with_reducible assumption) | go_size | (simp only [size_addsW, World.size_alloc, World.size_drew, World.size_setCell]; omega)))) (by omega)).mono ?_); rintro e w' ⟨g1, rfl, hrb, -, hb⟩; obtain ⟨q1, m1, rfl⟩ := below_adds hb; clear hb; (try simp only [adds_addsW, Array.append_assoc] at hrb); have HP1 := Lib.hid hrb; clear hrb) | (go_at_call 6; (with_reducible refine (L_toPicture a' b' _ _ rs _ (HRB'.out.keep (by repeat' (first | (with_reducible exact Below.refl _ _) | (with_reducible refine Below.adds_ ?_ ?_ _ _) | (with_reducible refine Below.alloc ?_ ?_ _) | (with_reducible refine Below.drew ?_) | (with_reducible refine Below.setCell ?_ ?_ _) | (with_reducible assumption) | go_size | (simp only [size_addsW, World.size_alloc, World.size_drew, World.size_setCell]; omega)))) (by omega)).mono ?_); rintro e w' ⟨g2, rfl, hrb, -, hb⟩; obtain ⟨q2, m2, rfl⟩ := below_adds hb; clear hb; (try simp only [adds_addsW, Array.append_assoc] at hrb); have HP2 := Lib.hid hrb; clear hrb) | (go_at_call 7; refine (L_toVector _ _ _).mono ?_; rintro e w' ⟨rfl, hb⟩; obtain ⟨qv, mv, rfl⟩ := below_adds hb; clear hb) | (go_at_call 5; refine (CS.out _ _ _ _ _ (HP1.out.keep (by first | (with_reducible exact Below.refl _ _) | (simp only [alloc_addsW, adds_addsW, Array.push_eq_append, ← Array.append_assoc]; first | (with_reducible exact Below.refl _ _) | exact below_more _ _ _ _ _ | exact below_more2 _ _ _ _ _ _ | exact below_more3 _ _ _ _ _ _ _))) (HP2.out.keep (by first | (with_reducible exact Below.refl _ _) | (simp only [alloc_addsW, adds_addsW, Array.push_eq_append, ← Array.append_assoc]; first | (with_reducible exact Below.refl _ _) | exact below_more _ _ _ _ _ | exact below_more2 _ _ _ _ _ _ | exact below_more3 _ _ _ _ _ _ _)))).mono ?_; rintro e w' ⟨rfl, hb⟩; obtain ⟨q5, m5, rfl⟩ := below_adds hb; clear hb))
            try go_wp2_with fail
            refine hK.out _ _ ?_ (fun hHeld => ?_)
            · (first | exact (LB.out.below hBW).cells | (go_simp; done) | (go_keep; done))
            clear hK K
            try simp only [Act.put, List.setIfInBounds_toArray, List.set_cons_zero, List.set_cons_succ]
            refine wpAnyH_ready (rs := [3]) (by kernel_rfl) (by simp) ?_
            refine AllReadyH.cons (o := _) rfl (fun K hK => ?_) ?_
            · (try dsimp only [List.getElem_toArray, List.getElem_cons_succ, List.getElem_cons_zero]); go_simp
              (first | (go_at_call 6; (with_reducible refine (L_toPicture a b _ _ ts _ (HRB.out.keep (by repeat' (first | (with_reducible exact Below.refl _ _) | (with_reducible refine Below.adds_ ?_ ?_ _ _) | (with_reducible refine Below.alloc ?_ ?_ _) | (with_reducible refine Below.drew ?_) | (with_reducible refine Below.setCell ?_ ?_ _) | (with_reducible assumption) | go_size | (simp only [size_addsW, World.size_alloc, World.size_drew, World.size_setCell]; omega)))) (by omega)).mono ?_); rintro e w' ⟨g1, rfl, hrb, -, hb⟩; obtain ⟨q1, m1, rfl⟩ := below_adds hb; clear hb; (try simp only [adds_addsW, Array.append_assoc] at hrb); have HP1 := Lib.hid hrb; clear hrb) | (go_at_call 6; (with_reducible refine (L_toPicture a' b' _ _ rs _ (HRB'.out.keep (by repeat' (first | (with_reducible exact Below.refl _ _) | (with_reducible refine Below.adds_ ?_ ?_ _ _) | (with_reducible refine Below.alloc ?_ ?_ _) | (with_reducible refine Below.drew ?_) | (with_reducible refine Below.setCell ?_ ?_ _) | (with_reducible assumption) | go_size | (simp only [size_addsW, World.size_alloc, World.size_drew, World.size_setCell]; omega)))) (by omega)).mono ?_); rintro e w' ⟨g2, rfl, hrb, -, hb⟩; obtain ⟨q2, m2, rfl⟩ := below_adds hb; clear hb; (try simp only [adds_addsW, Array.append_assoc] at hrb); have HP2 := Lib.hid hrb; clear hrb) | (go_at_call 7; refine (L_toVector _ _ _).mono ?_; rintro e w' ⟨rfl, hb⟩; obtain ⟨qv, mv, rfl⟩ := below_adds hb; clear hb) | (go_at_call 5; refine (CS.out _ _ _ _ _ (HP1.out.keep (by first | (with_reducible exact Below.refl _ _) | (simp only [alloc_addsW, adds_addsW, Array.push_eq_append, ← Array.append_assoc]; first | (with_reducible exact Below.refl _ _) | exact below_more _ _ _ _ _ | exact below_more2 _ _ _ _ _ _ | exact below_more3 _ _ _ _ _ _ _))) (HP2.out.keep (by first | (with_reducible exact Below.refl _ _) | (simp only [alloc_addsW, adds_addsW, Array.push_eq_append, ← Array.append_assoc]; first | (with_reducible exact Below.refl _ _) | exact below_more _ _ _ _ _ | exact below_more2 _ _ _ _ _ _ | exact below_more3 _ _ _ _ _ _ _)))).mono ?_; rintro e w' ⟨rfl, hb⟩; obtain ⟨q5, m5, rfl⟩ := below_adds hb; clear hb))
              try go_wp2_with fail
              refine hK.out _ _ ?_ (fun hHeld => ?_)
              · (first | exact (LB.out.below hBW).cells | (go_simp; done) | (go_keep; done))
              clear hK K
              try simp only [Act.put, List.setIfInBounds_toArray, List.set_cons_zero, List.set_cons_succ]
              refine wpAnyH_ready (rs := [7]) (by kernel_rfl) (by simp) ?_
              refine AllReadyH.cons (o := _) rfl (fun K hK => ?_) ?_
              · (try dsimp only [List.getElem_toArray, List.getElem_cons_succ, List.getElem_cons_zero]); go_simp
                (first | (go_at_call 6; (with_reducible refine (L_toPicture a b _ _ ts _ (HRB.out.keep (by repeat' (first | (with_reducible exact Below.refl _ _) | (with_reducible refine Below.adds_ ?_ ?_ _ _) | (with_reducible refine Below.alloc ?_ ?_ _) | (with_reducible refine Below.drew ?_) | (with_reducible refine Below.setCell ?_ ?_ _) | (with_reducible assumption) | go_size | (simp only [size_addsW, World.size_alloc, World.size_drew, World.size_setCell]; omega)))) (by omega)).mono ?_); rintro e w' ⟨g1, rfl, hrb, -, hb⟩; obtain ⟨q1, m1, rfl⟩ := below_adds hb; clear hb; (try simp only [adds_addsW, Array.append_assoc] at hrb); have HP1 := Lib.hid hrb; clear hrb) | (go_at_call 6; (with_reducible refine (L_toPicture a' b' _ _ rs _ (HRB'.out.keep (by repeat' (first | (with_reducible exact Below.refl _ _) | (with_reducible refine Below.adds_ ?_ ?_ _ _) | (with_reducible refine Below.alloc ?_ ?_ _) | (with_reducible refine Below.drew ?_) | (with_reducible refine Below.setCell ?_ ?_ _) | (with_reducible assumption) | go_size | (simp only [size_addsW, World.size_alloc, World.size_drew, World.size_setCell]; omega)))) (by omega)).mono ?_); rintro e w' ⟨g2, rfl, hrb, -, hb⟩; obtain ⟨q2, m2, rfl⟩ := below_adds hb; clear hb; (try simp only [adds_addsW, Array.append_assoc] at hrb); have HP2 := Lib.hid hrb; clear hrb) | (go_at_call 7; refine (L_toVector _ _ _).mono ?_; rintro e w' ⟨rfl, hb⟩; obtain ⟨qv, mv, rfl⟩ := below_adds hb; clear hb) | (go_at_call 5; refine (CS.out _ _ _ _ _ (HP1.out.keep (by first | (with_reducible exact Below.refl _ _) | (simp only [alloc_addsW, adds_addsW, Array.push_eq_append, ← Array.append_assoc]; first | (with_reducible exact Below.refl _ _) | exact below_more _ _ _ _ _ | exact below_more2 _ _ _ _ _ _ | exact below_more3 _ _ _ _ _ _ _))) (HP2.out.keep (by first | (with_reducible exact Below.refl _ _) | (simp only [alloc_addsW, adds_addsW, Array.push_eq_append, ← Array.append_assoc]; first | (with_reducible exact Below.refl _ _) | exact below_more _ _ _ _ _ | exact below_more2 _ _ _ _ _ _ | exact below_more3 _ _ _ _ _ _ _)))).mono ?_; rintro e w' ⟨rfl, hb⟩; obtain ⟨q5, m5, rfl⟩ := below_adds hb; clear hb))
                try go_wp2_with fail
                refine hK.out _ _ ?_ (fun hHeld => ?_)
                · (first | exact (LB.out.below hBW).cells | (go_simp; done) | (go_keep; done))
                clear hK K
                try simp only [Act.put, List.setIfInBounds_toArray, List.set_cons_zero, List.set_cons_succ]
                refine wpAnyH_ready (rs := [9]) (by kernel_rfl) (by simp) ?_
                refine AllReadyH.cons (o := _) rfl (fun K hK => ?_) ?_
                · (try dsimp only [List.getElem_toArray, List.getElem_cons_succ, List.getElem_cons_zero]); go_simp
                  (first | (go_at_call 6; (with_reducible refine (L_toPicture a b _ _ ts _ (HRB.out.keep (by repeat' (first | (with_reducible exact Below.refl _ _) | (with_reducible refine Below.adds_ ?_ ?_ _ _) | (with_reducible refine Below.alloc ?_ ?_ _) | (with_reducible refine Below.drew ?_) | (with_reducible refine Below.setCell ?_ ?_ _) | (with_reducible assumption) | go_size | (simp only [size_addsW, World.size_alloc, World.size_drew, World.size_setCell]; omega)))) (by omega)).mono ?_); rintro e w' ⟨g1, rfl, hrb, -, hb⟩; obtain ⟨q1, m1, rfl⟩ := below_adds hb; clear hb; (try simp only [adds_addsW, Array.append_assoc] at hrb); have HP1 := Lib.hid hrb; clear hrb) | (go_at_call 6; (with_reducible refine (L_toPicture a' b' _ _ rs _ (HRB'.out.keep (by repeat' (first | (with_reducible exact Below.refl _ _) | (with_reducible refine Below.adds_ ?_ ?_ _ _) | (with_reducible refine Below.alloc ?_ ?_ _) | (with_reducible refine Below.drew ?_) | (with_reducible refine Below.setCell ?_ ?_ _) | (with_reducible assumption) | go_size | (simp only [size_addsW, World.size_alloc, World.size_drew, World.size_setCell]; omega)))) (by omega)).mono ?_); rintro e w' ⟨g2, rfl, hrb, -, hb⟩; obtain ⟨q2, m2, rfl⟩ := below_adds hb; clear hb; (try simp only [adds_addsW, Array.append_assoc] at hrb); have HP2 := Lib.hid hrb; clear hrb) | (go_at_call 7; refine (L_toVector _ _ _).mono ?_; rintro e w' ⟨rfl, hb⟩; obtain ⟨qv, mv, rfl⟩ := below_adds hb; clear hb) | (go_at_call 5; refine (CS.out _ _ _ _ _ (HP1.out.keep (by first | (with_reducible exact Below.refl _ _) | (simp only [alloc_addsW, adds_addsW, Array.push_eq_append, ← Array.append_assoc]; first | (with_reducible exact Below.refl _ _) | exact below_more _ _ _ _ _ | exact below_more2 _ _ _ _ _ _ | exact below_more3 _ _ _ _ _ _ _))) (HP2.out.keep (by first | (with_reducible exact Below.refl _ _) | (simp only [alloc_addsW, adds_addsW, Array.push_eq_append, ← Array.append_assoc]; first | (with_reducible exact Below.refl _ _) | exact below_more _ _ _ _ _ | exact below_more2 _ _ _ _ _ _ | exact below_more3 _ _ _ _ _ _ _)))).mono ?_; rintro e w' ⟨rfl, hb⟩; obtain ⟨q5, m5, rfl⟩ := below_adds hb; clear hb))
                  try go_wp2_with fail
                  refine hK.out _ _ ?_ (fun hHeld => ?_)
                  · (first | exact (LB.out.below hBW).cells | (go_simp; done) | (go_keep; done))
                  clear hK K
                  try simp only [Act.put, List.setIfInBounds_toArray, List.set_cons_zero, List.set_cons_succ]
                  refine wpAnyH_ready (rs := [11]) (by kernel_rfl) (by simp) ?_
                  refine AllReadyH.cons (o := _) rfl (fun K hK => ?_) ?_
                  · (try dsimp only [List.getElem_toArray, List.getElem_cons_succ, List.getElem_cons_zero])
                    (rw [if_pos (by rfl)]; (try simp only [zcMac]); refine wp_store_mac (.tmp 14) (.tmp 37) (by with_reducible rfl) _ zs rfl rfl HZ.out B (by exact (by repeat' (first | (with_reducible exact Below.refl _ _) | (with_reducible refine Below.adds_ ?_ ?_ _ _) | (with_reducible refine Below.alloc ?_ ?_ _) | (with_reducible refine Below.drew ?_) | (with_reducible refine Below.setCell ?_ ?_ _) | (with_reducible assumption) | go_size | (simp only [size_addsW, World.size_alloc, World.size_drew, World.size_setCell]; omega)))) (by first | omega | (simp only [size_addsW, World.size_alloc, World.size_drew, Array.size_append]; omega)) (by first | exact Blk.new _ _ _ _ (by first | rfl | (simp only [size_addsW, World.size_alloc, World.size_drew, Array.size_append]; done) | (simp only [size_addsW, World.size_alloc, World.size_drew, Array.size_append]; omega)) | exact (Blk.new _ _ _ _ (by first | rfl | (simp only [size_addsW, World.size_alloc, World.size_drew, Array.size_append]; done) | (simp only [size_addsW, World.size_alloc, World.size_drew, Array.size_append]; omega))).adds _ _) ?_; intro W8 hgB hBW hblk)
                    refine hK.out _ _ ?_ (fun hHeld => ?_)
                    · (first | exact (LB.out.below hBW).cells | (go_simp; done) | (go_keep; done))
                    clear hK K
                    try simp only [Act.put, List.setIfInBounds_toArray, List.set_cons_zero, List.set_cons_succ]
                    refine wpAnyH_done (by kernel_rfl) ?_ _
                    go_wp2_with fail
                    go_meet
                    exact ⟨_, rfl, hgB, hBW, hblk⟩
                  exact AllReadyH.nil
                exact AllReadyH.nil
              exact AllReadyH.nil
            exact AllReadyH.nil
          exact AllReadyH.nil
        exact AllReadyH.nil
      case rest =>
        obtain ⟨g, rfl, hgB, hBc, hblk⟩ := hcut
        clear c0 c1 c2 c3 c4 c5 c6 c7 l1 l2 l3
        have LC := Lib.hid (LB.out.below hBc)
        have HRC := Lib.hid (HRB.out.keep hBc)
        have HRC' := Lib.hid (HRB'.out.keep hBc)
        have HTC := Lib.hid (HTB.out.keep hBc)
        have HWC := Lib.hid (HWB.out.trans (hBc.mono hwBs))
        have HK := Lib.hid hblk
        clear HRB HRB' HTB HWB LB hBc hblk hgB hwBs
        have hzX := HWC.out.size
        have lg := HK.out.lt
        have l1 := LC.out.p.lt
        have l2 := LC.out.p'.lt
        have l3 := LC.out.v.lt
        obtain ⟨c0, c1, c2, c3, c4, c5, c6, c7⟩ := LC.out.cells
        go_wp2_with fail
        refine (L_toPicture a b _ _ ts _ (HRC.out.keep (by repeat' (first | (with_reducible exact Below.refl _ _) | (with_reducible refine Below.adds_ ?_ ?_ _ _) | (with_reducible refine Below.alloc ?_ ?_ _) | (with_reducible refine Below.drew ?_) | (with_reducible refine Below.setCell ?_ ?_ _) | (with_reducible assumption) | go_size | (simp only [size_addsW, World.size_alloc, World.size_drew, World.size_setCell]; omega)))) (by omega)).mono ?_
        rintro e w' ⟨g1, rfl, hrb, -, hb⟩
        obtain ⟨q1, m1, rfl⟩ := below_adds hb
        have HX0 := Lib.hid hrb
        clear hb hrb
        go_wp2_with fail
        refine (L_toPicture a' b' _ _ rs _ (HRC'.out.keep (by repeat' (first | (with_reducible exact Below.refl _ _) | (with_reducible refine Below.adds_ ?_ ?_ _ _) | (with_reducible refine Below.alloc ?_ ?_ _) | (with_reducible refine Below.drew ?_) | (with_reducible refine Below.setCell ?_ ?_ _) | (with_reducible assumption) | go_size | (simp only [size_addsW, World.size_alloc, World.size_drew, World.size_setCell]; omega)))) (by omega)).mono ?_
        rintro e w' ⟨g2, rfl, hrb, -, hb⟩
        obtain ⟨q2, m2, rfl⟩ := below_adds hb
        have HX1 := Lib.hid hrb
        clear hb hrb
        go_upto_region 11 with fail
        refine all_add' ?_
        intro Y hY
        have hYX : Below wc.heap.size wc Y := hY ▸ (show Below wc.heap.size wc ((addsW ((addsW wc q1 m1).alloc (.cells #[.int .i64 a, .int .i64 b, .slice (some ⟨g1, 0, none⟩) ts.length ts.length] 35)) q2 m2).alloc (.cells #[.int .i64 a', .int .i64 b', .slice (some ⟨g2, 0, none⟩) rs.length rs.length] 35)) from (by repeat' (first | (with_reducible exact Below.refl _ _) | (with_reducible refine Below.adds_ ?_ ?_ _ _) | (with_reducible refine Below.alloc ?_ ?_ _) | (with_reducible refine Below.drew ?_) | (with_reducible refine Below.setCell ?_ ?_ _) | (with_reducible assumption) | go_size | (simp only [size_addsW, World.size_alloc, World.size_drew, World.size_setCell]; omega))))
        have B1 : Blk Y (wc.heap.size + q1.size) #[.int .i64 a, .int .i64 b, .slice (some ⟨g1, 0, none⟩) ts.length ts.length] 35 := hY ▸ ((Blk.new _ _ _ _ (by first | (simp only [size_addsW, World.size_alloc, World.size_drew, Array.size_append]; done) | (simp only [size_addsW, World.size_alloc, World.size_drew, Array.size_append]; omega))).adds _ _).alloc _
        have B2 : Blk Y (wc.heap.size + q1.size + 1 + q2.size) #[.int .i64 a', .int .i64 b', .slice (some ⟨g2, 0, none⟩) rs.length rs.length] 35 := hY ▸ Blk.new _ _ _ _ (by first | (simp only [size_addsW, World.size_alloc, World.size_drew, Array.size_append]; done) | (simp only [size_addsW, World.size_alloc, World.size_drew, Array.size_append]; omega))
        have HX0 := Lib.hid (show RowAt .i64 Y (some ⟨g1, 0, none⟩) ts from hY ▸ HX0.out.keep (by repeat' (first | (with_reducible exact Below.refl _ _) | (with_reducible refine Below.adds_ ?_ ?_ _ _) | (with_reducible refine Below.alloc ?_ ?_ _) | (with_reducible refine Below.drew ?_) | (with_reducible refine Below.setCell ?_ ?_ _) | (with_reducible assumption) | go_size | (simp only [size_addsW, World.size_alloc, World.size_drew, World.size_setCell]; omega))))
        have HX1 := Lib.hid (show RowAt .i64 Y (some ⟨g2, 0, none⟩) rs from hY ▸ HX1.out.keep (by repeat' (first | (with_reducible exact Below.refl _ _) | (with_reducible refine Below.adds_ ?_ ?_ _ _) | (with_reducible refine Below.alloc ?_ ?_ _) | (with_reducible refine Below.drew ?_) | (with_reducible refine Below.setCell ?_ ?_ _) | (with_reducible assumption) | go_size | (simp only [size_addsW, World.size_alloc, World.size_drew, World.size_setCell]; omega))))
        clear hY
        generalize wc.heap.size + q1.size + 1 + q2.size = kb at B2 ⊢
        generalize wc.heap.size + q1.size = ka at B1 ⊢
        clear c0 c1 c2 c3 c4 c5 c6 c7 l1 l2 l3
        have LY := Lib.hid (LC.out.below hYX)
        have HRY := Lib.hid (HRC.out.keep hYX)
        have HRY' := Lib.hid (HRC'.out.keep hYX)
        have HTY := Lib.hid (HTC.out.keep hYX)
        have HWY := Lib.hid (HWC.out.trans (hYX.mono hzX))
        have HKY := Lib.hid (HK.out.below hYX lg)
        have HB1 := Lib.hid B1
        have HB2 := Lib.hid B2
        clear HRC HRC' HTC HWC LC HK hYX hzX lg
        have hzY := HWY.out.size
        have c6 : Y.cell? ⟨w.heap.size + 1 + 1, 0, none⟩ = some (.int .i64 u) := LY.out.v.get rfl
        have c7 : Y.cell? ⟨w.heap.size + 1 + 1, 1, none⟩ = some (.int .i64 v) := LY.out.v.get rfl
        have l3 := LY.out.v.lt
        have ka0 : Y.cell? ⟨ka, 0, none⟩ = some (.int .i64 a) := B1.get rfl
        have ka1 : Y.cell? ⟨ka, 1, none⟩ = some (.int .i64 b) := B1.get rfl
        have ka2 : Y.cell? ⟨ka, 2, none⟩ = some (.slice (some ⟨g1, 0, none⟩) ts.length ts.length) := B1.get rfl
        have kb0 : Y.cell? ⟨kb, 0, none⟩ = some (.int .i64 a') := B2.get rfl
        have kb1 : Y.cell? ⟨kb, 1, none⟩ = some (.int .i64 b') := B2.get rfl
        have kb2 : Y.cell? ⟨kb, 2, none⟩ = some (.slice (some ⟨g2, 0, none⟩) rs.length rs.length) := B2.get rfl
        have la := B1.lt
        have lb := B2.lt
        clear B1 B2
        have K8 := Lib.hid (show ∀ w', Below Y.heap.size Y w' → (w'.cell? ⟨ka, 0, none⟩ = some (.int .i64 a) ∧ w'.cell? ⟨ka, 1, none⟩ = some (.int .i64 b) ∧ w'.cell? ⟨ka, 2, none⟩ = some (.slice (some ⟨g1, 0, none⟩) ts.length ts.length) ∧ w'.cell? ⟨kb, 0, none⟩ = some (.int .i64 a') ∧ w'.cell? ⟨kb, 1, none⟩ = some (.int .i64 b') ∧ w'.cell? ⟨kb, 2, none⟩ = some (.slice (some ⟨g2, 0, none⟩) rs.length rs.length) ∧ w'.cell? ⟨w.heap.size + 1 + 1, 0, none⟩ = some (.int .i64 u) ∧ w'.cell? ⟨w.heap.size + 1 + 1, 1, none⟩ = some (.int .i64 v)) from fun w' hBW => ⟨(hBW.cell (p := ⟨ka, 0, none⟩) la).trans ka0, (hBW.cell (p := ⟨ka, 1, none⟩) la).trans ka1, (hBW.cell (p := ⟨ka, 2, none⟩) la).trans ka2, (hBW.cell (p := ⟨kb, 0, none⟩) lb).trans kb0, (hBW.cell (p := ⟨kb, 1, none⟩) lb).trans kb1, (hBW.cell (p := ⟨kb, 2, none⟩) lb).trans kb2, (hBW.cell (p := ⟨w.heap.size + 1 + 1, 0, none⟩) l3).trans c6, (hBW.cell (p := ⟨w.heap.size + 1 + 1, 1, none⟩) l3).trans c7⟩)
        go_cut [17] (fun s17 wx => MaCut Y zs s17 wx)
        case first =>
          refine wp_region_held_drew (S := (fun w' => w'.cell? ⟨ka, 0, none⟩ = some (.int .i64 a) ∧ w'.cell? ⟨ka, 1, none⟩ = some (.int .i64 b) ∧ w'.cell? ⟨ka, 2, none⟩ = some (.slice (some ⟨g1, 0, none⟩) ts.length ts.length) ∧ w'.cell? ⟨kb, 0, none⟩ = some (.int .i64 a') ∧ w'.cell? ⟨kb, 1, none⟩ = some (.int .i64 b') ∧ w'.cell? ⟨kb, 2, none⟩ = some (.slice (some ⟨g2, 0, none⟩) rs.length rs.length) ∧ w'.cell? ⟨w.heap.size + 1 + 1, 0, none⟩ = some (.int .i64 u) ∧ w'.cell? ⟨w.heap.size + 1 + 1, 1, none⟩ = some (.int .i64 v))) (by kernel_rfl) ?_ (fun hHeld => ?_)
          · (first | exact K8.out _ hBW | exact K8.out _ (by repeat' (first | (with_reducible exact Below.refl _ _) | (with_reducible refine Below.adds_ ?_ ?_ _ _) | (with_reducible refine Below.alloc ?_ ?_ _) | (with_reducible refine Below.drew ?_) | (with_reducible refine Below.setCell ?_ ?_ _) | (with_reducible assumption) | go_size | (simp only [size_addsW, World.size_alloc, World.size_drew, World.size_setCell]; omega))) | (go_simp; done) | (go_keep; done) | (trace_state; fail))
          refine wpAnyH_take (i := 0) (oi := _) (v := ?_) rfl (by kernel_rfl) (by kernel_rfl) (by kernel_rfl) (fun _ _ _ h => h) (Or.inl ⟨by rfl, ?_⟩) (by assumption) ?_
          rotate_left
          · intro w hSw; (try dsimp only at hSw); go_simp; (try with_reducible rfl)
          try dsimp only [List.getElem_toArray, List.getElem_cons_succ, List.getElem_cons_zero]
          simp only [Act.put, List.setIfInBounds_toArray, List.set_cons_zero, List.set_cons_succ]
          refine wpAnyH_take (i := 1) (oi := _) (v := ?_) rfl (by kernel_rfl) (by kernel_rfl) (by kernel_rfl) (fun _ _ _ h => h) (Or.inl ⟨by rfl, ?_⟩) (by assumption) ?_
          rotate_left
          · intro w hSw; (try dsimp only at hSw); go_simp; (try with_reducible rfl)
          try dsimp only [List.getElem_toArray, List.getElem_cons_succ, List.getElem_cons_zero]
          simp only [Act.put, List.setIfInBounds_toArray, List.set_cons_zero, List.set_cons_succ]
          refine wpAnyH_take (i := 2) (oi := _) (v := ?_) rfl (by kernel_rfl) (by kernel_rfl) (by kernel_rfl) (fun _ _ _ h => h) (Or.inl ⟨by rfl, ?_⟩) (by assumption) ?_
          rotate_left
          · intro w hSw; (try dsimp only at hSw); go_simp; (try with_reducible rfl)
          try dsimp only [List.getElem_toArray, List.getElem_cons_succ, List.getElem_cons_zero]
          simp only [Act.put, List.setIfInBounds_toArray, List.set_cons_zero, List.set_cons_succ]
          refine wpAnyH_take (i := 3) (oi := _) (v := ?_) rfl (by kernel_rfl) (by kernel_rfl) (by kernel_rfl) (fun _ _ _ h => h) (Or.inl ⟨by rfl, ?_⟩) (by assumption) ?_
          rotate_left
          · intro w hSw; (try dsimp only at hSw); go_simp; (try with_reducible rfl)
          try dsimp only [List.getElem_toArray, List.getElem_cons_succ, List.getElem_cons_zero]
          simp only [Act.put, List.setIfInBounds_toArray, List.set_cons_zero, List.set_cons_succ]
          refine wpAnyH_take (i := 4) (oi := _) (v := ?_) rfl (by kernel_rfl) (by kernel_rfl) (by kernel_rfl) (fun _ _ _ h => h) (Or.inl ⟨by rfl, ?_⟩) (by assumption) ?_
          rotate_left
          · intro w hSw; (try dsimp only at hSw); go_simp; (try with_reducible rfl)
          try dsimp only [List.getElem_toArray, List.getElem_cons_succ, List.getElem_cons_zero]
          simp only [Act.put, List.setIfInBounds_toArray, List.set_cons_zero, List.set_cons_succ]
          refine wpAnyH_take (i := 6) (oi := _) (v := ?_) rfl (by kernel_rfl) (by kernel_rfl) (by kernel_rfl) (fun _ _ _ h => h) (Or.inl ⟨by rfl, ?_⟩) (by assumption) ?_
          rotate_left
          · intro w hSw; (try dsimp only at hSw); go_simp; (try with_reducible rfl)
          try dsimp only [List.getElem_toArray, List.getElem_cons_succ, List.getElem_cons_zero]
          simp only [Act.put, List.setIfInBounds_toArray, List.set_cons_zero, List.set_cons_succ]
          refine wpAnyH_ready (rs := [5, 8]) (by kernel_rfl) (by simp) ?_
          refine AllReadyH.cons (o := _) rfl (fun K hK => ?_) ?_
          · (try dsimp only [List.getElem_toArray, List.getElem_cons_succ, List.getElem_cons_zero]); go_simp
            (first | (go_at_call 7; refine (L_toVector _ _ _).mono ?_; rintro e w' ⟨rfl, hb⟩; obtain ⟨qv, mv, rfl⟩ := below_adds hb; clear hb) | (go_at_call 8; refine (CI.out _ _ _ _ _ (HX0.out.keep (by repeat' (first | (with_reducible exact Below.refl _ _) | (with_reducible refine Below.adds_ ?_ ?_ _ _) | (with_reducible refine Below.alloc ?_ ?_ _) | (with_reducible refine Below.drew ?_) | (with_reducible refine Below.setCell ?_ ?_ _) | (with_reducible assumption) | go_size | (simp only [size_addsW, World.size_alloc, World.size_drew, World.size_setCell]; omega)))) (HX1.out.keep (by repeat' (first | (with_reducible exact Below.refl _ _) | (with_reducible refine Below.adds_ ?_ ?_ _ _) | (with_reducible refine Below.alloc ?_ ?_ _) | (with_reducible refine Below.drew ?_) | (with_reducible refine Below.setCell ?_ ?_ _) | (with_reducible assumption) | go_size | (simp only [size_addsW, World.size_alloc, World.size_drew, World.size_setCell]; omega)))) (HTY.out.keep (by repeat' (first | (with_reducible exact Below.refl _ _) | (with_reducible refine Below.adds_ ?_ ?_ _ _) | (with_reducible refine Below.alloc ?_ ?_ _) | (with_reducible refine Below.drew ?_) | (with_reducible refine Below.setCell ?_ ?_ _) | (with_reducible assumption) | go_size | (simp only [size_addsW, World.size_alloc, World.size_drew, World.size_setCell]; omega))))).mono ?_; rintro e w' ⟨rfl, hb⟩; obtain ⟨q5, m5, rfl⟩ := below_adds hb; clear hb))
            try go_wp2_with fail
            refine hK.out _ _ ?_ (fun hHeld => ?_)
            · (first | exact K8.out _ hBW | exact K8.out _ (by repeat' (first | (with_reducible exact Below.refl _ _) | (with_reducible refine Below.adds_ ?_ ?_ _ _) | (with_reducible refine Below.alloc ?_ ?_ _) | (with_reducible refine Below.drew ?_) | (with_reducible refine Below.setCell ?_ ?_ _) | (with_reducible assumption) | go_size | (simp only [size_addsW, World.size_alloc, World.size_drew, World.size_setCell]; omega))) | (go_simp; done) | (go_keep; done) | (trace_state; fail))
            clear hK K
            try simp only [Act.put, List.setIfInBounds_toArray, List.set_cons_zero, List.set_cons_succ]
            refine wpAnyH_ready (rs := [7, 8]) (by kernel_rfl) (by simp) ?_
            refine AllReadyH.cons (o := _) rfl (fun K hK => ?_) ?_
            · (try dsimp only [List.getElem_toArray, List.getElem_cons_succ, List.getElem_cons_zero]); go_simp
              (first | (go_at_call 7; refine (L_toVector _ _ _).mono ?_; rintro e w' ⟨rfl, hb⟩; obtain ⟨qv, mv, rfl⟩ := below_adds hb; clear hb) | (go_at_call 8; refine (CI.out _ _ _ _ _ (HX0.out.keep (by repeat' (first | (with_reducible exact Below.refl _ _) | (with_reducible refine Below.adds_ ?_ ?_ _ _) | (with_reducible refine Below.alloc ?_ ?_ _) | (with_reducible refine Below.drew ?_) | (with_reducible refine Below.setCell ?_ ?_ _) | (with_reducible assumption) | go_size | (simp only [size_addsW, World.size_alloc, World.size_drew, World.size_setCell]; omega)))) (HX1.out.keep (by repeat' (first | (with_reducible exact Below.refl _ _) | (with_reducible refine Below.adds_ ?_ ?_ _ _) | (with_reducible refine Below.alloc ?_ ?_ _) | (with_reducible refine Below.drew ?_) | (with_reducible refine Below.setCell ?_ ?_ _) | (with_reducible assumption) | go_size | (simp only [size_addsW, World.size_alloc, World.size_drew, World.size_setCell]; omega)))) (HTY.out.keep (by repeat' (first | (with_reducible exact Below.refl _ _) | (with_reducible refine Below.adds_ ?_ ?_ _ _) | (with_reducible refine Below.alloc ?_ ?_ _) | (with_reducible refine Below.drew ?_) | (with_reducible refine Below.setCell ?_ ?_ _) | (with_reducible assumption) | go_size | (simp only [size_addsW, World.size_alloc, World.size_drew, World.size_setCell]; omega))))).mono ?_; rintro e w' ⟨rfl, hb⟩; obtain ⟨q5, m5, rfl⟩ := below_adds hb; clear hb))
              try go_wp2_with fail
              refine hK.out _ _ ?_ (fun hHeld => ?_)
              · (first | exact K8.out _ hBW | exact K8.out _ (by repeat' (first | (with_reducible exact Below.refl _ _) | (with_reducible refine Below.adds_ ?_ ?_ _ _) | (with_reducible refine Below.alloc ?_ ?_ _) | (with_reducible refine Below.drew ?_) | (with_reducible refine Below.setCell ?_ ?_ _) | (with_reducible assumption) | go_size | (simp only [size_addsW, World.size_alloc, World.size_drew, World.size_setCell]; omega))) | (go_simp; done) | (go_keep; done) | (trace_state; fail))
              clear hK K
              try simp only [Act.put, List.setIfInBounds_toArray, List.set_cons_zero, List.set_cons_succ]
              refine wpAnyH_ready (rs := [8]) (by kernel_rfl) (by simp) ?_
              refine AllReadyH.cons (o := _) rfl (fun K hK => ?_) ?_
              · (try dsimp only [List.getElem_toArray, List.getElem_cons_succ, List.getElem_cons_zero]); go_simp
                refine hK.out _ _ ?_ (fun hHeld => ?_)
                · (first | exact K8.out _ hBW | exact K8.out _ (by repeat' (first | (with_reducible exact Below.refl _ _) | (with_reducible refine Below.adds_ ?_ ?_ _ _) | (with_reducible refine Below.alloc ?_ ?_ _) | (with_reducible refine Below.drew ?_) | (with_reducible refine Below.setCell ?_ ?_ _) | (with_reducible assumption) | go_size | (simp only [size_addsW, World.size_alloc, World.size_drew, World.size_setCell]; omega))) | (go_simp; done) | (go_keep; done) | (trace_state; fail))
                clear hK K
                try simp only [Act.put, List.setIfInBounds_toArray, List.set_cons_zero, List.set_cons_succ]
                refine wpAnyH_ready (rs := [9]) (by kernel_rfl) (by simp) ?_
                refine AllReadyH.cons (o := _) rfl (fun K hK => ?_) ?_
                · (try dsimp only [List.getElem_toArray, List.getElem_cons_succ, List.getElem_cons_zero])
                  (rw [if_pos (by rfl)]; (try simp only [zcMac]); refine wp_store_mac (.tmp 17) (.tmp 49) (by with_reducible rfl) _ zs rfl rfl HZ.out Y (by exact (by repeat' (first | (with_reducible exact Below.refl _ _) | (with_reducible refine Below.adds_ ?_ ?_ _ _) | (with_reducible refine Below.alloc ?_ ?_ _) | (with_reducible refine Below.drew ?_) | (with_reducible refine Below.setCell ?_ ?_ _) | (with_reducible assumption) | go_size | (simp only [size_addsW, World.size_alloc, World.size_drew, World.size_setCell]; omega)))) (by first | omega | (simp only [size_addsW, World.size_alloc, World.size_drew, Array.size_append]; omega)) (by first | exact Blk.new _ _ _ _ (by first | rfl | (simp only [size_addsW, World.size_alloc, World.size_drew, Array.size_append]; done) | (simp only [size_addsW, World.size_alloc, World.size_drew, Array.size_append]; omega)) | exact (Blk.new _ _ _ _ (by first | rfl | (simp only [size_addsW, World.size_alloc, World.size_drew, Array.size_append]; done) | (simp only [size_addsW, World.size_alloc, World.size_drew, Array.size_append]; omega))).adds _ _) ?_; intro W8 hgB hBW hblk)
                  refine hK.out _ _ ?_ (fun hHeld => ?_)
                  · (first | exact K8.out _ hBW | exact K8.out _ (by repeat' (first | (with_reducible exact Below.refl _ _) | (with_reducible refine Below.adds_ ?_ ?_ _ _) | (with_reducible refine Below.alloc ?_ ?_ _) | (with_reducible refine Below.drew ?_) | (with_reducible refine Below.setCell ?_ ?_ _) | (with_reducible assumption) | go_size | (simp only [size_addsW, World.size_alloc, World.size_drew, World.size_setCell]; omega))) | (go_simp; done) | (go_keep; done) | (trace_state; fail))
                  clear hK K
                  try simp only [Act.put, List.setIfInBounds_toArray, List.set_cons_zero, List.set_cons_succ]
                  refine wpAnyH_done (by kernel_rfl) ?_ _
                  go_wp2_with fail
                  go_meet
                  exact ⟨_, rfl, hgB, hBW, hblk⟩
                exact AllReadyH.nil
              exact AllReadyH.nil
            refine AllReadyH.cons (o := _) rfl (fun K hK => ?_) ?_
            · (try dsimp only [List.getElem_toArray, List.getElem_cons_succ, List.getElem_cons_zero]); go_simp
              refine hK.out _ _ ?_ (fun hHeld => ?_)
              · (first | exact K8.out _ hBW | exact K8.out _ (by repeat' (first | (with_reducible exact Below.refl _ _) | (with_reducible refine Below.adds_ ?_ ?_ _ _) | (with_reducible refine Below.alloc ?_ ?_ _) | (with_reducible refine Below.drew ?_) | (with_reducible refine Below.setCell ?_ ?_ _) | (with_reducible assumption) | go_size | (simp only [size_addsW, World.size_alloc, World.size_drew, World.size_setCell]; omega))) | (go_simp; done) | (go_keep; done) | (trace_state; fail))
              clear hK K
              try simp only [Act.put, List.setIfInBounds_toArray, List.set_cons_zero, List.set_cons_succ]
              refine wpAnyH_ready (rs := [7]) (by kernel_rfl) (by simp) ?_
              refine AllReadyH.cons (o := _) rfl (fun K hK => ?_) ?_
              · (try dsimp only [List.getElem_toArray, List.getElem_cons_succ, List.getElem_cons_zero]); go_simp
                (first | (go_at_call 7; refine (L_toVector _ _ _).mono ?_; rintro e w' ⟨rfl, hb⟩; obtain ⟨qv, mv, rfl⟩ := below_adds hb; clear hb) | (go_at_call 8; refine (CI.out _ _ _ _ _ (HX0.out.keep (by repeat' (first | (with_reducible exact Below.refl _ _) | (with_reducible refine Below.adds_ ?_ ?_ _ _) | (with_reducible refine Below.alloc ?_ ?_ _) | (with_reducible refine Below.drew ?_) | (with_reducible refine Below.setCell ?_ ?_ _) | (with_reducible assumption) | go_size | (simp only [size_addsW, World.size_alloc, World.size_drew, World.size_setCell]; omega)))) (HX1.out.keep (by repeat' (first | (with_reducible exact Below.refl _ _) | (with_reducible refine Below.adds_ ?_ ?_ _ _) | (with_reducible refine Below.alloc ?_ ?_ _) | (with_reducible refine Below.drew ?_) | (with_reducible refine Below.setCell ?_ ?_ _) | (with_reducible assumption) | go_size | (simp only [size_addsW, World.size_alloc, World.size_drew, World.size_setCell]; omega)))) (HTY.out.keep (by repeat' (first | (with_reducible exact Below.refl _ _) | (with_reducible refine Below.adds_ ?_ ?_ _ _) | (with_reducible refine Below.alloc ?_ ?_ _) | (with_reducible refine Below.drew ?_) | (with_reducible refine Below.setCell ?_ ?_ _) | (with_reducible assumption) | go_size | (simp only [size_addsW, World.size_alloc, World.size_drew, World.size_setCell]; omega))))).mono ?_; rintro e w' ⟨rfl, hb⟩; obtain ⟨q5, m5, rfl⟩ := below_adds hb; clear hb))
                try go_wp2_with fail
                refine hK.out _ _ ?_ (fun hHeld => ?_)
                · (first | exact K8.out _ hBW | exact K8.out _ (by repeat' (first | (with_reducible exact Below.refl _ _) | (with_reducible refine Below.adds_ ?_ ?_ _ _) | (with_reducible refine Below.alloc ?_ ?_ _) | (with_reducible refine Below.drew ?_) | (with_reducible refine Below.setCell ?_ ?_ _) | (with_reducible assumption) | go_size | (simp only [size_addsW, World.size_alloc, World.size_drew, World.size_setCell]; omega))) | (go_simp; done) | (go_keep; done) | (trace_state; fail))
                clear hK K
                try simp only [Act.put, List.setIfInBounds_toArray, List.set_cons_zero, List.set_cons_succ]
                refine wpAnyH_ready (rs := [9]) (by kernel_rfl) (by simp) ?_
                refine AllReadyH.cons (o := _) rfl (fun K hK => ?_) ?_
                · (try dsimp only [List.getElem_toArray, List.getElem_cons_succ, List.getElem_cons_zero])
                  (rw [if_pos (by rfl)]; (try simp only [zcMac]); refine wp_store_mac (.tmp 17) (.tmp 49) (by with_reducible rfl) _ zs rfl rfl HZ.out Y (by exact (by repeat' (first | (with_reducible exact Below.refl _ _) | (with_reducible refine Below.adds_ ?_ ?_ _ _) | (with_reducible refine Below.alloc ?_ ?_ _) | (with_reducible refine Below.drew ?_) | (with_reducible refine Below.setCell ?_ ?_ _) | (with_reducible assumption) | go_size | (simp only [size_addsW, World.size_alloc, World.size_drew, World.size_setCell]; omega)))) (by first | omega | (simp only [size_addsW, World.size_alloc, World.size_drew, Array.size_append]; omega)) (by first | exact Blk.new _ _ _ _ (by first | rfl | (simp only [size_addsW, World.size_alloc, World.size_drew, Array.size_append]; done) | (simp only [size_addsW, World.size_alloc, World.size_drew, Array.size_append]; omega)) | exact (Blk.new _ _ _ _ (by first | rfl | (simp only [size_addsW, World.size_alloc, World.size_drew, Array.size_append]; done) | (simp only [size_addsW, World.size_alloc, World.size_drew, Array.size_append]; omega))).adds _ _) ?_; intro W8 hgB hBW hblk)
                  refine hK.out _ _ ?_ (fun hHeld => ?_)
                  · (first | exact K8.out _ hBW | exact K8.out _ (by repeat' (first | (with_reducible exact Below.refl _ _) | (with_reducible refine Below.adds_ ?_ ?_ _ _) | (with_reducible refine Below.alloc ?_ ?_ _) | (with_reducible refine Below.drew ?_) | (with_reducible refine Below.setCell ?_ ?_ _) | (with_reducible assumption) | go_size | (simp only [size_addsW, World.size_alloc, World.size_drew, World.size_setCell]; omega))) | (go_simp; done) | (go_keep; done) | (trace_state; fail))
                  clear hK K
                  try simp only [Act.put, List.setIfInBounds_toArray, List.set_cons_zero, List.set_cons_succ]
                  refine wpAnyH_done (by kernel_rfl) ?_ _
                  go_wp2_with fail
                  go_meet
                  exact ⟨_, rfl, hgB, hBW, hblk⟩
                exact AllReadyH.nil
              exact AllReadyH.nil
            exact AllReadyH.nil
          refine AllReadyH.cons (o := _) rfl (fun K hK => ?_) ?_
          · (try dsimp only [List.getElem_toArray, List.getElem_cons_succ, List.getElem_cons_zero]); go_simp
            refine hK.out _ _ ?_ (fun hHeld => ?_)
            · (first | exact K8.out _ hBW | exact K8.out _ (by repeat' (first | (with_reducible exact Below.refl _ _) | (with_reducible refine Below.adds_ ?_ ?_ _ _) | (with_reducible refine Below.alloc ?_ ?_ _) | (with_reducible refine Below.drew ?_) | (with_reducible refine Below.setCell ?_ ?_ _) | (with_reducible assumption) | go_size | (simp only [size_addsW, World.size_alloc, World.size_drew, World.size_setCell]; omega))) | (go_simp; done) | (go_keep; done) | (trace_state; fail))
            clear hK K
            try simp only [Act.put, List.setIfInBounds_toArray, List.set_cons_zero, List.set_cons_succ]
            refine wpAnyH_ready (rs := [5]) (by kernel_rfl) (by simp) ?_
            refine AllReadyH.cons (o := _) rfl (fun K hK => ?_) ?_
            · (try dsimp only [List.getElem_toArray, List.getElem_cons_succ, List.getElem_cons_zero]); go_simp
              (first | (go_at_call 7; refine (L_toVector _ _ _).mono ?_; rintro e w' ⟨rfl, hb⟩; obtain ⟨qv, mv, rfl⟩ := below_adds hb; clear hb) | (go_at_call 8; refine (CI.out _ _ _ _ _ (HX0.out.keep (by repeat' (first | (with_reducible exact Below.refl _ _) | (with_reducible refine Below.adds_ ?_ ?_ _ _) | (with_reducible refine Below.alloc ?_ ?_ _) | (with_reducible refine Below.drew ?_) | (with_reducible refine Below.setCell ?_ ?_ _) | (with_reducible assumption) | go_size | (simp only [size_addsW, World.size_alloc, World.size_drew, World.size_setCell]; omega)))) (HX1.out.keep (by repeat' (first | (with_reducible exact Below.refl _ _) | (with_reducible refine Below.adds_ ?_ ?_ _ _) | (with_reducible refine Below.alloc ?_ ?_ _) | (with_reducible refine Below.drew ?_) | (with_reducible refine Below.setCell ?_ ?_ _) | (with_reducible assumption) | go_size | (simp only [size_addsW, World.size_alloc, World.size_drew, World.size_setCell]; omega)))) (HTY.out.keep (by repeat' (first | (with_reducible exact Below.refl _ _) | (with_reducible refine Below.adds_ ?_ ?_ _ _) | (with_reducible refine Below.alloc ?_ ?_ _) | (with_reducible refine Below.drew ?_) | (with_reducible refine Below.setCell ?_ ?_ _) | (with_reducible assumption) | go_size | (simp only [size_addsW, World.size_alloc, World.size_drew, World.size_setCell]; omega))))).mono ?_; rintro e w' ⟨rfl, hb⟩; obtain ⟨q5, m5, rfl⟩ := below_adds hb; clear hb))
              try go_wp2_with fail
              refine hK.out _ _ ?_ (fun hHeld => ?_)
              · (first | exact K8.out _ hBW | exact K8.out _ (by repeat' (first | (with_reducible exact Below.refl _ _) | (with_reducible refine Below.adds_ ?_ ?_ _ _) | (with_reducible refine Below.alloc ?_ ?_ _) | (with_reducible refine Below.drew ?_) | (with_reducible refine Below.setCell ?_ ?_ _) | (with_reducible assumption) | go_size | (simp only [size_addsW, World.size_alloc, World.size_drew, World.size_setCell]; omega))) | (go_simp; done) | (go_keep; done) | (trace_state; fail))
              clear hK K
              try simp only [Act.put, List.setIfInBounds_toArray, List.set_cons_zero, List.set_cons_succ]
              refine wpAnyH_ready (rs := [7]) (by kernel_rfl) (by simp) ?_
              refine AllReadyH.cons (o := _) rfl (fun K hK => ?_) ?_
              · (try dsimp only [List.getElem_toArray, List.getElem_cons_succ, List.getElem_cons_zero]); go_simp
                (first | (go_at_call 7; refine (L_toVector _ _ _).mono ?_; rintro e w' ⟨rfl, hb⟩; obtain ⟨qv, mv, rfl⟩ := below_adds hb; clear hb) | (go_at_call 8; refine (CI.out _ _ _ _ _ (HX0.out.keep (by repeat' (first | (with_reducible exact Below.refl _ _) | (with_reducible refine Below.adds_ ?_ ?_ _ _) | (with_reducible refine Below.alloc ?_ ?_ _) | (with_reducible refine Below.drew ?_) | (with_reducible refine Below.setCell ?_ ?_ _) | (with_reducible assumption) | go_size | (simp only [size_addsW, World.size_alloc, World.size_drew, World.size_setCell]; omega)))) (HX1.out.keep (by repeat' (first | (with_reducible exact Below.refl _ _) | (with_reducible refine Below.adds_ ?_ ?_ _ _) | (with_reducible refine Below.alloc ?_ ?_ _) | (with_reducible refine Below.drew ?_) | (with_reducible refine Below.setCell ?_ ?_ _) | (with_reducible assumption) | go_size | (simp only [size_addsW, World.size_alloc, World.size_drew, World.size_setCell]; omega)))) (HTY.out.keep (by repeat' (first | (with_reducible exact Below.refl _ _) | (with_reducible refine Below.adds_ ?_ ?_ _ _) | (with_reducible refine Below.alloc ?_ ?_ _) | (with_reducible refine Below.drew ?_) | (with_reducible refine Below.setCell ?_ ?_ _) | (with_reducible assumption) | go_size | (simp only [size_addsW, World.size_alloc, World.size_drew, World.size_setCell]; omega))))).mono ?_; rintro e w' ⟨rfl, hb⟩; obtain ⟨q5, m5, rfl⟩ := below_adds hb; clear hb))
                try go_wp2_with fail
                refine hK.out _ _ ?_ (fun hHeld => ?_)
                · (first | exact K8.out _ hBW | exact K8.out _ (by repeat' (first | (with_reducible exact Below.refl _ _) | (with_reducible refine Below.adds_ ?_ ?_ _ _) | (with_reducible refine Below.alloc ?_ ?_ _) | (with_reducible refine Below.drew ?_) | (with_reducible refine Below.setCell ?_ ?_ _) | (with_reducible assumption) | go_size | (simp only [size_addsW, World.size_alloc, World.size_drew, World.size_setCell]; omega))) | (go_simp; done) | (go_keep; done) | (trace_state; fail))
                clear hK K
                try simp only [Act.put, List.setIfInBounds_toArray, List.set_cons_zero, List.set_cons_succ]
                refine wpAnyH_ready (rs := [9]) (by kernel_rfl) (by simp) ?_
                refine AllReadyH.cons (o := _) rfl (fun K hK => ?_) ?_
                · (try dsimp only [List.getElem_toArray, List.getElem_cons_succ, List.getElem_cons_zero])
                  (rw [if_pos (by rfl)]; (try simp only [zcMac]); refine wp_store_mac (.tmp 17) (.tmp 49) (by with_reducible rfl) _ zs rfl rfl HZ.out Y (by exact (by repeat' (first | (with_reducible exact Below.refl _ _) | (with_reducible refine Below.adds_ ?_ ?_ _ _) | (with_reducible refine Below.alloc ?_ ?_ _) | (with_reducible refine Below.drew ?_) | (with_reducible refine Below.setCell ?_ ?_ _) | (with_reducible assumption) | go_size | (simp only [size_addsW, World.size_alloc, World.size_drew, World.size_setCell]; omega)))) (by first | omega | (simp only [size_addsW, World.size_alloc, World.size_drew, Array.size_append]; omega)) (by first | exact Blk.new _ _ _ _ (by first | rfl | (simp only [size_addsW, World.size_alloc, World.size_drew, Array.size_append]; done) | (simp only [size_addsW, World.size_alloc, World.size_drew, Array.size_append]; omega)) | exact (Blk.new _ _ _ _ (by first | rfl | (simp only [size_addsW, World.size_alloc, World.size_drew, Array.size_append]; done) | (simp only [size_addsW, World.size_alloc, World.size_drew, Array.size_append]; omega))).adds _ _) ?_; intro W8 hgB hBW hblk)
                  refine hK.out _ _ ?_ (fun hHeld => ?_)
                  · (first | exact K8.out _ hBW | exact K8.out _ (by repeat' (first | (with_reducible exact Below.refl _ _) | (with_reducible refine Below.adds_ ?_ ?_ _ _) | (with_reducible refine Below.alloc ?_ ?_ _) | (with_reducible refine Below.drew ?_) | (with_reducible refine Below.setCell ?_ ?_ _) | (with_reducible assumption) | go_size | (simp only [size_addsW, World.size_alloc, World.size_drew, World.size_setCell]; omega))) | (go_simp; done) | (go_keep; done) | (trace_state; fail))
                  clear hK K
                  try simp only [Act.put, List.setIfInBounds_toArray, List.set_cons_zero, List.set_cons_succ]
                  refine wpAnyH_done (by kernel_rfl) ?_ _
                  go_wp2_with fail
                  go_meet
                  exact ⟨_, rfl, hgB, hBW, hblk⟩
                exact AllReadyH.nil
              exact AllReadyH.nil
            exact AllReadyH.nil
          exact AllReadyH.nil
        case rest =>
          obtain ⟨g9, rfl, hg9, hYc, hblk⟩ := hcut
          clear K8 c6 c7 l3 ka0 ka1 ka2 kb0 kb1 kb2 la lb
          have LZ := Lib.hid (LY.out.below hYc)
          have HRZ := Lib.hid (HRY.out.keep hYc)
          have HRZ' := Lib.hid (HRY'.out.keep hYc)
          have HWZ := Lib.hid (HWY.out.trans (hYc.mono hzY))
          have HKZ := Lib.hid (HKY.out.below hYc HKY.out.lt)
          have B1 := HB1.out.below hYc HB1.out.lt
          have B2 := HB2.out.below hYc HB2.out.lt
          have HY0 := Lib.hid (HX0.out.keep hYc)
          have HY1 := Lib.hid (HX1.out.keep hYc)
          have HK9 := Lib.hid hblk
          clear LY HRY HRY' HTY HWY HKY HB1 HB2 HX0 HX1 hYc hblk hg9 hzY CI CS
          have hzZ := HWZ.out.size
          obtain ⟨c0, c1, c2, c3, c4, c5, -, -⟩ := LZ.out.cells
          have l1 := LZ.out.p.lt
          have l2 := LZ.out.p'.lt
          have ka0 : wc.cell? ⟨ka, 0, none⟩ = some (.int .i64 a) := B1.get rfl
          have ka1 : wc.cell? ⟨ka, 1, none⟩ = some (.int .i64 b) := B1.get rfl
          have ka2 : wc.cell? ⟨ka, 2, none⟩ = some (.slice (some ⟨g1, 0, none⟩) ts.length ts.length) := B1.get rfl
          have kb0 : wc.cell? ⟨kb, 0, none⟩ = some (.int .i64 a') := B2.get rfl
          have kb1 : wc.cell? ⟨kb, 1, none⟩ = some (.int .i64 b') := B2.get rfl
          have kb2 : wc.cell? ⟨kb, 2, none⟩ = some (.slice (some ⟨g2, 0, none⟩) rs.length rs.length) := B2.get rfl
          have la := B1.lt
          have lb := B2.lt
          clear B1 B2
          go_wp2_with (first | (focus ((with_reducible refine wpList_wanted ?_ (fun K hK => ?_)); rotate_left; (refine wp_load_sub 33 (.tmp 17) ?ho g9 0 71 ?hx 33 zs (0, 0) _ ?hg Tryd.underlying33 rfl infoMac ?hs (hK _ _ ?_)); (case ho => with_reducible rfl); (case hx => rfl); (case hg => exact HK9.out); (case hs => rw [HZ.out]; exact Nat.le_refl _); rw [show sub zs 0 71 = zs by rw [← HZ.out]; exact sub_all zs]; rotate_left; rfl)) | (focus ((with_reducible refine wpList_wanted ?_ (fun K hK => ?_)); rotate_left; (refine wp_load_sub 33 (.tmp 14) ?ho g 0 71 ?hx 33 zs (0, 0) _ ?hg Tryd.underlying33 rfl infoMac ?hs (hK _ _ ?_)); (case ho => with_reducible rfl); (case hx => rfl); (case hg => exact HKZ.out); (case hs => rw [HZ.out]; exact Nat.le_refl _); rw [show sub zs 0 71 = zs by rw [← HZ.out]; exact sub_all zs]; rotate_left; rfl)) | (go_at_call 9; refine (L_eqMacro zs _ HZ.out).mono ?_; rintro e w' ⟨rfl, hb⟩; obtain ⟨o1, n1, rfl⟩ := below_adds hb; clear hb))
          go_region_held3 (fun w' => w'.cell? ⟨ka, 0, none⟩ = some (.int .i64 a) ∧ w'.cell? ⟨ka, 1, none⟩ = some (.int .i64 b) ∧ w'.cell? ⟨ka, 2, none⟩ = some (.slice (some ⟨g1, 0, none⟩) ts.length ts.length) ∧ w'.cell? ⟨w.heap.size, 0, none⟩ = some (.int .i64 a) ∧ w'.cell? ⟨w.heap.size, 1, none⟩ = some (.int .i64 b) ∧ w'.cell? ⟨w.heap.size, 2, none⟩ = some (.slice a_ts ts.length cap_ts)) (first | (go_simp; done) | (go_keep; done))
            (first | (go_at_call 6; (with_reducible refine (L_toPicture a b _ _ ts _ (HRZ.out.keep (by repeat' (first | (with_reducible exact Below.refl _ _) | (with_reducible refine Below.adds_ ?_ ?_ _ _) | (with_reducible refine Below.alloc ?_ ?_ _) | (with_reducible refine Below.drew ?_) | (with_reducible refine Below.setCell ?_ ?_ _) | (with_reducible assumption) | go_size | (simp only [size_addsW, World.size_alloc, World.size_drew, World.size_setCell]; omega)))) (by omega)).mono ?_); rintro e w' ⟨g3, rfl, hrb, -, hb⟩; obtain ⟨q3, m3, rfl⟩ := below_adds hb; clear hb; (try simp only [adds_addsW, Array.append_assoc] at hrb); have HP3 := Lib.hid hrb; clear hrb) | (go_at_call 10; refine (L_eqPicture a b _ _ _ _ ts _ (HY0.out.keep (by repeat' (first | (with_reducible exact Below.refl _ _) | (with_reducible refine Below.adds_ ?_ ?_ _ _) | (with_reducible refine Below.alloc ?_ ?_ _) | (with_reducible refine Below.drew ?_) | (with_reducible refine Below.setCell ?_ ?_ _) | (with_reducible assumption) | go_size | (simp only [size_addsW, World.size_alloc, World.size_drew, World.size_setCell]; omega)))) (HP3.out.keep (by first | (with_reducible exact Below.refl _ _) | (simp only [alloc_addsW, adds_addsW, Array.push_eq_append, ← Array.append_assoc]; first | (with_reducible exact Below.refl _ _) | exact below_more _ _ _ _ _ | exact below_more2 _ _ _ _ _ _ | exact below_more3 _ _ _ _ _ _ _))) (by omega)).mono ?_; rintro e w' ⟨rfl, hb⟩; obtain ⟨q7, m7, rfl⟩ := below_adds hb; clear hb))
          all_goals
            go_wp2_with fail
            go_region_held3 (fun w' => w'.cell? ⟨kb, 0, none⟩ = some (.int .i64 a') ∧ w'.cell? ⟨kb, 1, none⟩ = some (.int .i64 b') ∧ w'.cell? ⟨kb, 2, none⟩ = some (.slice (some ⟨g2, 0, none⟩) rs.length rs.length) ∧ w'.cell? ⟨w.heap.size + 1, 0, none⟩ = some (.int .i64 a') ∧ w'.cell? ⟨w.heap.size + 1, 1, none⟩ = some (.int .i64 b') ∧ w'.cell? ⟨w.heap.size + 1, 2, none⟩ = some (.slice a_rs rs.length cap_rs)) (first | (go_simp; done) | (go_keep; done))
              (first | (go_at_call 6; (with_reducible refine (L_toPicture a' b' _ _ rs _ (HRZ'.out.keep (by repeat' (first | (with_reducible exact Below.refl _ _) | (with_reducible refine Below.adds_ ?_ ?_ _ _) | (with_reducible refine Below.alloc ?_ ?_ _) | (with_reducible refine Below.drew ?_) | (with_reducible refine Below.setCell ?_ ?_ _) | (with_reducible assumption) | go_size | (simp only [size_addsW, World.size_alloc, World.size_drew, World.size_setCell]; omega)))) (by omega)).mono ?_); rintro e w' ⟨g4, rfl, hrb, -, hb⟩; obtain ⟨q4, m4, rfl⟩ := below_adds hb; clear hb; (try simp only [adds_addsW, Array.append_assoc] at hrb); have HP4 := Lib.hid hrb; clear hrb) | (go_at_call 10; refine (L_eqPicture a' b' _ _ _ _ rs _ (HY1.out.keep (by repeat' (first | (with_reducible exact Below.refl _ _) | (with_reducible refine Below.adds_ ?_ ?_ _ _) | (with_reducible refine Below.alloc ?_ ?_ _) | (with_reducible refine Below.drew ?_) | (with_reducible refine Below.setCell ?_ ?_ _) | (with_reducible assumption) | go_size | (simp only [size_addsW, World.size_alloc, World.size_drew, World.size_setCell]; omega)))) (HP4.out.keep (by first | (with_reducible exact Below.refl _ _) | (simp only [alloc_addsW, adds_addsW, Array.push_eq_append, ← Array.append_assoc]; first | (with_reducible exact Below.refl _ _) | exact below_more _ _ _ _ _ | exact below_more2 _ _ _ _ _ _ | exact below_more3 _ _ _ _ _ _ _))) (by omega)).mono ?_; rintro e w' ⟨rfl, hb⟩; obtain ⟨q7, m7, rfl⟩ := below_adds hb; clear hb))
            all_goals
              go_wp2_with fail
              go_returns
              exact ⟨rfl, HWZ.out.trans ((show Below wc.heap.size wc _ from (by repeat' (first | (with_reducible exact Below.refl _ _) | (with_reducible refine Below.adds_ ?_ ?_ _ _) | (with_reducible refine Below.alloc ?_ ?_ _) | (with_reducible refine Below.drew ?_) | (with_reducible refine Below.setCell ?_ ?_ _) | (with_reducible assumption) | go_size | (simp only [size_addsW, World.size_alloc, World.size_drew, World.size_setCell]; omega)))).mono hzZ)⟩

theorem contract (H : Type) (enc : TypeId × Value → H) (W : World) (base : Nat) (args : Array Value) (ds gs : List (DataW H)) (before : List MemPlace)
    (hval : ∀ (j : Nat) t v, Tryd.f3.params[j]? = some t → args[j]? = some v → Value.okWide Tryd.prog W .any base t v)
    (hW : DataW.Whole enc Tryd.prog Tryd.f3.params.toList Rows.fnExactInterMacroSpec.vars false W args.toList ds gs before) (hL : laidMetH Tryd.prog Rows.fnExactInterMacroRow.laid W) :
    Calls Tryd.prog 3 args W fun e W' => ∃ v, e = .returned v ∧ Rows.fnExactInterMacroSpec.post enc Tryd.prog Tryd.f3 false true false false W args v W' := by
  have hW' := hW
  obtain ⟨p, q, hA0, hV, rfl, hfz, hnd⟩ := hW
  have hA : DataW.TrodAll enc Tryd.prog W 0 (fun _ => true) true Tryd.f3.params.toList args.toList ds p := hA0
  rw [Tryd.params3] at hA hval
  obtain ⟨v0, vs0, d0, ds0, p0, q0, hargs, rfl, rfl, h0, r0⟩ := trodAll_cons hA
  obtain ⟨v1, vs1, d1, ds1, p1, q1, rfl, rfl, rfl, h1, r1⟩ := trodAll_cons r0
  obtain ⟨v2, vs2, d2, ds2, p2, q2, rfl, rfl, rfl, h2, r2⟩ := trodAll_cons r1
  obtain ⟨v3, vs3, d3, ds3, p3, q3, rfl, rfl, rfl, h3, r3⟩ := trodAll_cons r2
  obtain ⟨v4, vs4, d4, ds4, p4, q4, rfl, rfl, rfl, h4, r4⟩ := trodAll_cons r3
  obtain ⟨v5, vs5, d5, ds5, p5, q5, rfl, rfl, rfl, h5, r5⟩ := trodAll_cons r4
  obtain ⟨rfl, rfl, rfl⟩ := trodAll_nil r5
  obtain rfl : args = #[v0, v1, v2, v3, v4, v5] := by cases args; simp_all
  have k0 := h0
  have lt0 : ∀ x ∈ p0, x.block < W.heap.size := by obtain ⟨m, hm⟩ := k0; exact DataW.trod_lt m _ _ _ hm
  have k1 := h1
  have lt1 : ∀ x ∈ p1, x.block < W.heap.size := by obtain ⟨m, hm⟩ := k1; exact DataW.trod_lt m _ _ _ hm
  have k2 := h2
  have lt2 : ∀ x ∈ p2, x.block < W.heap.size := by obtain ⟨m, hm⟩ := k2; exact DataW.trod_lt m _ _ _ hm
  have k3 := h3
  have lt3 : ∀ x ∈ p3, x.block < W.heap.size := by obtain ⟨m, hm⟩ := k3; exact DataW.trod_lt m _ _ _ hm
  have k4 := h4
  have lt4 : ∀ x ∈ p4, x.block < W.heap.size := by obtain ⟨m, hm⟩ := k4; exact DataW.trod_lt m _ _ _ hm
  have k5 := h5
  have lt5 : ∀ x ∈ p5, x.block < W.heap.size := by obtain ⟨m, hm⟩ := k5; exact DataW.trod_lt m _ _ _ hm
  obtain ⟨g, t, cs, fuel, dg, pg, rfl, hg1, hg2, hg3, hg4, rfl⟩ := trodVars_one hV
  obtain ⟨c00, c01, c02, y00, y01, y02, m0, rfl, -, -, hy00, hy01, hy02⟩ := Joins.open_agg3 Tryd.underlying24 (by kernel_rfl) (by kernel_rfl) (hval 0 24 v0 rfl rfl) h0
  obtain ⟨a, e_a, -, w_a⟩ := DataW.trod_int Tryd.underlying3 hy00
  simp only [List.cons.injEq, and_true] at e_a
  subst e_a
  obtain ⟨b, e_b, -, w_b⟩ := DataW.trod_int Tryd.underlying3 hy01
  simp only [List.cons.injEq, and_true] at e_b
  subst e_b
  obtain ⟨a_ts0, len_ts0, cap_ts0, ts0, e_ts0, w_ts0⟩ : ∃ a l c zs, c02 = .slice a l c ∧ IsRow .i64 W a l c zs := by
    rcases open_ints Tryd.underlying22 Tryd.underlying3 (by kernel_rfl) hy02 with ⟨hcs, _⟩ | ⟨x, l, c, zs, hcs, _, hl, hm, hz, _, hcell, hwz⟩
    · simp only [List.cons.injEq, and_true] at hcs; exact ⟨none, 0, 0, [], hcs, .inl ⟨rfl, rfl, rfl, rfl⟩⟩
    · simp only [List.cons.injEq, and_true] at hcs; exact ⟨some x, l, c, zs, hcs, .inr ⟨x, rfl, hl, hm, by simpa using hz, hcell, hwz⟩⟩
  subst e_ts0
  obtain ⟨c10, c11, c12, y10, y11, y12, m1, rfl, -, -, hy10, hy11, hy12⟩ := Joins.open_agg3 Tryd.underlying24 (by kernel_rfl) (by kernel_rfl) (hval 1 24 v1 rfl rfl) h1
  obtain ⟨a', e_a', -, w_a'⟩ := DataW.trod_int Tryd.underlying3 hy10
  simp only [List.cons.injEq, and_true] at e_a'
  subst e_a'
  obtain ⟨b', e_b', -, w_b'⟩ := DataW.trod_int Tryd.underlying3 hy11
  simp only [List.cons.injEq, and_true] at e_b'
  subst e_b'
  obtain ⟨a_rs0, len_rs0, cap_rs0, rs0, e_rs0, w_rs0⟩ : ∃ a l c zs, c12 = .slice a l c ∧ IsRow .i64 W a l c zs := by
    rcases open_ints Tryd.underlying22 Tryd.underlying3 (by kernel_rfl) hy12 with ⟨hcs, _⟩ | ⟨x, l, c, zs, hcs, _, hl, hm, hz, _, hcell, hwz⟩
    · simp only [List.cons.injEq, and_true] at hcs; exact ⟨none, 0, 0, [], hcs, .inl ⟨rfl, rfl, rfl, rfl⟩⟩
    · simp only [List.cons.injEq, and_true] at hcs; exact ⟨some x, l, c, zs, hcs, .inr ⟨x, rfl, hl, hm, by simpa using hz, hcell, hwz⟩⟩
  subst e_rs0
  obtain ⟨x, rfl, -, -, w_x⟩ := open_int Tryd.underlying3 (hval 2 3 v2 rfl rfl) h2
  obtain ⟨y, rfl, -, -, w_y⟩ := open_int Tryd.underlying3 (hval 3 3 v3 rfl rfl) h3
  obtain ⟨c40, c41, y40, y41, m4, rfl, -, -, hy40, hy41⟩ := Joins.open_agg2 Tryd.underlying26 (by kernel_rfl) (by kernel_rfl) (hval 4 26 v4 rfl rfl) h4
  obtain ⟨u, e_u, -, w_u⟩ := DataW.trod_int Tryd.underlying3 hy40
  simp only [List.cons.injEq, and_true] at e_u
  subst e_u
  obtain ⟨v, e_v, -, w_v⟩ := DataW.trod_int Tryd.underlying3 hy41
  simp only [List.cons.injEq, and_true] at e_v
  subst e_v
  obtain ⟨iq, rfl, -, -, w_iq⟩ := open_int Tryd.underlying3 (hval 5 3 v5 rfl rfl) h5
  clear hA0
  have hcell : TabOk W := fun k hk => (table hL).cell gTab k hk
  refine (walk a b a_ts0 len_ts0 cap_ts0 ts0 a' b' a_rs0 len_rs0 cap_rs0 rs0 x y u v iq W w_a w_b w_ts0 w_a' w_b' w_rs0 w_x w_y w_u w_v w_iq hcell).mono fun e W' ⟨he, bel⟩ => ?_
  subst he
  obtain rfl : t = 30 := by
    have e0 : g = 0 := Option.some.inj (hg1.symm.trans gTab)
    subst e0
    exact Option.some.inj (hg2.symm.trans gTabType)
  have kg : DataW.Trod enc Tryd.prog W 0 (fun _ => true) true 30 (.agg cs) dg pg := ⟨fuel, hg4⟩
  have ltg : ∀ x ∈ pg, x.block < W.heap.size := by obtain ⟨m, hm⟩ := kg; exact DataW.trod_lt m _ _ _ hm
  obtain ⟨fuel', hg4'⟩ := Below.trod laidOut (by kernel_rfl) (of_decide_eq_true (by kernel_rfl)) kg bel ltg
  have hv := trodVars_mk1 hg1 hg2 (Joins.var_stays hg1 hg3 bel (Nat.le_refl _)) hg4'
  exact ⟨_, rfl, _, _, _, [], _, _, hW', trodAll_mk1 (shut_bool Tryd.underlying4 _), (trodAll_cons_mk (Below.trod laidOut (by kernel_rfl) (of_decide_eq_true (by kernel_rfl)) k0 bel lt0) (trodAll_cons_mk (Below.trod laidOut (by kernel_rfl) (of_decide_eq_true (by kernel_rfl)) k1 bel lt1) (trodAll_cons_mk (Below.trod laidOut (by kernel_rfl) (of_decide_eq_true (by kernel_rfl)) k2 bel lt2) (trodAll_cons_mk (Below.trod laidOut (by kernel_rfl) (of_decide_eq_true (by kernel_rfl)) k3 bel lt3) (trodAll_cons_mk (Below.trod laidOut (by kernel_rfl) (of_decide_eq_true (by kernel_rfl)) k4 bel lt4) (trodAll_cons_mk (Below.trod laidOut (by kernel_rfl) (of_decide_eq_true (by kernel_rfl)) k5 bel lt5) trodAll_mk0)))))), hv, bel.frame _, fun h => by cases h⟩

noncomputable def laidWorld (os : Os) : World :=
  { World.holding Tryd.prog os ⟨#[], #[], []⟩ with heap := (World.holding Tryd.prog os ⟨#[], #[], []⟩).heap.modify 0 fun
      | .cells _ t frozen => .cells #[.int .i64 1, .int .i64 2, .int .i64 4, .int .i64 8, .int .i64 12, .int .i64 16, .int .i64 24, .int .i64 32, .int .i64 48, .int .i64 64, .int .i64 96, .int .i64 128, .int .i64 192, .int .i64 256, .int .i64 384, .int .i64 512] t frozen
      | o => o }
theorem laid_met (os : Os) : laidMet Tryd.prog Rows.fnExactInterMacroRow.laid ((laidWorld os).forCall (fun _ _ => 0) ⟨#[], #[.agg #[.int .i64 0, .int .i64 0, .slice none 0 0], .agg #[.int .i64 0, .int .i64 0, .slice none 0 0], .int .i64 0, .int .i64 0, .agg #[.int .i64 0, .int .i64 0], .int .i64 0], []⟩).memory :=
  laidMet_of_run' 8 (by kernel_rfl) (by kernel_rfl)
theorem reads (os : Os) {H : Type} (enc : TypeId × Value → H) : ∃ places, DataW.whole enc Tryd.prog ((laidWorld os).forCall (fun _ _ => 0) ⟨#[], #[.agg #[.int .i64 0, .int .i64 0, .slice none 0 0], .agg #[.int .i64 0, .int .i64 0, .slice none 0 0], .int .i64 0, .int .i64 0, .agg #[.int .i64 0, .int .i64 0], .int .i64 0], []⟩).memory Tryd.f3.params.toList Rows.fnExactInterMacroSpec.vars false (#[.agg #[.int .i64 0, .int .i64 0, .slice none 0 0], .agg #[.int .i64 0, .int .i64 0, .slice none 0 0], .int .i64 0, .int .i64 0, .agg #[.int .i64 0, .int .i64 0], .int .i64 0] : Array Value).toList 8 = some ([.agg [.lit (.int .i64 0), .lit (.int .i64 0), .nil], .agg [.lit (.int .i64 0), .lit (.int .i64 0), .nil], .lit (.int .i64 0), .lit (.int .i64 0), .agg [.lit (.int .i64 0), .lit (.int .i64 0)], .lit (.int .i64 0)], [Rows.laid_loop_example_videocodec_impl_quantSteps], places) :=
  ⟨MemPlace.row ⟨0, 0, none⟩ 16, by kernel_rfl⟩

set_option maxRecDepth 100000 in
theorem lifted (os : Os) (started : os.Started) (H : Type) (enc : TypeId × Value → H) (F : Stop.Interp) :
    ReturnsInHanded {} Tryd.checked os 3 .any ((OpenSpec.ofChange Rows.fnExactInterMacroSpec).preRow enc Tryd.prog Tryd.f3 Rows.fnExactInterMacroRow.domain false Rows.fnExactInterMacroRow.laid) (((OpenSpec.ofChange Rows.fnExactInterMacroSpec).at F).post enc Tryd.prog Tryd.f3 false true false false) := by
  obtain ⟨places, hx⟩ := reads os enc
  refine returnsInHanded_of_row (C := Tryd.checked) (s := OpenSpec.ofChange Rows.fnExactInterMacroSpec) own started (by kernel_rfl) Tryd.func3
    (witness_row_at (enc := enc) (C := Tryd.checked) false (laidWorld os) #[.agg #[.int .i64 0, .int .i64 0, .slice none 0 0], .agg #[.int .i64 0, .int .i64 0, .slice none 0 0], .int .i64 0, .int .i64 0, .agg #[.int .i64 0, .int .i64 0], .int .i64 0] rfl (by kernel_rfl) (by kernel_rfl) (by kernel_rfl)
      (OpenSpec.preRow_of_cond 8 hx (by kernel_rfl) (fun k hk => by cases hk) (by kernel_rfl) (laid_met os))) ?_
  intro W base args ds gs before hval hW _ _ _ hL _ _
  exact contract H enc W base args ds gs before hval hW hL

theorem said : Rows.FnExactInterMacroSaid :=
  OpenClaim.holds_of_cond 3 Tryd.f3 rfl rfl rfl rfl rfl rfl rfl ⟨rfl, rfl, rfl, rfl, rfl⟩ rfl rfl rfl rfl rfl (by kernel_rfl) Tryd.func3 (by kernel_rfl)
    (of_decide_eq_true (by kernel_rfl)) (by unfold Func.isWrapper; first | (rw [if_pos (by decide +kernel)]; kernel_rfl) | (rw [if_neg (by decide +kernel)]; exact ⟨rfl, rfl⟩))
    (fun os started H enc _ F => by rw [OpenClaim.pre_eq_preRow]; exact lifted os started H enc F)

theorem plain (f : FuncId) (fn : Func) (hf : Tryd.pinned.checked.prog.funcNamed "loop.example/videocodec/laws.FnExactInterMacro" = some f) (hfn : Tryd.pinned.checked.prog.funcs[f]? = some fn) :
    false = Tryd.pinned.checked.prog.looks [] ∧ ∀ (j : Nat) t, fn.params[j]? = some t → Tryd.pinned.checked.prog.wantsStandIn t = false := by
  obtain rfl : f = 3 := Option.some.inj ((show Tryd.prog.funcNamed "loop.example/videocodec/laws.FnExactInterMacro" = some 3 by kernel_rfl).symm.trans hf) |>.symm
  obtain rfl : fn = Tryd.f3 := (Option.some.inj (Tryd.func3.symm.trans hfn)).symm
  refine ⟨by kernel_rfl, fun j t ht => ?_⟩
  rw [Tryd.params3] at ht
  rcases j with _ | _ | _ | _ | _ | _ | j
  · obtain rfl : 24 = t := by simpa using ht
    exact (show Tryd.prog.wantsStandIn 24 = false by kernel_rfl)
  · obtain rfl : 24 = t := by simpa using ht
    exact (show Tryd.prog.wantsStandIn 24 = false by kernel_rfl)
  · obtain rfl : 3 = t := by simpa using ht
    exact (show Tryd.prog.wantsStandIn 3 = false by kernel_rfl)
  · obtain rfl : 3 = t := by simpa using ht
    exact (show Tryd.prog.wantsStandIn 3 = false by kernel_rfl)
  · obtain rfl : 26 = t := by simpa using ht
    exact (show Tryd.prog.wantsStandIn 26 = false by kernel_rfl)
  · obtain rfl : 3 = t := by simpa using ht
    exact (show Tryd.prog.wantsStandIn 3 = false by kernel_rfl)
  · simp at ht

theorem proved : Rows.FnExactInterMacroCardSaid :=
  Claim7.holds_tied_plain_at .later [] _ _ _ _ said (fun _ h => by cases h) (by kernel_rfl) (fun _ h => by cases h) fnExactInterMacro_row_tie rfl ⟨rfl, rfl⟩ (by kernel_rfl) rfl plain (by kernel_rfl)
#print axioms proved
end Go.Proofs.YtijccageaingjaaDoor.fnExactInterMacro
