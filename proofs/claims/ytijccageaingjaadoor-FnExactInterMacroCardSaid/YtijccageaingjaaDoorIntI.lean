/- Inter macroblocks, the program's. -/
import Derived.Test.YtijccageaingjaaDoorInt
namespace Go.Proofs.YtijccageaingjaaDoor
open Go.RowKit
set_option linter.unusedVariables false
set_option linter.unusedSimpArgs false

attribute [local go_sem] size_addsW cell?_addsW frozen?_addsW setCell_addsW drew_addsW adds_addsW setCell_twice alloc_adds0 size_adds0 adds_adds0 sel2 sel3 sel4 sel5 sel6 sel7 sel8 sel9 lt_more lt_more2 lt_more3 lt_more4 adds_drew adds_drewN drewN_addsW ltA_1_1 ltA_1_2 ltA_1_3 ltA_1_4 ltA_1_5 ltA_1_6 ltA_2_1 ltA_2_2 ltA_2_3 ltA_2_4 ltA_2_5 ltA_2_6 ltA_3_1 ltA_3_2 ltA_3_3 ltA_3_4 ltA_3_5 ltA_3_6 ltA_4_1 ltA_4_2 ltA_4_3 ltA_4_4 ltA_4_5 ltA_4_6 ltA_5_1 ltA_5_2 ltA_5_3 ltA_5_4 ltA_5_5 ltA_5_6 ltA_6_1 ltA_6_2 ltA_6_3 ltA_6_4 ltA_6_5 ltA_6_6 ltA_7_1 ltA_7_2 ltA_7_3 ltA_7_4 ltA_7_5 ltA_7_6 ltA_8_1 ltA_8_2 ltA_8_3 ltA_8_4 ltA_8_5 ltA_8_6 ltA_9_1 ltA_9_2 ltA_9_3 ltA_9_4 ltA_9_5 ltA_9_6 ltA_10_1 ltA_10_2 ltA_10_3 ltA_10_4 ltA_10_5 ltA_10_6 ltA_11_1 ltA_11_2 ltA_11_3 ltA_11_4 ltA_11_5 ltA_11_6 ltA_12_1 ltA_12_2 ltA_12_3 ltA_12_4 ltA_12_5 ltA_12_6

/-- the boxes of a macroblock's making -/
structure Bx (G : Nat) (a b : Int) (A : Option Addr) (n c : Nat) (a' b' : Int) (A' : Option Addr) (n' c' : Nat) (u v : Int) (w W : World) : Prop where
  p : Blk W G #[.int .i64 a, .int .i64 b, .slice A n c] 35
  p' : Blk W (G + 1) #[.int .i64 a', .int .i64 b', .slice A' n' c'] 35
  v : Blk W (G + 1 + 1) #[.int .i64 u, .int .i64 v] 28
  r : Blk W (G + 1 + 1 + 1) (rowI (zL 71)) 33
  below : Below w.heap.size w W
theorem Bx.start (w : World) (a b : Int) (A : Option Addr) (n c : Nat) (a' b' : Int) (A' : Option Addr) (n' c' : Nat) (u v : Int) : Bx w.heap.size a b A n c a' b' A' n' c' u v w ((((w.alloc (.cells #[.int .i64 a, .int .i64 b, .slice A n c] 35)).alloc (.cells #[.int .i64 a', .int .i64 b', .slice A' n' c'] 35)).alloc (.cells #[.int .i64 u, .int .i64 v] 28)).alloc (.cells (rowI (zL 71)) 33)) :=
  ⟨(((Blk.new w _ _ _ rfl).alloc _).alloc _).alloc _, ((Blk.new _ _ _ _ (by simp)).alloc _).alloc _, (Blk.new _ _ _ _ (by simp)).alloc _, Blk.new _ _ _ _ (by simp), (by repeat' (first | (with_reducible exact Below.refl _ _) | (with_reducible refine Below.adds_ ?_ ?_ _ _) | (with_reducible refine Below.alloc ?_ ?_ _) | (with_reducible refine Below.drew ?_) | (with_reducible refine Below.setCell ?_ ?_ _) | (with_reducible assumption) | go_size | (simp only [size_addsW, World.size_alloc, World.size_drew, World.size_setCell]; omega)))⟩
theorem Bx.adds {G : Nat} {a b : Int} {A : Option Addr} {n c : Nat} {a' b' : Int} {A' : Option Addr} {n' c' : Nat} {u v : Int} {w W : World} (h : Bx G a b A n c a' b' A' n' c' u v w W) (os : Array Obj) (m : Nat) : Bx G a b A n c a' b' A' n' c' u v w (addsW W os m) :=
  ⟨h.p.adds os m, h.p'.adds os m, h.v.adds os m, h.r.adds os m, Below.adds_ h.below h.below.size os m⟩
theorem Bx.alloc {G : Nat} {a b : Int} {A : Option Addr} {n c : Nat} {a' b' : Int} {A' : Option Addr} {n' c' : Nat} {u v : Int} {w W : World} (h : Bx G a b A n c a' b' A' n' c' u v w W) (o : Obj) : Bx G a b A n c a' b' A' n' c' u v w (W.alloc o) :=
  ⟨h.p.alloc o, h.p'.alloc o, h.v.alloc o, h.r.alloc o, Below.alloc h.below h.below.size o⟩
theorem Bx.setRow {G : Nat} {a b : Int} {A : Option Addr} {n c : Nat} {a' b' : Int} {A' : Option Addr} {n' c' : Nat} {u v : Int} {w W : World} (h : Bx G a b A n c a' b' A' n' c' u v w W) {g : Nat} (hg : G + 1 + 1 + 1 < g) (hw : w.heap.size ≤ g) (cs : Array Value) : Bx G a b A n c a' b' A' n' c' u v w (W.setRow g cs) :=
  ⟨(setRow_other W g _ cs (by omega)).trans h.p, (setRow_other W g _ cs (by omega)).trans h.p', (setRow_other W g _ cs (by omega)).trans h.v, (setRow_other W g _ cs (by omega)).trans h.r, below_row h.below h.below.size hw _⟩

set_option maxRecDepth 100000 in
set_option maxHeartbeats 4000000 in
theorem I_InterYes (a b x y u v : Int) (k0 : Nat) (A A' : Option Addr) (c c' : Nat) (ts rs : List Int) (w : World) (hr : RowAt .i64 w A ts) (hr' : RowAt .i64 w A' rs) (hl : ts.length ≤ 1000000000000) (hl' : rs.length ≤ 1000000000000) (ht : TabOk w)
    (hs : sameB a b ts a b rs = true) (hbg : begB a b x y = true) (hv : M.vecB u v = true) (hk0 : k0 < 16) :
    Calls Tryd.prog 8 #[.agg #[.int .i64 a, .int .i64 b, .slice A ts.length c], .agg #[.int .i64 a, .int .i64 b, .slice A' rs.length c'], .int .i64 x, .int .i64 y, .agg #[.int .i64 u, .int .i64 v], .int .i64 (k0 : Int)] w fun e w' => e = .returned (.agg (rowI (imS u v (lvB (mvL a b ts x y 0 0 64) (mvL a b rs x y u v 64) k0) 4))) ∧ Below w.heap.size w w' := by
  have hv2 := vecB_bd hv
  obtain ⟨s1, s2, -, -⟩ := sameB_of hs
  obtain ⟨q1, q2, q3, q4⟩ := picB_iff.1 s1
  have ha := sideB_bd q1
  have hb := sideB_bd q2
  have hb3 := begB_bd hbg
  have HTB := Lib.hid ht
  have h0 := ht.lt
  have CAl := Lib.hid (show ∀ W, Below w.heap.size w W → Calls Tryd.prog 18 #[.agg #[.int .i64 a, .int .i64 b, .slice A ts.length c], .agg #[.int .i64 a, .int .i64 b, .slice A' rs.length c']] W fun e w' => e = .returned (.bool true) ∧ Below W.heap.size W w' from fun W hW => by have := I_alike a b a b A A' c c' ts rs W (hr.keep hW) (hr'.keep hW) hl hl'; rwa [hs] at this)
  have CBg := Lib.hid (show ∀ W, Calls Tryd.prog 19 #[.agg #[.int .i64 a, .int .i64 b, .slice A ts.length c], .int .i64 x, .int .i64 y] W fun e w' => e = .returned (.bool true) ∧ Below W.heap.size W w' from fun W => by have := I_begins a b x y A ts.length c W; rwa [hbg] at this)
  have CVv := Lib.hid (show ∀ W, Calls Tryd.prog 20 #[.agg #[.int .i64 u, .int .i64 v]] W fun e w' => e = .returned (.bool true) ∧ Below W.heap.size W w' from fun W => by have := I_VectorValid u v W; rwa [hv] at this)
  have CMv := Lib.hid (show ∀ W, Below w.heap.size w W → Calls Tryd.prog 22 #[.agg #[.int .i64 a, .int .i64 b, .slice A' rs.length c'], .int .i64 x, .int .i64 y, .agg #[.int .i64 u, .int .i64 v]] W (ListGot (mvL a b rs x y u v 64) W) from fun W hW => I_moved a b x y u v A' c' rs W (hr'.keep hW) s2 (by omega) (by omega) (by omega) (by omega))
  have CPt := Lib.hid (show ∀ X Y W, (-1000 ≤ X ∧ X ≤ 1000) → (-1000 ≤ Y ∧ Y ≤ 1000) → Below w.heap.size w W → Calls Tryd.prog 26 #[.agg #[.int .i64 a, .int .i64 b, .slice A ts.length c], .int .i64 X, .int .i64 Y] W fun e w' => e = .returned (.agg (rowI (mp (pcF a b ts X Y)))) ∧ Below W.heap.size W w' from fun X Y W hX hY hW => I_part a b X Y A c ts W (hr.keep hW) (by omega) (by omega) q3 hX hY)
  have HPO := Lib.hid (pc_po a b ts x y)
  obtain ⟨T, hT⟩ : ∃ T, T = mvL a b ts x y 0 0 64 := ⟨_, rfl⟩
  obtain ⟨R, hR⟩ : ∃ R, R = mvL a b rs x y u v 64 := ⟨_, rfl⟩
  have HRL := Lib.hid (show R.length = 64 by rw [hR, mvL_len])
  have HTb := Lib.hid (show ∀ k, 0 ≤ T.getD k 0 ∧ T.getD k 0 ≤ 255 from hT ▸ mvL_bytes q4 x y 0 0)
  have HRb := Lib.hid (show ∀ k, 0 ≤ R.getD k 0 ∧ R.getD k 0 ≤ 255 from hR ▸ mvL_bytes (picB_iff.1 s2).2.2.2 x y u v)
  rw [← hT, ← hR]
  rw [← hR] at CMv
  rw [← hT] at HPO
  have HB := Lib.hid (show ∀ k, (lvB T R k0 k).length = 16 from lvB_len T R k0)
  have hin : M.inB (k0 : Int) 0 15 = true := M.inB_iff.2 ⟨by omega, by omega⟩
  obtain ⟨n, hn⟩ : ∃ n, n = ts.length := ⟨_, rfl⟩
  obtain ⟨n', hn'⟩ : ∃ n', n' = rs.length := ⟨_, rfl⟩
  rw [← hn] at CAl CBg CPt ⊢
  rw [← hn'] at CAl CMv ⊢
  clear hn hn' hr hr' hl hl' ht hs s1 s2 q1 q2 q3 q4 hbg hv hT hR
  have hwg : w.heap.size ≤ w.heap.size := Nat.le_refl _
  have HT0 := Lib.hid (Bx.start w a b A n c a b A' n' c' u v)
  go_enter Tryd.func8, Tryd.ntmps8
  go_upto_region 1 with fail
  (try simp only [zcMac])
  refine all_add' ?_
  intro Z hZ
  have T1 := Lib.hid (show Bx w.heap.size a b A n c a b A' n' c' u v w Z from hZ ▸ HT0.out)
  clear hZ HT0
  have e0 : Z.cell? ⟨w.heap.size, 0, none⟩ = some (.int .i64 a) := T1.out.p.get rfl
  have e1 : Z.cell? ⟨w.heap.size, 1, none⟩ = some (.int .i64 b) := T1.out.p.get rfl
  have e2 : Z.cell? ⟨w.heap.size, 2, none⟩ = some (.slice A n c) := T1.out.p.get rfl
  have f0 : Z.cell? ⟨w.heap.size + 1, 0, none⟩ = some (.int .i64 a) := T1.out.p'.get rfl
  have f1 : Z.cell? ⟨w.heap.size + 1, 1, none⟩ = some (.int .i64 b) := T1.out.p'.get rfl
  have f2 : Z.cell? ⟨w.heap.size + 1, 2, none⟩ = some (.slice A' n' c') := T1.out.p'.get rfl
  have g0 : Z.cell? ⟨w.heap.size + 1 + 1, 0, none⟩ = some (.int .i64 u) := T1.out.v.get rfl
  have g1 : Z.cell? ⟨w.heap.size + 1 + 1, 1, none⟩ = some (.int .i64 v) := T1.out.v.get rfl
  have l1 := T1.out.p.lt
  have l2 := T1.out.p'.lt
  have l3 := T1.out.v.lt
  go_upto_region 3 with (first
    | (go_at_call 18; (with_reducible refine (CAl.out _ T1.out.below).mono ?_); rintro e w' ⟨rfl, hb⟩; obtain ⟨o1, n1, rfl⟩ := below_adds hb; clear hb)
    | (go_at_call 19; refine (CBg.out _).mono ?_; rintro e w' ⟨rfl, hb⟩; obtain ⟨o1, n1, rfl⟩ := below_adds hb; clear hb)
    | (go_at_call 20; refine (CVv.out _).mono ?_; rintro e w' ⟨rfl, hb⟩; obtain ⟨o1, n1, rfl⟩ := below_adds hb; clear hb)
    | (go_at_call 21; refine (I_qualityValid _ _).mono ?_; rw [hin]; rintro e w' ⟨rfl, rfl⟩))
  refine all_add' ?_
  intro Y hY
  have T2 := Lib.hid (show Bx w.heap.size a b A n c a b A' n' c' u v w Y from hY ▸ T1.out.adds _ _)
  clear hY T1 e0 e1 e2 f0 f1 f2 g0 g1 l1 l2 l3 CAl CBg CVv
  have g0 : Y.cell? ⟨w.heap.size + 1 + 1, 0, none⟩ = some (.int .i64 u) := T2.out.v.get rfl
  have g1 : Y.cell? ⟨w.heap.size + 1 + 1, 1, none⟩ = some (.int .i64 v) := T2.out.v.get rfl
  have l3 := T2.out.v.lt
  go_upto_region 4 with (first
    | (simp only [zcMac, rowI_set])
    | (focus ((with_reducible refine wpList_wanted ?_ (fun K hK => ?_)); rotate_left; (refine wp_store_sub 33 (.tmp 13) (.tmp 41) ?ho Y.heap.size 0 ((((zL 71).set 0 1).set 1 u).set 2 v) ?hx ?hy 33 (zL 71) ?hg ?hi ?hfit (hK _ _ ?_)); (case ho => with_reducible rfl); (case hx => rfl); (case hy => rfl); (case hg => exact heap_alloc_new _ _); (case hi => simp only [List.length_set, zL_len]; exact infoMac); (case hfit => simp only [List.length_set, zL_len]; exact Nat.le_refl _); rw [spl_full (by simp only [List.length_set]), setRow_alloc _ _ _ _ _ rfl]; rotate_left; rfl)))
  refine all_add' ?_
  intro V hV
  have hg1 : w.heap.size + 1 + 1 + 1 < Y.heap.size := T2.out.r.lt
  have hgw : w.heap.size ≤ Y.heap.size := T2.out.below.size
  have T3 := Lib.hid (show Bx w.heap.size a b A n c a b A' n' c' u v w V from hV ▸ T2.out.alloc _)
  have M3 := Lib.hid (show Blk V Y.heap.size (rowI (imS u v (lvB T R k0) 0)) 33 from hV ▸ Blk.new _ _ _ _ rfl)
  clear hV T2 g0 g1 l3
  generalize Y.heap.size = g at hg1 hgw M3 ⊢
  clear Y
  have f0 : V.cell? ⟨w.heap.size + 1, 0, none⟩ = some (.int .i64 a) := T3.out.p'.get rfl
  have f1 : V.cell? ⟨w.heap.size + 1, 1, none⟩ = some (.int .i64 b) := T3.out.p'.get rfl
  have f2 : V.cell? ⟨w.heap.size + 1, 2, none⟩ = some (.slice A' n' c') := T3.out.p'.get rfl
  have g0 : V.cell? ⟨w.heap.size + 1 + 1, 0, none⟩ = some (.int .i64 u) := T3.out.v.get rfl
  have g1 : V.cell? ⟨w.heap.size + 1 + 1, 1, none⟩ = some (.int .i64 v) := T3.out.v.get rfl
  have l2 := T3.out.p'.lt
  have l3 := T3.out.v.lt
  go_upto_region 5 with (go_at_call 22; (with_reducible refine (CMv.out _ T3.out.below).mono ?_); rintro e w' ⟨A5, c5, rfl, hr5, hA5, -, hb⟩; obtain ⟨o1, n1, rfl⟩ := below_adds hb; clear hb; have HR5 := Lib.hid hr5; have HA5 := Lib.hid hA5; clear hr5 hA5; rw [HRL.out])
  refine all_add' ?_
  intro U hU
  have T4 := Lib.hid (show Bx w.heap.size a b A n c a b A' n' c' u v w U from hU ▸ T3.out.adds _ _)
  have M4 := Lib.hid (show Blk U g (rowI (imS u v (lvB T R k0) 0)) 33 from hU ▸ M3.out.adds _ _)
  have R4 := Lib.hid (show RowAt .i64 U A5 R from hU ▸ HR5.out)
  have hA4 := Lib.hid (show ∀ d, A5 = some d → d.block ≠ g from fun d hd => by have h1 := HA5.out d hd; have h2 := M3.out.lt; omega)
  clear hU T3 M3 HR5 HA5 f0 f1 f2 g0 g1 l2 l3 CMv V
  go_wp2_with fail
  go_loopw [47] (fun t wr => ∃ k : Nat, t = .int .i64 (k : Int) ∧ k ≤ 4 ∧ Bx w.heap.size a b A n c a b A' n' c' u v w wr ∧ Blk wr g (rowI (imS u v (lvB T R k0) k)) 33 ∧ RowAt .i64 wr A5 R) (fun t _ => 4 - (intOf t).toNat)
  case atStart => exact ⟨0, rfl, by omega, T4.out, M4.out, R4.out⟩
  case round =>
    clear T4 M4 R4
    obtain ⟨k, rfl, hk, hT, hM, hRw⟩ := hrel
    obtain ⟨zs, hzs⟩ : ∃ zs, zs = imS u v (lvB T R k0) k := ⟨_, rfl⟩
    have HZ := Lib.hid (show zs.length = 71 by rw [hzs]; exact imS_len HB.out k hk)
    rw [← hzs] at hM
    have HTT := Lib.hid hT
    have HM := Lib.hid hM
    have HRW := Lib.hid hRw
    have HTW := Lib.hid (HTB.out.keep hT.below)
    have lg := hM.lt
    clear hM hRw
    by_cases hlt : k < 4
    · have hd1 : (k : Int) < 4 := by omega
      obtain ⟨i, hi⟩ : ∃ i : Nat, i = k % 2 * 4 := ⟨_, rfl⟩
      obtain ⟨j, hj⟩ : ∃ j : Nat, j = k / 2 * 4 := ⟨_, rfl⟩
      have CP := Lib.hid (show ∀ W, Calls Tryd.prog 23 #[.int .i64 (k : Int)] W fun e w' => e = .returned (.tuple #[.int .i64 (i : Int), .int .i64 (j : Int)]) ∧ W = w' from fun W => by rw [hi, hj]; exact I_partAt k W hlt)
      obtain ⟨X, hX⟩ : ∃ X, X = x + (i : Int) := ⟨_, rfl⟩
      obtain ⟨Y, hY⟩ : ∃ Y, Y = y + (j : Int) := ⟨_, rfl⟩
      have x4 : IntKind.i64.wrap (x + (i : Int)) = X := hX ▸ IntWalk.i64_in _ (by omega)
      have y4 : IntKind.i64.wrap (y + (j : Int)) = Y := hY ▸ IntWalk.i64_in _ (by omega)
      obtain ⟨P, hP⟩ : ∃ P, P = mp (poF T i j) := ⟨_, rfl⟩
      obtain ⟨Q, hQ⟩ : ∃ Q, Q = mp (poF R i j) := ⟨_, rfl⟩
      obtain ⟨D, hD⟩ : ∃ D, D = dfL P Q := ⟨_, rfl⟩
      obtain ⟨E, hE⟩ : ∃ E, E = mp (cbF D k0) := ⟨_, rfl⟩
      have hPb : ∀ i, 0 ≤ P.getD i 0 ∧ P.getD i 0 ≤ 255 := hP ▸ po_bd HTb.out i j
      have hQb : ∀ i, 0 ≤ Q.getD i 0 ∧ Q.getD i 0 ≤ 255 := hQ ▸ po_bd HRb.out i j
      have hPl : P.length = 16 := hP ▸ mp_len _
      have hQl : Q.length = 16 := hQ ▸ mp_len _
      have C1 := Lib.hid (show ∀ W, Below w.heap.size w W → Calls Tryd.prog 26 #[.agg #[.int .i64 a, .int .i64 b, .slice A n c], .int .i64 X, .int .i64 Y] W fun e w' => e = .returned (.agg (rowI P)) ∧ Below W.heap.size W w' from fun W hW => by
        have h := CPt.out X Y W (by omega) (by omega) hW
        have e : mp (pcF a b ts X Y) = P := by rw [hX, hY, hi, hj, HPO.out k hlt, hP, hi, hj]
        rwa [e] at h)
      have C2 := Lib.hid (show ∀ W, RowAt .i64 W A5 R → Calls Tryd.prog 27 #[.slice A5 64 c5, .int .i64 (i : Int), .int .i64 (j : Int)] W fun e w' => e = .returned (.agg (rowI Q)) ∧ Below W.heap.size W w' from fun W hW => by rw [hQ]; exact I_partOf R A5 c5 i j W hW HRL.out (by omega) (by omega))
      have C3 := Lib.hid (show ∀ W, Calls Tryd.prog 25 #[.agg (rowI P), .agg (rowI Q)] W fun e w' => e = .returned (.agg (rowI D)) ∧ Below W.heap.size W w' from fun W => by rw [hD]; exact I_difference P Q W hPl hQl (bd_of hPb) (bd_of hQb))
      have C4 := Lib.hid (show ∀ W, TabOk W → Calls Tryd.prog 24 #[.agg (rowI D), .int .i64 (k0 : Int)] W fun e w' => e = .returned (.agg (rowI E)) ∧ Below W.heap.size W w' from fun W hW => by rw [hE]; exact I_CodeBlock D k0 W (by rw [hD, dfL_len]) (by rw [hD]; exact df_bd hPb hQb) hk0 hW)
      have HEl := Lib.hid (show E.length = 16 by rw [hE, mp_len])
      have HE := Lib.hid (show imS u v (lvB T R k0) (k + 1) = spl zs (7 + k * 16) E by rw [hzs, hE, hD, hP, hQ, hi, hj]; rfl)
      clear hzs hE hD hP hQ hPb hQb hPl hQl hX hY hi hj
      have e0 : wr.cell? ⟨w.heap.size, 0, none⟩ = some (.int .i64 a) := hT.p.get rfl
      have e1 : wr.cell? ⟨w.heap.size, 1, none⟩ = some (.int .i64 b) := hT.p.get rfl
      have e2 : wr.cell? ⟨w.heap.size, 2, none⟩ = some (.slice A n c) := hT.p.get rfl
      have l1 := hT.p.lt
      clear hT
      go_wp2_with (first
        | (go_at_call 23; refine (CP.out _).mono ?_; rintro e w' ⟨rfl, rfl⟩)
        | (go_at_call 26; (with_reducible refine (C1.out _ HTT.out.below).mono ?_); rintro e w' ⟨rfl, hb⟩; obtain ⟨o1, n1, rfl⟩ := below_adds hb; clear hb)
        | (go_at_call 27; (with_reducible refine (C2.out _ (HRW.out.keep (by repeat' (first | (with_reducible exact Below.refl _ _) | (with_reducible refine Below.adds_ ?_ ?_ _ _) | (with_reducible refine Below.alloc ?_ ?_ _) | (with_reducible refine Below.drew ?_) | (with_reducible refine Below.setCell ?_ ?_ _) | (with_reducible assumption) | go_size | (simp only [size_addsW, World.size_alloc, World.size_drew, World.size_setCell]; omega))))).mono ?_); rintro e w' ⟨rfl, hb⟩; obtain ⟨o2, n2, rfl⟩ := below_adds hb; clear hb)
        | (go_at_call 25; refine (C3.out _).mono ?_; rintro e w' ⟨rfl, hb⟩; obtain ⟨o3, n3, rfl⟩ := below_adds hb; clear hb)
        | (go_at_call 24; (with_reducible refine (C4.out _ (HTW.out.keep (by repeat' (first | (with_reducible exact Below.refl _ _) | (with_reducible refine Below.adds_ ?_ ?_ _ _) | (with_reducible refine Below.alloc ?_ ?_ _) | (with_reducible refine Below.drew ?_) | (with_reducible refine Below.setCell ?_ ?_ _) | (with_reducible assumption) | go_size | (simp only [size_addsW, World.size_alloc, World.size_drew, World.size_setCell]; omega))))).mono ?_); rintro e w' ⟨rfl, hb⟩; obtain ⟨o4, n4, rfl⟩ := below_adds hb; clear hb)
        | (focus ((with_reducible refine wpList_wanted ?_ (fun K hK => ?_)); rotate_left; (refine wp_store_sub 30 (.tmp 72) (.tmp 70) ?ho g (7 + k * 16) E ?hx ?hy 33 zs ?hg ?hi ?hfit (hK _ _ ?_)); (case ho => with_reducible rfl); (case hx => rfl); (case hy => rfl); (case hg => exact HM.out.adds _ _); (case hi => rw [HEl.out]; exact infoA16); (case hfit => rw [HEl.out, HZ.out]; omega); rotate_left; rfl)))
      go_roundw
      case rel => exact ⟨k + 1, by go_num, by omega, (HTT.out.adds _ _).setRow hg1 hgw _, by rw [HE.out]; exact (HM.out.adds _ _).row _, (HRW.out.keep (by repeat' (first | (with_reducible exact Below.refl _ _) | (with_reducible refine Below.adds_ ?_ ?_ _ _) | (with_reducible refine Below.alloc ?_ ?_ _) | (with_reducible refine Below.drew ?_) | (with_reducible refine Below.setCell ?_ ?_ _) | (with_reducible assumption) | go_size | (simp only [size_addsW, World.size_alloc, World.size_drew, World.size_setCell]; omega)))).rowOther hA4.out _⟩
      case measure => simp [intOf]; omega
    · obtain rfl : k = 4 := by omega
      have HZS := Lib.hid hzs
      clear hzs hT
      go_upto_region 11 with fail
      refine wp_region_lit ?_
      refine wpList_load_sub rfl 33 (.tmp 13) rfl g 0 71 rfl 33 zs (0, 0) _ HM.out Tryd.underlying33 rfl infoMac (by rw [HZ.out]; exact Nat.le_refl _) ?_
      rw [show sub zs 0 71 = zs by rw [← HZ.out]; exact sub_all zs]
      refine wpList_store_sub rfl 33 (.tmp 12) (.tmp 74) rfl (w.heap.size + 1 + 1 + 1) 0 zs rfl rfl 33 (zL 71) HTT.out.r (by rw [HZ.out]; exact infoMac) (by rw [HZ.out, zL_len]; exact Nat.le_refl _) ?_
      rw [spl_full (by rw [HZ.out, zL_len])]
      go_wp2_with fail
      refine bodyPost_ret (v := .agg (rowI zs)) (by exact results_cell_row Tryd.results8 _ _ (w.heap.size + 1 + 1 + 1) 33 (rowI zs) (0, 0) _ rfl (HTT.out.r.row (rowI zs)) Tryd.underlying33 rfl (by rw [rowI_size, HZ.out]; exact infoMac)) rfl ?_
      exact ⟨by rw [HZS.out], below_row HTT.out.below HTT.out.below.size (by omega) _⟩

set_option maxRecDepth 100000 in
set_option maxHeartbeats 4000000 in
theorem I_InterNo (a b a' b' x y u v q : Int) (A A' : Option Addr) (c c' : Nat) (ts rs : List Int) (w : World) (hr : RowAt .i64 w A ts) (hr' : RowAt .i64 w A' rs) (hl : ts.length ≤ 1000000000000) (hl' : rs.length ≤ 1000000000000)
    (hno : imB a b ts a' b' rs x y u v q = false) :
    Calls Tryd.prog 8 #[.agg #[.int .i64 a, .int .i64 b, .slice A ts.length c], .agg #[.int .i64 a', .int .i64 b', .slice A' rs.length c'], .int .i64 x, .int .i64 y, .agg #[.int .i64 u, .int .i64 v], .int .i64 q] w fun e w' => e = .returned (.agg (rowI (zL 71))) ∧ Below w.heap.size w w' := by
  obtain ⟨p1, hp1⟩ : ∃ p, p = sameB a b ts a' b' rs := ⟨_, rfl⟩
  obtain ⟨p2, hp2⟩ : ∃ p, p = begB a b x y := ⟨_, rfl⟩
  obtain ⟨p3, hp3⟩ : ∃ p, p = M.vecB u v := ⟨_, rfl⟩
  obtain ⟨p4, hp4⟩ : ∃ p, p = M.inB q 0 15 := ⟨_, rfl⟩
  rw [imB, ← hp1, ← hp2, ← hp3, ← hp4] at hno
  have CAl := Lib.hid (show ∀ W, Below w.heap.size w W → Calls Tryd.prog 18 #[.agg #[.int .i64 a, .int .i64 b, .slice A ts.length c], .agg #[.int .i64 a', .int .i64 b', .slice A' rs.length c']] W fun e w' => e = .returned (.bool p1) ∧ Below W.heap.size W w' from fun W hW => by rw [hp1]; exact I_alike a b a' b' A A' c c' ts rs W (hr.keep hW) (hr'.keep hW) hl hl')
  have CBg := Lib.hid (show p1 = true → ∀ W, Below w.heap.size w W → Calls Tryd.prog 19 #[.agg #[.int .i64 a, .int .i64 b, .slice A ts.length c], .int .i64 x, .int .i64 y] W fun e w' => e = .returned (.bool p2) ∧ Below W.heap.size W w' from fun hp W hW => by rw [hp2]; exact I_begins a b x y A ts.length c W)
  have CVv := Lib.hid (show ∀ W, Calls Tryd.prog 20 #[.agg #[.int .i64 u, .int .i64 v]] W fun e w' => e = .returned (.bool p3) ∧ Below W.heap.size W w' from fun W => by rw [hp3]; exact I_VectorValid u v W)
  have CQv := Lib.hid (show ∀ W, Calls Tryd.prog 21 #[.int .i64 q] W fun e w' => e = .returned (.bool p4) ∧ W = w' from fun W => by rw [hp4]; exact I_qualityValid q W)
  obtain ⟨n, hn⟩ : ∃ n, n = ts.length := ⟨_, rfl⟩
  obtain ⟨n', hn'⟩ : ∃ n', n' = rs.length := ⟨_, rfl⟩
  rw [← hn] at CAl CBg ⊢
  rw [← hn'] at CAl ⊢
  clear hn hn' hr hr' hl hl' hp1 hp2 hp3 hp4
  have hwg : w.heap.size ≤ w.heap.size := Nat.le_refl _
  have HT0 := Lib.hid (Bx.start w a b A n c a' b' A' n' c' u v)
  rcases (show p1 = false ∨ (p1 = true ∧ p2 = false) ∨ (p1 = true ∧ p2 = true ∧ p3 = false) ∨ (p1 = true ∧ p2 = true ∧ p3 = true ∧ p4 = false) by cases p1 <;> cases p2 <;> cases p3 <;> cases p4 <;> simp_all) with rfl | ⟨rfl, rfl⟩ | ⟨rfl, rfl, rfl⟩ | ⟨rfl, rfl, rfl, rfl⟩
  all_goals
    clear hno
    go_enter Tryd.func8, Tryd.ntmps8
    go_upto_region 1 with fail
    (try simp only [zcMac])
    refine all_add' ?_
    intro Z hZ
    have T1 := Lib.hid (show Bx w.heap.size a b A n c a' b' A' n' c' u v w Z from hZ ▸ HT0.out)
    clear hZ HT0
    have e0 : Z.cell? ⟨w.heap.size, 0, none⟩ = some (.int .i64 a) := T1.out.p.get rfl
    have e1 : Z.cell? ⟨w.heap.size, 1, none⟩ = some (.int .i64 b) := T1.out.p.get rfl
    have e2 : Z.cell? ⟨w.heap.size, 2, none⟩ = some (.slice A n c) := T1.out.p.get rfl
    have f0 : Z.cell? ⟨w.heap.size + 1, 0, none⟩ = some (.int .i64 a') := T1.out.p'.get rfl
    have f1 : Z.cell? ⟨w.heap.size + 1, 1, none⟩ = some (.int .i64 b') := T1.out.p'.get rfl
    have f2 : Z.cell? ⟨w.heap.size + 1, 2, none⟩ = some (.slice A' n' c') := T1.out.p'.get rfl
    have g0 : Z.cell? ⟨w.heap.size + 1 + 1, 0, none⟩ = some (.int .i64 u) := T1.out.v.get rfl
    have g1 : Z.cell? ⟨w.heap.size + 1 + 1, 1, none⟩ = some (.int .i64 v) := T1.out.v.get rfl
    have l1 := T1.out.p.lt
    have l2 := T1.out.p'.lt
    have l3 := T1.out.v.lt
    go_wp2_with (first
      | (simp only [zcMac])
      | (go_at_call 18; (with_reducible refine (CAl.out _ T1.out.below).mono ?_); rintro e w' ⟨rfl, hb⟩; obtain ⟨o1, n1, rfl⟩ := below_adds hb; clear hb)
      | (go_at_call 19; (with_reducible refine (CBg.out rfl _ (Below.adds_ T1.out.below T1.out.below.size _ _)).mono ?_); rintro e w' ⟨rfl, hb⟩; obtain ⟨o1, n1, rfl⟩ := below_adds hb; clear hb)
      | (go_at_call 20; refine (CVv.out _).mono ?_; rintro e w' ⟨rfl, hb⟩; obtain ⟨o1, n1, rfl⟩ := below_adds hb; clear hb)
      | (go_at_call 21; refine (CQv.out _).mono ?_; rintro e w' ⟨rfl, rfl⟩)
      | (focus ((with_reducible refine wpList_wanted ?_ (fun K hK => ?_)); rotate_left; (refine wp_store_sub 33 (.tmp 12) (.tmp 39) ?ho (w.heap.size + 1 + 1 + 1) 0 (zL 71) ?hx ?hy 33 (zL 71) ?hg ?hi ?hfit (hK _ _ ?_)); (case ho => with_reducible rfl); (case hx => rfl); (case hy => rfl); (case hg => first | exact T1.out.r | exact T1.out.r.adds _ _); (case hi => rw [zL_len]; exact infoMac); (case hfit => exact Nat.le_refl _); rw [spl_full rfl]; rotate_left; rfl)))
    refine bodyPost_ret (v := .agg (rowI (zL 71))) (by exact results_cell_row Tryd.results8 _ _ (w.heap.size + 1 + 1 + 1) 33 (rowI (zL 71)) (0, 0) _ rfl (by first | exact (T1.out.r.adds _ _).row (rowI (zL 71)) | exact T1.out.r.row (rowI (zL 71))) Tryd.underlying33 rfl (by rw [rowI_size, zL_len]; exact infoMac)) rfl ?_
    exact ⟨rfl, by first | exact below_row (Below.adds_ T1.out.below T1.out.below.size _ _) (by simp only [size_addsW]; have := T1.out.below.size; omega) (by omega) _ | exact below_row T1.out.below T1.out.below.size (by omega) _⟩

theorem I_InterMacro (a b a' b' x y u v q : Int) (A A' : Option Addr) (c c' : Nat) (ts rs : List Int) (w : World) (hr : RowAt .i64 w A ts) (hr' : RowAt .i64 w A' rs) (hl : ts.length ≤ 1000000000000) (hl' : rs.length ≤ 1000000000000) (ht : TabOk w) :
    Calls Tryd.prog 8 #[.agg #[.int .i64 a, .int .i64 b, .slice A ts.length c], .agg #[.int .i64 a', .int .i64 b', .slice A' rs.length c'], .int .i64 x, .int .i64 y, .agg #[.int .i64 u, .int .i64 v], .int .i64 q] w fun e w' => e = .returned (.agg (rowI (imV a b ts a' b' rs x y u v q))) ∧ Below w.heap.size w w' := by
  cases h : imB a b ts a' b' rs x y u v q
  · have := I_InterNo a b a' b' x y u v q A A' c c' ts rs w hr hr' hl hl' h
    unfold imV
    rw [h]
    exact this
  · have h2 := h
    simp only [imB, Bool.and_eq_true] at h2
    obtain ⟨⟨⟨h3, h4⟩, h5⟩, h6⟩ := h2
    obtain ⟨-, -, rfl, rfl⟩ := sameB_of h3
    have hq := M.inB_iff.1 h6
    obtain ⟨k0, rfl⟩ : ∃ k : Nat, q = (k : Int) := ⟨q.toNat, by omega⟩
    have := I_InterYes a b x y u v k0 A A' c c' ts rs w hr hr' hl hl' ht h3 h4 h5 (by omega)
    unfold imV
    rw [h, Int.toNat_natCast]
    exact this

end Go.Proofs.YtijccageaingjaaDoor
