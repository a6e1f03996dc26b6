/- EdgesAt, both, and EdgesValid. -/
import Derived.Test.YtobphddjoebfjaaEdgeS
namespace Go.Proofs.Ytobphddjoebfjaa
open Go.RowKit
set_option linter.unusedVariables false
set_option linter.unusedSimpArgs false

attribute [local go_sem] size_addsW cell?_addsW frozen?_addsW setCell_addsW drew_addsW adds_addsW setCell_twice alloc_adds0 size_adds0 adds_adds0 sel2 sel3 sel4 sel5 sel6 sel7 sel8 sel9 lt_more lt_more2 lt_more3 lt_more4 adds_drew adds_drewN drewN_addsW ltA_1_1 ltA_1_2 ltA_1_3 ltA_1_4 ltA_1_5 ltA_1_6 ltA_2_1 ltA_2_2 ltA_2_3 ltA_2_4 ltA_2_5 ltA_2_6 ltA_3_1 ltA_3_2 ltA_3_3 ltA_3_4 ltA_3_5 ltA_3_6 ltA_4_1 ltA_4_2 ltA_4_3 ltA_4_4 ltA_4_5 ltA_4_6 ltA_5_1 ltA_5_2 ltA_5_3 ltA_5_4 ltA_5_5 ltA_5_6 ltA_6_1 ltA_6_2 ltA_6_3 ltA_6_4 ltA_6_5 ltA_6_6 ltA_7_1 ltA_7_2 ltA_7_3 ltA_7_4 ltA_7_5 ltA_7_6 ltA_8_1 ltA_8_2 ltA_8_3 ltA_8_4 ltA_8_5 ltA_8_6 ltA_9_1 ltA_9_2 ltA_9_3 ltA_9_4 ltA_9_5 ltA_9_6 ltA_10_1 ltA_10_2 ltA_10_3 ltA_10_4 ltA_10_5 ltA_10_6 ltA_11_1 ltA_11_2 ltA_11_3 ltA_11_4 ltA_11_5 ltA_11_6 ltA_12_1 ltA_12_2 ltA_12_3 ltA_12_4 ltA_12_5 ltA_12_6

theorem edB_bd {a b : Int} {zs : List Int} {x y t : Int} (h : edB a b zs x y t = true) : picB a b zs = true ∧ 0 ≤ x ∧ x < a ∧ x % 4 = 0 ∧ 0 ≤ y ∧ y < b ∧ y % 4 = 0 ∧ 0 ≤ t ∧ t ≤ y := by simpa [edB] using h
theorem edV_ok {a b : Int} {zs : List Int} {x y t : Int} (h : edB a b zs x y t = true) : ∃ (f g : Nat → Int) (c' : Int) (u l : Bool), edV a b zs x y t = #[.int .i64 (f 0), .int .i64 (f 1), .int .i64 (f 2), .int .i64 (f 3), .int .i64 (g 0), .int .i64 (g 1), .int .i64 (g 2), .int .i64 (g 3), .int .i64 c', .bool u, .bool l] ∧ edA a b zs x y t = #[.int .i64 (f 0), .int .i64 (f 1), .int .i64 (f 2), .int .i64 (f 3), .int .i64 (g 0), .int .i64 (g 1), .int .i64 (g 2), .int .i64 (g 3), .int .i64 c', .bool u, .bool l] :=
  ⟨_, _, _, _, _, by rw [edV, if_pos h]; rfl, rfl⟩
theorem edV_bad {a b : Int} {zs : List Int} {x y t : Int} (h : edB a b zs x y t = false) : edV a b zs x y t = #[.int .i64 0, .int .i64 0, .int .i64 0, .int .i64 0, .int .i64 0, .int .i64 0, .int .i64 0, .int .i64 0, .int .i64 0, .bool false, .bool false] := by
  rw [edV, if_neg (by rw [h]; decide)]; rfl

set_option maxRecDepth 100000 in
set_option maxHeartbeats 4000000 in
theorem I_EdgesAt (a b x y t : Int) (A : Option Addr) (c : Nat) (zs : List Int) (w : World) (hr : RowAt .i64 w A zs) (hl : zs.length ≤ 1000000000000) (hx : -1000 ≤ x ∧ x ≤ 1000) (hy : -1000 ≤ y ∧ y ≤ 1000) :
    Calls Try.prog 23 #[.agg #[.int .i64 a, .int .i64 b, .slice A zs.length c], .int .i64 x, .int .i64 y, .int .i64 t] w fun e w' => e = .returned (.agg (edV a b zs x y t)) ∧ Below w.heap.size w w' := by
  have HR := Lib.hid hr
  clear hr
  cases hok : edB a b zs x y t
  · rw [edV_bad hok]
    cases hv : picB a b zs
    · clear hok
      go_enter Try.func23, Try.ntmps23
      go_wp2_with (go_at_call 52; refine (I_PictureValid a b _ _ zs _ (HR.out.keep (by repeat' (first | (with_reducible exact Below.refl _ _) | (with_reducible refine Below.adds_ ?_ ?_ _ _) | (with_reducible refine Below.alloc ?_ ?_ _) | (with_reducible refine Below.drew ?_) | (with_reducible refine Below.setCell ?_ ?_ _) | (with_reducible assumption) | go_size | (simp only [size_addsW, World.size_alloc, World.size_drew, World.size_setCell]; omega)))) (by omega)).mono ?_; rw [hv]; rintro e w' ⟨rfl, hb⟩; obtain ⟨o1, n1, rfl⟩ := below_adds hb; clear hb)
      go_returns
      exact ⟨rfl, (by repeat' (first | (with_reducible exact Below.refl _ _) | (with_reducible refine Below.adds_ ?_ ?_ _ _) | (with_reducible refine Below.alloc ?_ ?_ _) | (with_reducible refine Below.drew ?_) | (with_reducible refine Below.setCell ?_ ?_ _) | (with_reducible assumption) | go_size | (simp only [size_addsW, World.size_alloc, World.size_drew, World.size_setCell]; omega)))⟩
    · have hbd := picB_bd hv
      have HV := Lib.hid hv
      have h4 := sideB_bd (picB_iff.1 hv).1
      have h5 := sideB_bd (picB_iff.1 hv).2.1
      have hno : ¬ (0 ≤ x ∧ x < a ∧ x % 4 = 0 ∧ 0 ≤ y ∧ y < b ∧ y % 4 = 0 ∧ 0 ≤ t ∧ t ≤ y) := by
        intro h; simp [edB, hv, h] at hok
      clear hv hok
      rcases (show x < 0 ∨ (¬ x < 0 ∧ a ≤ x) ∨ (¬ x < 0 ∧ ¬ a ≤ x ∧ ¬ x % 4 = 0) ∨ (¬ x < 0 ∧ ¬ a ≤ x ∧ x % 4 = 0 ∧ y < 0) ∨ (¬ x < 0 ∧ ¬ a ≤ x ∧ x % 4 = 0 ∧ ¬ y < 0 ∧ b ≤ y) ∨ (¬ x < 0 ∧ ¬ a ≤ x ∧ x % 4 = 0 ∧ ¬ y < 0 ∧ ¬ b ≤ y ∧ ¬ y % 4 = 0) ∨ (¬ x < 0 ∧ ¬ a ≤ x ∧ x % 4 = 0 ∧ ¬ y < 0 ∧ ¬ b ≤ y ∧ y % 4 = 0 ∧ t < 0) ∨ (¬ x < 0 ∧ ¬ a ≤ x ∧ x % 4 = 0 ∧ ¬ y < 0 ∧ ¬ b ≤ y ∧ y % 4 = 0 ∧ ¬ t < 0 ∧ y < t) by omega) with h1 | ⟨h1, h2⟩ | ⟨h1, h2, h3⟩ | ⟨h1, h2, h3, h6⟩ | ⟨h1, h2, h3, h6, h7⟩ | ⟨h1, h2, h3, h6, h7, h8⟩ | ⟨h1, h2, h3, h6, h7, h8, h9⟩ | ⟨h1, h2, h3, h6, h7, h8, h9, h10⟩
      all_goals
        clear hno
        try have g1 : 0 ≤ x := by omega
        try have g1 := (HXJ.out (by assumption)).1
        try have g2 : 0 ≤ y := by omega
        try have g2 := (HYJ.out (by assumption)).1
        try have e5 : (x % 4 != 0) = true := by simp only [bne_iff_ne, ne_eq]; omega
        try have e6 : (y % 4 != 0) = true := by simp only [bne_iff_ne, ne_eq]; omega
        go_enter Try.func23, Try.ntmps23
        go_wp2_with (first | (go_at_call 52; refine (I_PictureValid a b _ _ zs _ (HR.out.keep (by repeat' (first | (with_reducible exact Below.refl _ _) | (with_reducible refine Below.adds_ ?_ ?_ _ _) | (with_reducible refine Below.alloc ?_ ?_ _) | (with_reducible refine Below.drew ?_) | (with_reducible refine Below.setCell ?_ ?_ _) | (with_reducible assumption) | go_size | (simp only [size_addsW, World.size_alloc, World.size_drew, World.size_setCell]; omega)))) (by omega)).mono ?_; rw [HV.out]; rintro e w' ⟨rfl, hb⟩; obtain ⟨o1, n1, rfl⟩ := below_adds hb; clear hb))
        go_returns
        exact ⟨rfl, (by repeat' (first | (with_reducible exact Below.refl _ _) | (with_reducible refine Below.adds_ ?_ ?_ _ _) | (with_reducible refine Below.alloc ?_ ?_ _) | (with_reducible refine Below.drew ?_) | (with_reducible refine Below.setCell ?_ ?_ _) | (with_reducible assumption) | go_size | (simp only [size_addsW, World.size_alloc, World.size_drew, World.size_setCell]; omega)))⟩
  · obtain ⟨hv, h1, h2, h3, h4, h5, h6, h7, h8⟩ := edB_bd hok
    obtain ⟨f, g, c', u, l, e1, e2⟩ := edV_ok hok
    have hbd := picB_bd hv
    have HV := Lib.hid hv
    have s4 := sideB_bd (picB_iff.1 hv).1
    have s5 := sideB_bd (picB_iff.1 hv).2.1
    have HE := Lib.hid (show ∀ W, Below w.heap.size w W → Calls Try.prog 62 #[.agg #[.int .i64 a, .int .i64 b, .slice A zs.length c], .int .i64 x, .int .i64 y, .int .i64 t] W fun e w' => e = .returned (.agg #[.int .i64 (f 0), .int .i64 (f 1), .int .i64 (f 2), .int .i64 (f 3), .int .i64 (g 0), .int .i64 (g 1), .int .i64 (g 2), .int .i64 (g 3), .int .i64 c', .bool u, .bool l]) ∧ Below W.heap.size W w' from fun W hb => by
      rw [← e2]; exact I_edges a b x y t A c zs W (HR.out.keep hb) (by omega) (by omega) hbd.2.2.1 (by omega) (by omega))
    rw [e1]
    clear e1 e2 hok hv
    have n1 : ¬ x < 0 := by omega
    have n2 : ¬ a ≤ x := by omega
    have n3 : ¬ y < 0 := by omega
    have n4 : ¬ b ≤ y := by omega
    have n5 : ¬ t < 0 := by omega
    have n6 : ¬ y < t := by omega
    go_enter Try.func23, Try.ntmps23
    go_wp2_with (first | (go_at_call 52; refine (I_PictureValid a b _ _ zs _ (HR.out.keep (by repeat' (first | (with_reducible exact Below.refl _ _) | (with_reducible refine Below.adds_ ?_ ?_ _ _) | (with_reducible refine Below.alloc ?_ ?_ _) | (with_reducible refine Below.drew ?_) | (with_reducible refine Below.setCell ?_ ?_ _) | (with_reducible assumption) | go_size | (simp only [size_addsW, World.size_alloc, World.size_drew, World.size_setCell]; omega)))) (by omega)).mono ?_; rw [HV.out]; rintro e w' ⟨rfl, hb⟩; obtain ⟨o1, n1, rfl⟩ := below_adds hb; clear hb) | (go_at_call 62; refine (HE.out _ (by repeat' (first | (with_reducible exact Below.refl _ _) | (with_reducible refine Below.adds_ ?_ ?_ _ _) | (with_reducible refine Below.alloc ?_ ?_ _) | (with_reducible refine Below.drew ?_) | (with_reducible refine Below.setCell ?_ ?_ _) | (with_reducible assumption) | go_size | (simp only [size_addsW, World.size_alloc, World.size_drew, World.size_setCell]; omega)))).mono ?_; rintro e w' ⟨rfl, hb⟩; obtain ⟨o2, m2, rfl⟩ := below_adds hb; clear hb))
    go_returns
    exact ⟨rfl, (by repeat' (first | (with_reducible exact Below.refl _ _) | (with_reducible refine Below.adds_ ?_ ?_ _ _) | (with_reducible refine Below.alloc ?_ ?_ _) | (with_reducible refine Below.drew ?_) | (with_reducible refine Below.setCell ?_ ?_ _) | (with_reducible assumption) | go_size | (simp only [size_addsW, World.size_alloc, World.size_drew, World.size_setCell]; omega)))⟩

set_option maxRecDepth 100000 in
set_option maxHeartbeats 4000000 in
theorem S_EdgesAt (a b x y t : Int) (A : Option Addr) (c : Nat) (zs : List Int) (w : World) (hr : RowAt .i64 w A zs) (hl : zs.length ≤ 1000000000000) (hx : -1000 ≤ x ∧ x ≤ 1000) (hy : -1000 ≤ y ∧ y ≤ 1000) :
    Calls Try.prog 24 #[.agg #[.int .i64 a, .int .i64 b, .slice A zs.length c], .int .i64 x, .int .i64 y, .int .i64 t] w fun e w' => e = .returned (.agg (edV a b zs x y t)) ∧ Below w.heap.size w w' := by
  have HR := Lib.hid hr
  clear hr
  cases hok : edB a b zs x y t
  · rw [edV_bad hok]
    cases hv : picB a b zs
    · clear hok
      go_enter Try.func24, Try.ntmps24
      go_wp2_with (go_at_call 25; refine (S_PictureValid a b _ _ zs _ (HR.out.keep (by repeat' (first | (with_reducible exact Below.refl _ _) | (with_reducible refine Below.adds_ ?_ ?_ _ _) | (with_reducible refine Below.alloc ?_ ?_ _) | (with_reducible refine Below.drew ?_) | (with_reducible refine Below.setCell ?_ ?_ _) | (with_reducible assumption) | go_size | (simp only [size_addsW, World.size_alloc, World.size_drew, World.size_setCell]; omega)))) (by omega)).mono ?_; rw [hv]; rintro e w' ⟨rfl, hb⟩; obtain ⟨o1, n1, rfl⟩ := below_adds hb; clear hb)
      go_returns
      exact ⟨rfl, (by repeat' (first | (with_reducible exact Below.refl _ _) | (with_reducible refine Below.adds_ ?_ ?_ _ _) | (with_reducible refine Below.alloc ?_ ?_ _) | (with_reducible refine Below.drew ?_) | (with_reducible refine Below.setCell ?_ ?_ _) | (with_reducible assumption) | go_size | (simp only [size_addsW, World.size_alloc, World.size_drew, World.size_setCell]; omega)))⟩
    · have hbd := picB_bd hv
      have HV := Lib.hid hv
      have h4 := sideB_bd (picB_iff.1 hv).1
      have h5 := sideB_bd (picB_iff.1 hv).2.1
      have hno : ¬ (0 ≤ x ∧ x < a ∧ x % 4 = 0 ∧ 0 ≤ y ∧ y < b ∧ y % 4 = 0 ∧ 0 ≤ t ∧ t ≤ y) := by
        intro h; simp [edB, hv, h] at hok
      clear hv hok
      have hxi : (M.inB x 0 (a - 4) = true ∧ 0 ≤ x) ∨ (M.inB x 0 (a - 4) = false ∧ ¬ (0 ≤ x ∧ x ≤ a - 4)) := by
        by_cases h : 0 ≤ x ∧ x ≤ a - 4
        · exact .inl ⟨by simp [M.inB]; omega, h.1⟩
        · exact .inr ⟨by simp only [M.inB, decide_eq_false_iff_not]; exact h, h⟩
      have hyi : (M.inB y 0 (b - 4) = true ∧ 0 ≤ y) ∨ (M.inB y 0 (b - 4) = false ∧ ¬ (0 ≤ y ∧ y ≤ b - 4)) := by
        by_cases h : 0 ≤ y ∧ y ≤ b - 4
        · exact .inl ⟨by simp [M.inB]; omega, h.1⟩
        · exact .inr ⟨by simp only [M.inB, decide_eq_false_iff_not]; exact h, h⟩
      have hti : (M.inB t 0 y = true) ∨ (M.inB t 0 y = false) := by cases M.inB t 0 y <;> simp
      have htj : M.inB t 0 y = true → 0 ≤ t ∧ t ≤ y := fun h => by simpa [M.inB] using h
      have hxj : M.inB x 0 (a - 4) = true → 0 ≤ x ∧ x ≤ a - 4 := fun h => by simpa [M.inB] using h
      have hyj : M.inB y 0 (b - 4) = true → 0 ≤ y ∧ y ≤ b - 4 := fun h => by simpa [M.inB] using h
      have hall : M.inB x 0 (a - 4) = false ∨ (M.inB x 0 (a - 4) = true ∧ M.inB y 0 (b - 4) = false) ∨ (M.inB x 0 (a - 4) = true ∧ M.inB y 0 (b - 4) = true ∧ ¬ x % 4 = 0) ∨ (M.inB x 0 (a - 4) = true ∧ M.inB y 0 (b - 4) = true ∧ x % 4 = 0 ∧ ¬ y % 4 = 0) ∨ (M.inB x 0 (a - 4) = true ∧ M.inB y 0 (b - 4) = true ∧ x % 4 = 0 ∧ y % 4 = 0 ∧ M.inB t 0 y = false) := by
        rcases hxi with ⟨q1, q2⟩ | ⟨q1, q2⟩
        · rcases hyi with ⟨q3, q4⟩ | ⟨q3, q4⟩
          · by_cases q5 : x % 4 = 0
            · by_cases q6 : y % 4 = 0
              · rcases hti with q7 | q7
                · exfalso
                  have := htj q7; have := hxj q1; have := hyj q3
                  exact hno (by omega)
                · exact .inr (.inr (.inr (.inr ⟨q1, q3, q5, q6, q7⟩)))
              · exact .inr (.inr (.inr (.inl ⟨q1, q3, q5, q6⟩)))
            · exact .inr (.inr (.inl ⟨q1, q3, q5⟩))
          · exact .inr (.inl ⟨q1, q3⟩)
        · exact .inl q1
      have HXJ := Lib.hid hxj
      have HYJ := Lib.hid hyj
      clear hxi hyi hti htj hxj hyj
      rcases hall with h1 | ⟨h1, h2⟩ | ⟨h1, h2, h3⟩ | ⟨h1, h2, h3, h6⟩ | ⟨h1, h2, h3, h6, h7⟩
      all_goals
        clear hno
        try have g1 : 0 ≤ x := by omega
        try have g1 := (HXJ.out (by assumption)).1
        try have g2 : 0 ≤ y := by omega
        try have g2 := (HYJ.out (by assumption)).1
        try have e5 : (x % 4 != 0) = true := by simp only [bne_iff_ne, ne_eq]; omega
        try have e6 : (y % 4 != 0) = true := by simp only [bne_iff_ne, ne_eq]; omega
        go_enter Try.func24, Try.ntmps24
        go_wp2_with (first | (go_at_call 25; refine (S_PictureValid a b _ _ zs _ (HR.out.keep (by repeat' (first | (with_reducible exact Below.refl _ _) | (with_reducible refine Below.adds_ ?_ ?_ _ _) | (with_reducible refine Below.alloc ?_ ?_ _) | (with_reducible refine Below.drew ?_) | (with_reducible refine Below.setCell ?_ ?_ _) | (with_reducible assumption) | go_size | (simp only [size_addsW, World.size_alloc, World.size_drew, World.size_setCell]; omega)))) (by omega)).mono ?_; rw [HV.out]; rintro e w' ⟨rfl, hb⟩; obtain ⟨o1, n1, rfl⟩ := below_adds hb; clear hb) | (go_at_call 55; refine (S_l1In _ _ _ _).mono ?_; rintro e w' ⟨rfl, rfl⟩))
        go_returns
        exact ⟨rfl, (by repeat' (first | (with_reducible exact Below.refl _ _) | (with_reducible refine Below.adds_ ?_ ?_ _ _) | (with_reducible refine Below.alloc ?_ ?_ _) | (with_reducible refine Below.drew ?_) | (with_reducible refine Below.setCell ?_ ?_ _) | (with_reducible assumption) | go_size | (simp only [size_addsW, World.size_alloc, World.size_drew, World.size_setCell]; omega)))⟩
  · obtain ⟨hv, h1, h2, h3, h4, h5, h6, h7, h8⟩ := edB_bd hok
    obtain ⟨f, g, c', u, l, e1, e2⟩ := edV_ok hok
    have hbd := picB_bd hv
    have HV := Lib.hid hv
    have s4 := sideB_bd (picB_iff.1 hv).1
    have s5 := sideB_bd (picB_iff.1 hv).2.1
    have HE := Lib.hid (show ∀ W, Below w.heap.size w W → Calls Try.prog 63 #[.agg #[.int .i64 a, .int .i64 b, .slice A zs.length c], .int .i64 x, .int .i64 y, .int .i64 t] W fun e w' => e = .returned (.agg #[.int .i64 (f 0), .int .i64 (f 1), .int .i64 (f 2), .int .i64 (f 3), .int .i64 (g 0), .int .i64 (g 1), .int .i64 (g 2), .int .i64 (g 3), .int .i64 c', .bool u, .bool l]) ∧ Below W.heap.size W w' from fun W hb => by
      rw [← e2]; exact S_l6Edges a b x y t A c zs W (HR.out.keep hb) (by omega) (by omega) hbd.2.2.1 (by omega) (by omega) h7)
    rw [e1]
    clear e1 e2 hok hv
    have n1 : ¬ x < 0 := by omega
    have n2 : ¬ a ≤ x := by omega
    have n3 : ¬ y < 0 := by omega
    have n4 : ¬ b ≤ y := by omega
    have n5 : ¬ t < 0 := by omega
    have n6 : ¬ y < t := by omega
    have q1 : M.inB x 0 (a - 4) = true := by simp [M.inB]; omega
    have q2 : M.inB y 0 (b - 4) = true := by simp [M.inB]; omega
    have q3 : M.inB t 0 y = true := by simp [M.inB]; omega
    go_enter Try.func24, Try.ntmps24
    go_wp2_with (first | (go_at_call 25; refine (S_PictureValid a b _ _ zs _ (HR.out.keep (by repeat' (first | (with_reducible exact Below.refl _ _) | (with_reducible refine Below.adds_ ?_ ?_ _ _) | (with_reducible refine Below.alloc ?_ ?_ _) | (with_reducible refine Below.drew ?_) | (with_reducible refine Below.setCell ?_ ?_ _) | (with_reducible assumption) | go_size | (simp only [size_addsW, World.size_alloc, World.size_drew, World.size_setCell]; omega)))) (by omega)).mono ?_; rw [HV.out]; rintro e w' ⟨rfl, hb⟩; obtain ⟨o1, n1, rfl⟩ := below_adds hb; clear hb) | (go_at_call 55; refine (S_l1In _ _ _ _).mono ?_; rintro e w' ⟨rfl, rfl⟩) | (go_at_call 63; refine (HE.out _ (by repeat' (first | (with_reducible exact Below.refl _ _) | (with_reducible refine Below.adds_ ?_ ?_ _ _) | (with_reducible refine Below.alloc ?_ ?_ _) | (with_reducible refine Below.drew ?_) | (with_reducible refine Below.setCell ?_ ?_ _) | (with_reducible assumption) | go_size | (simp only [size_addsW, World.size_alloc, World.size_drew, World.size_setCell]; omega)))).mono ?_; rintro e w' ⟨rfl, hb⟩; obtain ⟨o2, m2, rfl⟩ := below_adds hb; clear hb))
    go_returns
    exact ⟨rfl, (by repeat' (first | (with_reducible exact Below.refl _ _) | (with_reducible refine Below.adds_ ?_ ?_ _ _) | (with_reducible refine Below.alloc ?_ ?_ _) | (with_reducible refine Below.drew ?_) | (with_reducible refine Below.setCell ?_ ?_ _) | (with_reducible assumption) | go_size | (simp only [size_addsW, World.size_alloc, World.size_drew, World.size_setCell]; omega)))⟩

end Go.Proofs.Ytobphddjoebfjaa
