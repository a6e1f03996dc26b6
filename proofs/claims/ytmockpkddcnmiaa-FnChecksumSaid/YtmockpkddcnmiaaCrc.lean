/- Checksums. -/
import Derived.Test.YtmockpkddcnmiaaEq
import Derived.Test.YtmockpkddcnmiaaCrcMath
import Derived.OpenShut
import Derived.Laws.Tables
import Derived.Laws.Rows
import Derived.LoopTactic
import Derived.Deep.OwnRows
namespace Go.Proofs.Ytmockpkddcnmiaa
open Go.RowKit
set_option linter.unusedVariables false
set_option linter.unusedSimpArgs false

attribute [local go_sem] size_addsW cell?_addsW frozen?_addsW setCell_addsW drew_addsW adds_addsW setCell_twice alloc_adds0 size_adds0 adds_adds0 sel2 sel3 sel4 sel5 sel6 sel7 sel8 sel9 lt_more lt_more2 lt_more3 lt_more4 adds_drew adds_drewN drewN_addsW ltA_1_1 ltA_1_2 ltA_1_3 ltA_1_4 ltA_1_5 ltA_1_6 ltA_2_1 ltA_2_2 ltA_2_3 ltA_2_4 ltA_2_5 ltA_2_6 ltA_3_1 ltA_3_2 ltA_3_3 ltA_3_4 ltA_3_5 ltA_3_6 ltA_4_1 ltA_4_2 ltA_4_3 ltA_4_4 ltA_4_5 ltA_4_6 ltA_5_1 ltA_5_2 ltA_5_3 ltA_5_4 ltA_5_5 ltA_5_6 ltA_6_1 ltA_6_2 ltA_6_3 ltA_6_4 ltA_6_5 ltA_6_6 ltA_7_1 ltA_7_2 ltA_7_3 ltA_7_4 ltA_7_5 ltA_7_6 ltA_8_1 ltA_8_2 ltA_8_3 ltA_8_4 ltA_8_5 ltA_8_6 ltA_9_1 ltA_9_2 ltA_9_3 ltA_9_4 ltA_9_5 ltA_9_6 ltA_10_1 ltA_10_2 ltA_10_3 ltA_10_4 ltA_10_5 ltA_10_6 ltA_11_1 ltA_11_2 ltA_11_3 ltA_11_4 ltA_11_5 ltA_11_6 ltA_12_1 ltA_12_2 ltA_12_3 ltA_12_4 ltA_12_5 ltA_12_6

theorem it_succ (j : Nat) (x : BitVec 16) : M.stepB (M.itB j x) = M.itB (j + 1) x := rfl
theorem crc_succ {zs : List Int} {k : Nat} (h : k < zs.length) : M.crcB (zs.take (k + 1)) = M.itB 8 (M.feedB (M.crcB (zs.take k)) (zs.getD k 0)) := by
  rw [List.take_succ_eq_append_getElem h, M.crcB, List.foldl_append]
  simp [M.crcB, List.getD_eq_getElem?_getD, h]

def CrcIn (x : BitVec 16) (n j : Value) : Prop := ∃ i : Nat, i ≤ 8 ∧ j = .int .i64 i ∧ n = .int .i64 ((M.itB i x).toNat : Int)
def CrcOut (zs : List Int) (n i : Value) : Prop := ∃ k : Nat, k ≤ zs.length ∧ i = .int .i64 k ∧ n = .int .i64 ((M.crcB (zs.take k)).toNat : Int)

theorem S_Checksum (A : Option Addr) (c : Nat) (zs : List Int) (w : World) (hr : RowAt .u8 w A zs) (hl : zs.length ≤ 1000000000000) (hw : ∀ i, 0 ≤ zs.getD i 0 ∧ zs.getD i 0 ≤ 255) :
    Calls Try.prog 14 #[.slice A zs.length c] w fun e w' => e = .returned (.int .i64 ((M.crcB zs).toNat : Int)) ∧ w = w' := by
  have HR := Lib.hid hr
  have HW := Lib.hid hw
  clear hr hw
  go_enter Try.func14, Try.ntmps14
  go_wp2
  go_loop [3, 4, 5] (fun n i s5 => CrcOut zs n i) (fun _ i _ => zs.length - (intOf i).toNat)
  case atStart => exact ⟨0, Nat.zero_le _, rfl, rfl⟩
  case round =>
    obtain ⟨k, hk, rfl, rfl⟩ := hrel
    generalize hv0 : M.crcB (zs.take k) = v0
    have HV0 := Lib.hid hv0
    clear hv0
    have hv : (v0.toNat : Int) < 65536 := by have := v0.isLt; omega
    by_cases hlt : k < zs.length
    · obtain ⟨b, off, z, rfl, hb, hz, hc⟩ := HR.out.at_ hlt
      have hz2 := HW.out k
      rw [← hz] at hz2
      have HZ := Lib.hid hz
      clear hz
      go_wp2
      rw [M.s_feed v0 z hz2]
      clear hz2 hc hb hv
      generalize hX : M.feedB v0 z = X
      have HX := Lib.hid hX
      clear hX
      go_loop [3, 5] (fun n j => CrcIn X n j) (fun _ j => 8 - (intOf j).toNat)
      case atStart => exact ⟨0, by omega, rfl, rfl⟩
      case round =>
        obtain ⟨i, hi, rfl, rfl⟩ := hrel
        generalize hu0 : M.itB i X = u0
        have HU0 := Lib.hid hu0
        clear hu0
        have hu : 0 ≤ (u0.toNat : Int) ∧ (u0.toNat : Int) < 65536 := by have := u0.isLt; omega
        generalize hmm : (u0.toNat : Int) = m at hu
        have HMM := Lib.hid hmm
        clear hmm
        by_cases hlt8 : i < 8
        · by_cases hm : 32768 ≤ m
          · go_wp2_with fail
            rw [← HMM.out] at hm ⊢
            rw [M.s_hi u0 (by omega)]
            go_round
            case rel => exact ⟨i + 1, by omega, by go_num, by rw [← HU0.out, it_succ]⟩
            case measure => simp [intOf]; omega
          · go_wp2_with fail
            rw [← HMM.out] at hm
            go_round
            case rel => exact ⟨i + 1, by omega, by go_num, by rw [← HMM.out, M.s_lo u0 (by omega), ← HU0.out, it_succ]⟩
            case measure => simp [intOf]; omega
        · obtain rfl : i = 8 := by omega
          go_wp2
          go_round
          case rel => exact ⟨k + 1, by omega, by go_num, by rw [crc_succ hlt, HV0.out, ← HZ.out, HX.out, HU0.out, HMM.out]⟩
          case measure => simp [intOf]; omega
    · go_wp2
      go_ret
      exact ⟨M.ret_int (by rw [← HV0.out, List.take_of_length_le (by omega)]), rfl⟩

/-- the table -/
def tabL : List Int := (List.range 256).map fun b => ((M.tabB b).toNat : Int)
theorem tabL_len : tabL.length = 256 := by simp [tabL]
theorem tabL_at {k : Nat} (h : k < 256) : tabL.getD k 0 = ((M.tabB k).toNat : Int) := by simp [tabL, List.getD_eq_getElem?_getD, h]
def tabA : Array Value := (tabL.map (Value.int .u16)).toArray
theorem tabA_size : tabA.size = 256 := by simp [tabA, tabL_len]
theorem tabA_at {k : Nat} (h : k < 256) : tabA[k]? = some (.int .u16 ((M.tabB k).toNat : Int)) := by
  simp [tabA, tabL, h]
theorem tabA_one : tabA.all (·.oneCell') = true := by
  rw [Array.all_eq_true_iff_forall_mem]
  intro x hx
  simp only [tabA, List.mem_toArray, List.mem_map] at hx
  obtain ⟨z, _, rfl⟩ := hx
  rfl
theorem zc_copy (zs : List Int) : Try.zeroCells66 = copyA .u16 256 0 zs := by
  have : Try.zeroCells66 = ((List.replicate 256 (0 : Int)).map (Value.int .u16)).toArray := by kernel_rfl
  rw [this, copyA, List.take_zero, List.nil_append]
theorem zc_size : Try.zeroCells66.size = 256 := by kernel_rfl
theorem infoTab : (Try.prog.info? 66).map (·.size) = some 256 := by kernel_rfl
theorem setRow_alloc_ (w : World) (old cs : Array Value) (t : TypeId) : (w.alloc (.cells old t)).setRow w.heap.size cs = w.alloc (.cells cs t) := by
  show (⟨(w.heap.push (.cells old t)).modify w.heap.size _, w.tape, w.drawn, w.os, w.output⟩ : World) = ⟨w.heap.push (.cells cs t), w.tape, w.drawn, w.os, w.output⟩
  congr 1
  apply Array.ext_getElem?
  intro k
  rw [Array.getElem?_modify, Array.getElem?_push, Array.getElem?_push]
  by_cases h : k = w.heap.size
  · subst h; simp
  · rw [if_neg (fun e => h e.symm)]; simp only [if_neg h]
theorem heap_new_g (w : World) (o : Obj) (g : Nat) (hg : g = w.heap.size) : (w.alloc o).heap[g]? = some o := by subst hg; exact heap_alloc_new w o
theorem setRow_g (w : World) (old cs : Array Value) (t : TypeId) (g : Nat) (hg : g = w.heap.size) : (w.alloc (.cells old t)).setRow g cs = w.alloc (.cells cs t) := by subst hg; exact setRow_alloc_ w old cs t
theorem setRow_alloc_alloc (w : World) (o : Obj) (old cs : Array Value) (t : TypeId) : ((w.alloc (.cells old t)).alloc o).setRow w.heap.size cs = (w.alloc (.cells cs t)).alloc o := by
  show (⟨((w.heap.push (.cells old t)).push o).modify w.heap.size _, w.tape, w.drawn, w.os, w.output⟩ : World) = ⟨(w.heap.push (.cells cs t)).push o, w.tape, w.drawn, w.os, w.output⟩
  congr 1
  apply Array.ext_getElem?
  intro k
  simp only [Array.getElem?_modify, Array.getElem?_push, Array.size_push]
  by_cases h : k = w.heap.size
  · subst h; simp
  · rw [if_neg (fun e => h e.symm)]
    by_cases h2 : k = w.heap.size + 1
    · simp [h2]
    · simp [h2, h]

def TabIn (x : BitVec 16) (n j : Value) : Prop := ∃ i : Nat, i ≤ 8 ∧ j = .int .i64 i ∧ n = .int .u16 ((M.itB i x).toNat : Int)
def TabOut (w : World) (i : Value) (wr : World) : Prop := ∃ k : Nat, k ≤ 256 ∧ i = .int .i64 (k : Int) ∧ wr = (w.alloc (.cells Try.zeroCells66 66)).alloc (.cells (copyA .u16 256 k tabL) 66)

set_option maxRecDepth 100000 in
theorem I_checksumTable (w : World) :
    Calls Try.prog 48 #[] w fun e w' => e = .returned (.agg tabA) ∧ Below w.heap.size w w' := by
  go_enter Try.func48, Try.ntmps48
  go_wp2
  go_loopw [5, 2, 3, 4, 11] (fun i s2 s3 s4 s11 wr => TabOut w i wr) (fun i _ _ _ _ _ => 256 - (intOf i).toNat)
  case atStart => exact ⟨0, by omega, rfl, by rw [← zc_copy tabL]⟩
  case round =>
    obtain ⟨k, hk, rfl, rfl⟩ := hrel
    by_cases hlt : (k : Int) < 256
    · have hlt' : k < 256 := by omega
      have HF := Lib.hid (copyA_at (kd := .u16) (zs := tabL) tabL_len hlt')
      have HS := Lib.hid (copyA_set (kd := .u16) (zs := tabL) tabL_len hlt')
      have HT := Lib.hid (M.tab_start k hlt')
      have HA := Lib.hid (tabL_at hlt')
      clear hlt'
      go_wp2
      rw [HT.out]
      generalize hX : BitVec.ofNat 16 k <<< 8 = X
      have HX := Lib.hid hX
      clear hX
      have HLT := Lib.hid hlt
      have HK := Lib.hid hk
      clear hlt hk
      go_loop [3, 4, 11] (fun s3 s4 s11 => TabIn X s3 s11) (fun _ _ i => 8 - (intOf i).toNat)
      case atStart => exact ⟨0, by omega, rfl, rfl⟩
      case round =>
        obtain ⟨i, hi, rfl, rfl⟩ := hrel
        generalize hu0 : M.itB i X = u0
        have HU0 := Lib.hid hu0
        clear hu0
        have hu : 0 ≤ (u0.toNat : Int) ∧ (u0.toNat : Int) < 65536 := by have := u0.isLt; omega
        generalize hmm : (u0.toNat : Int) = m at hu
        have HMM := Lib.hid hmm
        clear hmm
        by_cases hlt8 : i < 8
        · by_cases hm : 32768 ≤ m
          · go_wp2_with fail
            rw [← HMM.out] at hm ⊢
            rw [M.u_hi u0 (by omega)]
            go_round
            case rel => exact ⟨i + 1, by omega, by go_num, by rw [← HU0.out, it_succ]⟩
            case measure => simp [intOf]; omega
          · go_wp2_with fail
            rw [← HMM.out] at hm ⊢
            have elo := M.s_lo u0 (by omega)
            rw [show (u0.toNat : Int) * (2 : Int) = ((M.stepB u0).toNat : Int) from by omega]
            clear elo
            go_round
            case rel => exact ⟨i + 1, by omega, by go_num, by rw [← HU0.out, it_succ]⟩
            case measure => simp [intOf]; omega
        · obtain rfl : i = 8 := by omega
          have hF := HF.out
          have hlt := HLT.out
          go_wp2_with fail
          go_roundw
          case rel => exact ⟨k + 1, by omega, by go_num, by rw [← HS.out, HA.out, M.tabB, HX.out, HU0.out, HMM.out]⟩
          case measure => simp [intOf]; omega
    · have hfull : copyA .u16 256 k tabL = tabA := by
        obtain rfl : k = 256 := by omega
        exact copyA_full tabL_len
      rw [hfull]
      have hd : decide ((k : Int) < 256) = false := by simpa using hlt
      clear hfull hk hlt
      go_wp2_with (first | (refine wpList_load_row rfl 66 (.tmp 1) rfl (w.heap.size + 1) rfl 66 tabA (0, 0) _ (heap_alloc2_new _ _ _) Try.underlying66 rfl (by rw [tabA_size]; exact infoTab) ?_) | (refine wpList_store_row rfl 66 (.tmp 0) (.tmp 26) rfl w.heap.size tabA rfl rfl 66 Try.zeroCells66 (heap_alloc2_old _ _ _) (by rw [tabA_size]; exact infoTab) (by rw [tabA_size]; exact zc_size) tabA_one ?_; rw [setRow_alloc_alloc]))
      exact bodyPost_ret (v := .agg tabA) (results_cell_row (p := 0) (ty := 66) rfl _ _ w.heap.size 66 tabA (0, 0) _ rfl (heap_alloc2_old _ _ _) Try.underlying66 rfl (by rw [tabA_size]; exact infoTab)) rfl ⟨rfl, (by repeat' (first | (with_reducible exact Below.refl _ _) | (with_reducible refine Below.adds_ ?_ ?_ _ _) | (with_reducible refine Below.alloc ?_ ?_ _) | (with_reducible refine Below.drew ?_) | (with_reducible refine Below.setCell ?_ ?_ _) | (with_reducible assumption) | go_size | (simp only [size_addsW, World.size_alloc, World.size_drew, World.size_setCell]; omega)))⟩

def CrcI (zs : List Int) (v i : Value) : Prop := ∃ k : Nat, k ≤ zs.length ∧ i = .int .i64 k ∧ v = .int .u16 ((M.crcB (zs.take k)).toNat : Int)

set_option maxRecDepth 100000 in
theorem I_Checksum (A : Option Addr) (c : Nat) (zs : List Int) (w : World) (hr : RowAt .u8 w A zs) (hl : zs.length ≤ 1000000000000) (hw : ∀ i, 0 ≤ zs.getD i 0 ∧ zs.getD i 0 ≤ 255) :
    Calls Try.prog 16 #[.slice A zs.length c] w fun e w' => e = .returned (.int .i64 ((M.crcB zs).toNat : Int)) ∧ Below w.heap.size w w' := by
  have HR := Lib.hid hr
  have HW := Lib.hid hw
  clear hr hw
  go_enter Try.func16, Try.ntmps16
  go_wp2_with fail
  refine (I_checksumTable _).mono ?_
  rintro e w' ⟨rfl, hb⟩
  obtain ⟨o1, n1, rfl⟩ := below_adds hb
  clear hb
  go_wp2_with (refine wpList_store_row rfl 66 (.tmp 3) (.tmp 7) rfl _ tabA rfl rfl 66 Try.zeroCells66 (heap_new_g _ _ _ (size_addsW _ _ _).symm) (by rw [tabA_size]; exact infoTab) (by rw [tabA_size]; exact zc_size) tabA_one ?_; rw [setRow_g _ _ _ _ _ (size_addsW _ _ _).symm])
  have HT : Hid (∀ j : Nat, j < 256 → ((addsW w o1 n1).alloc (.cells tabA 66)).cell? ⟨w.heap.size + o1.size, j, none⟩ = some (.int .u16 ((M.tabB j).toNat : Int))) := Lib.hid (fun j hj => by
    rw [← size_addsW w o1 n1, World.cell?_alloc_new]
    exact tabA_at hj)
  obtain ⟨wo, hwo⟩ : ∃ wo, wo = (addsW w o1 n1).alloc (.cells tabA 66) := ⟨_, rfl⟩
  have hbo : Below w.heap.size w wo := by rw [hwo]; exact (by repeat' (first | (with_reducible exact Below.refl _ _) | (with_reducible refine Below.adds_ ?_ ?_ _ _) | (with_reducible refine Below.alloc ?_ ?_ _) | (with_reducible refine Below.drew ?_) | (with_reducible refine Below.setCell ?_ ?_ _) | (with_reducible assumption) | go_size | (simp only [size_addsW, World.size_alloc, World.size_drew, World.size_setCell]; omega)))
  rw [← hwo] at HT ⊢
  clear hwo
  generalize hG : w.heap.size + o1.size = G at HT ⊢
  clear hG
  go_loop [10, 4, 6] (fun i v s6 => CrcI zs v i) (fun i _ _ => zs.length - (intOf i).toNat)
  case atStart => exact ⟨0, Nat.zero_le _, rfl, rfl⟩
  case round =>
    obtain ⟨k, hk, rfl, rfl⟩ := hrel
    generalize hv0 : M.crcB (zs.take k) = v0
    have HV0 := Lib.hid hv0
    clear hv0
    have hu : 0 ≤ (v0.toNat : Int) ∧ (v0.toNat : Int) < 65536 := by have := v0.isLt; omega
    by_cases hlt : k < zs.length
    · obtain ⟨b, off, z, rfl, hb, hz, hc⟩ := (HR.out.keep hbo).at_ hlt
      have hz2 := HW.out k
      rw [← hz] at hz2
      have HZ := Lib.hid hz
      clear hz
      obtain ⟨eJ, lJ⟩ := M.u_idx v0 z hz2
      have hct := HT.out _ lJ
      have HC := Lib.hid (M.u_comb v0 z hz2)
      have hJ0 : 0 ≤ bits .xor .u8 ((v0.toNat : Int) / (256 : Int)) z := by rw [eJ]; omega
      have hJ1 : bits .xor .u8 ((v0.toNat : Int) / (256 : Int)) z < 256 := by rw [eJ]; omega
      have eJ2 : v0.toNat / 256 ^^^ z.toNat = (bits .xor .u8 ((v0.toNat : Int) / (256 : Int)) z).toNat := by rw [eJ]; rfl
      generalize ht : ((M.tabB (v0.toNat / 256 ^^^ z.toNat)).toNat : Int) = t at hct HC
      rw [eJ2] at hct
      clear eJ2 eJ lJ ht
      generalize hmm : (v0.toNat : Int) = m at hu hct hJ0 hJ1 HC
      clear hmm
      go_wp2_with fail
      go_round
      case rel => exact ⟨k + 1, by omega, by go_num, by rw [HC.out, crc_succ hlt, HV0.out, ← HZ.out]⟩
      case measure => simp [intOf]; omega
    · go_wp2_with fail
      go_ret
      exact ⟨M.ret_int (by rw [← HV0.out, List.take_of_length_le (by omega)]), hbo⟩

end Go.Proofs.Ytmockpkddcnmiaa
