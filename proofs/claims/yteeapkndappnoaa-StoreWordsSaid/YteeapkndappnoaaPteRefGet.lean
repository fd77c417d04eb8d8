/-
  Get of the document's own answer to layer 4.
-/
import Derived.Test.YteeapkndappnoaaPteRef
namespace Go.Proofs.Yteeapkndappnoaa
open Go.RowKit
set_option linter.unusedVariables false
set_option linter.unusedSimpArgs false

theorem pteC_bad (P W U A D PS NX Bad Bad2 : Bool) (G : Int) : (pteC ⟨P, W, U, A, D, PS, NX, Bad2, G⟩).setIfInBounds 7 (.bool Bad) = pteC ⟨P, W, U, A, D, PS, NX, Bad, G⟩ := by simp [pteC]
theorem pteC_fr (P W U A D PS NX Bad : Bool) (F G : Int) : (pteC ⟨P, W, U, A, D, PS, NX, Bad, G⟩).setIfInBounds 8 (.int .i64 F) = pteC ⟨P, W, U, A, D, PS, NX, Bad, F⟩ := by simp [pteC]
/-- Has one of the first k bits been one that must be 0? -/
def badU (V : Nat) : Nat → Bool
  | 0 => false
  | k + 1 => badU V k || (V.testBit k && badPos k)
theorem badU_iff (V : Nat) : ∀ k, badU V k = true ↔ ∃ i, i < k ∧ V.testBit i = true ∧ badPos i = true
  | 0 => by simp [badU]
  | k + 1 => by
    rw [badU, Bool.or_eq_true, badU_iff V k, Bool.and_eq_true]
    constructor
    · rintro (⟨i, h1, h2⟩ | h)
      · exact ⟨i, by omega, h2⟩
      · exact ⟨k, by omega, h⟩
    · rintro ⟨i, h1, h2⟩
      by_cases e : i = k
      · exact .inr (e ▸ h2)
      · exact .inl ⟨i, by omega, h2⟩
theorem badU_all {V : Nat} (hV : V < 18446744073709551616) : badU V 64 = badN V := by
  rw [Bool.eq_iff_iff, badU_iff, badN_iff]
  constructor
  · rintro ⟨i, _, h⟩; exact ⟨i, h⟩
  · rintro ⟨i, h⟩
    refine ⟨i, ?_, h⟩
    by_cases h64 : i < 64
    · exact h64
    · rw [lt64 hV (by omega)] at h
      cases h.1

set_option maxHeartbeats 4000000 in
set_option maxRecDepth 100000 in
theorem RGet_core (V : Nat) (P W U A D PS NX : Bool) (w : World)
    (c0 : ∀ W', Calls Try.prog 62 #[.int .u64 (V : Int), .int .i64 0] W' fun e w' => e = .returned (.bool P) ∧ W' = w')
    (c1 : ∀ W', Calls Try.prog 62 #[.int .u64 (V : Int), .int .i64 1] W' fun e w' => e = .returned (.bool W) ∧ W' = w')
    (c2 : ∀ W', Calls Try.prog 62 #[.int .u64 (V : Int), .int .i64 2] W' fun e w' => e = .returned (.bool U) ∧ W' = w')
    (c3 : ∀ W', Calls Try.prog 62 #[.int .u64 (V : Int), .int .i64 5] W' fun e w' => e = .returned (.bool A) ∧ W' = w')
    (c4 : ∀ W', Calls Try.prog 62 #[.int .u64 (V : Int), .int .i64 6] W' fun e w' => e = .returned (.bool D) ∧ W' = w')
    (c5 : ∀ W', Calls Try.prog 62 #[.int .u64 (V : Int), .int .i64 7] W' fun e w' => e = .returned (.bool PS) ∧ W' = w')
    (c6 : ∀ W', Calls Try.prog 62 #[.int .u64 (V : Int), .int .i64 63] W' fun e w' => e = .returned (.bool NX) ∧ W' = w')
    (cb : ∀ k : Nat, k < 64 → ∀ W', Calls Try.prog 62 #[.int .u64 (V : Int), .int .i64 (k : Int)] W' fun e w' => e = .returned (.bool (V.testBit k)) ∧ W' = w') :
    Calls Try.prog 29 #[.int .u64 (V : Int)] w fun e w' => e = .returned (.agg (pteC ⟨P, W, U, A, D, PS, NX, badU V 64, ((V : Int) / 4096 % 1048576)⟩)) ∧ Below w.heap.size w w' := by
  have hH0 : Has w w.heap.size [] := Has.nil (Nat.le_refl _)
  have C0 := hid c0
  have C1 := hid c1
  have C2 := hid c2
  have C3 := hid c3
  have C4 := hid c4
  have C5 := hid c5
  have C6 := hid c6
  have CB := hid cb
  clear c0 c1 c2 c3 c4 c5 c6 cb
  go_enter Try.func29, Try.ntmps29
  go_wp2_with fail
  refine (C0.out _).mono ?_
  rintro e w1 ⟨rfl, rfl⟩
  go_wp2_with fail
  refine (C1.out _).mono ?_
  rintro e w1 ⟨rfl, rfl⟩
  go_wp2_with fail
  refine (C2.out _).mono ?_
  rintro e w1 ⟨rfl, rfl⟩
  go_wp2_with fail
  refine (C3.out _).mono ?_
  rintro e w1 ⟨rfl, rfl⟩
  go_wp2_with fail
  refine (C4.out _).mono ?_
  rintro e w1 ⟨rfl, rfl⟩
  go_wp2_with fail
  refine (C5.out _).mono ?_
  rintro e w1 ⟨rfl, rfl⟩
  go_wp2_with fail
  refine (C6.out _).mono ?_
  rintro e w1 ⟨rfl, rfl⟩
  go_wp2_with fail
  -- LOOP
  have hN1 := hH0.newblk w.heap.size 67 pteZE rfl
  have hN2 := hN1.newblk (w.heap.size + 1) 67 (pteC ⟨P, W, U, A, D, PS, NX, badU V 0, 0⟩) (by simp)
  have hB2 := below_new (below_new (Below.refl w.heap.size w) hH0 (.cells pteZE 67)) hN1 (.cells (pteC ⟨P, W, U, A, D, PS, NX, badU V 0, 0⟩) 67)
  generalize hb : w.heap.size = b at *
  have HBB := hid hb
  clear hb hN1 hH0
  go_loopw [4] (fun i wr => ∃ k : Nat, k ≤ 64 ∧ i = .int .i64 k ∧ Has wr b [blk (b + 1) 67 (pteC ⟨P, W, U, A, D, PS, NX, badU V k, 0⟩), blk b 67 pteZE] ∧ Below b w wr) (fun i _ => 64 - (intOf i).toNat)
  case atStart => exact ⟨0, by omega, rfl, hN2, hB2⟩
  case round =>
    obtain ⟨k, hk, rfl, hHr, hBr⟩ := hrel
    clear hN2 hB2
    by_cases hlt : k < 64
    · have e1 : decide ((k : Int) < 64) = true := by rw [decide_eq_true_eq]; omega
      have CK := hid (CB.out k hlt)
      have hset := hHr.set [] _ 7 (.bool true)
      rw [pteC_bad] at hset
      have hsb := below_set hBr [] _ hHr 7 (.bool true)
      have k7 := (pte_cellsE [] _ hHr).2.2.2.2.2.2.2.1
      have f7 := hHr.frozen [] _ 7
      have hu : badU V (k + 1) = (badU V k || (V.testBit k && badPos k)) := rfl
      have HU := hid hu
      clear hu
      go_wp2_with fail
      refine (CK.out _).mono ?_
      rintro e w1 ⟨rfl, rfl⟩
      cases hbit : V.testBit k with
      | false =>
        rw [hbit] at HU
        have HU2 : Hid (badU V (k + 1) = badU V k) := by simpa using HU
        clear hset hsb hbit HU k7 f7
        go_wp2_with fail
        go_roundw
        case rel => exact ⟨k + 1, by omega, by go_num, by rw [HU2.out]; exact hHr, hBr⟩
        case measure => simp [intOf] <;> omega
      | true =>
        rw [hbit] at HU
        clear hbit
        by_cases c3 : k = 3
        · have g0 : ((k : Int) == 3) = true := by rw [beq_iff_eq]; omega
          have g1 : ((k : Int) == 4) = false := by rw [beq_eq_false_iff_ne]; omega
          have g2 : decide (8 ≤ (k : Int)) = false := by rw [decide_eq_false_iff_not]; omega
          have g3 : decide ((k : Int) ≤ 11) = true := by rw [decide_eq_true_eq]; omega
          have g4 : decide (32 ≤ (k : Int)) = false := by rw [decide_eq_false_iff_not]; omega
          have g5 : decide ((k : Int) ≤ 62) = true := by rw [decide_eq_true_eq]; omega
          have hp : badPos k = true := by simp [badPos]; omega
          rw [hp] at HU
          have HU2 : Hid (badU V (k + 1) = true) := by simpa using HU
          clear HU hp
          go_wp2_with fail
          go_roundw
          case rel => exact ⟨k + 1, by omega, by go_num, by rw [HU2.out]; exact hset, hsb⟩
          case measure => simp [intOf] <;> omega
        by_cases c4 : k = 4
        · have g0 : ((k : Int) == 3) = false := by rw [beq_eq_false_iff_ne]; omega
          have g1 : ((k : Int) == 4) = true := by rw [beq_iff_eq]; omega
          have g2 : decide (8 ≤ (k : Int)) = false := by rw [decide_eq_false_iff_not]; omega
          have g3 : decide ((k : Int) ≤ 11) = true := by rw [decide_eq_true_eq]; omega
          have g4 : decide (32 ≤ (k : Int)) = false := by rw [decide_eq_false_iff_not]; omega
          have g5 : decide ((k : Int) ≤ 62) = true := by rw [decide_eq_true_eq]; omega
          have hp : badPos k = true := by simp [badPos]; omega
          rw [hp] at HU
          have HU2 : Hid (badU V (k + 1) = true) := by simpa using HU
          clear HU hp
          go_wp2_with fail
          go_roundw
          case rel => exact ⟨k + 1, by omega, by go_num, by rw [HU2.out]; exact hset, hsb⟩
          case measure => simp [intOf] <;> omega
        by_cases c9 : 8 ≤ k ∧ k ≤ 11
        · have g0 : ((k : Int) == 3) = false := by rw [beq_eq_false_iff_ne]; omega
          have g1 : ((k : Int) == 4) = false := by rw [beq_eq_false_iff_ne]; omega
          have g2 : decide (8 ≤ (k : Int)) = true := by rw [decide_eq_true_eq]; omega
          have g3 : decide ((k : Int) ≤ 11) = true := by rw [decide_eq_true_eq]; omega
          have g4 : decide (32 ≤ (k : Int)) = false := by rw [decide_eq_false_iff_not]; omega
          have g5 : decide ((k : Int) ≤ 62) = true := by rw [decide_eq_true_eq]; omega
          have hp : badPos k = true := by simp [badPos]; omega
          rw [hp] at HU
          have HU2 : Hid (badU V (k + 1) = true) := by simpa using HU
          clear HU hp
          go_wp2_with fail
          go_roundw
          case rel => exact ⟨k + 1, by omega, by go_num, by rw [HU2.out]; exact hset, hsb⟩
          case measure => simp [intOf] <;> omega
        by_cases c40 : 32 ≤ k ∧ k ≤ 62
        · have g0 : ((k : Int) == 3) = false := by rw [beq_eq_false_iff_ne]; omega
          have g1 : ((k : Int) == 4) = false := by rw [beq_eq_false_iff_ne]; omega
          have g2 : decide (8 ≤ (k : Int)) = true := by rw [decide_eq_true_eq]; omega
          have g3 : decide ((k : Int) ≤ 11) = false := by rw [decide_eq_false_iff_not]; omega
          have g4 : decide (32 ≤ (k : Int)) = true := by rw [decide_eq_true_eq]; omega
          have g5 : decide ((k : Int) ≤ 62) = true := by rw [decide_eq_true_eq]; omega
          have hp : badPos k = true := by simp [badPos]; omega
          rw [hp] at HU
          have HU2 : Hid (badU V (k + 1) = true) := by simpa using HU
          clear HU hp
          go_wp2_with fail
          go_roundw
          case rel => exact ⟨k + 1, by omega, by go_num, by rw [HU2.out]; exact hset, hsb⟩
          case measure => simp [intOf] <;> omega
        by_cases c20 : 12 ≤ k ∧ k ≤ 31
        · have g0 : ((k : Int) == 3) = false := by rw [beq_eq_false_iff_ne]; omega
          have g1 : ((k : Int) == 4) = false := by rw [beq_eq_false_iff_ne]; omega
          have g2 : decide (8 ≤ (k : Int)) = true := by rw [decide_eq_true_eq]; omega
          have g3 : decide ((k : Int) ≤ 11) = false := by rw [decide_eq_false_iff_not]; omega
          have g4 : decide (32 ≤ (k : Int)) = false := by rw [decide_eq_false_iff_not]; omega
          have g5 : decide ((k : Int) ≤ 62) = true := by rw [decide_eq_true_eq]; omega
          have hp : badPos k = false := by simp [badPos]; omega
          rw [hp] at HU
          have HU2 : Hid (badU V (k + 1) = badU V k) := by simpa using HU
          clear HU hp
          go_wp2_with fail
          go_roundw
          case rel => exact ⟨k + 1, by omega, by go_num, by rw [HU2.out]; exact hHr, hBr⟩
          case measure => simp [intOf] <;> omega
        by_cases c63 : k = 63
        · have g0 : ((k : Int) == 3) = false := by rw [beq_eq_false_iff_ne]; omega
          have g1 : ((k : Int) == 4) = false := by rw [beq_eq_false_iff_ne]; omega
          have g2 : decide (8 ≤ (k : Int)) = true := by rw [decide_eq_true_eq]; omega
          have g3 : decide ((k : Int) ≤ 11) = false := by rw [decide_eq_false_iff_not]; omega
          have g4 : decide (32 ≤ (k : Int)) = true := by rw [decide_eq_true_eq]; omega
          have g5 : decide ((k : Int) ≤ 62) = false := by rw [decide_eq_false_iff_not]; omega
          have hp : badPos k = false := by simp [badPos]; omega
          rw [hp] at HU
          have HU2 : Hid (badU V (k + 1) = badU V k) := by simpa using HU
          clear HU hp
          go_wp2_with fail
          go_roundw
          case rel => exact ⟨k + 1, by omega, by go_num, by rw [HU2.out]; exact hHr, hBr⟩
          case measure => simp [intOf] <;> omega
        by_cases c1 : k ≤ 2
        · have g0 : ((k : Int) == 3) = false := by rw [beq_eq_false_iff_ne]; omega
          have g1 : ((k : Int) == 4) = false := by rw [beq_eq_false_iff_ne]; omega
          have g2 : decide (8 ≤ (k : Int)) = false := by rw [decide_eq_false_iff_not]; omega
          have g3 : decide ((k : Int) ≤ 11) = true := by rw [decide_eq_true_eq]; omega
          have g4 : decide (32 ≤ (k : Int)) = false := by rw [decide_eq_false_iff_not]; omega
          have g5 : decide ((k : Int) ≤ 62) = true := by rw [decide_eq_true_eq]; omega
          have hp : badPos k = false := by simp [badPos]; omega
          rw [hp] at HU
          have HU2 : Hid (badU V (k + 1) = badU V k) := by simpa using HU
          clear HU hp
          go_wp2_with fail
          go_roundw
          case rel => exact ⟨k + 1, by omega, by go_num, by rw [HU2.out]; exact hHr, hBr⟩
          case measure => simp [intOf] <;> omega
        have g0 : ((k : Int) == 3) = false := by rw [beq_eq_false_iff_ne]; omega
        have g1 : ((k : Int) == 4) = false := by rw [beq_eq_false_iff_ne]; omega
        have g2 : decide (8 ≤ (k : Int)) = false := by rw [decide_eq_false_iff_not]; omega
        have g3 : decide ((k : Int) ≤ 11) = true := by rw [decide_eq_true_eq]; omega
        have g4 : decide (32 ≤ (k : Int)) = false := by rw [decide_eq_false_iff_not]; omega
        have g5 : decide ((k : Int) ≤ 62) = true := by rw [decide_eq_true_eq]; omega
        have hp : badPos k = false := by simp [badPos]; omega
        rw [hp] at HU
        have HU2 : Hid (badU V (k + 1) = badU V k) := by simpa using HU
        clear HU hp
        go_wp2_with fail
        go_roundw
        case rel => exact ⟨k + 1, by omega, by go_num, by rw [HU2.out]; exact hHr, hBr⟩
        case measure => simp [intOf] <;> omega
    · obtain rfl : k = 64 := by omega
      have hS := hHr.set [] _ 8 (.int .i64 (((V : Int) / 4096 % 1048576)))
      rw [pteC_fr] at hS
      have hBS := below_set hBr [] _ hHr 8 (.int .i64 (((V : Int) / 4096 % 1048576)))
      have k8 := (pte_cellsE [] _ hHr).2.2.2.2.2.2.2.2
      have f8 := hHr.frozen [] _ 8
      go_wp2_with (first
        | (refine wpList_load_blk [] _ hS 67 (.tmp 3) rfl rfl rfl _ Try.underlying67 rfl (pte_size _) ?_)
        | (refine wpList_store_all [_] _ hS 67 (.tmp 2) (.tmp 57) rfl rfl rfl _ rfl (pte_size _) rfl (pte_one _) ?_; intro w2 hH2 hB2 hz2; clear hz2))
      exact bodyPost_ret (results_cell_row (fn := Try.f29) rfl _ w2 b 67 _ (0, 0) _ rfl (hH2.blk_at [_] []).1 Try.underlying67 rfl (pte_size _)) rfl ⟨rfl, by rw [HBB.out]; exact hBS.trans hB2⟩

theorem ERGet_calls (V : Nat) (hV : V < 18446744073709551616) (w : World) : Calls Try.prog 29 #[.int .u64 (V : Int)] w fun e w' => e = .returned (.agg (pteC (getS V))) ∧ Below w.heap.size w w' := by
  have e : ((V : Int) / 4096 % 1048576) = ((V / 4096 % 1048576 : Nat) : Int) := by
    omega
  have h := RGet_core V _ _ _ _ _ _ _ w (fun W => Rbit_calls V 0 (by decide) W) (fun W => Rbit_calls V 1 (by decide) W) (fun W => Rbit_calls V 2 (by decide) W) (fun W => Rbit_calls V 5 (by decide) W) (fun W => Rbit_calls V 6 (by decide) W) (fun W => Rbit_calls V 7 (by decide) W) (fun W => Rbit_calls V 63 (by decide) W) (fun k hk W => Rbit_calls V k hk W)
  rw [e, badU_all hV] at h
  exact h

end Go.Proofs.Yteeapkndappnoaa
