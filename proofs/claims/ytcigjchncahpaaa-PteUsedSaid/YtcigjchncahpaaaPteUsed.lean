/-
  PteUsed: what was used, or written to, is told so; nothing else of a word changes; twice is as once.
-/
import Derived.Test.YtcigjchncahpaaaPteHead
import Derived.Test.YtcigjchncahpaaaPteArgs
namespace Go.Proofs.Ytcigjchncahpaaa
open Go.RowKit
set_option linter.unusedVariables false
set_option linter.unusedSimpArgs false

theorem pteC_used (P W U A D PS NX Bad : Bool) (F : Int) (d : Bool) : ((pteC ⟨P, W, U, A, D, PS, NX, Bad, F⟩).setIfInBounds 3 (.bool true)).setIfInBounds 4 (.bool d) = pteC ⟨P, W, U, true, d, PS, NX, Bad, F⟩ := by simp [pteC]

set_option maxHeartbeats 2000000 in
set_option maxRecDepth 100000 in
theorem PteUsed_core (V X : Nat) (P W U A D PS NX Bad : Bool) (F : Int) (wr : Bool) (w : World)
    (cu : ∀ W', Calls Try.prog 14 #[.int .u64 (V : Int), .bool wr] W' fun e w' => e = .returned (.int .u64 (X : Int)) ∧ W' = w')
    (cu2 : ∀ W', Calls Try.prog 14 #[.int .u64 (X : Int), .bool wr] W' fun e w' => e = .returned (.int .u64 (X : Int)) ∧ W' = w')
    (cu3 : ∀ W', Calls Try.prog 14 #[.int .u64 (X : Int), .bool false] W' fun e w' => e = .returned (.int .u64 (X : Int)) ∧ W' = w')
    (cv : ∀ W', Calls Try.prog 12 #[.int .u64 (V : Int)] W' fun e w' => e = .returned (.agg (pteC ⟨P, W, U, A, D, PS, NX, Bad, F⟩)) ∧ Below W'.heap.size W' w')
    (cx : ∀ W', Calls Try.prog 12 #[.int .u64 (X : Int)] W' fun e w' => e = .returned (.agg (pteC ⟨P, W, U, true, D || wr, PS, NX, Bad, F⟩)) ∧ Below W'.heap.size W' w')
    (b1 : (bits .or .u64 (X : Int) 96 == bits .or .u64 (V : Int) 96) = true) (b2 : (bits .and .u64 (X : Int) (V : Int) == (V : Int)) = true) :
    Calls Try.prog 5 #[.int .u64 (V : Int), .bool wr] w fun e w' => e = .returned (.bool true) ∧ Below w.heap.size w w' := by
  have hH0 : Has w w.heap.size [] := Has.nil (Nat.le_refl _)
  have heq : ∀ W', Sem.run Try.prog (binOp .eql 24 (.agg (pteC ⟨P, W, U, true, D || wr, PS, NX, Bad, F⟩)) (.agg (pteC ⟨P, W, U, true, D || wr, PS, NX, Bad, F⟩))) W' = .ok (.bool true) W' := fun W' => by
    rw [pte_eql]; simp
  have CU := hid cu
  have CU2 := hid cu2
  have CU3 := hid cu3
  have CV := hid cv
  have CX := hid cx
  clear cu cu2 cu3 cv cx
  cases D with
  | false =>
    simp only [Bool.false_or, Bool.true_or] at CX heq
    go_enter Try.func5, Try.ntmps5
    go_wp2_with fail
    refine (head_true _ _ _ hH0).mono ?_
    rintro e w1 ⟨_, rfl, hH1, hB1⟩
    go_wp2_with fail
    refine (CU.out _).mono ?_
    rintro e w2 ⟨rfl, rfl⟩
    go_wp2_with fail
    refine (keeps (CV.out _) hH1).mono ?_
    rintro e w3 ⟨rfl, hH3, hB3⟩
    go_wp2_with (refine wpList_store_all [] _ (hH3.newblk w3.heap.size 24 pteZ rfl) rfl 24 (.tmp 7) (.tmp 15) rfl rfl _ rfl (pte_size _) rfl (pte_one _) ?_; intro w4 hH4 hB4 hz4; clear hz4)
    refine (keeps (CX.out _) hH4).mono ?_
    rintro e w5 ⟨rfl, hH5, hB5⟩
    have hBa := hB1.trans (hB3.trans (((below_new (Below.refl _ _) hH3 _).trans hB4).trans hB5))
    clear hB1 hB3 hB4 hB5 hH0 hH1 hH3 hH4
    go_wp2_with (first
      | (refine wpList_store_all [] _ (hH5.newblk w5.heap.size 24 pteZ rfl) rfl 24 (.tmp 8) (.tmp 17) rfl rfl _ rfl (pte_size _) rfl (pte_one _) ?_; intro w6 hH6 hB6 hz6; clear hz6)
      | (refine wpList_load_blk [_] _ hH6 rfl 24 (.tmp 7) rfl rfl _ Try.underlying24 rfl (pte_size _) ?_)
      | (refine wpList_store_all [] _ (hH6.newblk w6.heap.size 24 pteZ rfl) rfl 24 (.tmp 9) (.tmp 18) rfl rfl _ rfl (pte_size _) rfl (pte_one _) ?_; intro w7 hH7 hB7 hz7; clear hz7; obtain ⟨j0, j1, j2, j3, j4, j5, j6, j7, j8⟩ := pte_cells [] _ hH7; obtain ⟨k0, k1, k2, k3, k4, k5, k6, k7, k8⟩ := pte_cells [_, _] _ hH7; have g3 := hH7.frozen [] _ 3; have g4 := hH7.frozen [] _ 4; have hH8 := (hH7.set [] _ 3 (.bool true)).set [] _ 4 (.bool wr); rw [pteC_used] at hH8; clear j0 j1 j2 j5 j6 j7 j8 k0 k1 k2 k3 k5 k6 k7 k8)
      | (refine wpList_load_blk [_] _ hH8 rfl 24 (.tmp 8) rfl rfl _ Try.underlying24 rfl (pte_size _) ?_)
      | (refine wpList_load_blk [] _ hH8 rfl 24 (.tmp 9) rfl rfl _ Try.underlying24 rfl (pte_size _) ?_))
    refine (CU2.out _).mono ?_
    rintro e w9 ⟨rfl, rfl⟩
    go_wp2_with fail
    refine (CU3.out _).mono ?_
    rintro e w9 ⟨rfl, rfl⟩
    go_wp2_with fail
    go_ret
    have hT := (hBa.trans ((below_new (Below.refl _ _) hH5 _).trans hB6)).trans ((below_new (Below.refl _ _) hH6 _).trans hB7)
    exact ⟨rfl, below_set (below_set hT [] _ hH7 3 (.bool true)) [] _ (hH7.set [] _ 3 (.bool true)) 4 (.bool wr)⟩
  | true =>
    simp only [Bool.false_or, Bool.true_or] at CX heq
    go_enter Try.func5, Try.ntmps5
    go_wp2_with fail
    refine (head_true _ _ _ hH0).mono ?_
    rintro e w1 ⟨_, rfl, hH1, hB1⟩
    go_wp2_with fail
    refine (CU.out _).mono ?_
    rintro e w2 ⟨rfl, rfl⟩
    go_wp2_with fail
    refine (keeps (CV.out _) hH1).mono ?_
    rintro e w3 ⟨rfl, hH3, hB3⟩
    go_wp2_with (refine wpList_store_all [] _ (hH3.newblk w3.heap.size 24 pteZ rfl) rfl 24 (.tmp 7) (.tmp 15) rfl rfl _ rfl (pte_size _) rfl (pte_one _) ?_; intro w4 hH4 hB4 hz4; clear hz4)
    refine (keeps (CX.out _) hH4).mono ?_
    rintro e w5 ⟨rfl, hH5, hB5⟩
    have hBa := hB1.trans (hB3.trans (((below_new (Below.refl _ _) hH3 _).trans hB4).trans hB5))
    clear hB1 hB3 hB4 hB5 hH0 hH1 hH3 hH4
    go_wp2_with (first
      | (refine wpList_store_all [] _ (hH5.newblk w5.heap.size 24 pteZ rfl) rfl 24 (.tmp 8) (.tmp 17) rfl rfl _ rfl (pte_size _) rfl (pte_one _) ?_; intro w6 hH6 hB6 hz6; clear hz6)
      | (refine wpList_load_blk [_] _ hH6 rfl 24 (.tmp 7) rfl rfl _ Try.underlying24 rfl (pte_size _) ?_)
      | (refine wpList_store_all [] _ (hH6.newblk w6.heap.size 24 pteZ rfl) rfl 24 (.tmp 9) (.tmp 18) rfl rfl _ rfl (pte_size _) rfl (pte_one _) ?_; intro w7 hH7 hB7 hz7; clear hz7; obtain ⟨j0, j1, j2, j3, j4, j5, j6, j7, j8⟩ := pte_cells [] _ hH7; obtain ⟨k0, k1, k2, k3, k4, k5, k6, k7, k8⟩ := pte_cells [_, _] _ hH7; have g3 := hH7.frozen [] _ 3; have g4 := hH7.frozen [] _ 4; have hH8 := (hH7.set [] _ 3 (.bool true)).set [] _ 4 (.bool true); rw [pteC_used] at hH8; clear j0 j1 j2 j5 j6 j7 j8 k0 k1 k2 k3 k5 k6 k7 k8)
      | (refine wpList_load_blk [_] _ hH8 rfl 24 (.tmp 8) rfl rfl _ Try.underlying24 rfl (pte_size _) ?_)
      | (refine wpList_load_blk [] _ hH8 rfl 24 (.tmp 9) rfl rfl _ Try.underlying24 rfl (pte_size _) ?_))
    refine (CU2.out _).mono ?_
    rintro e w9 ⟨rfl, rfl⟩
    go_wp2_with fail
    refine (CU3.out _).mono ?_
    rintro e w9 ⟨rfl, rfl⟩
    go_wp2_with fail
    go_ret
    have hT := (hBa.trans ((below_new (Below.refl _ _) hH5 _).trans hB6)).trans ((below_new (Below.refl _ _) hH6 _).trans hB7)
    exact ⟨rfl, below_set (below_set hT [] _ hH7 3 (.bool true)) [] _ (hH7.set [] _ 3 (.bool true)) 4 (.bool true)⟩

theorem usedN_bit (V : Nat) (wr : Bool) (i : Nat) : (usedN V wr).testBit i = (V.testBit i || decide (5 = i) || (wr && decide (6 = i))) := by
  unfold usedN
  rw [Nat.testBit_or, Nat.testBit_or, show (bitN wr 64).testBit i = (wr && decide (6 = i)) from bitN_bit wr 6 i, show (32 : Nat) = 2 ^ 5 from rfl, Nat.testBit_two_pow]

theorem usedN_lt {V : Nat} (hV : V < 18446744073709551616) (wr : Bool) : usedN V wr < 18446744073709551616 := by
  unfold usedN
  refine Nat.or_lt_two_pow (n := 64) (Nat.or_lt_two_pow (by simpa using hV) (by decide)) ?_
  cases wr <;> simp [bitN]

theorem get_used (V : Nat) (wr : Bool) : getS (usedN V wr) = { getS V with A := true, D := V.testBit 6 || wr } := by
  have e7 : badN (usedN V wr) = badN V := badN_congr fun i hi => by
    have hb : i = 3 ∨ i = 4 ∨ 8 ≤ i ∧ i ≤ 11 ∨ 32 ≤ i ∧ i ≤ 62 := by simp [badPos] at hi; omega
    have d5 : decide (5 = i) = false := by rw [decide_eq_false_iff_not]; omega
    have d6 : decide (6 = i) = false := by rw [decide_eq_false_iff_not]; omega
    rw [usedN_bit, d5, d6]
    simp
  have e8 : usedN V wr / 4096 % 1048576 = V / 4096 % 1048576 := by
    apply Nat.eq_of_testBit_eq
    intro j
    rw [frame_bit, frame_bit, usedN_bit]
    have d5 : decide (5 = j + 12) = false := by rw [decide_eq_false_iff_not]; omega
    have d6 : decide (6 = j + 12) = false := by rw [decide_eq_false_iff_not]; omega
    rw [d5, d6]
    simp
  unfold getS
  rw [e7, e8]
  simp only [usedN_bit]
  simp

theorem used_or (V : Nat) (wr : Bool) : usedN V wr ||| 96 = V ||| 96 := by
  apply Nat.eq_of_testBit_eq
  intro i
  rw [Nat.testBit_or, Nat.testBit_or, usedN_bit]
  have h96 : (96 : Nat).testBit i = (decide (5 = i) || decide (6 = i)) := by
    by_cases h : i < 7
    · have : ∀ i, i < 7 → (96 : Nat).testBit i = (decide (5 = i) || decide (6 = i)) := by decide
      exact this i h
    · rw [Nat.testBit_lt_two_pow (Nat.lt_of_lt_of_le (show 96 < 2 ^ 7 by decide) (Nat.pow_le_pow_right (by decide) (by omega)))]
      symm
      simp
      omega
  rw [h96]
  cases V.testBit i <;> cases wr <;> cases decide (5 = i) <;> cases decide (6 = i) <;> rfl

theorem used_and (V : Nat) (wr : Bool) : usedN V wr &&& V = V := by
  apply Nat.eq_of_testBit_eq
  intro i
  rw [Nat.testBit_and, usedN_bit]
  cases V.testBit i <;> simp

theorem used_used (V : Nat) (wr wr' : Bool) (h : wr' = true → wr = true) : usedN (usedN V wr) wr' = usedN V wr := by
  apply Nat.eq_of_testBit_eq
  intro i
  rw [usedN_bit, usedN_bit]
  cases wr' <;> cases wr <;> simp_all <;> cases V.testBit i <;> cases decide (5 = i) <;> cases decide (6 = i) <;> rfl

theorem PteUsed_walk (v : Int) (wr : Bool) (w : World) (hv : (Lit.int .u64 v).wf = true) :
    Calls Try.prog 5 #[.int .u64 v, .bool wr] w fun e w' => e = .returned (.bool true) ∧ Below w.heap.size w w' := by
  obtain ⟨V, rfl, hV⟩ := u64_nat hv
  have hX := usedN_lt hV wr
  refine PteUsed_core V (usedN V wr) (getS V).P (getS V).W (getS V).U (getS V).A (getS V).D (getS V).PS (getS V).NX (getS V).Bad (getS V).Frame wr w (fun W => Used_calls V wr hV W) (fun W => ?_) (fun W => ?_) (fun W => Get_calls V hV W) (fun W => ?_) ?_ ?_
  · have h := Used_calls (usedN V wr) wr hX W
    rwa [used_used V wr wr (fun h => h)] at h
  · have h := Used_calls (usedN V wr) false hX W
    rwa [used_used V wr false (fun h => by cases h)] at h
  · have h := Get_calls (usedN V wr) hX W
    rwa [get_used] at h
  · rw [show (96 : Int) = ((96 : Nat) : Int) from rfl, u64_or_nat _ _ hX (by decide), u64_or_nat _ _ hV (by decide), used_or]
    simp
  · rw [u64_and_nat _ _ hX hV, used_and]
    simp

end Go.Proofs.Ytcigjchncahpaaa
