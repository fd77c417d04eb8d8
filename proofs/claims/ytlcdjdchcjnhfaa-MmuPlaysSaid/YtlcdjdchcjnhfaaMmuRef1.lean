/-
  The document's own answers to layers 5 and 6, as layer 15 asks them.
-/
import Derived.Test.YtlcdjdchcjnhfaaRightRef
import Derived.Test.YtlcdjdchcjnhfaaVa
import Derived.Test.YtlcdjdchcjnhfaaMmu
import Derived.StillTailTactics
namespace Go.Proofs.Ytlcdjdchcjnhfaa
open Go.RowKit
set_option linter.unusedVariables false
set_option linter.unusedSimpArgs false

/-! ### layer 5 -/
theorem mod5_calls (n : Int) (m : Int) (hm : m = 512 ∨ m = 8) (w : World) : Calls Try.prog 75 #[.int .i64 n, .int .i64 m] w fun e w' => e = .returned (.int .i64 (n % m)) ∧ w = w' := by
  have k0 : (m == 0) = false := by rw [beq_eq_false_iff_ne]; omega
  have k1 : ¬ m = 0 := by omega
  have ht : n.tmod m = n - m * n.tdiv m := by have := Int.mul_tdiv_add_tmod n m; omega
  have hr : n.tmod m < m := Int.tmod_lt_of_pos n (by omega)
  have hl : -m < n.tmod m := by
    have h := Int.tmod_lt_of_pos (-n) (show 0 < m by omega)
    rw [Int.neg_tmod] at h
    omega
  have he : n % m = if n.tmod m < 0 then n.tmod m + m else n.tmod m := by
    rcases hm with rfl | rfl <;> split <;> omega
  rw [he]
  have hw : IntKind.i64.wrap (n.tmod m) = n.tmod m := IntWalk.i64_in _ (by omega)
  have hw2 : IntKind.i64.wrap (n.tmod m + m) = n.tmod m + m := IntWalk.i64_in _ (by omega)
  by_cases hneg : n.tmod m < 0
  · rw [if_pos hneg]
    have e1 : decide (n.tmod m < 0) = true := decide_eq_true hneg
    clear he ht
    go_enter Try.func75, Try.ntmps75
    go_wp2_with fail
    go_ret
    exact ⟨rfl, rfl⟩
  · rw [if_neg hneg]
    have e1 : decide (n.tmod m < 0) = false := decide_eq_false hneg
    clear he ht
    go_enter Try.func75, Try.ntmps75
    go_wp2_with fail
    go_ret
    exact ⟨rfl, rfl⟩
theorem RIdx_calls (page : Int) (level : Nat) (h1 : 1 ≤ level) (h3 : level ≤ 3) (w : World) : Calls Try.prog 58 #[.int .i64 page, .int .i64 level] w fun e w' => e = .returned (.int .i64 (idxI page level)) ∧ w = w' := by
  have h0 : 0 ≤ page % 512 := Int.emod_nonneg _ (by decide)
  have h5 : page % 512 < 512 := Int.emod_lt_of_pos _ (by decide)
  have CM := hid fun w => mod5_calls page 512 (by decide) w
  obtain rfl | rfl | rfl : level = 1 ∨ level = 2 ∨ level = 3 := by omega
  · have hi : idxI page 1 = page % 512 % 8 := by unfold idxI; simp <;> omega
    rw [hi]
    clear hi h1 h3
    generalize page % 512 = p at *
    go_enter Try.func58, Try.ntmps58
    go_wp2_with fail
    refine (CM.out w).mono ?_
    rintro e w1 ⟨rfl, rfl⟩
    go_wp2_with fail
    go_ret
    exact ⟨rfl, rfl⟩
  · have hi : idxI page 2 = page % 512 / 8 % 8 := by unfold idxI; simp <;> omega
    rw [hi]
    clear hi h1 h3
    generalize page % 512 = p at *
    have h6 : 0 ≤ p / 8 := by omega
    go_enter Try.func58, Try.ntmps58
    go_wp2_with fail
    refine (CM.out w).mono ?_
    rintro e w1 ⟨rfl, rfl⟩
    go_wp2_with fail
    go_ret
    exact ⟨rfl, rfl⟩
  · have hi : idxI page 3 = page % 512 / 64 := by unfold idxI; simp <;> omega
    rw [hi]
    clear hi h1 h3
    generalize page % 512 = p at *
    go_enter Try.func58, Try.ntmps58
    go_wp2_with fail
    refine (CM.out w).mono ?_
    rintro e w1 ⟨rfl, rfl⟩
    go_wp2_with fail
    go_ret
    exact ⟨rfl, rfl⟩
theorem RJoin_0 (page : Int) (w : World) : Calls Try.prog 74 #[.int .i64 page, .int .i64 0] w fun e w' => e = .returned (.int .u64 (wideI (page % 512 * 64))) ∧ w = w' := by
  have h0 : 0 ≤ page % 512 := Int.emod_nonneg _ (by decide)
  have h5 : page % 512 < 512 := Int.emod_lt_of_pos _ (by decide)
  have CM := hid fun w => mod5_calls page 512 (by decide) w
  have CZ := hid fun w => mod5_calls 0 8 (by decide) w
  generalize page % 512 = p at *
  have hp : 64 * p = p * 64 := by omega
  have hq0 : 0 ≤ p * 64 := by omega
  have hq1 : p * 64 < 32768 := by omega
  unfold wideI
  by_cases hk : 256 ≤ p
  · have e1 : decide (256 ≤ p) = true := decide_eq_true hk
    rw [if_pos (by omega)]
    have hs0 : 0 ≤ p * 64 + 18446744073709518848 := by omega
    have hs1 : p * 64 + 18446744073709518848 ≤ 18446744073709551615 := by omega
    go_enter Try.func74, Try.ntmps74
    go_wp2_with fail
    refine (CM.out w).mono ?_
    rintro e w1 ⟨rfl, rfl⟩
    go_wp2_with fail
    refine (CZ.out w).mono ?_
    rintro e w1 ⟨rfl, rfl⟩
    go_wp2_with fail
    go_ret
    exact ⟨rfl, rfl⟩
  · have e1 : decide (256 ≤ p) = false := decide_eq_false hk
    rw [if_neg (by omega)]
    go_enter Try.func74, Try.ntmps74
    go_wp2_with fail
    refine (CM.out w).mono ?_
    rintro e w1 ⟨rfl, rfl⟩
    go_wp2_with fail
    refine (CZ.out w).mono ?_
    rintro e w1 ⟨rfl, rfl⟩
    go_wp2_with fail
    go_ret
    exact ⟨rfl, rfl⟩
theorem RPage_wide (a : Int) (h0 : 0 ≤ a) (h1 : a ≤ 18446744073709551615) (w : World) : Calls Try.prog 73 #[.int .u64 a] w fun e w' => e = .returned (.int .i64 (a / 64 % 512)) ∧ w = w' := by
  have h2 : 0 ≤ a / 64 := by omega
  have h3 : 0 ≤ a / 64 % 512 := by omega
  have h4 : a / 64 % 512 < 512 := by omega
  have h5 : a / 64 ≤ 288230376151711743 := by omega
  clear h1
  go_enter Try.func73, Try.ntmps73
  go_wp2_with fail
  go_ret
  exact ⟨rfl, rfl⟩
theorem Rmod_calls (page : Int) (w : World) : Calls Try.prog 52 #[.int .i64 page] w fun e w' => e = .returned (.int .i64 (page % 512)) ∧ w = w' := by
  have h0 : 0 ≤ page % 512 := Int.emod_nonneg _ (by decide)
  have h1 : page % 512 < 512 := Int.emod_lt_of_pos _ (by decide)
  obtain ⟨q0, q1, q2⟩ := wideI_in (a := page % 512 * 64) (by omega) (by omega)
  have e2 : page % 512 * 64 / 64 = page % 512 := by omega
  rw [e2] at q2
  have CP := hid fun w => RPage_wide (wideI (page % 512 * 64)) q0 q1 w
  rw [q2] at CP
  have CJ := hid fun w => RJoin_0 page w
  clear q0 q1 q2 e2
  generalize wideI (page % 512 * 64) = a at *
  generalize page % 512 = p at *
  go_enter Try.func52, Try.ntmps52
  go_wp2_with fail
  refine (CJ.out w).mono ?_
  rintro e w1 ⟨rfl, rfl⟩
  go_wp2_with fail
  refine (CP.out _).mono ?_
  rintro e w1 ⟨rfl, rfl⟩
  go_wp2_with fail
  go_ret
  exact ⟨rfl, rfl⟩

end Go.Proofs.Ytlcdjdchcjnhfaa
