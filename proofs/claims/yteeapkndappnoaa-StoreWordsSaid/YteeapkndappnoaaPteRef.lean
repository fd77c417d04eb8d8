/-
  Contracts of the document's own answer to layer 4.
-/
import Derived.Test.YteeapkndappnoaaPteHead
namespace Go.Proofs.Yteeapkndappnoaa
open Go.RowKit
set_option linter.unusedVariables false
set_option linter.unusedSimpArgs false

theorem Rbit_calls (V n : Nat) (h : n < 64) (w : World) : Calls Try.prog 62 #[.int .u64 (V : Int), .int .i64 (n : Int)] w fun e w' => e = .returned (.bool (V.testBit n)) ∧ w = w' := by
  have hb : ((((V : Int) / 2 ^ n).tmod 2) == 1) = V.testBit n := by
    have e : ((V : Int) / 2 ^ n) = ((V / 2 ^ n : Nat) : Int) := by
      rw [Int.natCast_ediv, Int.natCast_pow]
      rfl
    rw [e]
    generalize hX : V / 2 ^ n = X
    rw [Nat.testBit_eq_decide_div_mod_eq, hX, Int.tmod_eq_emod_of_nonneg (by omega), Bool.eq_iff_iff, beq_iff_eq, decide_eq_true_eq]
    omega
  have hm : min n 64 = n := by omega
  generalize V.testBit n = r at *
  go_enter Try.func62, Try.ntmps62
  go_wp2
  go_ret
  exact ⟨by simp [hb], rfl⟩

theorem rshl_u64 : ∀ k : Nat, k < 64 → IntKind.u64.wrap (2 ^ k) = ((2 ^ k : Nat) : Int) := by decide +kernel
theorem Rone_calls (is : Bool) (n : Nat) (h : n < 64) (w : World) : Calls Try.prog 87 #[.bool is, .int .i64 (n : Int)] w fun e w' => e = .returned (.int .u64 ((bitN is (2 ^ n) : Nat) : Int)) ∧ w = w' := by
  cases is with
  | true =>
    have e : bitN true (2 ^ n) = 2 ^ n := rfl
    have hs := rshl_u64 n h
    rw [e]
    generalize ((2 ^ n : Nat) : Int) = X at *
    go_enter Try.func87, Try.ntmps87
    go_wp2
    go_ret
    exact ⟨by rw [← hs]; rfl, rfl⟩
  | false =>
    have e : bitN false (2 ^ n) = 0 := rfl
    rw [e]
    go_enter Try.func87, Try.ntmps87
    go_wp2
    go_ret
    exact ⟨rfl, rfl⟩

/-- To add what has no bit in common is to unite. -/
theorem add_or {a b : Nat} (ha : a < 18446744073709551616) (hb : b < 18446744073709551616) (h : ∀ i, a.testBit i = true → b.testBit i = true → False) : (a + b) % 18446744073709551616 = a ||| b := by
  have ma : a % 2 ^ 64 = a := Nat.mod_eq_of_lt (by simpa using ha)
  have mb : b % 2 ^ 64 = b := Nat.mod_eq_of_lt (by simpa using hb)
  have h0 : BitVec.ofNat 64 a &&& BitVec.ofNat 64 b = 0#64 := by
    apply BitVec.eq_of_toNat_eq
    rw [BitVec.toNat_and, BitVec.toNat_ofNat, BitVec.toNat_ofNat, ma, mb]
    apply Nat.eq_of_testBit_eq
    intro i
    rw [Nat.testBit_and]
    cases h1 : a.testBit i with
    | false => simp
    | true =>
      cases h2 : b.testBit i with
      | false => simp
      | true => exact (h i h1 h2).elim
  have h1 := congrArg BitVec.toNat (BitVec.add_eq_or_of_and_eq_zero _ _ h0)
  rw [BitVec.toNat_add, BitVec.toNat_or, BitVec.toNat_ofNat, BitVec.toNat_ofNat, ma, mb] at h1
  exact h1
theorem wrap_add_or {a b : Nat} (ha : a < 18446744073709551616) (hb : b < 18446744073709551616) (h : ∀ i, a.testBit i = true → b.testBit i = true → False) : IntKind.u64.wrap ((a : Int) + (b : Int)) = ((a ||| b : Nat) : Int) := by
  rw [← add_or ha hb h]
  show ((a : Int) + (b : Int)) % 18446744073709551616 = _
  omega

/-! ### Used -/
theorem add_bit {V n : Nat} (hV : V < 18446744073709551616) (hn : n < 64) (h : V.testBit n = false) : IntKind.u64.wrap ((V : Int) + ((2 ^ n : Nat) : Int)) = ((V ||| 2 ^ n : Nat) : Int) := by
  refine wrap_add_or hV (Nat.pow_lt_pow_right (by decide) hn) fun i h1 h2 => ?_
  rw [Nat.testBit_two_pow] at h2
  have : n = i := by simpa using h2
  rw [← this, h] at h1
  cases h1
theorem or_bit {V n : Nat} (h : V.testBit n = true) : V ||| 2 ^ n = V := by
  apply Nat.eq_of_testBit_eq
  intro i
  rw [Nat.testBit_or, Nat.testBit_two_pow]
  by_cases e : n = i
  · rw [← e, h]; rfl
  · simp [e]

end Go.Proofs.Yteeapkndappnoaa
