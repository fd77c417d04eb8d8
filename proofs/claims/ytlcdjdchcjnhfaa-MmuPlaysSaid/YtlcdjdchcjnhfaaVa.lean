/-
  Contracts of package va (layer 5), as layer 15 uses them: a page's number from 0 to 511, its places in the tables.
-/
import Derived.Test.YtlcdjdchcjnhfaaRows
import Derived.Test.YtlcdjdchcjnhfaaOwn
import Derived.IntWalk
import Derived.Deep.QuietTactic
import Derived.BigQuiet
import Derived.Laws.Bits64b
namespace Go.Proofs.Ytlcdjdchcjnhfaa
open Go.RowKit
set_option linter.unusedVariables false
set_option linter.unusedSimpArgs false

theorem ofInt_mod (a : Int) : (BitVec.ofInt 64 a).toNat = (a % 18446744073709551616).toNat := by
  rw [BitVec.toNat_ofInt]
  congr 1
theorem and_mask (a : Int) (j : Nat) (hj : j ≤ 20) : ((BitVec.ofInt 64 a &&& BitVec.ofInt 64 (((2 ^ j - 1 : Nat)) : Int)).toNat : Int) = a % ((2 ^ j : Nat) : Int) := by
  have hp : (2 : Nat) ^ j ≤ 2 ^ 20 := Nat.pow_le_pow_right (by decide) hj
  have hp0 : 0 < (2 : Nat) ^ j := Nat.two_pow_pos j
  rw [BitVec.toNat_and, ofInt_mod, ofInt_mod]
  rw [show (((2 ^ j - 1 : Nat) : Int) % 18446744073709551616).toNat = 2 ^ j - 1 from by omega]
  rw [Nat.and_two_pow_sub_one_eq_mod]
  have hd : (2 : Nat) ^ j ∣ 18446744073709551616 := by
    have : (18446744073709551616 : Nat) = 2 ^ 64 := by decide
    rw [this]
    exact Nat.pow_dvd_pow 2 (by omega)
  have h0 : 0 ≤ a % 18446744073709551616 := Int.emod_nonneg _ (by decide)
  rw [Int.natCast_emod, Int.toNat_of_nonneg h0]
  refine Int.emod_emod_of_dvd a ?_
  have h := Int.natCast_dvd_natCast.2 hd
  exact h
theorem i64_mask (a : Int) (j : Nat) (hj : j ≤ 20) : bits .and .i64 a (((2 ^ j - 1 : Nat)) : Int) = a % ((2 ^ j : Nat) : Int) := by
  have hp : (2 : Nat) ^ j ≤ 2 ^ 20 := Nat.pow_le_pow_right (by decide) hj
  have hp0 : 0 < (2 : Nat) ^ j := Nat.two_pow_pos j
  show IntKind.i64.wrap ((BitVec.ofInt 64 a &&& BitVec.ofInt 64 (((2 ^ j - 1 : Nat)) : Int)).toNat : Int) = _
  rw [and_mask a j hj, IntKind.wrap_i64]
  have h0 : 0 ≤ a % ((2 ^ j : Nat) : Int) := Int.emod_nonneg _ (by omega)
  have h1 : a % ((2 ^ j : Nat) : Int) < ((2 ^ j : Nat) : Int) := Int.emod_lt_of_pos _ (by omega)
  omega
theorem u64_mask (a : Int) (j : Nat) (hj : j ≤ 20) : bits .and .u64 a (((2 ^ j - 1 : Nat)) : Int) = a % ((2 ^ j : Nat) : Int) := by
  have hp : (2 : Nat) ^ j ≤ 2 ^ 20 := Nat.pow_le_pow_right (by decide) hj
  have hp0 : 0 < (2 : Nat) ^ j := Nat.two_pow_pos j
  show IntKind.u64.wrap ((BitVec.ofInt 64 a &&& BitVec.ofInt 64 (((2 ^ j - 1 : Nat)) : Int)).toNat : Int) = _
  rw [and_mask a j hj, IntKind.wrap_u64]
  have h0 : 0 ≤ a % ((2 ^ j : Nat) : Int) := Int.emod_nonneg _ (by omega)
  have h1 : a % ((2 ^ j : Nat) : Int) < ((2 ^ j : Nat) : Int) := Int.emod_lt_of_pos _ (by omega)
  omega

set_option maxHeartbeats 400000 in
theorem cut_09 (n : Int) (w : World) : Calls Try.prog 67 #[.int .i64 n, .int .i64 0, .int .i64 9] w fun e w' => e = .returned (.int .i64 (n % 512)) ∧ ∃ m, w' = w.drewN m := by
  have e : bits .and .i64 n 511 = n % 512 := i64_mask n 9 (by decide)
  go_enter Try.func67, Try.ntmps67
  go_wp2_with fail
  go_quiet (fail)
  go_wp2_with fail
  go_ret
  exact ⟨rfl, _, rfl⟩
theorem cut_03 (w : World) : Calls Try.prog 67 #[.int .i64 0, .int .i64 0, .int .i64 3] w fun e w' => e = .returned (.int .i64 0) ∧ ∃ m, w' = w.drewN m := by
  have e : bits .and .i64 0 7 = 0 := i64_mask 0 3 (by decide)
  go_enter Try.func67, Try.ntmps67
  go_wp2_with fail
  go_quiet (fail)
  go_wp2_with fail
  go_ret
  exact ⟨rfl, _, rfl⟩
set_option maxHeartbeats 400000 in
theorem cut_k3 (n : Int) (k : Nat) (hk : k ≤ 6) (w : World) : Calls Try.prog 67 #[.int .i64 n, .int .i64 k, .int .i64 3] w fun e w' => e = .returned (.int .i64 (n / 2 ^ k % 8)) ∧ ∃ m, w' = w.drewN m := by
  have e : bits .and .i64 (n / 2 ^ k) 7 = n / 2 ^ k % 8 := i64_mask (n / 2 ^ k) 3 (by decide)
  go_enter Try.func67, Try.ntmps67
  go_wp2_with fail
  go_quiet (fail)
  go_wp2_with fail
  go_ret
  exact ⟨rfl, _, rfl⟩
set_option maxHeartbeats 400000 in
theorem cutU_69 (a : Int) (h0 : 0 ≤ a) (h1 : a ≤ 18446744073709551615) (w : World) : Calls Try.prog 77 #[.int .u64 a, .int .i64 6, .int .i64 9] w fun e w' => e = .returned (.int .i64 (a / 64 % 512)) ∧ ∃ m, w' = w.drewN m := by
  have e : bits .and .u64 (a / 64) 511 = a / 64 % 512 := u64_mask (a / 64) 9 (by decide)
  have u0 : 0 ≤ a / 64 % 512 := Int.emod_nonneg _ (by decide)
  have u1 : a / 64 % 512 < 512 := Int.emod_lt_of_pos _ (by decide)
  clear h1
  go_enter Try.func77, Try.ntmps77
  go_wp2_with fail
  go_quiet (fail)
  go_wp2_with fail
  go_ret
  exact ⟨rfl, _, rfl⟩
/-- An address of fifteen bits, whose highest one goes on. -/
def wideI (a : Int) : Int := if 16384 ≤ a then a + 18446744073709518848 else a
theorem wideI_eq {a : Int} (h0 : 0 ≤ a) (h1 : a < 32768) : IntKind.u64.wrap (wrap64 (a * 562949953421312) / 562949953421312) = wideI a := by
  rw [IntKind.wrap_u64]
  unfold wrap64 wideI
  split <;> omega
set_option maxHeartbeats 400000 in
theorem wide_any (a : Int) (h0 : 0 ≤ a) (h1 : a < 32768) (w : World) : Calls Try.prog 78 #[.int .u64 a] w fun e w' => e = .returned (.int .u64 (wideI a)) ∧ w = w' := by
  have e := wideI_eq h0 h1
  go_enter Try.func78, Try.ntmps78
  go_wp2_with fail
  go_ret
  exact ⟨rfl, rfl⟩
theorem wideI_in {a : Int} (h0 : 0 ≤ a) (h1 : a < 32768) : 0 ≤ wideI a ∧ wideI a ≤ 18446744073709551615 ∧ wideI a / 64 % 512 = a / 64 := by
  unfold wideI
  split <;> omega
theorem or_zero {a : Int} (h0 : 0 ≤ a) (h1 : a < 32768) : bits .or .i64 a 0 = a := by
  obtain ⟨n, rfl⟩ := Int.eq_ofNat_of_zero_le h0
  show IntKind.i64.wrap ((BitVec.ofInt 64 (n : Int) ||| BitVec.ofInt 64 0).toNat : Int) = _
  rw [BitVec.toNat_or, ofInt_mod, ofInt_mod, IntKind.wrap_i64]
  have : ((n : Int) % 18446744073709551616).toNat = n := by omega
  rw [this]
  simp
  omega
set_option maxHeartbeats 400000 in
theorem Join_0 (page : Int) (w : World) : Calls Try.prog 66 #[.int .i64 page, .int .i64 0] w fun e w' => e = .returned (.int .u64 (wideI (page % 512 * 64))) ∧ ∃ m, w' = w.drewN m := by
  have h0 : 0 ≤ page % 512 := Int.emod_nonneg _ (by decide)
  have h1 : page % 512 < 512 := Int.emod_lt_of_pos _ (by decide)
  have C0 := hid fun w => cut_09 page w
  generalize page % 512 = p at *
  have e := or_zero (a := p * 64) (by omega) (by omega)
  go_enter Try.func66, Try.ntmps66
  go_wp2_with fail
  refine (C0.out w).mono ?_
  rintro e w1 ⟨rfl, n1, rfl⟩
  go_wp2_with fail
  refine (cut_03 _).mono ?_
  rintro e w1 ⟨rfl, n2, rfl⟩
  go_wp2_with fail
  refine (wide_any (p * 64) (by omega) (by omega) _).mono ?_
  rintro e w1 ⟨rfl, rfl⟩
  go_wp2_with fail
  go_ret
  exact ⟨rfl, n1 + n2, by simp [World.drewN_drewN]⟩
theorem Page_wide (a : Int) (h0 : 0 ≤ a) (h1 : a ≤ 18446744073709551615) (w : World) : Calls Try.prog 65 #[.int .u64 a] w fun e w' => e = .returned (.int .i64 (a / 64 % 512)) ∧ ∃ m, w' = w.drewN m := by
  have C := hid fun w => cutU_69 a h0 h1 w
  clear h1
  go_enter Try.func65, Try.ntmps65
  go_wp2_with fail
  refine (C.out w).mono ?_
  rintro e w1 ⟨rfl, n1, rfl⟩
  go_wp2_with fail
  go_ret
  exact ⟨rfl, n1, rfl⟩
theorem within_calls (page : Int) (w : World) : Calls Try.prog 39 #[.int .i64 page] w fun e w' => e = .returned (.int .i64 (page % 512)) ∧ ∃ m, w' = w.drewN m := by
  have h0 : 0 ≤ page % 512 := Int.emod_nonneg _ (by decide)
  have h1 : page % 512 < 512 := Int.emod_lt_of_pos _ (by decide)
  obtain ⟨q0, q1, q2⟩ := wideI_in (a := page % 512 * 64) (by omega) (by omega)
  have e2 : page % 512 * 64 / 64 = page % 512 := by omega
  rw [e2] at q2
  have CP := hid fun w => Page_wide (wideI (page % 512 * 64)) q0 q1 w
  rw [q2] at CP
  have CJ := hid fun w => Join_0 page w
  clear q0 q1 q2 e2
  generalize wideI (page % 512 * 64) = a at *
  generalize page % 512 = p at *
  go_enter Try.func39, Try.ntmps39
  go_wp2_with fail
  refine (CJ.out w).mono ?_
  rintro e w1 ⟨rfl, n1, rfl⟩
  go_wp2_with fail
  refine (CP.out _).mono ?_
  rintro e w1 ⟨rfl, n2, rfl⟩
  go_wp2_with fail
  go_ret
  exact ⟨rfl, n1 + n2, by simp [World.drewN_drewN]⟩
/-- A page's place in the table of a level. -/
def idxI (page : Int) (level : Nat) : Int := page / 2 ^ ((level - 1) * 3) % 8
theorem idxI_in (page : Int) (level : Nat) : 0 ≤ idxI page level ∧ idxI page level < 8 := ⟨Int.emod_nonneg _ (by decide), Int.emod_lt_of_pos _ (by decide)⟩
set_option maxHeartbeats 400000 in
theorem Idx_calls (page : Int) (level : Nat) (h1 : 1 ≤ level) (h3 : level ≤ 3) (w : World) : Calls Try.prog 45 #[.int .i64 page, .int .i64 level] w fun e w' => e = .returned (.int .i64 (idxI page level)) ∧ ∃ m, w' = w.drewN m := by
  have e1 : decide ((level : Int) < 1) = false := by rw [decide_eq_false_iff_not]; omega
  have e2 : decide (3 < (level : Int)) = false := by rw [decide_eq_false_iff_not]; omega
  have e3 : ((level : Int) - 1) * 3 = (((level - 1) * 3 : Nat) : Int) := by omega
  have C := hid fun w => cut_k3 page ((level - 1) * 3) (by omega) w
  unfold idxI
  generalize (level - 1) * 3 = k at *
  go_enter Try.func45, Try.ntmps45
  go_wp2_with fail
  refine (C.out w).mono ?_
  rintro e w1 ⟨rfl, n1, rfl⟩
  go_wp2_with fail
  go_ret
  exact ⟨rfl, n1, rfl⟩

end Go.Proofs.Ytlcdjdchcjnhfaa
