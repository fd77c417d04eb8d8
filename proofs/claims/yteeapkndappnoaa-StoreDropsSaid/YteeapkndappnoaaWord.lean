/-
  Entries as numbers below 2^64: the plain law of layer 4, without a program.
-/
import Derived.WalkKit
import Derived.Laws.BitsAllLaws
import Derived.Laws.Wrap64
namespace Go.Proofs.Yteeapkndappnoaa
open Go.RowKit
set_option linter.unusedVariables false
set_option linter.unusedSimpArgs false

/-- An entry. -/
structure PteS where
  P : Bool
  W : Bool
  U : Bool
  A : Bool
  D : Bool
  PS : Bool
  NX : Bool
  Bad : Bool
  Frame : Int
deriving DecidableEq

/-- The k-th flag's bit. -/
def fbit : Nat → Int
  | 0 => 1 | 1 => 2 | 2 => 4 | 3 => 32 | 4 => 64 | 5 => 128 | _ => 9223372036854775808
/-- The k-th flag of an entry. -/
def PteS.fl (p : PteS) : Nat → Bool
  | 0 => p.P | 1 => p.W | 2 => p.U | 3 => p.A | 4 => p.D | 5 => p.PS | _ => p.NX
def usedI (v : Int) (written : Bool) : Int := if written then bits .or .u64 (bits .or .u64 v 32) 64 else bits .or .u64 v 32
def flg (v : Int) (k : Nat) : Bool := bits .and .u64 v (fbit k) != 0
def restI (v : Int) : Nat → Int
  | 0 => bits .andNot .u64 v 4294963200
  | k + 1 => bits .andNot .u64 (restI v k) (fbit k)
def frameI (v : Int) : Int := wrap64 (bits .and .u64 (v / 4096) 1048575)
def putI (p : PteS) : Nat → Int
  | 0 => p.Frame * 4096
  | k + 1 => if p.fl k then bits .or .u64 (putI p k) (fbit k) else putI p k
def putOk (p : PteS) : Bool := !p.Bad && decide (0 ≤ p.Frame) && decide (p.Frame < 1048576)

/-! ### in numbers -/
def badMask : Nat := 9223372032559812376
def badPos (i : Nat) : Bool := i == 3 || i == 4 || decide (8 ≤ i) && decide (i ≤ 11) || decide (32 ≤ i) && decide (i ≤ 62)
theorem badMask_bit (i : Nat) : badMask.testBit i = badPos i := by
  by_cases h : i < 64
  · have : ∀ i, i < 64 → badMask.testBit i = badPos i := by decide
    exact this i h
  · rw [Nat.testBit_lt_two_pow (Nat.lt_of_lt_of_le (show badMask < 2 ^ 64 by decide) (Nat.pow_le_pow_right (by decide) (by omega)))]
    symm
    simp [badPos]
    omega
def badN (V : Nat) : Bool := V &&& badMask != 0
def getS (V : Nat) : PteS := ⟨V.testBit 0, V.testBit 1, V.testBit 2, V.testBit 5, V.testBit 6, V.testBit 7, V.testBit 63, badN V, ((V / 4096 % 1048576 : Nat) : Int)⟩
def bitN (b : Bool) (n : Nat) : Nat := if b then n else 0
def putN (p : PteS) : Nat := p.Frame.toNat * 4096 ||| bitN p.P 1 ||| bitN p.W 2 ||| bitN p.U 4 ||| bitN p.A 32 ||| bitN p.D 64 ||| bitN p.PS 128 ||| bitN p.NX 9223372036854775808
def usedN (V : Nat) (written : Bool) : Nat := V ||| 32 ||| bitN written 64

theorem lt64 {V : Nat} (h : V < 18446744073709551616) {i : Nat} (hi : 64 ≤ i) : V.testBit i = false :=
  Nat.testBit_lt_two_pow (Nat.lt_of_lt_of_le (show V < 2 ^ 64 by simpa using h) (Nat.pow_le_pow_right (by decide) hi))

theorem badN_iff (V : Nat) : badN V = true ↔ ∃ i, V.testBit i = true ∧ badPos i = true := by
  unfold badN
  rw [bne_iff_ne]
  constructor
  · intro h
    obtain ⟨i, hi⟩ := Nat.exists_testBit_of_ne_zero h
    rw [Nat.testBit_and, badMask_bit, Bool.and_eq_true] at hi
    exact ⟨i, hi⟩
  · rintro ⟨i, h1, h2⟩ h
    have : (V &&& badMask).testBit i = true := by rw [Nat.testBit_and, badMask_bit, h1, h2]; rfl
    rw [h] at this
    simp at this
theorem badN_false (V : Nat) : badN V = false ↔ ∀ i, badPos i = true → V.testBit i = false := by
  rw [← Bool.not_eq_true, badN_iff]
  constructor
  · intro h i hi
    cases hv : V.testBit i with
    | false => rfl
    | true => exact absurd ⟨i, hv, hi⟩ h
  · rintro h ⟨i, h1, h2⟩
    rw [h i h2] at h1
    cases h1
theorem badN_congr {V W : Nat} (h : ∀ i, badPos i = true → V.testBit i = W.testBit i) : badN V = badN W := by
  rw [Bool.eq_iff_iff, badN_iff, badN_iff]
  constructor
  · rintro ⟨i, h1, h2⟩; exact ⟨i, (h i h2) ▸ h1, h2⟩
  · rintro ⟨i, h1, h2⟩; exact ⟨i, (h i h2).symm ▸ h1, h2⟩

theorem frame_bit (V j : Nat) : (V / 4096 % 1048576).testBit j = (decide (j < 20) && V.testBit (j + 12)) := by
  rw [show (1048576 : Nat) = 2 ^ 20 from rfl, show (4096 : Nat) = 2 ^ 12 from rfl, Nat.testBit_mod_two_pow, Nat.testBit_div_two_pow]
theorem frame_lt (V : Nat) : V / 4096 % 1048576 < 1048576 := Nat.mod_lt _ (by decide)

theorem bitN_bit (b : Bool) (n i : Nat) : (bitN b (2 ^ n)).testBit i = (b && decide (n = i)) := by
  cases b
  · simp [bitN]
  · simp [bitN, Nat.testBit_two_pow]

/-- The bits of an entry's word. -/
theorem putN_bit (p : PteS) (i : Nat) : (putN p).testBit i = ((decide (12 ≤ i) && p.Frame.toNat.testBit (i - 12)) || (p.P && decide (0 = i)) || (p.W && decide (1 = i)) || (p.U && decide (2 = i)) || (p.A && decide (5 = i)) || (p.D && decide (6 = i)) || (p.PS && decide (7 = i)) || (p.NX && decide (63 = i))) := by
  unfold putN
  simp only [Nat.testBit_or]
  rw [show p.Frame.toNat * 4096 = p.Frame.toNat <<< 12 from by rw [Nat.shiftLeft_eq], Nat.testBit_shiftLeft, show (bitN p.P 1).testBit i = (p.P && decide (0 = i)) from bitN_bit p.P 0 i, show (bitN p.W 2).testBit i = (p.W && decide (1 = i)) from bitN_bit p.W 1 i, show (bitN p.U 4).testBit i = (p.U && decide (2 = i)) from bitN_bit p.U 2 i,
    show (bitN p.A 32).testBit i = (p.A && decide (5 = i)) from bitN_bit p.A 5 i, show (bitN p.D 64).testBit i = (p.D && decide (6 = i)) from bitN_bit p.D 6 i, show (bitN p.PS 128).testBit i = (p.PS && decide (7 = i)) from bitN_bit p.PS 7 i, show (bitN p.NX 9223372036854775808).testBit i = (p.NX && decide (63 = i)) from bitN_bit p.NX 63 i]

theorem low_frame {F : Nat} (h : F < 1048576) (j : Nat) (hj : 20 ≤ j) : F.testBit j = false :=
  Nat.testBit_lt_two_pow (Nat.lt_of_lt_of_le (show F < 2 ^ 20 by simpa using h) (Nat.pow_le_pow_right (by decide) hj))

theorem putOk_iff (p : PteS) : putOk p = true ↔ p.Bad = false ∧ 0 ≤ p.Frame ∧ p.Frame < 1048576 := by
  simp [putOk, and_assoc]

/-- What is put is got. -/
theorem get_put (p : PteS) (h : putOk p = true) : getS (putN p) = p := by
  rw [putOk_iff] at h
  obtain ⟨h1, h2, h3⟩ := h
  have hF : p.Frame.toNat < 1048576 := by omega
  have e7 : badN (putN p) = false := by
    rw [badN_false]
    intro i hi
    rw [putN_bit]
    have hb : i = 3 ∨ i = 4 ∨ 8 ≤ i ∧ i ≤ 11 ∨ 32 ≤ i ∧ i ≤ 62 := by
      simp [badPos] at hi
      omega
    have e : (decide (12 ≤ i) && p.Frame.toNat.testBit (i - 12)) = false := by
      by_cases h12 : 12 ≤ i
      · rw [low_frame hF (i - 12) (by omega)]; simp
      · simp [h12]
    rw [e]
    have d0 : decide (0 = i) = false := by rw [decide_eq_false_iff_not]; omega
    have d1 : decide (1 = i) = false := by rw [decide_eq_false_iff_not]; omega
    have d2 : decide (2 = i) = false := by rw [decide_eq_false_iff_not]; omega
    have d5 : decide (5 = i) = false := by rw [decide_eq_false_iff_not]; omega
    have d6 : decide (6 = i) = false := by rw [decide_eq_false_iff_not]; omega
    have d7 : decide (7 = i) = false := by rw [decide_eq_false_iff_not]; omega
    have d63 : decide (63 = i) = false := by rw [decide_eq_false_iff_not]; omega
    simp [d0, d1, d2, d5, d6, d7, d63]
  have e8 : putN p / 4096 % 1048576 = p.Frame.toNat := by
    apply Nat.eq_of_testBit_eq
    intro j
    rw [frame_bit, putN_bit]
    by_cases hj : j < 20
    · simp [hj, show j + 12 - 12 = j from by omega]
      omega
    · rw [low_frame hF j (by omega)]
      simp [hj]
  unfold getS
  rw [e7, e8]
  simp only [putN_bit]
  have e63 : p.Frame.toNat.testBit (63 - 12) = false := low_frame hF _ (by omega)
  rw [e63]
  have e9 : ((p.Frame.toNat : Nat) : Int) = p.Frame := by omega
  rw [e9]
  cases p
  simp at h1
  subst h1
  simp

theorem getS_ok (V : Nat) : putOk (getS V) = !badN V := by
  have h := frame_lt V
  show (!badN V && decide (0 ≤ ((V / 4096 % 1048576 : Nat) : Int)) && decide (((V / 4096 % 1048576 : Nat) : Int) < 1048576)) = !badN V
  generalize V / 4096 % 1048576 = F at *
  have d1 : decide (0 ≤ (F : Int)) = true := by rw [decide_eq_true_eq]; omega
  have d2 : decide ((F : Int) < 1048576) = true := by rw [decide_eq_true_eq]; omega
  rw [d1, d2]
  simp

/-- A word that is not bad is put as it was. -/
theorem put_get {V : Nat} (hV : V < 18446744073709551616) (h : badN V = false) : putN (getS V) = V := by
  rw [badN_false] at h
  apply Nat.eq_of_testBit_eq
  intro i
  rw [putN_bit]
  simp only [getS, Int.toNat_natCast, frame_bit]
  by_cases h64 : 64 ≤ i
  · rw [lt64 hV h64]
    have d0 : decide (0 = i) = false := by rw [decide_eq_false_iff_not]; omega
    have d1 : decide (1 = i) = false := by rw [decide_eq_false_iff_not]; omega
    have d2 : decide (2 = i) = false := by rw [decide_eq_false_iff_not]; omega
    have d5 : decide (5 = i) = false := by rw [decide_eq_false_iff_not]; omega
    have d6 : decide (6 = i) = false := by rw [decide_eq_false_iff_not]; omega
    have d7 : decide (7 = i) = false := by rw [decide_eq_false_iff_not]; omega
    have d63 : decide (63 = i) = false := by rw [decide_eq_false_iff_not]; omega
    have d20 : decide (i - 12 < 20) = false := by rw [decide_eq_false_iff_not]; omega
    simp [d0, d1, d2, d5, d6, d7, d63, d20]
  · by_cases hf : 12 ≤ i ∧ i < 32
    · have d0 : decide (0 = i) = false := by rw [decide_eq_false_iff_not]; omega
      have d1 : decide (1 = i) = false := by rw [decide_eq_false_iff_not]; omega
      have d2 : decide (2 = i) = false := by rw [decide_eq_false_iff_not]; omega
      have d5 : decide (5 = i) = false := by rw [decide_eq_false_iff_not]; omega
      have d6 : decide (6 = i) = false := by rw [decide_eq_false_iff_not]; omega
      have d7 : decide (7 = i) = false := by rw [decide_eq_false_iff_not]; omega
      have d63 : decide (63 = i) = false := by rw [decide_eq_false_iff_not]; omega
      have d20 : decide (i - 12 < 20) = true := by rw [decide_eq_true_eq]; omega
      have d12 : decide (12 ≤ i) = true := by rw [decide_eq_true_eq]; omega
      simp [d0, d1, d2, d5, d6, d7, d63, d20, d12, show i - 12 + 12 = i from by omega]
    · have e : (decide (12 ≤ i) && (decide (i - 12 < 20) && V.testBit (i - 12 + 12))) = false := by
        by_cases h12 : 12 ≤ i
        · have d20 : decide (i - 12 < 20) = false := by rw [decide_eq_false_iff_not]; omega
          simp [d20]
        · simp [h12]
      rw [e]
      by_cases hb : badPos i = true
      · rw [h i hb]
        have hb' : i = 3 ∨ i = 4 ∨ 8 ≤ i ∧ i ≤ 11 ∨ 32 ≤ i ∧ i ≤ 62 := by
          simp [badPos] at hb
          omega
        have d0 : decide (0 = i) = false := by rw [decide_eq_false_iff_not]; omega
        have d1 : decide (1 = i) = false := by rw [decide_eq_false_iff_not]; omega
        have d2 : decide (2 = i) = false := by rw [decide_eq_false_iff_not]; omega
        have d5 : decide (5 = i) = false := by rw [decide_eq_false_iff_not]; omega
        have d6 : decide (6 = i) = false := by rw [decide_eq_false_iff_not]; omega
        have d7 : decide (7 = i) = false := by rw [decide_eq_false_iff_not]; omega
        have d63 : decide (63 = i) = false := by rw [decide_eq_false_iff_not]; omega
        simp [d0, d1, d2, d5, d6, d7, d63]
      · have hc : i = 0 ∨ i = 1 ∨ i = 2 ∨ i = 5 ∨ i = 6 ∨ i = 7 ∨ i = 63 := by
          simp [badPos] at hb
          omega
        rcases hc with rfl | rfl | rfl | rfl | rfl | rfl | rfl <;> simp

theorem putN_lt (p : PteS) (h : putOk p = true) : putN p < 18446744073709551616 := by
  rw [putOk_iff] at h
  have b : ∀ (c : Bool) (n : Nat), n < 2 ^ 64 → bitN c n < 2 ^ 64 := fun c n hn => by
    cases c
    · simp [bitN]
    · simpa [bitN] using hn
  unfold putN
  have h0 : p.Frame.toNat * 4096 < 2 ^ 64 := by omega
  exact Nat.or_lt_two_pow (Nat.or_lt_two_pow (Nat.or_lt_two_pow (Nat.or_lt_two_pow (Nat.or_lt_two_pow (Nat.or_lt_two_pow (Nat.or_lt_two_pow h0 (b _ _ (by decide))) (b _ _ (by decide))) (b _ _ (by decide))) (b _ _ (by decide))) (b _ _ (by decide))) (b _ _ (by decide))) (b _ _ (by decide))

/-! ### the machine's words and the numbers -/
theorem flg_eq {V : Nat} (hV : V < 18446744073709551616) (i n : Nat) (hi : fbit i = ((2 ^ n : Nat) : Int)) (hn : 2 ^ n < 18446744073709551616) : flg (V : Int) i = V.testBit n := by
  unfold flg
  rw [hi, u64_and_nat V (2 ^ n) hV hn, nat_bit, Nat.testBit_eq_decide_div_mod_eq, Bool.eq_iff_iff, bne_iff_ne, decide_eq_true_eq]
  have h2 : V / 2 ^ n % 2 < 2 := Nat.mod_lt _ (by decide)
  have hp : 0 < 2 ^ n := Nat.two_pow_pos n
  constructor
  · intro h
    by_cases h1 : V / 2 ^ n % 2 = 1
    · exact h1
    · exfalso
      apply h
      have h0 : V / 2 ^ n % 2 = 0 := by omega
      rw [h0]
      simp
  · intro h e
    rw [h] at e
    omega

theorem restI_eq {V : Nat} (hV : V < 18446744073709551616) : restI (V : Int) 7 = ((V &&& badMask : Nat) : Int) := by
  have lt : ∀ (a b : Nat), a < 18446744073709551616 → a &&& b < 18446744073709551616 := fun a b h => Nat.lt_of_le_of_lt Nat.and_le_left h
  simp only [restI, fbit]
  rw [show (4294963200 : Int) = ((4294963200 : Nat) : Int) from rfl, u64_andNot_nat V _ hV (by decide)]
  rw [show (1 : Int) = ((1 : Nat) : Int) from rfl, u64_andNot_nat _ _ (lt _ _ hV) (by decide)]
  rw [show (2 : Int) = ((2 : Nat) : Int) from rfl, u64_andNot_nat _ _ (lt _ _ (lt _ _ hV)) (by decide)]
  rw [show (4 : Int) = ((4 : Nat) : Int) from rfl, u64_andNot_nat _ _ (lt _ _ (lt _ _ (lt _ _ hV))) (by decide)]
  rw [show (32 : Int) = ((32 : Nat) : Int) from rfl, u64_andNot_nat _ _ (lt _ _ (lt _ _ (lt _ _ (lt _ _ hV)))) (by decide)]
  rw [show (64 : Int) = ((64 : Nat) : Int) from rfl, u64_andNot_nat _ _ (lt _ _ (lt _ _ (lt _ _ (lt _ _ (lt _ _ hV))))) (by decide)]
  rw [show (128 : Int) = ((128 : Nat) : Int) from rfl, u64_andNot_nat _ _ (lt _ _ (lt _ _ (lt _ _ (lt _ _ (lt _ _ (lt _ _ hV)))))) (by decide)]
  rw [show (9223372036854775808 : Int) = ((9223372036854775808 : Nat) : Int) from rfl, u64_andNot_nat _ _ (lt _ _ (lt _ _ (lt _ _ (lt _ _ (lt _ _ (lt _ _ (lt _ _ hV))))))) (by decide)]
  simp only [Nat.and_assoc]
  congr 2

theorem frameI_eq {V : Nat} (hV : V < 18446744073709551616) : frameI (V : Int) = ((V / 4096 % 1048576 : Nat) : Int) := by
  unfold frameI
  rw [show ((V : Int) / 4096) = ((V / 4096 : Nat) : Int) from by omega, show (1048575 : Int) = ((1048575 : Nat) : Int) from rfl, u64_and_nat _ _ (by omega) (by decide)]
  rw [show V / 4096 &&& 1048575 = V / 4096 % 1048576 from Nat.and_two_pow_sub_one_eq_mod _ 20]
  have := frame_lt V
  generalize V / 4096 % 1048576 = F at *
  unfold wrap64
  omega

theorem usedI_eq {V : Nat} (hV : V < 18446744073709551616) (written : Bool) : usedI (V : Int) written = ((usedN V written : Nat) : Int) := by
  have l1 : V ||| 32 < 18446744073709551616 := Nat.or_lt_two_pow (n := 64) (by simpa using hV) (by decide)
  have e1 : bits .or .u64 (V : Int) 32 = ((V ||| 32 : Nat) : Int) := u64_or_nat V 32 hV (by decide)
  cases written
  · simp [usedI, usedN, bitN, e1]
  · have e2 : bits .or .u64 ((V ||| 32 : Nat) : Int) 64 = ((V ||| 32 ||| 64 : Nat) : Int) := u64_or_nat _ 64 l1 (by decide)
    unfold usedI
    rw [if_pos rfl, e1, e2]
    rfl

theorem putI_eq (p : PteS) (h : putOk p = true) : putI p 7 = ((putN p : Nat) : Int) := by
  rw [putOk_iff] at h
  have h0 : p.Frame.toNat * 4096 < 2 ^ 64 := by omega
  have e0 : putI p 0 = ((p.Frame.toNat * 4096 : Nat) : Int) := by simp only [putI]; omega
  have step : ∀ (k n N : Nat), N < 2 ^ 64 → n < 2 ^ 64 → putI p k = (N : Int) → fbit k = (n : Int) → putI p (k + 1) = ((N ||| bitN (p.fl k) n : Nat) : Int) ∧ N ||| bitN (p.fl k) n < 2 ^ 64 := by
    intro k n N hN hn hp hf
    simp only [putI]
    rw [hp, hf]
    cases p.fl k with
    | false => exact ⟨by simp [bitN], by simpa [bitN] using hN⟩
    | true => exact ⟨by rw [if_pos rfl]; exact u64_or_nat N n hN hn, Nat.or_lt_two_pow hN (by simpa [bitN] using hn)⟩
  obtain ⟨e1, l1⟩ := step 0 1 _ h0 (by decide) e0 rfl
  obtain ⟨e2, l2⟩ := step 1 2 _ l1 (by decide) e1 rfl
  obtain ⟨e3, l3⟩ := step 2 4 _ l2 (by decide) e2 rfl
  obtain ⟨e4, l4⟩ := step 3 32 _ l3 (by decide) e3 rfl
  obtain ⟨e5, l5⟩ := step 4 64 _ l4 (by decide) e4 rfl
  obtain ⟨e6, l6⟩ := step 5 128 _ l5 (by decide) e5 rfl
  obtain ⟨e7, l7⟩ := step 6 9223372036854775808 _ l6 (by decide) e6 rfl
  rw [e7]
  rfl

end Go.Proofs.Yteeapkndappnoaa
