/-
  Put of the document's own answer to layer 4.
-/
import Derived.Test.YtcigjchncahpaaaPteRef
namespace Go.Proofs.Ytcigjchncahpaaa
open Go.RowKit
set_option linter.unusedVariables false
set_option linter.unusedSimpArgs false

/-! ### Put -/
set_option maxHeartbeats 2000000 in
set_option maxRecDepth 100000 in
theorem RPut_sum (p : PteS) (x0 x1 x2 x3 x4 x5 x6 y1 y2 y3 y4 y5 y6 Z : Int) (w : World) (hBad : p.Bad = false) (h0 : 0 ≤ p.Frame) (h1 : p.Frame < 1048576)
    (c0 : ∀ W, Calls Try.prog 17 #[.bool p.P, .int .i64 0] W fun e w' => e = .returned (.int .u64 x0) ∧ W = w')
    (c1 : ∀ W, Calls Try.prog 17 #[.bool p.W, .int .i64 1] W fun e w' => e = .returned (.int .u64 x1) ∧ W = w')
    (c2 : ∀ W, Calls Try.prog 17 #[.bool p.U, .int .i64 2] W fun e w' => e = .returned (.int .u64 x2) ∧ W = w')
    (c3 : ∀ W, Calls Try.prog 17 #[.bool p.A, .int .i64 5] W fun e w' => e = .returned (.int .u64 x3) ∧ W = w')
    (c4 : ∀ W, Calls Try.prog 17 #[.bool p.D, .int .i64 6] W fun e w' => e = .returned (.int .u64 x4) ∧ W = w')
    (c5 : ∀ W, Calls Try.prog 17 #[.bool p.PS, .int .i64 7] W fun e w' => e = .returned (.int .u64 x5) ∧ W = w')
    (c6 : ∀ W, Calls Try.prog 17 #[.bool p.NX, .int .i64 63] W fun e w' => e = .returned (.int .u64 x6) ∧ W = w')
    (s1 : IntKind.u64.wrap (x0 + x1) = y1) (s2 : IntKind.u64.wrap (y1 + x2) = y2) (s3 : IntKind.u64.wrap (y2 + x3) = y3) (s4 : IntKind.u64.wrap (y3 + x4) = y4) (s5 : IntKind.u64.wrap (y4 + x5) = y5) (s6 : IntKind.u64.wrap (y5 + x6) = y6)
    (s7 : IntKind.u64.wrap (y6 + IntKind.u64.wrap (IntKind.u64.wrap p.Frame * 4096)) = Z) :
    Calls Try.prog 11 #[.agg (pteC p)] w fun e w' => e = .returned (.tuple #[.int .u64 Z, .bool true]) ∧ Below w.heap.size w w' := by
  have hH0 : Has w w.heap.size [] := Has.nil (Nat.le_refl _)
  have hN := hH0.newblk w.heap.size 24 (pteC p) rfl
  have hBN := below_new (Below.refl w.heap.size w) hH0 (.cells (pteC p) 24)
  obtain ⟨k0, k1, k2, k3, k4, k5, k6, k7, k8⟩ := pte_cells [] _ hN
  rw [hBad] at k7
  have e1 : decide (p.Frame < 0) = false := by rw [decide_eq_false_iff_not]; omega
  have e2 : decide (1048576 ≤ p.Frame) = false := by rw [decide_eq_false_iff_not]; omega
  clear hBad h0 h1 hH0 hN
  have C0 := hid c0
  have C1 := hid c1
  have C2 := hid c2
  have C3 := hid c3
  have C4 := hid c4
  have C5 := hid c5
  have C6 := hid c6
  have S := hid (And.intro s1 (And.intro s2 (And.intro s3 (And.intro s4 (And.intro s5 (And.intro s6 s7))))))
  clear c0 c1 c2 c3 c4 c5 c6 s1 s2 s3 s4 s5 s6 s7
  go_enter Try.func11, Try.ntmps11
  go_wp2_with fail
  go_quiet ((go_at_call 17; first
    | exact quiet_same (C0.out _)
    | exact quiet_same (C1.out _)
    | exact quiet_same (C2.out _)
    | exact quiet_same (C3.out _)
    | exact quiet_same (C4.out _)
    | exact quiet_same (C5.out _)
    | exact quiet_same (C6.out _)))
  go_wp2_with fail
  go_ret2
  obtain ⟨s1, s2, s3, s4, s5, s6, s7⟩ := S.out
  exact ⟨by rw [← s7, ← s6, ← s5, ← s4, ← s3, ← s2, ← s1]; rfl, below_drewN hBN _⟩

theorem bitN_lt (b : Bool) (n : Nat) (h : n < 64) : bitN b (2 ^ n) < 18446744073709551616 := by
  cases b
  · simp [bitN]
  · exact Nat.pow_lt_pow_right (by decide) h
theorem bit_off {b : Bool} {n i : Nat} (h : (bitN b (2 ^ n)).testBit i = true) : n = i := by
  rw [bitN_bit] at h
  rw [Bool.and_eq_true, decide_eq_true_eq] at h
  exact h.2

theorem or_lt64 {a b : Nat} (ha : a < 18446744073709551616) (hb : b < 18446744073709551616) : a ||| b < 18446744073709551616 := Nat.or_lt_two_pow (n := 64) (by simpa using ha) (by simpa using hb)

theorem RPut_ok (p : PteS) (w : World) (h : putOk p = true) : Calls Try.prog 11 #[.agg (pteC p)] w fun e w' => e = .returned (.tuple #[.int .u64 ((putN p : Nat) : Int), .bool true]) ∧ Below w.heap.size w w' := by
  obtain ⟨hb, h0, h1⟩ := (putOk_iff p).1 h
  have hF : p.Frame.toNat < 1048576 := by omega
  have l0 := bitN_lt p.P 0 (by decide)
  have l1 := bitN_lt p.W 1 (by decide)
  have l2 := bitN_lt p.U 2 (by decide)
  have l3 := bitN_lt p.A 5 (by decide)
  have l4 := bitN_lt p.D 6 (by decide)
  have l5 := bitN_lt p.PS 7 (by decide)
  have l6 := bitN_lt p.NX 63 (by decide)
  have m1 := or_lt64 l0 l1
  have m2 := or_lt64 m1 l2
  have m3 := or_lt64 m2 l3
  have m4 := or_lt64 m3 l4
  have m5 := or_lt64 m4 l5
  have m6 := or_lt64 m5 l6
  have lF : p.Frame.toNat * 4096 < 18446744073709551616 := by omega
  have s7 : IntKind.u64.wrap (IntKind.u64.wrap p.Frame * 4096) = ((p.Frame.toNat * 4096 : Nat) : Int) := by
    have : IntKind.u64.wrap p.Frame = p.Frame := by show p.Frame % 18446744073709551616 = _; omega
    rw [this]
    show (p.Frame * 4096) % 18446744073709551616 = _
    omega
  have e : bitN p.P (2 ^ 0) ||| bitN p.W (2 ^ 1) ||| bitN p.U (2 ^ 2) ||| bitN p.A (2 ^ 5) ||| bitN p.D (2 ^ 6) ||| bitN p.PS (2 ^ 7) ||| bitN p.NX (2 ^ 63) ||| p.Frame.toNat * 4096 = putN p := by
    apply Nat.eq_of_testBit_eq
    intro i
    rw [putN_bit, show p.Frame.toNat * 4096 = p.Frame.toNat <<< 12 from by rw [Nat.shiftLeft_eq]]
    simp only [Nat.testBit_or, bitN_bit, Nat.testBit_shiftLeft]
    cases (decide (12 ≤ i) && p.Frame.toNat.testBit (i - 12)) <;> simp
  refine RPut_sum p _ _ _ _ _ _ _ _ _ _ _ _ _ _ w hb h0 h1 (fun W => Rone_calls p.P 0 (by decide) W) (fun W => Rone_calls p.W 1 (by decide) W) (fun W => Rone_calls p.U 2 (by decide) W) (fun W => Rone_calls p.A 5 (by decide) W) (fun W => Rone_calls p.D 6 (by decide) W) (fun W => Rone_calls p.PS 7 (by decide) W) (fun W => Rone_calls p.NX 63 (by decide) W)
    (wrap_add_or l0 l1 ?_) (wrap_add_or m1 l2 ?_) (wrap_add_or m2 l3 ?_) (wrap_add_or m3 l4 ?_) (wrap_add_or m4 l5 ?_) (wrap_add_or m5 l6 ?_) ?_
  · intro i a b
    have := bit_off a; have := bit_off b; omega
  · intro i a b
    have := bit_off b
    rw [Nat.testBit_or, Bool.or_eq_true] at a
    rcases a with a | a <;> (have := bit_off a; omega)
  · intro i a b
    have := bit_off b
    simp only [Nat.testBit_or, Bool.or_eq_true] at a
    rcases a with (a | a) | a <;> (have := bit_off a; omega)
  · intro i a b
    have := bit_off b
    simp only [Nat.testBit_or, Bool.or_eq_true] at a
    rcases a with ((a | a) | a) | a <;> (have := bit_off a; omega)
  · intro i a b
    have := bit_off b
    simp only [Nat.testBit_or, Bool.or_eq_true] at a
    rcases a with (((a | a) | a) | a) | a <;> (have := bit_off a; omega)
  · intro i a b
    have := bit_off b
    simp only [Nat.testBit_or, Bool.or_eq_true] at a
    rcases a with ((((a | a) | a) | a) | a) | a <;> (have := bit_off a; omega)
  · rw [s7, wrap_add_or m6 lF ?_, e]
    intro i a b
    rw [show p.Frame.toNat * 4096 = p.Frame.toNat <<< 12 from by rw [Nat.shiftLeft_eq], Nat.testBit_shiftLeft, Bool.and_eq_true, decide_eq_true_eq] at b
    obtain ⟨b1, b2⟩ := b
    have hi : i < 32 := by
      by_cases h : i < 32
      · exact h
      · rw [low_frame hF (i - 12) (by omega)] at b2
        cases b2
    simp only [Nat.testBit_or, Bool.or_eq_true] at a
    rcases a with (((((a | a) | a) | a) | a) | a) | a <;> (have := bit_off a; omega)

theorem RPut_no (p : PteS) (w : World) (h : putOk p = false) : Calls Try.prog 11 #[.agg (pteC p)] w fun e w' => e = .returned (.tuple #[.int .u64 0, .bool false]) ∧ Below w.heap.size w w' := by
  have hB := (Below.refl w.heap.size w).alloc (Nat.le_refl _) (.cells (pteC p) 24)
  obtain ⟨P, W, U, A, D, PS, NX, Bad, Frame⟩ := p
  cases Bad with
  | true =>
    go_enter Try.func11, Try.ntmps11
    simp only [pteC] at hB ⊢
    go_wp2
    go_ret2
    exact ⟨rfl, hB⟩
  | false =>
    by_cases h1 : Frame < 0
    · have e1 : decide (Frame < 0) = true := by simpa using h1
      clear h
      go_enter Try.func11, Try.ntmps11
      simp only [pteC] at hB ⊢
      go_wp2
      go_ret2
      exact ⟨rfl, hB⟩
    · have e1 : decide (Frame < 0) = false := by simpa using h1
      have h2 : 1048576 ≤ Frame := by
        simp [putOk] at h
        omega
      have e2 : decide (1048576 ≤ Frame) = true := by simpa using h2
      clear h
      go_enter Try.func11, Try.ntmps11
      simp only [pteC] at hB ⊢
      go_wp2
      go_ret2
      exact ⟨rfl, hB⟩

theorem RPut_calls (p : PteS) (w : World) : Calls Try.prog 11 #[.agg (pteC p)] w fun e w' => e = .returned (putR p) ∧ Below w.heap.size w w' := by
  cases h : putOk p with
  | false =>
    have e : putR p = .tuple #[.int .u64 0, .bool false] := by simp [putR, h]
    rw [e]
    exact RPut_no p w h
  | true =>
    have e : putR p = .tuple #[.int .u64 ((putN p : Nat) : Int), .bool true] := by simp [putR, h]
    rw [e]
    exact RPut_ok p w h

end Go.Proofs.Ytcigjchncahpaaa
