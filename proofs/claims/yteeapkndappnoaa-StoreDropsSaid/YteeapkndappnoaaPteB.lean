/-
  Contracts of package pte (layer 4): Put.
-/
import Derived.Test.YteeapkndappnoaaPte
namespace Go.Proofs.Yteeapkndappnoaa
open Go.RowKit
set_option linter.unusedVariables false
set_option linter.unusedSimpArgs false

/-! ### Put -/
theorem pteC_get (p : PteS) : ∀ k : Nat, k < 7 → (pteC p)[k]? = some (.bool (p.fl k))
  | 0, _ => rfl
  | 1, _ => rfl
  | 2, _ => rfl
  | 3, _ => rfl
  | 4, _ => rfl
  | 5, _ => rfl
  | 6, _ => rfl
  | k + 7, h => by omega
theorem Put_no (p : PteS) (w : World) (h : putOk p = false) : Calls Try.prog 78 #[.agg (pteC p)] w fun e w' => e = .returned (.tuple #[.int .u64 0, .bool false]) ∧ Below w.heap.size w w' := by
  have hB := (Below.refl w.heap.size w).alloc (Nat.le_refl _) (.cells (pteC p) 67)
  obtain ⟨P, W, U, A, D, PS, NX, Bad, Frame⟩ := p
  cases Bad with
  | true =>
    go_enter Try.func78, Try.ntmps78
    simp only [pteC] at hB ⊢
    go_wp2
    go_ret2
    exact ⟨rfl, hB⟩
  | false =>
    by_cases h1 : Frame < 0
    · have e1 : decide (Frame < 0) = true := by simpa using h1
      clear h
      go_enter Try.func78, Try.ntmps78
      simp only [pteC] at hB ⊢
      go_wp2
      go_ret2
      exact ⟨rfl, hB⟩
    · have e1 : decide (Frame < 0) = false := by simpa using h1
      have h2 : 1048576 ≤ Frame := by
        simp [putOk] at h
        omega
      have e2 : decide (1048576 ≤ Frame) = true := by simpa using h2
      clear h
      go_enter Try.func78, Try.ntmps78
      simp only [pteC] at hB ⊢
      go_wp2
      go_ret2
      exact ⟨rfl, hB⟩

set_option maxHeartbeats 2000000 in
set_option maxRecDepth 100000 in
theorem Put_ok (p : PteS) (w : World) (hBad : p.Bad = false) (h1 : 0 ≤ p.Frame) (h2 : p.Frame < 1048576) : Calls Try.prog 78 #[.agg (pteC p)] w fun e w' => e = .returned (.tuple #[.int .u64 (putI p 7), .bool true]) ∧ Below w.heap.size w w' := by
  have hH0 : Has w w.heap.size [] := Has.nil (Nat.le_refl _)
  have hN := hH0.newblk w.heap.size 67 (pteC p) rfl
  have hBN := below_new (Below.refl w.heap.size w) hH0 (.cells (pteC p) 67)
  have c7 := hN.cell [] _ 7 (v := .bool false) (by simp [pteC, hBad])
  have c8 := hN.cell [] _ 8 (v := .int .i64 p.Frame) rfl
  have HBad := hid hBad
  clear hBad hH0
  go_enter Try.func78, Try.ntmps78
  go_wp2_with fail
  refine (flags_ok w.heap.size _ _ _ hN).mono ?_
  rintro e w1 ⟨_, rfl, hH1, hB1⟩
  have hB := hBN.trans hB1
  generalize hbb : w.heap.size = b at *
  have HBB := hid hbb
  clear hbb hBN hB1 hN c7 c8
  go_wp2_with fail
  go_loopw [4, 6, 24] (fun r _ i wr => ∃ k : Nat, k ≤ 7 ∧ i = .int .i64 k ∧ r = .int .u64 (putI p k) ∧ Has wr b [blk b 67 (pteC p)] ∧ Below b w wr) (fun _ _ i _ => 7 - (intOf i).toNat)
  case atStart => exact ⟨0, by omega, rfl, rfl, hH1, hB⟩
  case round =>
    obtain ⟨k, hk, rfl, rfl, hHr, hBr⟩ := hrel
    clear hH1 hB
    by_cases hlt : k < 7
    · have hidx := fun W => flag_index b W k hlt
      have hN := hHr.newblk wr.heap.size 134 #[.pointer (some ⟨b, k, none⟩), .int .u64 (fbit k)] rfl
      have c0 := hN.cell [] _ 0 rfl
      have c1 := hN.cell [] _ 1 rfl
      have c2 := hN.cell [_] _ k (pteC_get p k hlt)
      simp at c0 c1
      have e1 : putI p (k + 1) = if p.fl k then bits .or .u64 (putI p k) (fbit k) else putI p k := rfl
      cases hf : p.fl k with
      | true =>
        rw [hf] at c2
        have HE : Hid (putI p (k + 1) = bits .or .u64 (putI p k) (fbit k)) := by rw [hf] at e1; exact e1
        clear e1 hf
        go_wp2_with fail
        go_roundw
        case rel => exact ⟨k + 1, by omega, by go_num, by rw [HE.out], hHr.alloc _, hBr.trans (below_new (Below.refl _ _) hHr _)⟩
        case measure => simp [intOf] <;> omega
      | false =>
        rw [hf] at c2
        have HE : Hid (putI p (k + 1) = putI p k) := by rw [hf] at e1; exact e1
        clear e1 hf
        go_wp2_with fail
        go_roundw
        case rel => exact ⟨k + 1, by omega, by go_num, by rw [HE.out], hHr.alloc _, hBr.trans (below_new (Below.refl _ _) hHr _)⟩
        case measure => simp [intOf] <;> omega
    · obtain rfl : k = 7 := by omega
      go_wp2_with fail
      go_ret2
      exact ⟨rfl, by rw [HBB.out]; exact hBr⟩
/-! ### said of numbers -/
/-- What Put hands back. -/
def putR (p : PteS) : Value := .tuple #[.int .u64 (if putOk p then (putN p : Int) else 0), .bool (putOk p)]
theorem EPut_calls (p : PteS) (w : World) : Calls Try.prog 78 #[.agg (pteC p)] w fun e w' => e = .returned (putR p) ∧ Below w.heap.size w w' := by
  cases h : putOk p with
  | false =>
    have e : putR p = .tuple #[.int .u64 0, .bool false] := by simp [putR, h]
    rw [e]
    exact Put_no p w h
  | true =>
    have e : putR p = .tuple #[.int .u64 (putI p 7), .bool true] := by simp [putR, h, putI_eq p h]
    rw [e]
    have h' := (putOk_iff p).1 h
    exact Put_ok p w h'.1 h'.2.1 h'.2.2

end Go.Proofs.Yteeapkndappnoaa
