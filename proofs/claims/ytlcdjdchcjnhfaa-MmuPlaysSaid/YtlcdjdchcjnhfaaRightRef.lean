/-
  What the laws ask of the document's answer to layer 6: May, Under.
-/
import Derived.Test.YtlcdjdchcjnhfaaRightB
namespace Go.Proofs.Ytlcdjdchcjnhfaa
open Go.RowKit
set_option linter.unusedVariables false
set_option linter.unusedSimpArgs false

def rUnder (a b : RightS) : Bool := (!a.W || b.W) && (!a.U || b.U) && (!a.X || b.X)

set_option maxHeartbeats 4000000 in
theorem Under_calls (r s : RightS) (w : World) : Calls Try.prog 22 #[.agg #[.bool r.W, .bool r.U, .bool r.X], .agg #[.bool s.W, .bool s.U, .bool s.X]] w fun e w' => e = .returned (.bool (rUnder r s)) ∧ Below w.heap.size w w' := by
  have hH0 : Has w w.heap.size [] := Has.nil (Nat.le_refl _)
  have hH1 := hH0.newblk w.heap.size 38 (rightC r).toArray rfl
  have hB1 := below_new (Below.refl _ w) hH0 (.cells (rightC r).toArray 38)
  have hH2 := hH1.newblk (w.heap.size + 1) 38 (rightC s).toArray (by simp)
  have hB2 := below_new hB1 hH1 (.cells (rightC s).toArray 38)
  have c0 := hH2.cell [_] _ 0 (v := .bool r.W) rfl
  have c1 := hH2.cell [_] _ 1 (v := .bool r.U) rfl
  have c2 := hH2.cell [_] _ 2 (v := .bool r.X) rfl
  have d0 := hH2.cell [] _ 0 (v := .bool s.W) rfl
  have d1 := hH2.cell [] _ 1 (v := .bool s.U) rfl
  have d2 := hH2.cell [] _ 2 (v := .bool s.X) rfl
  obtain ⟨a, b, c⟩ := r
  obtain ⟨x, y, z⟩ := s
  go_enter Try.func22, Try.ntmps22
  cases a <;> cases b <;> cases c <;> cases x <;> cases y <;> cases z
  all_goals (
    go_wp2_with fail
    go_ret
    exact ⟨rfl, hB2⟩)

set_option maxHeartbeats 4000000 in
theorem RMay_calls (r : RightS) (kind : Int) (user : Bool) (w : World) : Calls Try.prog 18 #[.agg #[.bool r.W, .bool r.U, .bool r.X], .int .i64 kind, .bool user] w fun e w' => e = .returned (.bool (rMay r kind user)) ∧ Below w.heap.size w w' := by
  have hH0 : Has w w.heap.size [] := Has.nil (Nat.le_refl _)
  have hH1 := hH0.newblk w.heap.size 38 (rightC r).toArray rfl
  have hB1 := below_new (Below.refl _ w) hH0 (.cells (rightC r).toArray 38)
  have c0 := hH1.cell [] _ 0 (v := .bool r.W) rfl
  have c1 := hH1.cell [] _ 1 (v := .bool r.U) rfl
  have c2 := hH1.cell [] _ 2 (v := .bool r.X) rfl
  obtain ⟨a, b, c⟩ := r
  by_cases h1 : kind = 1
  · subst h1
    go_enter Try.func18, Try.ntmps18
    cases a <;> cases b <;> cases user
    all_goals (
      go_wp2_with fail
      go_ret
      exact ⟨rfl, hB1⟩)
  · by_cases h2 : kind = 2
    · subst h2
      go_enter Try.func18, Try.ntmps18
      cases c <;> cases b <;> cases user
      all_goals (
        go_wp2_with fail
        go_ret
        exact ⟨rfl, hB1⟩)
    · have e1 : (kind == 1) = false := by rw [beq_eq_false_iff_ne]; exact h1
      have e2 : (kind == 2) = false := by rw [beq_eq_false_iff_ne]; exact h2
      have er : rMay ⟨a, b, c⟩ kind user = ((b || !user) && decide (kind = 0)) := by unfold rMay; rw [if_neg h1, if_neg h2]
      rw [er]
      clear er h1 h2
      by_cases h0 : kind = 0
      · subst h0
        go_enter Try.func18, Try.ntmps18
        cases b <;> cases user
        all_goals (
          go_wp2_with fail
          go_ret
          exact ⟨rfl, hB1⟩)
      · have e0 : (kind == 0) = false := by rw [beq_eq_false_iff_ne]; exact h0
        rw [decide_eq_false h0]
        clear h0
        go_enter Try.func18, Try.ntmps18
        cases b <;> cases user
        all_goals (
          go_wp2_with fail
          go_ret
          exact ⟨rfl, hB1⟩)

end Go.Proofs.Ytlcdjdchcjnhfaa
