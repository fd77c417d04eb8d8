/-
  Contracts of package right (layer 6), as layer 15 uses them: what may be done.
-/
import Derived.Test.YtlcdjdchcjnhfaaPteB
import Derived.Test.YtlcdjdchcjnhfaaStep
import Derived.Test.YtlcdjdchcjnhfaaPick
import Derived.Laws.ResultCell
namespace Go.Proofs.Ytlcdjdchcjnhfaa
open Go.RowKit
set_option linter.unusedVariables false
set_option linter.unusedSimpArgs false

structure RightS where
  W : Bool
  U : Bool
  X : Bool
deriving DecidableEq
/-- Its cells. -/
def rightC (r : RightS) : List Value := [.bool r.W, .bool r.U, .bool r.X]
theorem rightC_one (r : RightS) : ∀ u ∈ (rightC r).toArray.toList, u.oneCell' = true := by simp [rightC, Value.oneCell']
theorem rightC_one' (r : RightS) : ∀ u ∈ rightC r, u.oneCell' = true := by simp [rightC, Value.oneCell']
theorem right_size3 : (Try.prog.info? 38).map (fun i => i.size) = some 3 := by kernel_rfl
theorem right_size {r : RightS} : (Try.prog.info? 38).map (fun i => i.size) = some (rightC r).toArray.size := right_size3
theorem right_size' {r : RightS} : (Try.prog.info? 38).map (fun i => i.size) = some (rightC r).length := right_size3
theorem pte_size9 {p : PteS} : (Try.prog.info? 90).map (fun i => i.size) = some (pteC p).size := by
  rw [show (pteC p).size = 9 from rfl]; kernel_rfl
def rAll : RightS := ⟨true, true, true⟩
def rNone : RightS := ⟨false, false, false⟩
def rMeet (a b : RightS) : RightS := ⟨a.W && b.W, a.U && b.U, a.X && b.X⟩
def rOf (p : PteS) : RightS := ⟨p.W, p.U, !p.NX⟩
def rMay (r : RightS) (kind : Int) (user : Bool) : Bool := (r.U || !user) && (if kind = 1 then r.W else if kind = 2 then r.X else decide (kind = 0))

theorem All_calls (w : World) : Calls Try.prog 44 #[] w fun e w' => e = .returned (.agg (rightC rAll).toArray) ∧ Below w.heap.size w w' := by
  have hH0 : Has w w.heap.size [] := Has.nil (Nat.le_refl _)
  have hH1 := hH0.newblk w.heap.size 38 (rightC rNone).toArray rfl
  have hB1 := below_new (Below.refl _ w) hH0 (.cells (rightC rNone).toArray 38)
  go_enter Try.func44, Try.ntmps44
  go_wp2_with (refine wpList_store_all [] _ hH1 38 (.tmp 0) (.tmp 1) rfl rfl rfl (rightC rAll).toArray rfl right_size rfl (rightC_one _) ?_; intro w3 hH3 hB3 hz3; clear hz3)
  exact bodyPost_ret (results_cell_row (fn := Try.f44) rfl _ w3 w.heap.size 38 _ (0, 0) _ rfl (hH3.blk_at [] _).1 Try.underlying38 rfl right_size) rfl ⟨rfl, hB1.trans hB3⟩

theorem Of_calls (p : PteS) (w : World) : Calls Try.prog 48 #[.agg (pteC p)] w fun e w' => e = .returned (.agg (rightC (rOf p)).toArray) ∧ Below w.heap.size w w' := by
  have hH0 : Has w w.heap.size [] := Has.nil (Nat.le_refl _)
  have hH1 := hH0.newblk w.heap.size 90 (pteC p) rfl
  have hB1 := below_new (Below.refl _ w) hH0 (.cells (pteC p) 90)
  have hH2 := hH1.newblk (w.heap.size + 1) 38 #[.bool false, .bool false, .bool false] (by simp)
  have hB2 := below_new hB1 hH1 (.cells #[.bool false, .bool false, .bool false] 38)
  have c1 := hH2.cell [_] _ 1 (v := .bool p.W) rfl
  have c2 := hH2.cell [_] _ 2 (v := .bool p.U) rfl
  have c6 := hH2.cell [_] _ 6 (v := .bool p.NX) rfl
  have er : rOf p = ⟨p.W, p.U, !p.NX⟩ := rfl
  rw [er]
  clear er
  generalize p.NX = nx at *
  cases nx with
  | false =>
    go_enter Try.func48, Try.ntmps48
    go_wp2_with (refine wpList_store_all [] _ hH2 38 (.tmp 2) (.tmp 10) rfl rfl rfl #[.bool p.W, .bool p.U, .bool true] rfl right_size3 rfl (by simp [Value.oneCell']) ?_; intro w3 hH3 hB3 hz3; clear hz3)
    exact bodyPost_ret (results_cell_row (fn := Try.f48) rfl _ w3 (w.heap.size + 1) 38 _ (0, 0) _ rfl (hH3.blk_at [] _).1 Try.underlying38 rfl right_size3) rfl ⟨rfl, hB2.trans hB3⟩
  | true =>
    go_enter Try.func48, Try.ntmps48
    go_wp2_with (refine wpList_store_all [] _ hH2 38 (.tmp 2) (.tmp 10) rfl rfl rfl #[.bool p.W, .bool p.U, .bool false] rfl right_size3 rfl (by simp [Value.oneCell']) ?_; intro w3 hH3 hB3 hz3; clear hz3)
    exact bodyPost_ret (results_cell_row (fn := Try.f48) rfl _ w3 (w.heap.size + 1) 38 _ (0, 0) _ rfl (hH3.blk_at [] _).1 Try.underlying38 rfl right_size3) rfl ⟨rfl, hB2.trans hB3⟩

set_option maxHeartbeats 1000000 in
theorem May_calls (r : RightS) (kind : Int) (user : Bool) (w : World) : Calls Try.prog 40 #[.agg (rightC r).toArray, .int .i64 kind, .bool user] w fun e w' => e = .returned (.bool (rMay r kind user)) ∧ Below w.heap.size w w' := by
  have hH0 : Has w w.heap.size [] := Has.nil (Nat.le_refl _)
  have hH1 := hH0.newblk w.heap.size 38 (rightC r).toArray rfl
  have hB1 := below_new (Below.refl _ w) hH0 (.cells (rightC r).toArray 38)
  have c0 := hH1.cell [] _ 0 (v := .bool r.W) rfl
  have c1 := hH1.cell [] _ 1 (v := .bool r.U) rfl
  have c2 := hH1.cell [] _ 2 (v := .bool r.X) rfl
  by_cases h1 : kind = 1
  · subst h1
    obtain ⟨a, b, c⟩ := r
    go_enter Try.func40, Try.ntmps40
    cases a <;> cases b <;> cases user
    all_goals (
      go_wp2_with fail
      go_ret
      exact ⟨rfl, hB1⟩)
  · by_cases h2 : kind = 2
    · subst h2
      obtain ⟨a, b, c⟩ := r
      go_enter Try.func40, Try.ntmps40
      cases c <;> cases b <;> cases user
      all_goals (
        go_wp2_with fail
        go_ret
        exact ⟨rfl, hB1⟩)
    · have e1 : (kind == 1) = false := by rw [beq_eq_false_iff_ne]; exact h1
      have e2 : (kind == 2) = false := by rw [beq_eq_false_iff_ne]; exact h2
      have er : rMay r kind user = ((r.U || !user) && decide (kind = 0)) := by unfold rMay; rw [if_neg h1, if_neg h2]
      rw [er]
      clear er
      by_cases h0 : kind = 0
      · have e0 : (kind == 0) = true := by rw [beq_iff_eq]; exact h0
        rw [decide_eq_true h0]
        clear h0 h1 h2
        obtain ⟨a, b, c⟩ := r
        go_enter Try.func40, Try.ntmps40
        cases b <;> cases user
        all_goals (
          go_wp2_with fail
          go_ret
          exact ⟨rfl, hB1⟩)
      · have e0 : (kind == 0) = false := by rw [beq_eq_false_iff_ne]; exact h0
        rw [decide_eq_false h0]
        clear h0 h1 h2
        obtain ⟨a, b, c⟩ := r
        go_enter Try.func40, Try.ntmps40
        cases b <;> cases user
        all_goals (
          go_wp2_with fail
          go_ret
          exact ⟨rfl, hB1⟩)

end Go.Proofs.Ytlcdjdchcjnhfaa
