/-
  Entries as values in a walk; the live question of layer 4.
-/
import Derived.Test.YteeapkndappnoaaPteB
import Derived.Lib.QuietBelow
import Derived.Laws.StructEq
namespace Go.Proofs.Yteeapkndappnoaa
open Go.RowKit
set_option linter.unusedVariables false
set_option linter.unusedSimpArgs false

theorem pteC_inj {p q : PteS} (h : pteC p = pteC q) : p = q := by
  cases p; cases q; simp [pteC] at h; simp [h]

theorem pte_eql (p q : PteS) (w : World) : Sem.run Try.prog (binOp .eql 67 (.agg (pteC p)) (.agg (pteC q))) w = .ok (.bool (decide (p = q))) w := by
  have h := Try.underlying67
  have hb := Try.underlying4
  have hi := Try.underlying3
  have sb : (Try.prog.info? 4).map (fun i => i.size) = some 1 := by kernel_rfl
  have si : (Try.prog.info? 3).map (fun i => i.size) = some 1 := by kernel_rfl
  rw [run_eql_struct, run_equalIn_struct w 9999 67 _ _ (by rw [h]; kernel_rfl) (by kernel_rfl)]
  have hf : Try.prog.fieldsOf 67 = #[⟨"P", 4, 0, false, "", "", 0⟩, ⟨"W", 4, 1, false, "", "", 1⟩, ⟨"U", 4, 2, false, "", "", 2⟩, ⟨"A", 4, 3, false, "", "", 3⟩, ⟨"D", 4, 4, false, "", "", 4⟩, ⟨"PS", 4, 5, false, "", "", 5⟩, ⟨"NX", 4, 6, false, "", "", 6⟩, ⟨"Bad", 4, 7, false, "", "", 7⟩, ⟨"Frame", 3, 8, false, "", "", 8⟩] := by
    rw [Program.fieldsOf, h]
  rw [hf]
  obtain ⟨P, W, U, A, D, PS, NX, Bad, Frame⟩ := p
  obtain ⟨P', W', U', A', D', PS', NX', Bad', Frame'⟩ := q
  simp [Op.eqFields, pteC, go_sem, part]
  (repeat' split) <;> simp_all

theorem pte_neq (p q : PteS) (w : World) : Sem.run Try.prog (binOp .neq 67 (.agg (pteC p)) (.agg (pteC q))) w = .ok (.bool (!decide (p = q))) w := by
  have h := pte_eql p q w
  rw [run_eql_struct] at h
  simp only [binOp, Sem.run_bind, Op.equal, Op.maxDepth]
  revert h
  generalize (Op.equalIn 10000 67 (.agg (pteC p)) (.agg (pteC q))).run Try.prog w = r
  cases r with
  | ok b w' => intro h; simp at h ⊢; simp [h]
  | halt x w' => intro h; simp [Result.andThen] at h

theorem pte_bad (p : PteS) (w : World) : Sem.run Try.prog (Instr.field 67 (.agg (pteC p)) 7) w = .ok (.bool p.Bad) w := by
  have h := Try.underlying67
  simp [go_sem, pteC, Instr.field, part, asAgg]

theorem pte_size (p : PteS) : (Try.prog.info? 67).map (fun i => i.size) = some (pteC p).size := by kernel_rfl
theorem pte_one (p : PteS) : ∀ u ∈ (pteC p).toList, u.oneCell' = true := by simp [pteC, Value.oneCell']
/-- An entry's variable at its beginning. -/
def pteZE : Array Value := #[.bool false, .bool false, .bool false, .bool false, .bool false, .bool false, .bool false, .bool false, .int .i64 0]

/-- The cells of an entry that lies in memory. -/
theorem pte_cellsE {w : World} {B b : Nat} {T : TypeId} {p : PteS} (L1 L2 : List Asr) (hH : Has w B (L1 ++ blk b T (pteC p) :: L2)) :
    w.cell? ⟨b, 0, none⟩ = some (.bool p.P) ∧ w.cell? ⟨b, 1, none⟩ = some (.bool p.W) ∧ w.cell? ⟨b, 2, none⟩ = some (.bool p.U) ∧ w.cell? ⟨b, 3, none⟩ = some (.bool p.A) ∧ w.cell? ⟨b, 4, none⟩ = some (.bool p.D) ∧ w.cell? ⟨b, 5, none⟩ = some (.bool p.PS) ∧ w.cell? ⟨b, 6, none⟩ = some (.bool p.NX) ∧ w.cell? ⟨b, 7, none⟩ = some (.bool p.Bad) ∧ w.cell? ⟨b, 8, none⟩ = some (.int .i64 p.Frame) :=
  ⟨hH.cell L1 L2 0 rfl, hH.cell L1 L2 1 rfl, hH.cell L1 L2 2 rfl, hH.cell L1 L2 3 rfl, hH.cell L1 L2 4 rfl, hH.cell L1 L2 5 rfl, hH.cell L1 L2 6 rfl, hH.cell L1 L2 7 rfl, hH.cell L1 L2 8 rfl⟩

end Go.Proofs.Yteeapkndappnoaa
