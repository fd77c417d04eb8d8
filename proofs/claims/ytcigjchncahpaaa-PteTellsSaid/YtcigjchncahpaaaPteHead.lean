/-
  Entries as values in a walk; the live question of layer 4.
-/
import Derived.Test.YtcigjchncahpaaaPteB
import Derived.Lib.QuietBelow
import Derived.Laws.StructEq
namespace Go.Proofs.Ytcigjchncahpaaa
open Go.RowKit
set_option linter.unusedVariables false
set_option linter.unusedSimpArgs false

theorem pteC_inj {p q : PteS} (h : pteC p = pteC q) : p = q := by
  cases p; cases q; simp [pteC] at h; simp [h]

theorem pte_eql (p q : PteS) (w : World) : Sem.run Try.prog (binOp .eql 24 (.agg (pteC p)) (.agg (pteC q))) w = .ok (.bool (decide (p = q))) w := by
  have h := Try.underlying24
  have hb := Try.underlying4
  have hi := Try.underlying3
  have sb : (Try.prog.info? 4).map (fun i => i.size) = some 1 := by kernel_rfl
  have si : (Try.prog.info? 3).map (fun i => i.size) = some 1 := by kernel_rfl
  rw [run_eql_struct, run_equalIn_struct w 9999 24 _ _ (by rw [h]; kernel_rfl) (by kernel_rfl)]
  have hf : Try.prog.fieldsOf 24 = #[⟨"P", 4, 0, false, "", "", 0⟩, ⟨"W", 4, 1, false, "", "", 1⟩, ⟨"U", 4, 2, false, "", "", 2⟩, ⟨"A", 4, 3, false, "", "", 3⟩, ⟨"D", 4, 4, false, "", "", 4⟩, ⟨"PS", 4, 5, false, "", "", 5⟩, ⟨"NX", 4, 6, false, "", "", 6⟩, ⟨"Bad", 4, 7, false, "", "", 7⟩, ⟨"Frame", 3, 8, false, "", "", 8⟩] := by
    rw [Program.fieldsOf, h]
  rw [hf]
  obtain ⟨P, W, U, A, D, PS, NX, Bad, Frame⟩ := p
  obtain ⟨P', W', U', A', D', PS', NX', Bad', Frame'⟩ := q
  simp [Op.eqFields, pteC, go_sem, part]
  (repeat' split) <;> simp_all

theorem pte_neq (p q : PteS) (w : World) : Sem.run Try.prog (binOp .neq 24 (.agg (pteC p)) (.agg (pteC q))) w = .ok (.bool (!decide (p = q))) w := by
  have h := pte_eql p q w
  rw [run_eql_struct] at h
  simp only [binOp, Sem.run_bind, Op.equal, Op.maxDepth]
  revert h
  generalize (Op.equalIn 10000 24 (.agg (pteC p)) (.agg (pteC q))).run Try.prog w = r
  cases r with
  | ok b w' => intro h; simp at h ⊢; simp [h]
  | halt x w' => intro h; simp [Result.andThen] at h

theorem pte_bad (p : PteS) (w : World) : Sem.run Try.prog (Instr.field 24 (.agg (pteC p)) 7) w = .ok (.bool p.Bad) w := by
  have h := Try.underlying24
  simp [go_sem, pteC, Instr.field, part, asAgg]

theorem pte_size (p : PteS) : (Try.prog.info? 24).map (fun i => i.size) = some (pteC p).size := by kernel_rfl
theorem pte_one (p : PteS) : ∀ u ∈ (pteC p).toList, u.oneCell' = true := by simp [pteC, Value.oneCell']
/-- An entry's variable at its beginning. -/
def pteZ : Array Value := #[.bool false, .bool false, .bool false, .bool false, .bool false, .bool false, .bool false, .bool false, .int .i64 0]

/-- The cells of an entry that lies in memory. -/
theorem pte_cells {w : World} {B b : Nat} {T : TypeId} {p : PteS} (L1 L2 : List Asr) (hH : Has w B (L1 ++ blk b T (pteC p) :: L2)) :
    w.cell? ⟨b, 0, none⟩ = some (.bool p.P) ∧ w.cell? ⟨b, 1, none⟩ = some (.bool p.W) ∧ w.cell? ⟨b, 2, none⟩ = some (.bool p.U) ∧ w.cell? ⟨b, 3, none⟩ = some (.bool p.A) ∧ w.cell? ⟨b, 4, none⟩ = some (.bool p.D) ∧ w.cell? ⟨b, 5, none⟩ = some (.bool p.PS) ∧ w.cell? ⟨b, 6, none⟩ = some (.bool p.NX) ∧ w.cell? ⟨b, 7, none⟩ = some (.bool p.Bad) ∧ w.cell? ⟨b, 8, none⟩ = some (.int .i64 p.Frame) :=
  ⟨hH.cell L1 L2 0 rfl, hH.cell L1 L2 1 rfl, hH.cell L1 L2 2 rfl, hH.cell L1 L2 3 rfl, hH.cell L1 L2 4 rfl, hH.cell L1 L2 5 rfl, hH.cell L1 L2 6 rfl, hH.cell L1 L2 7 rfl, hH.cell L1 L2 8 rfl⟩

set_option maxHeartbeats 1000000 in
set_option maxRecDepth 100000 in
theorem head_true : Does Try.prog 9 #[] [] (fun _ : Unit => .bool true) (fun _ => []) := by
  intro w B X hH
  have hH0 : Has w B X := hH
  have e1 : ∀ W, Sem.run Try.prog (binOp .eql 24 (.agg (pteC (getS 9223372037160194083))) (.agg #[.bool true, .bool true, .bool false, .bool true, .bool false, .bool false, .bool true, .bool false, .int .i64 74565])) W = .ok (.bool true) W := fun W => by
    have h := pte_eql (getS 9223372037160194083) ⟨true, true, false, true, false, false, true, false, 74565⟩ W
    rwa [show decide (getS 9223372037160194083 = ⟨true, true, false, true, false, false, true, false, 74565⟩) = true from by decide +kernel] at h
  have e3 : ∀ W, Sem.run Try.prog (Instr.field 24 (.agg (pteC (getS 8))) 7) W = .ok (.bool true) W := fun W => pte_bad (getS 8) W
  have e4 : ∀ W, Sem.run Try.prog (Instr.field 24 (.agg (pteC (getS 4611686018427387904))) 7) W = .ok (.bool true) W := fun W => pte_bad (getS 4611686018427387904) W
  have p1 : ∀ W, Calls Try.prog 10 #[.agg #[.bool true, .bool false, .bool true, .bool false, .bool true, .bool true, .bool false, .bool false, .int .i64 3]] W fun e w' => e = .returned (.tuple #[.int .u64 12485, .bool true]) ∧ Below W.heap.size W w' := fun W => by
    have h := Put_calls ⟨true, false, true, false, true, true, false, false, 3⟩ W
    rwa [show putR ⟨true, false, true, false, true, true, false, false, 3⟩ = .tuple #[.int .u64 12485, .bool true] from by kernel_rfl] at h
  have p2 : ∀ W, Calls Try.prog 10 #[.agg #[.bool false, .bool false, .bool false, .bool false, .bool false, .bool false, .bool false, .bool false, .int .i64 1048576]] W fun e w' => e = .returned (.tuple #[.int .u64 0, .bool false]) ∧ Below W.heap.size W w' := fun W => by
    have h := Put_calls ⟨false, false, false, false, false, false, false, false, 1048576⟩ W
    rwa [show putR ⟨false, false, false, false, false, false, false, false, 1048576⟩ = .tuple #[.int .u64 0, .bool false] from by kernel_rfl] at h
  have p3 : ∀ W, Calls Try.prog 10 #[.agg #[.bool false, .bool false, .bool false, .bool false, .bool false, .bool false, .bool false, .bool true, .int .i64 0]] W fun e w' => e = .returned (.tuple #[.int .u64 0, .bool false]) ∧ Below W.heap.size W w' := fun W => by
    have h := Put_calls ⟨false, false, false, false, false, false, false, true, 0⟩ W
    rwa [show putR ⟨false, false, false, false, false, false, false, true, 0⟩ = .tuple #[.int .u64 0, .bool false] from by kernel_rfl] at h
  have P1 := hid p1
  have P2 := hid p2
  have P3 := hid p3
  clear hH p1 p2 p3
  go_enter Try.func9, Try.ntmps9
  go_wp2_with fail
  refine (Get_calls 9223372037160194083 (by decide) _).mono ?_
  rintro e w1 ⟨rfl, hB1⟩
  have hH1 := hH0.below hB1
  have hB2 := hB1.mono hH0.le
  go_wp2_with (refine wpList_store_all [] _ (hH1.newblk w1.heap.size 24 pteZ rfl) 24 (.tmp 1) (.tmp 8) rfl rfl rfl _ rfl (pte_size _) rfl (pte_one _) ?_; intro w2 hH2 hB3 hz2)
  clear hz2
  have hB4 := hB2.trans ((below_new (Below.refl _ _) hH1 _).trans hB3)
  clear hB1 hB2 hB3 hH1
  refine (P1.out _).mono ?_
  rintro e w3 ⟨rfl, hB5⟩
  go_wp2_with fail
  refine (P2.out _).mono ?_
  rintro e w4 ⟨rfl, hB6⟩
  go_wp2_with fail
  refine (P3.out _).mono ?_
  rintro e w5 ⟨rfl, hB7⟩
  have hH5 := ((hH2.below hB5).below hB6).below hB7
  go_wp2_with (refine wpList_load_blk [] _ hH5 24 (.tmp 1) rfl rfl rfl _ Try.underlying24 rfl (pte_size _) ?_)
  refine (Get_calls 8 (by decide) _).mono ?_
  rintro e w6 ⟨rfl, hB8⟩
  go_wp2_with fail
  refine (Get_calls 4611686018427387904 (by decide) _).mono ?_
  rintro e w7 ⟨rfl, hB9⟩
  go_wp2_with fail
  refine (Used_calls 1 false (by decide) _).mono ?_
  rintro e w8 ⟨rfl, rfl⟩
  go_wp2_with fail
  refine (Used_calls 33 true (by decide) _).mono ?_
  rintro e w9 ⟨rfl, rfl⟩
  go_wp2_with fail
  go_ret
  have hB : B ≤ w2.heap.size := hH2.le
  have l5 := hB5.size
  have l6 := hB6.size
  have l7 := hB7.size
  have l8 := hB8.size
  exact ⟨(), congrArg (fun b => Ending.returned (.bool b)) (by decide), ((hH5.below hB8).below hB9).drop, hB4.trans ((hB5.mono hB).trans ((hB6.mono (by omega)).trans ((hB7.mono (by omega)).trans ((hB8.mono (by omega)).trans (hB9.mono (by omega))))))⟩

end Go.Proofs.Ytcigjchncahpaaa
