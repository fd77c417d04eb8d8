/-
  Meet of package right: what both of two permit.
-/
import Derived.Test.YtlcdjdchcjnhfaaRight
namespace Go.Proofs.Ytlcdjdchcjnhfaa
open Go.RowKit
set_option linter.unusedVariables false
set_option linter.unusedSimpArgs false

def twoC (a b : RightS) : Array Value := #[.bool a.W, .bool a.U, .bool a.X, .bool b.W, .bool b.U, .bool b.X]
/-- What Meet has behind so many. -/
def meetK (a b : RightS) : Nat → RightS
  | 0 => rAll
  | 1 => a
  | _ => rMeet a b

set_option maxHeartbeats 4000000 in
set_option maxRecDepth 100000 in
theorem Meet_calls (a b : RightS) (eb : Nat) (w : World) (B : Nat) (X : List Asr) (hH : Has w B (blk eb 38 (twoC a b) :: X)) :
    Calls Try.prog 47 #[.slice (some ⟨eb, 0, none⟩) 2 2] w fun e w' => e = .returned (.agg (rightC (rMeet a b)).toArray) ∧ Has w' B (blk eb 38 (twoC a b) :: X) ∧ Below B w w' := by
  have hH1 := hH.newblk w.heap.size 38 #[.bool false, .bool false, .bool false] rfl
  have hB1 := below_new (Below.refl B w) hH (.cells #[.bool false, .bool false, .bool false] 38)
  have CA := hid (keeps (All_calls _) hH1)
  clear hH
  go_enter Try.func47, Try.ntmps47
  go_wp2_with fail
  generalize w.heap.size = rb at *
  refine CA.out.mono ?_
  rintro e w1 ⟨rfl, hH2, hB2⟩
  have hB2 := hB1.trans hB2
  clear hH1 hB1 CA
  have tok1 : True := trivial
  obtain ⟨ob, hob⟩ : ∃ ob, w1.heap.size = ob := ⟨_, rfl⟩
  go_wp2_with (have _t := tok1; refine wpList_store_all [] _ (hH2.newblk ob 38 #[.bool false, .bool false, .bool false] hob) 38 (.tmp 3) (.tmp 6) rfl rfl rfl _ rfl right_size rfl (rightC_one _) ?_; clear _t tok1; intro w2 hH3 hB3' hz3; clear hz3; have hB3 := hB2.trans ((below_new (Below.refl _ _) hH2 _).trans hB3'))
  clear hH2 hB2 hB3' hob
  go_loopw [9] (fun i wr => ∃ k : Nat, k ≤ 2 ∧ i = .int .i64 k ∧ Has wr B (blk ob 38 (rightC (meetK a b k)).toArray :: blk rb 38 #[.bool false, .bool false, .bool false] :: blk eb 38 (twoC a b) :: X) ∧ Below B w wr) (fun i _ => 2 - (intOf i).toNat)
  case atStart => exact ⟨0, by omega, rfl, hH3, hB3⟩
  case round =>
    obtain ⟨k, hk, rfl, hHr, hBr⟩ := hrel
    clear hH3 hB3
    obtain rfl | rfl | rfl : k = 0 ∨ k = 1 ∨ k = 2 := by omega
    · have hHr : Has wr B (blk ob 38 #[.bool true, .bool true, .bool true] :: blk rb 38 #[.bool false, .bool false, .bool false] :: blk eb 38 (twoC a b) :: X) := hHr
      have c0 := hHr.cell [_, _] _ 0 (v := .bool a.W) rfl
      have c1 := hHr.cell [_, _] _ 1 (v := .bool a.U) rfl
      have c2 := hHr.cell [_, _] _ 2 (v := .bool a.X) rfl
      have d0 := hHr.cell [] _ 0 (v := .bool true) rfl
      have d1 := hHr.cell [] _ 1 (v := .bool true) rfl
      have d2 := hHr.cell [] _ 2 (v := .bool true) rfl
      have f0 := hHr.frozen [] _ 0
      have f1 := hHr.frozen [] _ 1
      have f2 := hHr.frozen [] _ 2
      have hlt := (hHr.blk_at [] _).2.2
      have n1 : ¬ (ob = wr.heap.size) := by omega
      have n2 : ¬ (wr.heap.size = ob) := by omega
      have hS := ((hHr.set [] _ 0 (.bool a.W)).set [] _ 1 (.bool a.U)).set [] _ 2 (.bool a.X)
      have hBS := (((hBr.setCell (p := ⟨ob, 0, none⟩) (hHr.blk_at [] _).2.1 (.bool a.W)).setCell (p := ⟨ob, 1, none⟩) (hHr.blk_at [] _).2.1 (.bool a.U)).setCell (p := ⟨ob, 2, none⟩) (hHr.blk_at [] _).2.1 (.bool a.X)).alloc hS.le (.cells #[.bool a.W, .bool a.U, .bool a.X] 38)
      clear hHr
      go_wp2_with fail
      go_roundw
      case rel => exact ⟨1, by omega, by go_num, hS.alloc _, hBS⟩
      case measure => simp [intOf]
    · have hHr : Has wr B (blk ob 38 #[.bool a.W, .bool a.U, .bool a.X] :: blk rb 38 #[.bool false, .bool false, .bool false] :: blk eb 38 (twoC a b) :: X) := hHr
      have c0 := hHr.cell [_, _] _ 3 (v := .bool b.W) rfl
      have c1 := hHr.cell [_, _] _ 4 (v := .bool b.U) rfl
      have c2 := hHr.cell [_, _] _ 5 (v := .bool b.X) rfl
      have d0 := hHr.cell [] _ 0 (v := .bool a.W) rfl
      have d1 := hHr.cell [] _ 1 (v := .bool a.U) rfl
      have d2 := hHr.cell [] _ 2 (v := .bool a.X) rfl
      have f0 := hHr.frozen [] _ 0
      have f1 := hHr.frozen [] _ 1
      have f2 := hHr.frozen [] _ 2
      have hlt := (hHr.blk_at [] _).2.2
      have n1 : ¬ (ob = wr.heap.size) := by omega
      have n2 : ¬ (wr.heap.size = ob) := by omega
      have hS := ((hHr.set [] _ 0 (.bool (a.W && b.W))).set [] _ 1 (.bool (a.U && b.U))).set [] _ 2 (.bool (a.X && b.X))
      have hBS := (((hBr.setCell (p := ⟨ob, 0, none⟩) (hHr.blk_at [] _).2.1 (.bool (a.W && b.W))).setCell (p := ⟨ob, 1, none⟩) (hHr.blk_at [] _).2.1 (.bool (a.U && b.U))).setCell (p := ⟨ob, 2, none⟩) (hHr.blk_at [] _).2.1 (.bool (a.X && b.X))).alloc hS.le (.cells #[.bool b.W, .bool b.U, .bool b.X] 38)
      clear hHr
      obtain ⟨aW, aU, aX⟩ := a
      cases aW <;> cases aU <;> cases aX
      all_goals (
        go_wp2_with fail
        go_roundw
        case rel => exact ⟨2, by omega, by go_num, hS.alloc _, hBS⟩
        case measure => simp [intOf])
    · have hHr : Has wr B (blk ob 38 (rightC (rMeet a b)).toArray :: blk rb 38 #[.bool false, .bool false, .bool false] :: blk eb 38 (twoC a b) :: X) := hHr
      go_wp2_with (first
        | (refine wpList_load_blk [] _ hHr 38 (.tmp 3) rfl rfl rfl _ Try.underlying38 rfl right_size ?_)
        | (refine wpList_store_all [_] _ hHr 38 (.tmp 2) (.tmp 35) rfl rfl rfl (rightC (rMeet a b)).toArray rfl right_size rfl (rightC_one _) ?_; intro w9 hH9 hB9 hz9; clear hz9))
      exact bodyPost_ret (results_cell_row (fn := Try.f47) rfl _ w9 rb 38 _ (0, 0) _ rfl (hH9.blk_at [_] _).1 Try.underlying38 rfl right_size) rfl ⟨rfl, hH9.drop.drop, hBr.trans hB9⟩

end Go.Proofs.Ytlcdjdchcjnhfaa
