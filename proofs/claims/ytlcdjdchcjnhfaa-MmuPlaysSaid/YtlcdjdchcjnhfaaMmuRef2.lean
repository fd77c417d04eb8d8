/-
  The document's own answer to layer 6: All, Of, Meet.
-/
import Derived.Test.YtlcdjdchcjnhfaaRightRef
import Derived.StillTailTactics
namespace Go.Proofs.Ytlcdjdchcjnhfaa
open Go.RowKit
set_option linter.unusedVariables false
set_option linter.unusedSimpArgs false

theorem RAll6_calls (w : World) : Calls Try.prog 56 #[] w fun e w' => e = .returned (.agg (rightC rAll).toArray) ∧ Below w.heap.size w w' := by
  obtain ⟨i0, hi0, hz0, hz1, hz2⟩ := info_parts (show (Try.prog.info? 38).map (fun i => (i.zero, i.size, i.bytes)) = some (some (.agg #[.bool false, .bool false, .bool false]), 3, 3) from by kernel_rfl)
  have hH0 : Has w w.heap.size [] := Has.nil (Nat.le_refl _)
  have hH1 := hH0.newblk w.heap.size 38 (rightC rNone).toArray rfl
  have hB1 := below_new (Below.refl _ w) hH0 (.cells (rightC rNone).toArray 38)
  go_enter Try.func56, Try.ntmps56
  go_wp2_with (refine wpList_store_all [] _ hH1 38 (.tmp 0) (.tmp 1) rfl rfl rfl (rightC rAll).toArray rfl right_size rfl (rightC_one _) ?_; intro w3 hH3 hB3 hz3; clear hz3)
  exact bodyPost_ret (results_cell_row (fn := Try.f56) rfl _ w3 w.heap.size 38 _ (0, 0) _ rfl (hH3.blk_at [] _).1 Try.underlying38 rfl right_size) rfl ⟨rfl, hB1.trans hB3⟩

theorem ROf6_calls (p : PteS) (w : World) : Calls Try.prog 61 #[.agg (pteC p)] w fun e w' => e = .returned (.agg (rightC (rOf p)).toArray) ∧ Below w.heap.size w w' := by
  obtain ⟨i0, hi0, hz0, hz1, hz2⟩ := info_parts (show (Try.prog.info? 38).map (fun i => (i.zero, i.size, i.bytes)) = some (some (.agg #[.bool false, .bool false, .bool false]), 3, 3) from by kernel_rfl)
  have hH0 : Has w w.heap.size [] := Has.nil (Nat.le_refl _)
  have hH1 := hH0.newblk w.heap.size 90 (pteC p) rfl
  have hB1 := below_new (Below.refl _ w) hH0 (.cells (pteC p) 90)
  have hH2 := hH1.newblk (w.heap.size + 1) 38 #[.bool false, .bool false, .bool false] (by simp)
  have hB2 := below_new hB1 hH1 (.cells #[.bool false, .bool false, .bool false] 38)
  have c1 := hH2.cell [_] _ 1 (v := .bool p.W) rfl
  have c2 := hH2.cell [_] _ 2 (v := .bool p.U) rfl
  have c6 := hH2.cell [_] _ 6 (v := .bool p.NX) rfl
  have er : rOf p = ⟨p.W, p.U, !p.NX⟩ := rfl
  rw [er]
  clear er
  generalize p.NX = nx at *
  cases nx with
  | false =>
    go_enter Try.func61, Try.ntmps61
    go_wp2_with (refine wpList_store_all [] _ hH2 38 (.tmp 2) (.tmp 10) rfl rfl rfl #[.bool p.W, .bool p.U, .bool true] rfl right_size3 rfl (by simp [Value.oneCell']) ?_; intro w3 hH3 hB3 hz3; clear hz3)
    exact bodyPost_ret (results_cell_row (fn := Try.f61) rfl _ w3 (w.heap.size + 1) 38 _ (0, 0) _ rfl (hH3.blk_at [] _).1 Try.underlying38 rfl right_size3) rfl ⟨rfl, hB2.trans hB3⟩
  | true =>
    go_enter Try.func61, Try.ntmps61
    go_wp2_with (refine wpList_store_all [] _ hH2 38 (.tmp 2) (.tmp 10) rfl rfl rfl #[.bool p.W, .bool p.U, .bool false] rfl right_size3 rfl (by simp [Value.oneCell']) ?_; intro w3 hH3 hB3 hz3; clear hz3)
    exact bodyPost_ret (results_cell_row (fn := Try.f61) rfl _ w3 (w.heap.size + 1) 38 _ (0, 0) _ rfl (hH3.blk_at [] _).1 Try.underlying38 rfl right_size3) rfl ⟨rfl, hB2.trans hB3⟩

theorem ROf_lit (p : PteS) (o : RightS) (ho : rOf p = o) (w : World) : Calls Try.prog 61 #[.agg #[.bool p.P, .bool p.W, .bool p.U, .bool p.A, .bool p.D, .bool p.PS, .bool p.NX, .bool p.Bad, .int .i64 p.Frame]] w fun e w' => e = .returned (.agg #[.bool o.W, .bool o.U, .bool o.X]) ∧ Below w.heap.size w w' := by
  subst ho
  exact ROf6_calls p w

set_option maxHeartbeats 8000000 in
set_option maxRecDepth 100000 in
theorem RMeet_calls (a b : RightS) (eb : Nat) (w : World) (B : Nat) (X : List Asr) (hH : Has w B (blk eb 38 (twoC a b) :: X)) :
    Calls Try.prog 60 #[.slice (some ⟨eb, 0, none⟩) 2 2] w fun e w' => e = .returned (.agg (rightC (rMeet a b)).toArray) ∧ Has w' B (blk eb 38 (twoC a b) :: X) ∧ Below B w w' := by
  obtain ⟨i0, hi0, hz0, hz1, hz2⟩ := info_parts (show (Try.prog.info? 38).map (fun i => (i.zero, i.size, i.bytes)) = some (some (.agg #[.bool false, .bool false, .bool false]), 3, 3) from by kernel_rfl)
  have hH1 := hH.newblk w.heap.size 38 #[.bool false, .bool false, .bool false] rfl
  have hB1 := below_new (Below.refl B w) hH (.cells #[.bool false, .bool false, .bool false] 38)
  have CA := hid (keeps (RAll6_calls _) hH1)
  clear hH
  go_enter Try.func60, Try.ntmps60
  go_wp2_with fail
  generalize w.heap.size = rb at *
  refine CA.out.mono ?_
  rintro e w1 ⟨rfl, hH2, hB2⟩
  have hB2 := hB1.trans hB2
  clear hH1 hB1 CA
  have tok1 : True := trivial
  obtain ⟨ob, hob⟩ : ∃ ob, w1.heap.size = ob := ⟨_, rfl⟩
  go_wp2_with (have _t := tok1; refine wpList_store_all [] _ (hH2.newblk ob 38 #[.bool false, .bool false, .bool false] hob) 38 (.tmp 3) (.tmp 5) rfl rfl rfl (rightC rAll).toArray rfl right_size rfl (rightC_one _) ?_; clear _t tok1; intro w2 hH3 hB3' hz3; clear hz3; have hB3 := hB2.trans ((below_new (Below.refl _ _) hH2 _).trans hB3'))
  clear hH2 hB2 hB3' hob
  go_loopw [4] (fun i wr => ∃ k : Nat, k ≤ 2 ∧ i = .int .i64 k ∧ Has wr B (blk ob 38 (rightC (meetK a b k)).toArray :: blk rb 38 #[.bool false, .bool false, .bool false] :: blk eb 38 (twoC a b) :: X) ∧ Below B w wr) (fun i _ => 2 - (intOf i).toNat)
  case atStart => exact ⟨0, by omega, rfl, hH3, hB3⟩
  case round =>
    obtain ⟨k, hk, rfl, hHr, hBr⟩ := hrel
    clear hH3 hB3
    obtain rfl | rfl | rfl : k = 0 ∨ k = 1 ∨ k = 2 := by omega
    · have hHr : Has wr B (blk ob 38 #[.bool true, .bool true, .bool true] :: blk rb 38 #[.bool false, .bool false, .bool false] :: blk eb 38 (twoC a b) :: X) := hHr
      have c0 := hHr.cell [_, _] _ 0 (v := .bool a.W) rfl
      have c1 := hHr.cell [_, _] _ 1 (v := .bool a.U) rfl
      have c2 := hHr.cell [_, _] _ 2 (v := .bool a.X) rfl
      have d0 := hHr.cell [] _ 0 (v := .bool true) rfl
      have d1 := hHr.cell [] _ 1 (v := .bool true) rfl
      have d2 := hHr.cell [] _ 2 (v := .bool true) rfl
      go_wp2_with fail
      refine wp_region_still_tail 28 (by kernel_rfl) (by kernel_rfl) ?_
      simp only [List.take_succ_cons, List.take_zero, List.drop_succ_cons, List.drop_zero]
      iterate 28 ((with_reducible refine wpStill_step (fun K hK => ?_)); go_simp; (with_reducible refine hK _ ?_); clear hK K)
      refine wpStill_nil ?_
      change wpList _ _ _ _ _ (wr.drew)
      have hHd := hHr.drew
      have hBd : Below B w wr.drew := hBr.drew
      go_wp2_with (refine wpList_store_all [] _ hHd 38 (.tmp 3) (.tmp 39) rfl rfl rfl #[.bool a.W, .bool a.U, .bool a.X] rfl right_size3 rfl (by simp [Value.oneCell']) ?_; intro w9 hH9 hB9 hz9; clear hz9)
      go_roundw
      case rel => exact ⟨1, by omega, by go_num, hH9, hBd.trans hB9⟩
      case measure => simp [intOf]
    · have hHr : Has wr B (blk ob 38 #[.bool a.W, .bool a.U, .bool a.X] :: blk rb 38 #[.bool false, .bool false, .bool false] :: blk eb 38 (twoC a b) :: X) := hHr
      have c0 := hHr.cell [_, _] _ 3 (v := .bool b.W) rfl
      have c1 := hHr.cell [_, _] _ 4 (v := .bool b.U) rfl
      have c2 := hHr.cell [_, _] _ 5 (v := .bool b.X) rfl
      have d0 := hHr.cell [] _ 0 (v := .bool a.W) rfl
      have d1 := hHr.cell [] _ 1 (v := .bool a.U) rfl
      have d2 := hHr.cell [] _ 2 (v := .bool a.X) rfl
      have hHd := hHr.drew
      have hBd : Below B w wr.drew := hBr.drew
      clear hHr
      obtain ⟨aW, aU, aX⟩ := a
      cases aW <;> cases aU <;> cases aX
      all_goals (
        go_wp2_with fail
        refine wp_region_still_tail 28 (by kernel_rfl) (by kernel_rfl) ?_
        simp only [List.take_succ_cons, List.take_zero, List.drop_succ_cons, List.drop_zero]
        iterate 28 ((with_reducible refine wpStill_step (fun K hK => ?_)); go_simp; (with_reducible refine hK _ ?_); clear hK K)
        refine wpStill_nil ?_
        change wpList _ _ _ _ _ (wr.drew)
        go_wp2_with (refine wpList_store_all [] _ hHd 38 (.tmp 3) (.tmp 39) rfl rfl rfl _ rfl right_size3 rfl (by simp [Value.oneCell']) ?_; intro w9 hH9 hB9 hz9; clear hz9)
        go_roundw
        case rel => exact ⟨2, by omega, by go_num, hH9, hBd.trans hB9⟩
        case measure => simp [intOf])
    · have hHr : Has wr B (blk ob 38 (rightC (rMeet a b)).toArray :: blk rb 38 #[.bool false, .bool false, .bool false] :: blk eb 38 (twoC a b) :: X) := hHr
      go_wp2_with (first
        | (refine wpList_load_blk [] _ hHr 38 (.tmp 3) rfl rfl rfl _ Try.underlying38 rfl right_size ?_)
        | (refine wpList_store_all [_] _ hHr 38 (.tmp 2) (.tmp 40) rfl rfl rfl (rightC (rMeet a b)).toArray rfl right_size rfl (rightC_one _) ?_; intro w9 hH9 hB9 hz9; clear hz9))
      exact bodyPost_ret (results_cell_row (fn := Try.f60) rfl _ w9 rb 38 _ (0, 0) _ rfl (hH9.blk_at [_] _).1 Try.underlying38 rfl right_size) rfl ⟨rfl, hH9.drop.drop, hBr.trans hB9⟩

end Go.Proofs.Ytlcdjdchcjnhfaa
