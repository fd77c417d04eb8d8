/-
  Contracts of package pte (layer 4), in the machine's own words on bits.
-/
import Derived.Test.YtlcdjdchcjnhfaaRows
import Derived.Test.YtlcdjdchcjnhfaaOwn
import Derived.Test.YtlcdjdchcjnhfaaWord
import Derived.StillTailTactics
namespace Go.Proofs.Ytlcdjdchcjnhfaa
open Go.RowKit
set_option linter.unusedVariables false
set_option linter.unusedSimpArgs false

/-- An entry's cells. -/
def pteC (p : PteS) : Array Value := #[.bool p.P, .bool p.W, .bool p.U, .bool p.A, .bool p.D, .bool p.PS, .bool p.NX, .bool p.Bad, .int .i64 p.Frame]

/-- The cells of the table of an entry's flags: each one's address, and its bit. -/
def flagC (b : Nat) : Array Value := #[.pointer (some ⟨b, 0, none⟩), .int .u64 1, .pointer (some ⟨b, 1, none⟩), .int .u64 2, .pointer (some ⟨b, 2, none⟩), .int .u64 4, .pointer (some ⟨b, 3, none⟩), .int .u64 32,
  .pointer (some ⟨b, 4, none⟩), .int .u64 64, .pointer (some ⟨b, 5, none⟩), .int .u64 128, .pointer (some ⟨b, 6, none⟩), .int .u64 9223372036854775808]

theorem flag_index (b : Nat) (w : World) : ∀ k : Nat, k < 7 → (Instr.index 120 (.agg (flagC b)) (.int .i64 k)).run Try.prog w = .ok (.agg #[.pointer (some ⟨b, k, none⟩), .int .u64 (fbit k)]) w
  | 0, _ => by kernel_rfl
  | 1, _ => by kernel_rfl
  | 2, _ => by kernel_rfl
  | 3, _ => by kernel_rfl
  | 4, _ => by kernel_rfl
  | 5, _ => by kernel_rfl
  | 6, _ => by kernel_rfl
  | k + 7, h => by omega

set_option maxHeartbeats 1000000 in
set_option maxRecDepth 100000 in
theorem flags_ok (b : Nat) : Does Try.prog 68 #[.pointer (some ⟨b, 0, none⟩)] [] (fun _ : Unit => .agg (flagC b)) (fun _ => []) := by
  intro w B X hH
  have hH : Has w B X := hH
  go_enter Try.func68, Try.ntmps68
  go_wp2
  go_still_tail 29, (by kernel_rfl)
  change wpList _ _ _ _ _ ((w.alloc _).drew)
  go_wp2
  exact bodyPost_ret (v := .agg (flagC b)) (by simp [results, Try.results68, go_sem, flagC]) rfl ⟨(), rfl, (hH.alloc _).drew, ((Below.refl B w).alloc hH.le _).drew⟩

/-! ### Used -/
/-! ### Get -/
/-- The entry when k flags have been told. -/
def pcell (v : Int) (k : Nat) : Array Value := #[.bool (decide (0 < k) && flg v 0), .bool (decide (1 < k) && flg v 1), .bool (decide (2 < k) && flg v 2), .bool (decide (3 < k) && flg v 3), .bool (decide (4 < k) && flg v 4),
  .bool (decide (5 < k) && flg v 5), .bool (decide (6 < k) && flg v 6), .bool false, .int .i64 0]
theorem pcell_step (v : Int) : ∀ k : Nat, k < 7 → (pcell v k).setIfInBounds k (.bool (flg v k)) = pcell v (k + 1)
  | 0, _ => by simp [pcell]
  | 1, _ => by simp [pcell]
  | 2, _ => by simp [pcell]
  | 3, _ => by simp [pcell]
  | 4, _ => by simp [pcell]
  | 5, _ => by simp [pcell]
  | 6, _ => by simp [pcell]
  | k + 7, h => by omega
theorem pcell_get (v : Int) : ∀ k : Nat, k < 7 → (pcell v k)[k]? = some (.bool false)
  | 0, _ => rfl
  | 1, _ => rfl
  | 2, _ => rfl
  | 3, _ => rfl
  | 4, _ => rfl
  | 5, _ => rfl
  | 6, _ => rfl
  | k + 7, h => by omega

set_option maxHeartbeats 2000000 in
set_option maxRecDepth 100000 in
theorem Get_walk (v : Int) (w : World) : Calls Try.prog 46 #[.int .u64 v] w fun e w' => e = .returned (.agg #[.bool (flg v 0), .bool (flg v 1), .bool (flg v 2), .bool (flg v 3), .bool (flg v 4), .bool (flg v 5), .bool (flg v 6), .bool (restI v 7 != 0), .int .i64 (frameI v)]) ∧ Below w.heap.size w w' := by
  have hH0 : Has w w.heap.size [] := Has.nil (Nat.le_refl _)
  have z9 : pcell v 0 = #[.bool false, .bool false, .bool false, .bool false, .bool false, .bool false, .bool false, .bool false, .int .i64 0] := by simp [pcell]
  have hH1 := (hH0.newblk w.heap.size 90 (pcell v 0) rfl).newblk (w.heap.size + 1) 90 (pcell v 0) (by simp)
  have hB1 := below_new (below_new (Below.refl _ w) hH0 (.cells (pcell v 0) 90)) (hH0.newblk w.heap.size 90 (pcell v 0) rfl) (.cells (pcell v 0) 90)
  rw [z9] at hB1
  have HZ := hid z9
  clear z9 hH0
  go_enter Try.func46, Try.ntmps46
  go_wp2_with fail
  rw [HZ.out] at hH1
  refine (flags_ok (w.heap.size + 1) _ _ _ hH1).mono ?_
  rintro e w1 ⟨_, rfl, hH2, hB2⟩
  have hB := hB1.trans hB2
  clear hH1 hB1 hB2
  rw [← HZ.out] at hH2
  generalize hbb : w.heap.size = b at *
  have HBB := hid hbb
  clear hbb
  go_wp2_with fail
  go_loopw [4, 6, 10] (fun r _ i wr => ∃ k : Nat, k ≤ 7 ∧ i = .int .i64 k ∧ r = .int .u64 (restI v k) ∧ Has wr b [blk (b + 1) 90 (pcell v k), blk b 90 (pcell v 0)] ∧ Below b w wr) (fun _ _ i _ => 7 - (intOf i).toNat)
  case atStart => exact ⟨0, by omega, rfl, rfl, hH2, hB⟩
  case round =>
    obtain ⟨k, hk, rfl, rfl, hHr, hBr⟩ := hrel
    clear hH2 hB
    by_cases hlt : k < 7
    · have hidx := fun W => flag_index (b + 1) W k hlt
      have hN := hHr.newblk wr.heap.size 119 #[.pointer (some ⟨b + 1, k, none⟩), .int .u64 (fbit k)] rfl
      have c0 := hN.cell [] _ 0 rfl
      have c1 := hN.cell [] _ 1 rfl
      have c2 := hN.cell [_] _ k (pcell_get v k hlt)
      have f2 := hN.frozen [_] _ k
      have hlt2 := (hHr.blk_at [] _).2.2
      have n1 : ¬ (b + 1 = wr.heap.size) := by omega
      have n2 : ¬ (wr.heap.size = b + 1) := by omega
      simp at c0 c1
      go_wp2_with fail
      go_roundw
      case rel =>
        have hS := hHr.set [] _ k (.bool (flg v k))
        rw [pcell_step v k hlt] at hS
        have hT := below_set (Below.refl _ _) [] _ hHr k (.bool (flg v k))
        exact ⟨k + 1, by omega, by go_num, rfl, hS.alloc _, hBr.trans (hT.alloc hS.le _)⟩
      case measure => simp [intOf] <;> omega
    · obtain rfl : k = 7 := by omega
      have hF : Has wr b [blk (b + 1) 90 #[.bool (flg v 0), .bool (flg v 1), .bool (flg v 2), .bool (flg v 3), .bool (flg v 4), .bool (flg v 5), .bool (flg v 6), .bool false, .int .i64 0], blk b 90 #[.bool false, .bool false, .bool false, .bool false, .bool false, .bool false, .bool false, .bool false, .int .i64 0]] := by
        simpa [pcell] using hHr
      clear hHr
      have f7 := hF.frozen [] _ 7
      have f8 := hF.frozen [] _ 8
      have c7 := hF.cell [] _ 7 rfl
      have c8 := hF.cell [] _ 8 rfl
      simp at c7 c8
      have hS := (hF.set [] _ 8 (.int .i64 (frameI v))).set [] _ 7 (.bool (restI v 7 != 0))
      have hb1 : b ≤ b + 1 := Nat.le_succ b
      have hBS := ((hBr.setCell (p := ⟨b + 1, 8, none⟩) hb1 (.int .i64 (frameI v))).setCell (p := ⟨b + 1, 7, none⟩) hb1 (.bool (restI v 7 != 0)))
      go_wp2_with (first
        | (refine wpList_load_blk [] _ hS 90 (.tmp 3) rfl rfl rfl _ Try.underlying90 rfl (by kernel_rfl) ?_)
        | (refine wpList_store_blk [_] _ hS 90 (.tmp 2) (.tmp 34) rfl rfl 0 rfl _ rfl (by kernel_rfl) (by simp) (by simp [Value.oneCell']) ?_; intro w2 hH2 hB2 hz2))
      exact bodyPost_ret (results_cell_row (fn := Try.f46) rfl _ w2 b 90 _ (0, 0) _ rfl (hH2.blk_at [_] []).1 Try.underlying90 rfl (by kernel_rfl)) rfl ⟨rfl, by rw [HBB.out]; exact hBS.trans hB2⟩

end Go.Proofs.Ytlcdjdchcjnhfaa
