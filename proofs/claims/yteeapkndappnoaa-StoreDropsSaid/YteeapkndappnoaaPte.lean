/-
  Contracts of package pte (layer 4), in the machine's own words on bits.
-/
import Derived.Test.YteeapkndappnoaaRows
import Derived.Test.YteeapkndappnoaaOwn
import Derived.Test.YteeapkndappnoaaWord
import Derived.StillTailTactics
namespace Go.Proofs.Yteeapkndappnoaa
open Go.RowKit
set_option linter.unusedVariables false
set_option linter.unusedSimpArgs false

/-- An entry's cells. -/
def pteC (p : PteS) : Array Value := #[.bool p.P, .bool p.W, .bool p.U, .bool p.A, .bool p.D, .bool p.PS, .bool p.NX, .bool p.Bad, .int .i64 p.Frame]

/-- The cells of the table of an entry's flags: each one's address, and its bit. -/
def flagC (b : Nat) : Array Value := #[.pointer (some ⟨b, 0, none⟩), .int .u64 1, .pointer (some ⟨b, 1, none⟩), .int .u64 2, .pointer (some ⟨b, 2, none⟩), .int .u64 4, .pointer (some ⟨b, 3, none⟩), .int .u64 32,
  .pointer (some ⟨b, 4, none⟩), .int .u64 64, .pointer (some ⟨b, 5, none⟩), .int .u64 128, .pointer (some ⟨b, 6, none⟩), .int .u64 9223372036854775808]

theorem flag_index (b : Nat) (w : World) : ∀ k : Nat, k < 7 → (Instr.index 135 (.agg (flagC b)) (.int .i64 k)).run Try.prog w = .ok (.agg #[.pointer (some ⟨b, k, none⟩), .int .u64 (fbit k)]) w
  | 0, _ => by kernel_rfl
  | 1, _ => by kernel_rfl
  | 2, _ => by kernel_rfl
  | 3, _ => by kernel_rfl
  | 4, _ => by kernel_rfl
  | 5, _ => by kernel_rfl
  | 6, _ => by kernel_rfl
  | k + 7, h => by omega

set_option maxHeartbeats 1000000 in
set_option maxRecDepth 100000 in
theorem flags_ok (b : Nat) : Does Try.prog 84 #[.pointer (some ⟨b, 0, none⟩)] [] (fun _ : Unit => .agg (flagC b)) (fun _ => []) := by
  intro w B X hH
  have hH : Has w B X := hH
  go_enter Try.func84, Try.ntmps84
  go_wp2
  go_still_tail 29, (by kernel_rfl)
  change wpList _ _ _ _ _ ((w.alloc _).drew)
  go_wp2
  exact bodyPost_ret (v := .agg (flagC b)) (by simp [results, Try.results84, go_sem, flagC]) rfl ⟨(), rfl, (hH.alloc _).drew, ((Below.refl B w).alloc hH.le _).drew⟩

/-! ### Used -/
/-! ### Get -/
/-- The entry when k flags have been told. -/
def pcell (v : Int) (k : Nat) : Array Value := #[.bool (decide (0 < k) && flg v 0), .bool (decide (1 < k) && flg v 1), .bool (decide (2 < k) && flg v 2), .bool (decide (3 < k) && flg v 3), .bool (decide (4 < k) && flg v 4),
  .bool (decide (5 < k) && flg v 5), .bool (decide (6 < k) && flg v 6), .bool false, .int .i64 0]
theorem pcell_step (v : Int) : ∀ k : Nat, k < 7 → (pcell v k).setIfInBounds k (.bool (flg v k)) = pcell v (k + 1)
  | 0, _ => by simp [pcell]
  | 1, _ => by simp [pcell]
  | 2, _ => by simp [pcell]
  | 3, _ => by simp [pcell]
  | 4, _ => by simp [pcell]
  | 5, _ => by simp [pcell]
  | 6, _ => by simp [pcell]
  | k + 7, h => by omega
theorem pcell_get (v : Int) : ∀ k : Nat, k < 7 → (pcell v k)[k]? = some (.bool false)
  | 0, _ => rfl
  | 1, _ => rfl
  | 2, _ => rfl
  | 3, _ => rfl
  | 4, _ => rfl
  | 5, _ => rfl
  | 6, _ => rfl
  | k + 7, h => by omega

end Go.Proofs.Yteeapkndappnoaa
