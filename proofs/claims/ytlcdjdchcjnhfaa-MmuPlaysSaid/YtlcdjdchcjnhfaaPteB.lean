/-
  Contracts of package pte (layer 4): Put.
-/
import Derived.Test.YtlcdjdchcjnhfaaPte
namespace Go.Proofs.Ytlcdjdchcjnhfaa
open Go.RowKit
set_option linter.unusedVariables false
set_option linter.unusedSimpArgs false

/-! ### Put -/
theorem pteC_get (p : PteS) : ∀ k : Nat, k < 7 → (pteC p)[k]? = some (.bool (p.fl k))
  | 0, _ => rfl
  | 1, _ => rfl
  | 2, _ => rfl
  | 3, _ => rfl
  | 4, _ => rfl
  | 5, _ => rfl
  | 6, _ => rfl
  | k + 7, h => by omega
/-! ### said of numbers -/
theorem EGet_calls (V : Nat) (hV : V < 18446744073709551616) (w : World) : Calls Try.prog 46 #[.int .u64 (V : Int)] w fun e w' => e = .returned (.agg (pteC (getS V))) ∧ Below w.heap.size w w' := by
  refine (Get_walk (V : Int) w).mono ?_
  rintro e w' ⟨rfl, hB⟩
  refine ⟨?_, hB⟩
  rw [flg_eq hV 0 0 rfl (by decide), flg_eq hV 1 1 rfl (by decide), flg_eq hV 2 2 rfl (by decide), flg_eq hV 3 5 rfl (by decide), flg_eq hV 4 6 rfl (by decide), flg_eq hV 5 7 rfl (by decide), flg_eq hV 6 63 rfl (by decide), restI_eq hV, frameI_eq hV]
  have e : (((V &&& badMask : Nat) : Int) != 0) = badN V := by
    unfold badN
    rw [Bool.eq_iff_iff, bne_iff_ne, bne_iff_ne]
    constructor
    · intro h h0; rw [h0] at h; exact h rfl
    · intro h h0; exact h (by omega)
  rw [e]
  rfl

/-- What Put hands back. -/
def putR (p : PteS) : Value := .tuple #[.int .u64 (if putOk p then (putN p : Int) else 0), .bool (putOk p)]
end Go.Proofs.Ytlcdjdchcjnhfaa
