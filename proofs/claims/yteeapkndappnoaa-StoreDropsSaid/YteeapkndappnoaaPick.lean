/-
  The things of a list in another order, or some of them: told by their places.
-/
import Derived.Test.YteeapkndappnoaaOwn
namespace Go.Proofs.Yteeapkndappnoaa
open Go.RowKit
set_option linter.unusedVariables false
set_option linter.unusedSimpArgs false

/-- Those at these places; each place is one of what is left. -/
def pickRel : List Nat → List Asr → List Asr
  | [], _ => []
  | i :: is, L => match L[i]? with
    | some A => A :: pickRel is (L.eraseIdx i)
    | none => []
/-- Places of the whole list, as places of what is left. -/
def rels : Nat → List Nat → List Nat
  | 0, _ => []
  | _ + 1, [] => []
  | n + 1, i :: is => i :: rels n (is.map fun j => if i < j then j - 1 else j)
theorem pickRel_perm : ∀ (is : List Nat) (L : List Asr), ∃ R, L.Perm (pickRel is L ++ R)
  | [], L => ⟨L, List.Perm.refl _⟩
  | i :: is, L => by
    unfold pickRel
    cases h : L[i]? with
    | none => exact ⟨L, List.Perm.refl _⟩
    | some A =>
      obtain ⟨R, hR⟩ := pickRel_perm is (L.eraseIdx i)
      obtain ⟨h1, h2⟩ := List.getElem?_eq_some_iff.1 h
      refine ⟨R, ?_⟩
      have h3 : L.Perm (A :: L.eraseIdx i) := by
        have h4 : L = L.take i ++ L[i] :: L.drop (i + 1) := by rw [← List.drop_eq_getElem_cons h1, List.take_append_drop]
        rw [List.eraseIdx_eq_take_drop_succ]
        rw [h2] at h4
        conv => lhs; rw [h4]
        exact List.perm_middle
      exact h3.trans (List.Perm.cons _ hR)
theorem Has.pickRel {w : World} {B : Nat} {L : List Asr} (h : Has w B L) (is : List Nat) : Has w B (pickRel is L) := by
  obtain ⟨R, hR⟩ := pickRel_perm is L
  exact (h.perm (hR.trans List.perm_append_comm)).tl
theorem Has.pick {w : World} {B : Nat} {L : List Asr} (h : Has w B L) (is : List Nat) : Has w B (Go.Proofs.Yteeapkndappnoaa.pickRel (rels is.length is) L) := h.pickRel _

example {w : World} {B : Nat} {a b c d : Asr} {X : List Asr} (h : Has w B [a, b, c, d]) : Has w B [d, a, c] := h.pick [3, 0, 2]

end Go.Proofs.Yteeapkndappnoaa
