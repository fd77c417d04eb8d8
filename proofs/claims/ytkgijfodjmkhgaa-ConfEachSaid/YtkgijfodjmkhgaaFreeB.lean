/-
  Contracts of package free, said of the list of the frames that are free.
-/
import Derived.Test.YtkgijfodjmkhgaaFree
namespace Go.Proofs.Ytkgijfodjmkhgaa
open Go.RowKit
set_option linter.unusedVariables false
set_option linter.unusedSimpArgs false

/-- What is known of a list beside its frames. -/
structure FreeFits (first many : Int) (F : List Int) : Prop where
  a1 : 0 ≤ first
  a2 : 0 ≤ many
  a3 : first ≤ 256
  a4 : many ≤ 256 - first
  nd : F.Nodup
  rg : ∀ x ∈ F, first ≤ x ∧ x < first + many
  ln : (F.length : Int) ≤ many

theorem Has.free {b : Nat} {first many : Int} {F : List Int} {w : World} {B : Nat} (L1 L2 : List Asr) (hH : Has w B (L1 ++ FreeA b first many F :: L2)) : FreeFits first many F := by
  obtain ⟨s, hI, _⟩ := FreeA.open (hH.front L1 L2)
  exact ⟨hI.a1, hI.a2, hI.a3, hI.a4, hI.nodup, fun x hx => ⟨((hI.mem x).1 hx).1, ((hI.mem x).1 hx).2.1⟩, by have := hI.length; omega⟩

def takeV (F : List Int) : Int := F.getLast?.getD 0
def takeB (F : List Int) : Bool := !F.isEmpty

def givesB (first many : Int) (F : List Int) (f : Int) : Bool := decide (first ≤ f ∧ f < first + many ∧ f ∉ F)
def given (first many : Int) (F : List Int) (f : Int) : List Int := if givesB first many F f then F ++ [f] else F

theorem freshL_dec (a n f : Int) (r : Bool) (h : decide (a ≤ f ∧ f < a + n) = r) : decide (f ∈ freshL a n 0) = r := by
  rw [← h]
  congr 1
  rw [freshL_mem, Int.add_zero]

end Go.Proofs.Ytkgijfodjmkhgaa
