/-
  Host, Guest and Many of package gmap.
-/
import Derived.Test.YtkgijfodjmkhgaaGmapNew
namespace Go.Proofs.Ytkgijfodjmkhgaa
open Go.RowKit
set_option linter.unusedVariables false
set_option linter.unusedSimpArgs false

theorem GmapA.open {b : Nat} {l : List Int} {w : World} {B : Nat} {X : List Asr} (hH : Has w B (GmapA b l :: X)) : ∃ s : GmapS, (l.Nodup ∧ 1 ≤ l.length ∧ l.length ≤ 64) ∧
    Has w B (blk b 48 #[s.v, .map (some s.m)] :: imap Try.prog 3 s.m (gmG l l.length) l.length :: row 3 1 s.v l.length (l.map (Value.int .i64)) :: X) := by
  obtain ⟨s, hH⟩ := hH.open_ex
  obtain ⟨hI, hH⟩ := hH.open_and
  exact ⟨s, hI, hH.open_all⟩

/-- The host's frame of a guest's. -/
def hostR (l : List Int) (g : Int) : Value := .tuple #[.int .i64 (if 0 ≤ g ∧ g < l.length then l.getD g.toNat 0 else 0), .bool (decide (0 ≤ g ∧ g < l.length))]
/-- The guest's frame of a host's. -/
def guestR (l : List Int) (h : Int) : Value := .tuple #[.int .i64 ((gmG l l.length h).getD 0), .bool (gmG l l.length h).isSome]

end Go.Proofs.Ytkgijfodjmkhgaa
