/-
  The live question of layer 3.
-/
import Derived.Test.YtkgijfodjmkhgaaGmapB
namespace Go.Proofs.Ytkgijfodjmkhgaa
open Go.RowKit
set_option linter.unusedVariables false
set_option linter.unusedSimpArgs false

/-- A list of the law's own, in a block. -/
theorem src_blk {w : World} {B b : Nat} {T : TypeId} {l : List Int} {L1 L2 : List Asr} (hH : Has w B (L1 ++ blk b T (l.map (Value.int .i64)).toArray :: L2)) (hl : l.length ≤ 1000) (hw : ∀ x ∈ l, (Lit.int .i64 x).wf = true) : Src w (some ⟨b, 0, none⟩) l := by
  refine ⟨by omega, hw, fun _ => ⟨b, 0, rfl, (hH.blk_at L1 L2).2.2, fun j u hj => ?_⟩⟩
  rw [Nat.zero_add]
  exact hH.cell L1 L2 j (by simpa using hj)
theorem src_nil (w : World) : Src w none [] := ⟨by simp, by simp, by simp⟩

instance (l : List Int) (frames : Int) : Decidable (gok l frames) := by unfold gok; infer_instance

theorem New_yes {a : Option Addr} {cap : Nat} {l : List Int} {frames : Int} {w : World} (hg : gok l frames) (hs : Src w a l) {B : Nat} {X : List Asr} (hH : Has w B X) :
    Calls Try.prog 17 #[.slice a l.length cap, .int .i64 frames] w fun e w' => ∃ b, e = .returned (.pointer (some ⟨b, 0, none⟩)) ∧ Has w' B (GmapA b l :: X) ∧ Below B w w' := by
  refine (New_calls a cap l frames w hs hH).mono ?_
  rintro e w' (⟨h, _⟩ | ⟨_, h⟩)
  · exact absurd hg h
  · exact h
theorem New_no {a : Option Addr} {cap : Nat} {l : List Int} {frames : Int} {w : World} (hg : ¬ gok l frames) (hs : Src w a l) {B : Nat} {X : List Asr} (hH : Has w B X) :
    Calls Try.prog 17 #[.slice a l.length cap, .int .i64 frames] w fun e w' => e = .returned (.pointer none) ∧ Has w' B X ∧ Below B w w' := by
  refine (New_calls a cap l frames w hs hH).mono ?_
  rintro e w' (⟨_, h⟩ | ⟨h, _⟩)
  · exact h
  · exact absurd h hg

end Go.Proofs.Ytkgijfodjmkhgaa
