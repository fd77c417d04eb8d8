/-
  A list of ints that came in: nil has no room.
-/
import Derived.Test.YtkgijfodjmkhgaaGmapArgs
namespace Go.Proofs.Ytkgijfodjmkhgaa
open Go.RowKit Go.Deep Go.ChangeShapes Go.WideShapes
set_option linter.unusedVariables false
set_option linter.unusedSimpArgs false

structure IntsArg (w : World) (a : Option Addr) (len cap : Nat) (l : List Int) : Prop where
  row : ArgRow w 1 a len (l.map (Value.int .i64))
  nil : a = none → len = 0 ∧ cap = 0

theorem open_ints0 {H : Type} {enc : TypeId × Value → H} {w : World} {base : Nat} {spare : Nat → Bool} {held : Bool} {a : Option Addr} {len cap : Nat} {d : DataW H} {p : List MemPlace}
    (h : DataW.Trod enc Try.prog w base spare held 22 (.slice a len cap) d p) : ∃ l : List Int, l.length = len ∧ IntsArg w a len cap l ∧ ∀ x ∈ l, (Lit.int .i64 x).wf = true := by
  obtain ⟨l, h1, h2, h3⟩ := open_ints h
  refine ⟨l, h1, ⟨h2, fun ha => ?_⟩, h3⟩
  obtain ⟨fuel, hf⟩ := h
  rcases open_slice Try.underlying22 hf with ⟨hcs, _⟩ | ⟨a', len', cap', m, n, D, Pl, hcs, hb, hlc, hcm, hm, _, hel⟩
  · simp [Value.cells] at hcs
    exact ⟨hcs.2.1, hcs.2.2⟩
  · simp [Value.cells] at hcs
    rw [ha] at hcs
    exact absurd hcs.1 (by simp)

/-- Its cells, as 'append' reads them. -/
theorem ArgRow.adds {w w' : World} {a : Option Addr} {len : Nat} {l : List Int} (h : ArgRow w 1 a len (l.map (Value.int .i64))) (hb : Below w.heap.size w w') : ∀ ad, a = some ad → ∀ j u, (l.map (Value.int .i64))[j]? = some u → w'.cell? (ad.add j) = some u := by
  intro ad ha j u hj
  obtain ⟨h1, h2, h3⟩ := h
  have hl : l.length = len := by simpa using h1
  have hjl := (List.getElem?_eq_some_iff.1 hj).1
  simp at hjl
  obtain ⟨b, o, e, hlt, hc⟩ := h3 (by omega)
  rw [ha] at e
  injection e with e
  subst e
  have e2 : (⟨b, o, none⟩ : Addr).add j = ⟨b, o + j, none⟩ := by
    unfold Addr.add
    split <;> simp_all
  rw [e2]
  exact ArgRow.later hlt hc hb j hj

/-- A row of the call's own serves as a list. -/
theorem src_row {w : World} {B g cap : Nat} {T : TypeId} {l : List Int} (L1 L2 : List Asr) (hH : Has w B (L1 ++ row T 1 (.slice (some ⟨g, 0, none⟩) l.length cap) l.length (l.map (Value.int .i64)) :: L2)) (hl : l.length ≤ 9223372036854775807) (hw : ∀ x ∈ l, (Lit.int .i64 x).wf = true) : Src w (some ⟨g, 0, none⟩) l := by
  refine ⟨hl, hw, fun _ => ⟨g, 0, rfl, ?_, fun j u hj => ?_⟩⟩
  · rcases hH.row_shape L1 L2 with ⟨h, _⟩ | ⟨g', cap', h, _, _, _, hg⟩
    · cases h
    · cases h; exact hg
  · rw [Nat.zero_add]
    exact hH.row_cell L1 L2 j hj

end Go.Proofs.Ytkgijfodjmkhgaa
