/-
  What the laws of layer 3 are handed: a list of ints.
-/
import Derived.Test.YtkgijfodjmkhgaaGmapHead
import Derived.Test.YtkgijfodjmkhgaaArgs
namespace Go.Proofs.Ytkgijfodjmkhgaa
open Go.RowKit Go.Deep
set_option linter.unusedVariables false
set_option linter.unusedSimpArgs false

theorem open_ints {H : Type} {enc : TypeId × Value → H} {w : World} {base : Nat} {spare : Nat → Bool} {held : Bool} {a : Option Addr} {len cap : Nat} {d : DataW H} {p : List MemPlace}
    (h : DataW.Trod enc Try.prog w base spare held 22 (.slice a len cap) d p) : ∃ l : List Int, l.length = len ∧ ArgRow w 1 a len (l.map (Value.int .i64)) ∧ ∀ x ∈ l, (Lit.int .i64 x).wf = true := by
  obtain ⟨l, h1, h2, h3⟩ := open_row (fun x => [Value.int .i64 x]) (fun x => (Lit.int .i64 x).wf = true) 1 (fun _ => rfl) (by decide) Try.underlying22 (by kernel_rfl) (open_int_elem Try.underlying3) h
  exact ⟨l, h1, h2.ints, h3⟩

/-- What came in serves as a list, now and later. -/
theorem ArgRow.src {w w' : World} {a : Option Addr} {len : Nat} {l : List Int} (h : ArgRow w 1 a len (l.map (Value.int .i64))) (hw : ∀ x ∈ l, (Lit.int .i64 x).wf = true) (hb : Below w.heap.size w w') : Src w' a l := by
  obtain ⟨h1, h2, h3⟩ := h
  have hl : l.length = len := by simpa using h1
  refine ⟨by omega, hw, fun h0 => ?_⟩
  obtain ⟨b, o, rfl, hlt, hc⟩ := h3 (by omega)
  exact ⟨b, o, rfl, Nat.lt_of_lt_of_le hlt hb.size, fun j u hj => ArgRow.later hlt hc hb j hj⟩
theorem ArgRow.int_at {w w' : World} {a : Option Addr} {len : Nat} {l : List Int} (h : ArgRow w 1 a len (l.map (Value.int .i64))) (hb : Below w.heap.size w w') {b o : Nat} (ha : a = some ⟨b, o, none⟩) {k : Nat} {x : Int} (hk : l[k]? = some x) : w'.cell? ⟨b, o + k, none⟩ = some (.int .i64 x) := by
  obtain ⟨h1, h2, h3⟩ := h
  have hl : l.length = len := by simpa using h1
  have := (List.getElem?_eq_some_iff.1 hk).1
  obtain ⟨b', o', e, hlt, hc⟩ := h3 (by omega)
  rw [ha] at e
  injection e with e
  injection e with e1 e2 e3
  subst e1 e2
  exact ArgRow.later hlt hc hb k (by simp [hk])

end Go.Proofs.Ytkgijfodjmkhgaa
