/-
  What the laws of layer 4 are handed: entries by value.
-/
import Derived.Test.YtcigjchncahpaaaPte
import Derived.Test.YtcigjchncahpaaaArgs
namespace Go.Proofs.Ytcigjchncahpaaa
open Go.RowKit Go.Deep
set_option linter.unusedVariables false
set_option linter.unusedSimpArgs false

theorem open_pte {H : Type} {enc : TypeId × Value → H} {w : World} {base : Nat} {spare : Nat → Bool} {held : Bool} {cs : Array Value} {d : DataW H} {q : List MemPlace}
    (h : DataW.Trod enc Try.prog w base spare held 24 (.agg cs) d q) : ∃ p : PteS, cs = pteC p ∧ (Lit.int .i64 p.Frame).wf = true := by
  obtain ⟨fuel, hf⟩ := h
  have hl := open_struct_len Try.underlying24 hf
  have hs : Try.prog.cellsOf 24 = 9 := by kernel_rfl
  rw [hs] at hl
  obtain ⟨v0, h0⟩ := open_bool_field Try.underlying24 hf 0 0 (e := 4) (by kernel_rfl) Try.underlying4 (by kernel_rfl)
  obtain ⟨v1, h1⟩ := open_bool_field Try.underlying24 hf 1 1 (e := 4) (by kernel_rfl) Try.underlying4 (by kernel_rfl)
  obtain ⟨v2, h2⟩ := open_bool_field Try.underlying24 hf 2 2 (e := 4) (by kernel_rfl) Try.underlying4 (by kernel_rfl)
  obtain ⟨v3, h3⟩ := open_bool_field Try.underlying24 hf 3 3 (e := 4) (by kernel_rfl) Try.underlying4 (by kernel_rfl)
  obtain ⟨v4, h4⟩ := open_bool_field Try.underlying24 hf 4 4 (e := 4) (by kernel_rfl) Try.underlying4 (by kernel_rfl)
  obtain ⟨v5, h5⟩ := open_bool_field Try.underlying24 hf 5 5 (e := 4) (by kernel_rfl) Try.underlying4 (by kernel_rfl)
  obtain ⟨v6, h6⟩ := open_bool_field Try.underlying24 hf 6 6 (e := 4) (by kernel_rfl) Try.underlying4 (by kernel_rfl)
  obtain ⟨v7, h7⟩ := open_bool_field Try.underlying24 hf 7 7 (e := 4) (by kernel_rfl) Try.underlying4 (by kernel_rfl)
  obtain ⟨v8, h8, hw⟩ := open_int_field Try.underlying24 hf 8 8 (e := 3) (by kernel_rfl) Try.underlying3 (by kernel_rfl)
  refine ⟨⟨v0, v1, v2, v3, v4, v5, v6, v7, v8⟩, ?_, hw⟩
  obtain ⟨l⟩ := cs
  simp only [Value.cells] at hl h0 h1 h2 h3 h4 h5 h6 h7 h8
  match l, hl with
  | [a, b, c, d, e, f, g, h, i], _ =>
    simp at h0 h1 h2 h3 h4 h5 h6 h7 h8
    rw [h0, h1, h2, h3, h4, h5, h6, h7, h8]
    rfl

/-- A uint64 is a number. -/
theorem u64_nat {v : Int} (h : (Lit.int .u64 v).wf = true) : ∃ V : Nat, v = V ∧ V < 18446744073709551616 := by
  obtain ⟨h0, h1⟩ := bounds_u64 h
  exact ⟨v.toNat, by omega, by omega⟩

end Go.Proofs.Ytcigjchncahpaaa
