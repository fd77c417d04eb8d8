/-
  What the laws of layer 13 are handed: a machine.
-/
import Derived.Test.YtkgijfodjmkhgaaConfHead
import Derived.Test.YtkgijfodjmkhgaaGmapArgs
import Derived.Test.YtkgijfodjmkhgaaArgs
namespace Go.Proofs.Ytkgijfodjmkhgaa
open Go.RowKit Go.Deep Go.ChangeShapes Go.WideShapes
set_option linter.unusedVariables false
set_option linter.unusedSimpArgs false
section
variable {H : Type} {enc : TypeId × Value → H} {P : Program} {w : World} {base : Nat} {spare : Nat → Bool} {held : Bool}
/-- A struct's field that is a slice. -/
theorem open_slice_field {t e el : TypeId} {fs : Array Field} {fuel : Nat} {cs : List Value} {x : DataW H × List MemPlace} (ht : P.underlying t = some (.struct fs)) (h : DataW.trod enc P w base spare held fuel t cs = some x) (i off : Nat) (hf : (fs[i]?).map (fun f => (f.type, f.offset)) = some (e, off))
    (he : P.underlying e = some (.slice el)) (hc : P.cellsOf e = 1) : ∃ a len cap d p, cs[off]? = some (.slice a len cap) ∧ DataW.Trod enc P w base spare held e (.slice a len cap) d p := by
  cases hfi : fs[i]? with
  | none => rw [hfi] at hf; cases hf
  | some f =>
    rw [hfi] at hf
    simp at hf
    obtain ⟨n, y, hy⟩ := open_field ht h i f hfi
    rw [hf.1, hf.2, hc] at hy
    have key : ∃ a len cap, (cs.drop off).take 1 = [Value.slice a len cap] := by
      rcases open_slice he hy with ⟨hcs, _⟩ | ⟨a', len', cap', _, _, _, _, hcs, _⟩
      · exact ⟨_, _, _, hcs⟩
      · exact ⟨_, _, _, hcs⟩
    obtain ⟨a, len, cap, hk⟩ := key
    rw [hk] at hy
    refine ⟨a, len, cap, y.1, y.2, ?_, n, ?_⟩
    · have := congrArg (·[0]?) hk
      simpa [List.getElem?_take] using this
    · simpa [Value.cells] using hy
end
/-- What is known of a machine that came in. -/
structure ConfArg (w : World) (c : ConfS) : Prop where
  src : Src w c.a c.l
  wf : ConfW c

theorem open_conf {H : Type} {enc : TypeId × Value → H} {w : World} {base : Nat} {spare : Nat → Bool} {held : Bool} {cs : Array Value} {d : DataW H} {q : List MemPlace}
    (h : DataW.Trod enc Try.prog w base spare held 24 (.agg cs) d q) : ∃ c : ConfS, cs = (confC c).toArray ∧ ConfArg w c := by
  obtain ⟨fuel, hf⟩ := h
  have hl := open_struct_len Try.underlying24 hf
  have hs : Try.prog.cellsOf 24 = 7 := by kernel_rfl
  rw [hs] at hl
  obtain ⟨v0, h0, w0⟩ := open_int_field Try.underlying24 hf 0 0 (e := 3) (by kernel_rfl) Try.underlying3 (by kernel_rfl)
  obtain ⟨a, len, cap, d1, p1, h1, hT⟩ := open_slice_field Try.underlying24 hf 1 1 (e := 22) (by kernel_rfl) Try.underlying22 (by kernel_rfl)
  obtain ⟨v2, h2, w2⟩ := open_int_field Try.underlying24 hf 2 2 (e := 3) (by kernel_rfl) Try.underlying3 (by kernel_rfl)
  obtain ⟨v3, h3, w3⟩ := open_int_field Try.underlying24 hf 3 3 (e := 3) (by kernel_rfl) Try.underlying3 (by kernel_rfl)
  obtain ⟨v4, h4, w4⟩ := open_int_field Try.underlying24 hf 4 4 (e := 3) (by kernel_rfl) Try.underlying3 (by kernel_rfl)
  obtain ⟨v5, h5, w5⟩ := open_int_field Try.underlying24 hf 5 5 (e := 3) (by kernel_rfl) Try.underlying3 (by kernel_rfl)
  obtain ⟨v6, h6, w6⟩ := open_int_field Try.underlying24 hf 6 6 (e := 3) (by kernel_rfl) Try.underlying3 (by kernel_rfl)
  obtain ⟨l, rfl, hA, hlw⟩ := open_ints hT
  refine ⟨⟨v0, a, l, cap, v2, v3, v4, v5, v6⟩, ?_, hA.src hlw (Below.refl _ _), w0, w2, w3, w4, w5, w6⟩
  obtain ⟨l'⟩ := cs
  simp only [Value.cells] at hl h0 h1 h2 h3 h4 h5 h6
  match l', hl with
  | [a0, b0, c0, d0, e0, f0, g0], _ =>
    simp at h0 h1 h2 h3 h4 h5 h6
    rw [h0, h1, h2, h3, h4, h5, h6]
    rfl

/-- Its cells. -/
theorem conf_cells {c : ConfS} {cb : Nat} {w : World} {B : Nat} (L1 L2 : List Asr) (hH : Has w B (L1 ++ blk cb 24 (confC c).toArray :: L2)) :
    w.cell? ⟨cb, 0, none⟩ = some (.int .i64 c.host) ∧ w.cell? ⟨cb, 1, none⟩ = some (.slice c.a c.l.length c.cap) ∧ w.cell? ⟨cb, 2, none⟩ = some (.int .i64 c.first) ∧ w.cell? ⟨cb, 3, none⟩ = some (.int .i64 c.many) ∧ w.cell? ⟨cb, 4, none⟩ = some (.int .i64 c.tlb) ∧ w.cell? ⟨cb, 5, none⟩ = some (.int .i64 c.asids) ∧ w.cell? ⟨cb, 6, none⟩ = some (.int .i64 c.root) :=
  ⟨hH.cell L1 L2 0 rfl, hH.cell L1 L2 1 rfl, hH.cell L1 L2 2 rfl, hH.cell L1 L2 3 rfl, hH.cell L1 L2 4 rfl, hH.cell L1 L2 5 rfl, hH.cell L1 L2 6 rfl⟩
theorem conf_arr (c : ConfS) : (confC c).toArray = #[.int .i64 c.host, .slice c.a c.l.length c.cap, .int .i64 c.first, .int .i64 c.many, .int .i64 c.tlb, .int .i64 c.asids, .int .i64 c.root] := rfl

end Go.Proofs.Ytkgijfodjmkhgaa
