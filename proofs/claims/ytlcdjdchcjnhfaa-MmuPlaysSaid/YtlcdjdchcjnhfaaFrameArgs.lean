/-
  What the laws of layer 1 are handed: calls, each with words of its own; words. And whether it is too much.
-/
import Derived.Test.YtlcdjdchcjnhfaaFrameHead
import Derived.Test.YtlcdjdchcjnhfaaArgs
namespace Go.Proofs.Ytlcdjdchcjnhfaa
open Go.RowKit Go.Deep Go.ChangeShapes Go.WideShapes
set_option linter.unusedVariables false
set_option linter.unusedSimpArgs false

section
variable {H : Type} {enc : TypeId × Value → H} {P : Program} {w : World} {base : Nat} {spare : Nat → Bool} {held : Bool}
/-- A struct's field that is a slice. -/
theorem open_slice_field {t e el : TypeId} {fs : Array Field} {fuel : Nat} {cs : List Value} {x : DataW H × List MemPlace} (ht : P.underlying t = some (.struct fs)) (h : DataW.trod enc P w base spare held fuel t cs = some x) (i off : Nat) (hf : (fs[i]?).map (fun f => (f.type, f.offset)) = some (e, off))
    (he : P.underlying e = some (.slice el)) (hc : P.cellsOf e = 1) : ∃ a len cap d p, cs[off]? = some (.slice a len cap) ∧ DataW.Trod enc P w base spare held e (.slice a len cap) d p := by
  cases hfi : fs[i]? with
  | none => rw [hfi] at hf; cases hf
  | some f =>
    rw [hfi] at hf
    simp at hf
    obtain ⟨n, y, hy⟩ := open_field ht h i f hfi
    rw [hf.1, hf.2, hc] at hy
    have key : ∃ a len cap, (cs.drop off).take 1 = [Value.slice a len cap] := by
      rcases open_slice he hy with ⟨hcs, _⟩ | ⟨a', len', cap', _, _, _, _, hcs, _⟩
      · exact ⟨_, _, _, hcs⟩
      · exact ⟨_, _, _, hcs⟩
    obtain ⟨a, len, cap, hk⟩ := key
    rw [hk] at hy
    refine ⟨a, len, cap, y.1, y.2, ?_, n, ?_⟩
    · have := congrArg (·[0]?) hk
      simpa [List.getElem?_take] using this
    · simpa [Value.cells] using hy
end

theorem open_u64s {H : Type} {enc : TypeId × Value → H} {w : World} {base : Nat} {spare : Nat → Bool} {held : Bool} {a : Option Addr} {len cap : Nat} {d : DataW H} {p : List MemPlace}
    (h : DataW.Trod enc Try.prog w base spare held 68 (.slice a len cap) d p) : ∃ l : List Int, l.length = len ∧ ArgRow w 1 a len (u64s l) ∧ ∀ x ∈ l, (Lit.int .u64 x).wf = true := by
  obtain ⟨l, h1, h2, h3⟩ := open_row (fun x => [Value.int .u64 x]) (fun x => (Lit.int .u64 x).wf = true) 1 (fun _ => rfl) (by decide) Try.underlying68 (by kernel_rfl) (open_int_elem Try.underlying34) h
  exact ⟨l, h1, h2.ints, h3⟩

theorem ArgRow.srcu {w : World} {a : Option Addr} {len : Nat} {l : List Int} (h : ArgRow w 1 a len (u64s l)) : SrcU w a l := by
  obtain ⟨h1, h2, h3⟩ := h
  rw [u64s_length] at h1
  exact ⟨by omega, fun h0 => h3 (by omega)⟩

/-- A call. -/
structure FOp where
  What : Int
  F : Int
  I : Int
  V : Int
  La : Option Addr
  Lc : Nat
  L : List Int
/-- Its cells. -/
def opC (o : FOp) : List Value := [.int .i64 o.What, .int .i64 o.F, .int .i64 o.I, .int .u64 o.V, .slice o.La o.L.length o.Lc]
structure FOk (w : World) (o : FOp) : Prop where
  what : (Lit.int .i64 o.What).wf = true
  f : (Lit.int .i64 o.F).wf = true
  i : (Lit.int .i64 o.I).wf = true
  v : (Lit.int .u64 o.V).wf = true
  src : SrcU w o.La o.L
  ws : ∀ x ∈ o.L, (Lit.int .u64 x).wf = true

end Go.Proofs.Ytlcdjdchcjnhfaa
