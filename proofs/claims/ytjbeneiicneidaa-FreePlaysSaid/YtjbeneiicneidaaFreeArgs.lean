/-
  The calls that the laws of layer 2 are handed: a list of Op.
-/
import Derived.Test.YtjbeneiicneidaaRows
import Derived.Test.YtjbeneiicneidaaArgs
namespace Go.Proofs.Ytjbeneiicneidaa
open Go.RowKit Go.Deep
set_option linter.unusedVariables false
set_option linter.unusedSimpArgs false

/-- A call's cells: Give, F. -/
def opC (o : Bool × Int) : List Value := [.bool o.1, .int .i64 o.2]
def opOk (o : Bool × Int) : Prop := (Lit.int .i64 o.2).wf = true

theorem open_op {H : Type} {enc : TypeId × Value → H} {w : World} {base : Nat} {spare : Nat → Bool} {held : Bool} (fuel : Nat) (cs : List Value) (x : DataW H × List MemPlace)
    (h : DataW.trod enc Try.prog w base spare held fuel 29 cs = some x) : ∃ o, cs = opC o ∧ opOk o := by
  have hl := open_struct_len Try.underlying29 h
  have hs : Try.prog.cellsOf 29 = 2 := by kernel_rfl
  rw [hs] at hl
  obtain ⟨g, hg⟩ := open_bool_field Try.underlying29 h 0 0 (e := 4) (by kernel_rfl) Try.underlying4 (by kernel_rfl)
  obtain ⟨f, hf, hw⟩ := open_int_field Try.underlying29 h 1 1 (e := 3) (by kernel_rfl) Try.underlying3 (by kernel_rfl)
  refine ⟨(g, f), ?_, hw⟩
  match cs, hl with
  | [a, b], _ =>
    simp at hg hf
    rw [hg, hf]
    rfl

theorem open_ops {H : Type} {enc : TypeId × Value → H} {w : World} {base : Nat} {spare : Nat → Bool} {held : Bool} {a : Option Addr} {len cap : Nat} {d : DataW H} {p : List MemPlace}
    (h : DataW.Trod enc Try.prog w base spare held 22 (.slice a len cap) d p) : ∃ l : List (Bool × Int), l.length = len ∧ ArgRow w 2 a len (l.flatMap opC) ∧ ∀ x ∈ l, opOk x :=
  open_row opC opOk 2 (fun _ => rfl) (by decide) Try.underlying22 (by kernel_rfl) open_op h

theorem open_bytes {H : Type} {enc : TypeId × Value → H} {w : World} {base : Nat} {spare : Nat → Bool} {held : Bool} {a : Option Addr} {len cap : Nat} {d : DataW H} {p : List MemPlace}
    (h : DataW.Trod enc Try.prog w base spare held 38 (.slice a len cap) d p) : ∃ l : List Int, l.length = len ∧ ArgRow w 1 a len (l.map (Value.int .u8)) ∧ ∀ x ∈ l, (Lit.int .u8 x).wf = true := by
  obtain ⟨l, h1, h2, h3⟩ := open_row (fun x => [Value.int .u8 x]) (fun x => (Lit.int .u8 x).wf = true) 1 (fun _ => rfl) (by decide) Try.underlying38 (by kernel_rfl) (open_int_elem Try.underlying5) h
  exact ⟨l, h1, h2.ints, h3⟩

end Go.Proofs.Ytjbeneiicneidaa
