/-
  What the laws of layer 9 are handed: hits, calls, ints.
-/
import Derived.Test.YtcfphdebekbbkaaTlbHead
import Derived.Test.YtcfphdebekbbkaaArgs
namespace Go.Proofs.Ytcfphdebekbbkaa
open Go.RowKit Go.Deep Go.ChangeShapes Go.WideShapes
set_option linter.unusedVariables false
set_option linter.unusedSimpArgs false

/-- What is known of a hit that came in. -/
structure HitOk (h : HitS) : Prop where
  a : (Lit.int .i64 h.a).wf = true
  p : (Lit.int .i64 h.p).wf = true
  f : (Lit.int .i64 h.f).wf = true

theorem open_hit {H : Type} {enc : TypeId × Value → H} {w : World} {base : Nat} {spare : Nat → Bool} {held : Bool} (fuel : Nat) (cs : List Value) (x : DataW H × List MemPlace)
    (h : DataW.trod enc Try.prog w base spare held fuel 30 cs = some x) : ∃ o, cs = hitC o ∧ HitOk o := by
  have hl := open_struct_len Try.underlying30 h
  have hs : Try.prog.cellsOf 30 = 7 := by kernel_rfl
  rw [hs] at hl
  obtain ⟨a0, h0, w0⟩ := open_int_field Try.underlying30 h 0 0 (e := 3) (by kernel_rfl) Try.underlying3 (by kernel_rfl)
  obtain ⟨a1, h1, w1⟩ := open_int_field Try.underlying30 h 1 1 (e := 3) (by kernel_rfl) Try.underlying3 (by kernel_rfl)
  obtain ⟨a2, h2, w2⟩ := open_int_field Try.underlying30 h 2 2 (e := 3) (by kernel_rfl) Try.underlying3 (by kernel_rfl)
  obtain ⟨b6, h6⟩ := open_bool_field Try.underlying30 h 4 6 (e := 4) (by kernel_rfl) Try.underlying4 (by kernel_rfl)
  obtain ⟨n, y, hy⟩ := open_field Try.underlying30 h 3 _ rfl
  have hr : Try.prog.cellsOf 28 = 3 := by kernel_rfl
  have hy : DataW.trod enc Try.prog w base spare held n 28 ((cs.drop 3).take (Try.prog.cellsOf 28)) = some y := hy
  rw [hr] at hy
  obtain ⟨b3, h3⟩ := open_bool_field Try.underlying28 hy 0 0 (e := 4) (by kernel_rfl) Try.underlying4 (by kernel_rfl)
  obtain ⟨b4, h4⟩ := open_bool_field Try.underlying28 hy 1 1 (e := 4) (by kernel_rfl) Try.underlying4 (by kernel_rfl)
  obtain ⟨b5, h5⟩ := open_bool_field Try.underlying28 hy 2 2 (e := 4) (by kernel_rfl) Try.underlying4 (by kernel_rfl)
  refine ⟨⟨a0, a1, a2, b3, b4, b5, b6⟩, ?_, ⟨w0, w1, w2⟩⟩
  match cs, hl with
  | [c0, c1, c2, c3, c4, c5, c6], _ =>
    simp at h0 h1 h2 h3 h4 h5 h6
    rw [h0, h1, h2, h3, h4, h5, h6]
    rfl

theorem open_hits {H : Type} {enc : TypeId × Value → H} {w : World} {base : Nat} {spare : Nat → Bool} {held : Bool} {a : Option Addr} {len cap : Nat} {d : DataW H} {p : List MemPlace}
    (h : DataW.Trod enc Try.prog w base spare held 22 (.slice a len cap) d p) : ∃ l : List HitS, l.length = len ∧ ArgRow w 7 a len (hitsC l) ∧ ∀ x ∈ l, HitOk x :=
  open_row hitC HitOk 7 (fun _ => rfl) (by decide) Try.underlying22 (by kernel_rfl) open_hit h

theorem ArgRow.srch {w : World} {a : Option Addr} {len : Nat} {l : List HitS} (h : ArgRow w 7 a len (hitsC l)) : SrcH w a l := by
  obtain ⟨h1, h2, h3⟩ := h
  rw [hitsC_length] at h1
  have : l.length = len := by omega
  exact ⟨by omega, fun h0 => h3 (by omega)⟩
theorem hits_len {w : World} {a : Option Addr} {len : Nat} {l : List HitS} (h : ArgRow w 7 a len (hitsC l)) : l.length = len := by
  have h1 := h.lc
  rw [hitsC_length] at h1
  omega

/-- The first k hits, put one behind the other. -/
def putsL (n : Nat) (l : List HitS) : Nat → List HitS
  | 0 => []
  | k + 1 => putL n (putsL n l k) (l.getD k hit0)
theorem putsL_succ {n : Nat} {l : List HitS} {k : Nat} {h : HitS} (hk : l[k]? = some h) : putsL n l (k + 1) = putL n (putsL n l k) h := by
  simp [putsL, List.getD, hk]

end Go.Proofs.Ytcfphdebekbbkaa
