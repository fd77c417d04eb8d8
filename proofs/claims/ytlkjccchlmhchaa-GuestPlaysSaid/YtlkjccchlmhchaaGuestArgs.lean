/-
  What the laws of layer 7 are handed: calls, each with words of its own; and whether they are too many.
-/
import Derived.Test.YtlkjccchlmhchaaGuestB
import Derived.Test.YtlkjccchlmhchaaFrameGreat
import Derived.Test.YtlkjccchlmhchaaGmapArgs0
namespace Go.Proofs.Ytlkjccchlmhchaa
open Go.RowKit Go.Deep Go.ChangeShapes Go.WideShapes
set_option linter.unusedVariables false
set_option linter.unusedSimpArgs false

section
variable {H : Type} {enc : TypeId × Value → H} {P : Program} {w : World} {base : Nat} {spare : Nat → Bool} {held : Bool}
/-- A struct's field that is a slice: it is no longer than it may be. -/
theorem open_slice_fieldC {t e el : TypeId} {fs : Array Field} {fuel : Nat} {cs : List Value} {x : DataW H × List MemPlace} (ht : P.underlying t = some (.struct fs)) (h : DataW.trod enc P w base spare held fuel t cs = some x) (i off : Nat) (hf : (fs[i]?).map (fun f => (f.type, f.offset)) = some (e, off))
    (he : P.underlying e = some (.slice el)) (hc : P.cellsOf e = 1) : ∃ a len cap d p, cs[off]? = some (.slice a len cap) ∧ len ≤ cap ∧ DataW.Trod enc P w base spare held e (.slice a len cap) d p := by
  cases hfi : fs[i]? with
  | none => rw [hfi] at hf; cases hf
  | some f =>
    rw [hfi] at hf
    simp at hf
    obtain ⟨n, y, hy⟩ := open_field ht h i f hfi
    rw [hf.1, hf.2, hc] at hy
    have key : ∃ a len cap, len ≤ cap ∧ (cs.drop off).take 1 = [Value.slice a len cap] := by
      rcases open_slice he hy with ⟨hcs, _⟩ | ⟨a', len', cap', _, _, _, _, hcs, _, hlc, _⟩
      · exact ⟨_, _, _, Nat.le_refl _, hcs⟩
      · exact ⟨_, _, _, hlc, hcs⟩
    obtain ⟨a, len, cap, hlc, hk⟩ := key
    rw [hk] at hy
    refine ⟨a, len, cap, y.1, y.2, ?_, hlc, n, ?_⟩
    · have := congrArg (·[0]?) hk
      simpa [List.getElem?_take] using this
    · simpa [Value.cells] using hy
/-- A slice that came in is no longer than it may be. -/
theorem open_cap {t el : TypeId} (ht : P.underlying t = some (.slice el)) {a : Option Addr} {len cap : Nat} {d : DataW H} {p : List MemPlace} (h : DataW.Trod enc P w base spare held t (.slice a len cap) d p) : len ≤ cap := by
  obtain ⟨fuel, hf⟩ := h
  rcases open_slice ht hf with ⟨hcs, _⟩ | ⟨a', len', cap', m, n, D, Pl, hcs, hb, hlc, _⟩
  · simp [Value.cells] at hcs
    omega
  · simp [Value.cells] at hcs
    obtain ⟨rfl, rfl, rfl⟩ := hcs
    exact hlc
end
theorem open_u64sC {H : Type} {enc : TypeId × Value → H} {w : World} {base : Nat} {spare : Nat → Bool} {held : Bool} {a : Option Addr} {len cap : Nat} {d : DataW H} {p : List MemPlace}
    (h : DataW.Trod enc Try.prog w base spare held 34 (.slice a len cap) d p) : ∃ l : List Int, l.length = len ∧ (ArgRow w 1 a len (u64s l) ∧ len ≤ cap) ∧ ∀ x ∈ l, (Lit.int .u64 x).wf = true := by
  obtain ⟨l, h1, h2, h3⟩ := open_u64s h
  exact ⟨l, h1, ⟨h2, open_cap Try.underlying34 h⟩, h3⟩

/-- What is known of a call. -/
structure GOk (w : World) (o : FOp) : Prop where
  ok : FOk w o
  cap : o.L.length ≤ o.Lc

theorem open_op {H : Type} {enc : TypeId × Value → H} {w : World} {base : Nat} {spare : Nat → Bool} {held : Bool} (fuel : Nat) (cs : List Value) (x : DataW H × List MemPlace)
    (h : DataW.trod enc Try.prog w base spare held fuel 36 cs = some x) : ∃ o, cs = opC o ∧ GOk w o := by
  have hl := open_struct_len Try.underlying36 h
  have hs : Try.prog.cellsOf 36 = 5 := by kernel_rfl
  rw [hs] at hl
  obtain ⟨a0, h0, w0⟩ := open_int_field Try.underlying36 h 0 0 (e := 3) (by kernel_rfl) Try.underlying3 (by kernel_rfl)
  obtain ⟨a1, h1, w1⟩ := open_int_field Try.underlying36 h 1 1 (e := 3) (by kernel_rfl) Try.underlying3 (by kernel_rfl)
  obtain ⟨a2, h2, w2⟩ := open_int_field Try.underlying36 h 2 2 (e := 3) (by kernel_rfl) Try.underlying3 (by kernel_rfl)
  obtain ⟨a3, h3, w3⟩ := open_int_field Try.underlying36 h 3 3 (e := 33) (by kernel_rfl) Try.underlying33 (by kernel_rfl)
  obtain ⟨a, len, cap, d, p, h4, hlc, hT⟩ := open_slice_fieldC Try.underlying36 h 4 4 (e := 34) (by kernel_rfl) Try.underlying34 (by kernel_rfl)
  obtain ⟨l, hl1, hl2, hl3⟩ := open_u64s hT
  subst hl1
  refine ⟨⟨a0, a1, a2, a3, a, cap, l⟩, ?_, ⟨⟨w0, w1, w2, w3, hl2.srcu, hl3⟩, hlc⟩⟩
  match cs, hl with
  | [b0, b1, b2, b3, b4], _ =>
    simp at h0 h1 h2 h3 h4
    rw [h0, h1, h2, h3, h4]
    rfl

theorem open_ops {H : Type} {enc : TypeId × Value → H} {w : World} {base : Nat} {spare : Nat → Bool} {held : Bool} {a : Option Addr} {len cap : Nat} {d : DataW H} {p : List MemPlace}
    (h : DataW.Trod enc Try.prog w base spare held 22 (.slice a len cap) d p) : ∃ l : List FOp, l.length = len ∧ ArgRow w 5 a len (l.flatMap opC) ∧ ∀ x ∈ l, GOk w x :=
  open_row opC (GOk w) 5 (fun _ => rfl) (by decide) Try.underlying22 (by kernel_rfl) open_op h

theorem op_size {x : FOp} : (Try.prog.info? 36).map (fun i => i.size) = some (opC x).length := by
  rw [show (opC x).length = 5 from rfl]; kernel_rfl
theorem op_size' {x : FOp} : (Try.prog.info? 36).map (fun i => i.size) = some (opC x).toArray.size := by
  rw [show (opC x).toArray.size = 5 from rfl]; kernel_rfl
set_option maxHeartbeats 1000000 in
set_option maxRecDepth 100000 in
theorem Great_calls (a : Option Addr) (cap : Nat) (l : List FOp) (w w0 : World) (hA : ArgRow w0 5 a l.length (l.flatMap opC)) (hb : Below w0.heap.size w0 w) (hl : ∀ x ∈ l, GOk w0 x) :
    Calls Try.prog 11 #[.slice a l.length cap] w (GreatPost w) := by
  have hs := hA.small
  have HA := hid hA
  have HL := hid hl
  have HB := hid hb
  clear hA hl hb
  go_enter Try.func11, Try.ntmps11
  go_wp2_with fail
  go_loopw [3, 4] (fun n i wr => ∃ (k : Nat) (m : Int), k ≤ l.length ∧ i = .int .i64 k ∧ n = .int .i64 m ∧ 0 ≤ m ∧ m ≤ 9223372036854775807 ∧ w = wr) (fun _ i _ => l.length - (intOf i).toNat)
  case atStart => exact ⟨0, l.length, by omega, rfl, rfl, by omega, by omega, rfl⟩
  case round =>
    obtain ⟨k, m, hk, rfl, rfl, hm0, hm1, rfl⟩ := hrel
    by_cases hlt : k < l.length
    · by_cases hm : m < 20000
      · have e1 : decide (m < 20000) = true := by rw [decide_eq_true_eq]; exact hm
        obtain ⟨x, hx⟩ : ∃ x, l[k]? = some x := ⟨l[k], List.getElem?_eq_getElem hlt⟩
        have hsx := (HL.out x (List.mem_of_getElem? hx)).ok.src.small
        obtain ⟨b, o, rfl, _, _⟩ := HA.out.mem (by omega)
        have c4 := ops_at HA.out HB.out rfl hx 4 (u := .slice x.La x.L.length x.Lc) rfl
        clear hx
        go_wp2_with fail
        refine ⟨⟨k + 1, _, by omega, by go_num, rfl, by split <;> omega, by split <;> omega, trivial⟩, ?_⟩
        simp [intOf] <;> omega
      · have e1 : decide (m < 20000) = false := by rw [decide_eq_false_iff_not]; exact hm
        have e2 : decide (20000 ≤ m) = true := by rw [decide_eq_true_eq]; omega
        go_wp2_with fail
        go_ret
        exact ⟨⟨_, rfl⟩, rfl⟩
    · obtain rfl : k = l.length := by omega
      by_cases hm : 20000 ≤ m
      · have e2 : decide (20000 ≤ m) = true := by rw [decide_eq_true_eq]; omega
        go_wp2_with fail
        go_ret
        exact ⟨⟨_, rfl⟩, rfl⟩
      · have e2 : decide (20000 ≤ m) = false := by rw [decide_eq_false_iff_not]; omega
        go_wp2_with fail
        go_ret
        exact ⟨⟨_, rfl⟩, rfl⟩

end Go.Proofs.Ytlkjccchlmhchaa
