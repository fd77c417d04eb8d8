/-
  Whether the calls are too many.
-/
import Derived.Test.YtlcdjdchcjnhfaaFrameArgs
namespace Go.Proofs.Ytlcdjdchcjnhfaa
open Go.RowKit Go.Deep
set_option linter.unusedVariables false
set_option linter.unusedSimpArgs false

/-- Field i of call k, now and later. -/
theorem ops_at {l : List FOp} {w w' : World} {a : Option Addr} {len : Nat} (hA : ArgRow w 5 a len (l.flatMap opC)) (hb : Below w.heap.size w w') {b o : Nat} (ha : a = some ⟨b, o, none⟩) {k : Nat} {x : FOp} (hk : l[k]? = some x) (i : Nat) {u : Value} (hu : (opC x)[i]? = some u) : w'.cell? ⟨b, o + k * 5 + i, none⟩ = some u := by
  obtain ⟨h1, h2, h3⟩ := hA
  have hl : l.length = len := by rw [flat_length opC 5 (fun _ => rfl)] at h1; omega
  have := (List.getElem?_eq_some_iff.1 hk).1
  obtain ⟨b', o', e, hlt, hc⟩ := h3 (by omega)
  rw [ha] at e
  injection e with e
  injection e with e1 e2 e3
  subst e1 e2
  exact ArgRow.elem (f := opC) (size := 5) (fun _ => rfl) hlt hc hb k i _ hk hu
theorem ops_len {l : List FOp} {w : World} {a : Option Addr} {len : Nat} (hA : ArgRow w 5 a len (l.flatMap opC)) : l.length = len := by
  have h1 := hA.lc
  rw [flat_length opC 5 (fun _ => rfl)] at h1
  omega

theorem ops_adds {l : List FOp} {w w' : World} {a : Option Addr} {len : Nat} (hA : ArgRow w 5 a len (l.flatMap opC)) (hb : Below w.heap.size w w') {b o : Nat} (ha : a = some ⟨b, o, none⟩) {k : Nat} {x : FOp} (hk : l[k]? = some x) : ∀ j u, (opC x)[j]? = some u → w'.cell? ((⟨b, o + k * 5, none⟩ : Addr).add j) = some u := by
  intro j u hj
  have e : (⟨b, o + k * 5, none⟩ : Addr).add j = ⟨b, o + k * 5 + j, none⟩ := by unfold Addr.add; split <;> simp_all
  rw [e]
  exact ops_at hA hb ha hk j hj
theorem op_one (x : FOp) : ∀ u ∈ (opC x).toArray.toList, u.oneCell' = true := by simp [opC, Value.oneCell']
def opZ : Array Value := #[.int .i64 0, .int .i64 0, .int .i64 0, .int .u64 0, .slice none 0 0]
/-- What Get answers where a word is known. -/
theorem getR_at {W : List Int} {n k j : Nat} {x : Int} (h : W[k * 8 + j]? = some x) (hk : k < n) (hj : j < 8) : getR W n k j = .tuple #[.int .u64 x, .bool true] := by
  have hw : wok n k j := ⟨by omega, by omega, by omega, by omega⟩
  simp [getR, hw, wat, List.getD, h]

/-- It answers, and turns nothing. -/
def GreatPost (w : World) (e : Ending) (w' : World) : Prop := (∃ g : Bool, e = .returned (.bool g)) ∧ w = w'

end Go.Proofs.Ytlcdjdchcjnhfaa
