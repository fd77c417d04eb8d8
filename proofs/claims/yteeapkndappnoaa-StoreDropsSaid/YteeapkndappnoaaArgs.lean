/-
  What a law is handed: slices of plain data that came in, opened to the list of their elements.
-/
import Derived.Test.YteeapkndappnoaaOwn
import Derived.ProofKit
import Derived.Deep.Slices
namespace Go.Proofs.Yteeapkndappnoaa
open Go.RowKit Go.Deep Go.ChangeShapes Go.WideShapes
set_option linter.unusedVariables false
set_option linter.unusedSimpArgs false
section
variable {H : Type} {enc : TypeId × Value → H} {P : Program} {w : World} {base : Nat} {spare : Nat → Bool} {held : Bool}

/-- Each cell of a run of cells. -/
theorem cells_each {a : Addr} {n : Nat} {cs : List Value} (h : w.cells? base a n = some cs) : cs.length = n ∧ ∀ i u, cs[i]? = some u → w.cell? (a.add i) = some u := by
  obtain ⟨_, hl, hc⟩ := World.cells?_some h
  refine ⟨hl, fun i u hu => ?_⟩
  have hi : i < cs.length := (List.getElem?_eq_some_iff.1 hu).1
  rw [hc i (by omega)]
  exact hu

/-- A slice that came in is the list of its elements. 'enc': an element's cells; 'ok': what is known of each. -/
theorem open_row {α : Type} (en : α → List Value) (ok : α → Prop) (size : Nat) (hen : ∀ x, (en x).length = size) (hsz : 0 < size) {t e : TypeId} (ht : P.underlying t = some (.slice e)) (hce : P.cellsOf e = size)
    (hopen : ∀ fuel cs x, DataW.trod enc P w base spare held fuel e cs = some x → ∃ o, cs = en o ∧ ok o)
    {a : Option Addr} {len cap : Nat} {d : DataW H} {p : List MemPlace} (h : DataW.Trod enc P w base spare held t (.slice a len cap) d p) :
    ∃ l : List α, l.length = len ∧ ArgRow w size a len (l.flatMap en) ∧ ∀ x ∈ l, ok x := by
  obtain ⟨fuel, hf⟩ := h
  rcases open_slice ht hf with ⟨hcs, _⟩ | ⟨a', len', cap', m, n, D, Pl, hcs, hb, hlc, hcm, hm, _, hel⟩
  · simp [Value.cells] at hcs
    obtain ⟨rfl, rfl, rfl⟩ := hcs
    exact ⟨[], rfl, ⟨by simp, by simp, by simp⟩, by simp⟩
  · simp [Value.cells] at hcs
    obtain ⟨rfl, rfl, rfl⟩ := hcs
    rw [hce] at hel
    have hlm : len ≤ m := by rw [hm]; split <;> omega
    obtain ⟨f, hf⟩ : ∃ f : Nat → Option α, ∀ i, i < len → ∃ o, f i = some o ∧ ok o ∧ ∀ j u, (en o)[j]? = some u → w.cell? ((a'.add (i * size)).add j) = some u := by
      have := choose_lt (α := Option α) (n := len) (p := fun i x => ∃ o, x = some o ∧ ok o ∧ ∀ j u, (en o)[j]? = some u → w.cell? ((a'.add (i * size)).add j) = some u) (fun i hi => by
        obtain ⟨cs', hc, ht'⟩ := hel i (by omega)
        obtain ⟨o, rfl, ho⟩ := hopen _ _ _ ht'
        exact ⟨some o, o, rfl, ho, (cells_each hc).2⟩)
      exact this
    refine ⟨(List.range len).filterMap f, ?_, ?_, ?_⟩
    · have hall : ∀ (l : List Nat), (∀ i ∈ l, i < len) → (l.filterMap f).length = l.length := by
        intro l
        induction l with
        | nil => simp
        | cons i l ih =>
          intro hl
          obtain ⟨o, ho, _⟩ := hf i (hl i (by simp))
          rw [List.filterMap_cons, ho]
          simp [ih (fun j hj => hl j (by simp [hj]))]
      simpa using hall (List.range len) (by simp)
    · have hget : ∀ (l : List Nat), (∀ i ∈ l, i < len) → ∀ k : Nat, (l.filterMap f)[k]? = (l[k]?).bind f := by
        intro l
        induction l with
        | nil => simp
        | cons i l ih =>
          intro hl k
          obtain ⟨o, ho, _⟩ := hf i (hl i (by simp))
          rw [List.filterMap_cons, ho]
          cases k with
          | zero => simp [ho]
          | succ k => simpa using ih (fun j hj => hl j (by simp [hj])) k
      have hlen : ((List.range len).filterMap f).length = len := by
        have hall : ∀ (l : List Nat), (∀ i ∈ l, i < len) → (l.filterMap f).length = l.length := by
          intro l
          induction l with
          | nil => simp
          | cons i l ih =>
            intro hl
            obtain ⟨o, ho, _⟩ := hf i (hl i (by simp))
            rw [List.filterMap_cons, ho]
            simp [ih (fun j hj => hl j (by simp [hj]))]
        simpa using hall (List.range len) (by simp)
      have hfl := flat_length en size hen ((List.range len).filterMap f)
      rw [hlen] at hfl
      refine ⟨hfl, by unfold maxLen at hcm; omega, fun h0 => ?_⟩
      have hcell : ∀ j u, (((List.range len).filterMap f).flatMap en)[j]? = some u → w.cell? (a'.add j) = some u := by
        intro j u hj
        have hjl : j < len * size := by
          have := (List.getElem?_eq_some_iff.1 hj).1
          omega
        have hk : j / size < len := by rw [Nat.div_lt_iff_lt_mul hsz]; exact hjl
        have hi : j % size < size := Nat.mod_lt _ hsz
        obtain ⟨o, ho, _, hc⟩ := hf (j / size) hk
        have e1 : ((List.range len).filterMap f)[j / size]? = some o := by
          rw [hget (List.range len) (by simp)]
          simp [hk, ho]
        have e2 := flat_get en size hen _ _ (j % size) o e1 hi
        have e3 : j / size * size + j % size = j := by rw [Nat.mul_comm]; exact Nat.div_add_mod j size
        rw [e3, hj] at e2
        have := hc (j % size) u e2.symm
        rwa [add_add, e3] at this
      have hspot : a'.spot = none := by
        obtain ⟨o, ho, _, hc⟩ := hf 0 h0
        obtain ⟨u, hu⟩ : ∃ u, (en o)[0]? = some u := ⟨(en o)[0]'(by rw [hen]; exact hsz), by simp⟩
        have := hc 0 u hu
        simp [Addr.add, World.cell?] at this
        split at this
        · cases hs : a'.spot with
          | none => rfl
          | some s => simp [hs] at this
        · cases this
      refine ⟨a'.block, a'.off, ?_, ?_, fun j u hj => ?_⟩
      · cases a'; simp at hspot; subst hspot; rfl
      · obtain ⟨u, hu⟩ : ∃ u, (((List.range len).filterMap f).flatMap en)[0]? = some u := ⟨_, List.getElem?_eq_getElem (by rw [hfl]; exact Nat.mul_pos h0 hsz)⟩
        have := hcell 0 u hu
        exact World.block_lt_of_cell? w (a'.add 0) this
      · have := hcell j u hj
        have e : a'.add j = ⟨a'.block, a'.off + j, none⟩ := by
          cases a'
          simp at hspot
          subst hspot
          unfold Addr.add
          split <;> simp_all
        rwa [e] at this
    · intro x hx
      rw [List.mem_filterMap] at hx
      obtain ⟨i, hi, hfi⟩ := hx
      obtain ⟨o, ho, hok, _⟩ := hf i (by simpa using hi)
      rw [hfi] at ho
      injection ho with ho
      subst ho
      exact hok

/-- An element that is a whole number. -/
theorem open_int_elem {e : TypeId} {k : IntKind} (he : P.underlying e = some (.int k)) (fuel : Nat) (cs : List Value) (x : DataW H × List MemPlace) (h : DataW.trod enc P w base spare held fuel e cs = some x) : ∃ o : Int, cs = [.int k o] ∧ (Lit.int k o).wf = true := by
  obtain ⟨n, rfl, _, hn⟩ := DataW.trod_int he h
  exact ⟨n, rfl, hn⟩

/-- A struct's field. -/
theorem open_field {t : TypeId} {fs : Array Field} {fuel : Nat} {cs : List Value} {x : DataW H × List MemPlace} (ht : P.underlying t = some (.struct fs)) (h : DataW.trod enc P w base spare held fuel t cs = some x) (i : Nat) (f : Field) (hf : fs[i]? = some f) :
    ∃ n y, DataW.trod enc P w base spare held n f.type ((cs.drop f.offset).take (P.cellsOf f.type)) = some y := by
  obtain ⟨xs, n, _, _, _, hl, hx⟩ := DataW.trod_struct ht h
  have hi : i < fs.size := (Array.getElem?_eq_some_iff.1 hf).1
  have := hx i f hf
  rw [List.getElem?_eq_getElem (by omega)] at this
  exact ⟨n, _, this⟩
theorem open_struct_len {t : TypeId} {fs : Array Field} {fuel : Nat} {cs : List Value} {x : DataW H × List MemPlace} (ht : P.underlying t = some (.struct fs)) (h : DataW.trod enc P w base spare held fuel t cs = some x) : cs.length = P.cellsOf t := by
  obtain ⟨xs, n, _, _, hl, _⟩ := DataW.trod_struct ht h
  exact hl
theorem open_int_field {t e : TypeId} {k : IntKind} {fs : Array Field} {fuel : Nat} {cs : List Value} {x : DataW H × List MemPlace} (ht : P.underlying t = some (.struct fs)) (h : DataW.trod enc P w base spare held fuel t cs = some x) (i off : Nat) (hf : (fs[i]?).map (fun f => (f.type, f.offset)) = some (e, off))
    (he : P.underlying e = some (.int k)) (hc : P.cellsOf e = 1) : ∃ o : Int, cs[off]? = some (.int k o) ∧ (Lit.int k o).wf = true := by
  cases hfi : fs[i]? with
  | none => rw [hfi] at hf; cases hf
  | some f =>
    rw [hfi] at hf
    simp at hf
    obtain ⟨n, y, hy⟩ := open_field ht h i f hfi
    rw [hf.1, hf.2, hc] at hy
    obtain ⟨o, ho, hw⟩ := open_int_elem he _ _ _ hy
    refine ⟨o, ?_, hw⟩
    have := congrArg (·[0]?) ho
    simpa [List.getElem?_take] using this
theorem open_bool_field {t e : TypeId} {fs : Array Field} {fuel : Nat} {cs : List Value} {x : DataW H × List MemPlace} (ht : P.underlying t = some (.struct fs)) (h : DataW.trod enc P w base spare held fuel t cs = some x) (i off : Nat) (hf : (fs[i]?).map (fun f => (f.type, f.offset)) = some (e, off))
    (he : P.underlying e = some .bool) (hc : P.cellsOf e = 1) : ∃ o : Bool, cs[off]? = some (.bool o) := by
  cases hfi : fs[i]? with
  | none => rw [hfi] at hf; cases hf
  | some f =>
    rw [hfi] at hf
    simp at hf
    obtain ⟨n, y, hy⟩ := open_field ht h i f hfi
    rw [hf.1, hf.2, hc] at hy
    obtain ⟨o, ho, hw⟩ := DataW.trod_bool he hy
    refine ⟨o, ?_⟩
    have := congrArg (·[0]?) ho
    simpa [List.getElem?_take] using this

theorem flat_ints (k : IntKind) (l : List Int) : (l.flatMap fun x => [Value.int k x]) = l.map (Value.int k) := by
  induction l with
  | nil => rfl
  | cons x l ih => rw [List.flatMap_cons, ih]; rfl
theorem ArgRow.ints {k : IntKind} {a : Option Addr} {len : Nat} {l : List Int} (h : ArgRow w 1 a len (l.flatMap fun x => [.int k x])) : ArgRow w 1 a len (l.map (Value.int k)) := by
  rwa [flat_ints] at h
end
end Go.Proofs.Yteeapkndappnoaa
