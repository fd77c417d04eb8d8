/-
  Whole structs, loaded and stored as one step of a region that draws its order.
-/
import Derived.Test.YteeapkndappnoaaOwn
namespace Go.Proofs.Yteeapkndappnoaa
open Go.RowKit
set_option linter.unusedVariables false
set_option linter.unusedSimpArgs false

section
variable {P : Program} {w : World} {B b : Nat} {T : TypeId} {cs : Array Value} {ops : Array Oper} {o : Oper} {a : Act} {K : Act → World → Prop} {Q : Exit → Act → World → Prop} {E : Prop}

theorem step_store_all (L1 L2 : List Asr) (hH : Has w B (L1 ++ blk b T cs :: L2)) (ty : TypeId) (x v : Operand) (ho : o.op = .store ty x v) (hx : a.eval x = .pointer (some ⟨b, 0, none⟩)) (vs : Array Value) (hv : a.eval v = .agg vs)
    (hi : (P.info? ty).map (·.size) = some vs.size) (hk : vs.size = cs.size) (h1 : ∀ u ∈ vs.toList, u.oneCell' = true)
    (hK : ∀ w', Has w' B (L1 ++ blk b T vs :: L2) → Below B w w' → w'.heap.size = w.heap.size → K (a.put o.dst undef) w') : Oper.wp P o a w K Q := by
  obtain ⟨hb, hB, hlt⟩ := hH.blk_at L1 L2
  have hst := run_storeCells_at (P := P) b 0 T vs.toList 0 cs w hb (by simp [hk]) h1
  have hsz : (sizeOf ty).run P w = .ok vs.size w := by
    cases hq : P.info? ty with
    | none => simp [hq] at hi
    | some i => simp [hq] at hi; simp [sizeOf, typeInfo, hq, hi]
  unfold Oper.wp execOp
  simp only [ho, hx, hv, Instr.storeAt, Instr.sureAddr, storeVar, Value.cells, Sem.run_bind, Sem.run_pure, Result.andThen_ok, hsz, ne_eq, not_true_eq_false, if_false, hst]
  have e : (cs.toList.take 0 ++ vs.toList ++ cs.toList.drop (0 + vs.size)).toArray = vs := by
    rw [List.take_zero, List.nil_append, List.drop_of_length_le (by simp; omega), List.append_nil]
  refine hK _ ?_ ?_ (by simp)
  · have := hH.step (A' := blk b T (cs.toList.take 0 ++ vs.toList ++ cs.toList.drop (0 + vs.size)).toArray) L1 L2 (w' := w.setRow b (cs.toList.take 0 ++ vs.toList ++ cs.toList.drop (0 + vs.size)).toArray) (by simp)
      (fun S ⟨hS, _⟩ => ⟨[b], ⟨rfl, setRow_heap w b cs _ T (0, 0) hb⟩, fun z hz => .inl (by rw [hS]; exact hz), fun z _ hz => setRow_other w b z _ (fun e => hz (by rw [hS, e]; simp))⟩)
    rw [e] at this
    have h2 : (cs.toList.take (0 + 0) ++ vs.toList ++ cs.toList.drop (0 + 0 + vs.toList.length)).toArray = vs := by simpa using e
    rw [h2]
    exact this
  · refine ⟨rfl, rfl, rfl, by simp, fun z hz => ?_⟩
    rw [setRow_other _ _ _ _ (by omega)]
theorem step_store_wanted (L1 L2 : List Asr) (hH : Has w B (L1 ++ blk b T cs :: L2)) (hw : Region.wanted o (yielded ops a.tmps) = true) (ty : TypeId) (x v : Operand) (ho : o.op = .store ty x v) (hx : a.eval x = .pointer (some ⟨b, 0, none⟩)) (vs : Array Value) (hv : a.eval v = .agg vs)
    (hi : (P.info? ty).map (·.size) = some vs.size) (hk : vs.size = cs.size) (h1 : ∀ u ∈ vs.toList, u.oneCell' = true)
    (hK : ∀ w', Has w' B (L1 ++ blk b T vs :: L2) → Below B w w' → w'.heap.size = w.heap.size → K (a.put o.dst undef) w') : if Region.wanted o (yielded ops a.tmps) = true then Oper.wp P o a w K Q else E := by
  rw [if_pos hw]
  exact step_store_all L1 L2 hH ty x v ho hx vs hv hi hk h1 hK
theorem step_load_at (ty : TypeId) (x : Operand) (ho : o.op = .load ty x) (ad : Addr) (hx : a.eval x = .pointer (some ad)) (d : TypeDesc) (l : List Value)
    (hc : ∀ j u, l[j]? = some u → w.cell? (ad.add j) = some u) (hu : P.underlying ty = some d) (hd : (match d with | .struct _ | .array _ _ => true | _ => false) = true) (hi : (P.info? ty).map (·.size) = some l.length)
    (h : K (a.put o.dst (.agg l.toArray)) w) : Oper.wp P o a w K Q := by
  unfold Oper.wp execOp
  simp only [ho, hx, Instr.loadAt, Instr.sureAddr, Sem.run_bind, Sem.run_pure, Result.andThen_ok, run_loadVar_at ad ty d l hc hu hd hi]
  exact h
theorem step_load_wanted (hw : Region.wanted o (yielded ops a.tmps) = true) (ty : TypeId) (x : Operand) (ho : o.op = .load ty x) (ad : Addr) (hx : a.eval x = .pointer (some ad)) (d : TypeDesc) (l : List Value)
    (hc : ∀ j u, l[j]? = some u → w.cell? (ad.add j) = some u) (hu : P.underlying ty = some d) (hd : (match d with | .struct _ | .array _ _ => true | _ => false) = true) (hi : (P.info? ty).map (·.size) = some l.length)
    (h : K (a.put o.dst (.agg l.toArray)) w) : if Region.wanted o (yielded ops a.tmps) = true then Oper.wp P o a w K Q else E := by
  rw [if_pos hw]
  exact step_load_at ty x ho ad hx d l hc hu hd hi h
end

/-- A whole struct is stored: the run of the very store, to a world by name. -/
theorem store_run {P : Program} {w : World} {B b : Nat} {T : TypeId} {cs : Array Value} (L1 L2 : List Asr) (hH : Has w B (L1 ++ blk b T cs :: L2)) (vs : List Value) (hk : vs.length = cs.size) (h1 : ∀ u ∈ vs, u.oneCell' = true) :
    ∃ w', Sem.run P (storeCells ⟨b, 0, none⟩ vs) w = .ok () w' ∧ Has w' B (L1 ++ blk b T vs.toArray :: L2) ∧ Below B w w' ∧ w'.heap.size = w.heap.size := by
  obtain ⟨hb, hB, hlt⟩ := hH.blk_at L1 L2
  have hst := run_storeCells_at (P := P) b 0 T vs 0 cs w hb (by simp [hk]) h1
  have e : (cs.toList.take 0 ++ vs ++ cs.toList.drop (0 + vs.length)).toArray = vs.toArray := by
    rw [List.take_zero, List.nil_append, List.drop_of_length_le (by simp; omega), List.append_nil]
  have e2 : (cs.toList.take (0 + 0) ++ vs ++ cs.toList.drop (0 + 0 + vs.length)).toArray = vs.toArray := by simpa using e
  rw [e2] at hst
  refine ⟨_, hst, ?_, ?_, by simp⟩
  · exact hH.step (A' := blk b T vs.toArray) L1 L2 (w' := w.setRow b vs.toArray) (by simp)
      (fun S ⟨hS, _⟩ => ⟨[b], ⟨rfl, setRow_heap w b cs _ T (0, 0) hb⟩, fun z hz => .inl (by rw [hS]; exact hz), fun z _ hz => setRow_other w b z _ (fun e => hz (by rw [hS, e]; simp))⟩)
  · refine ⟨rfl, rfl, rfl, by simp, fun z hz => ?_⟩
    rw [setRow_other _ _ _ _ (by omega)]

end Go.Proofs.Yteeapkndappnoaa
