/-
  Slices of the call's own whose elements have several cells: made, and stored into.
-/
import Derived.Test.YteeapkndappnoaaOwn
namespace Go.Proofs.Yteeapkndappnoaa
open Go.RowKit
set_option linter.unusedVariables false
set_option linter.unusedSimpArgs false

theorem take_splice {α : Type} (A vs : List α) (k N : Nat) (hk : k + vs.length ≤ N) (hN : N ≤ A.length) :
    (A.take k ++ vs ++ A.drop (k + vs.length)).take N = (A.take N).take k ++ vs ++ (A.take N).drop (k + vs.length) := by
  have m1 : min k A.length = k := by omega
  have m2 : min N A.length = N := by omega
  have m3 : min k N = k := by omega
  refine List.ext_getElem? fun i => ?_
  simp only [List.getElem?_take, List.getElem?_append, List.length_append, List.length_take, List.getElem?_drop, m1, m2, m3]
  by_cases h1 : i < N
  · by_cases h2 : i < k
    · have h4 : i < k + vs.length := by omega
      simp only [h1, h2, h4, if_true]
    · by_cases h3 : i < k + vs.length
      · simp only [h1, h2, h3, if_true, if_false]
      · have h4 : k + vs.length + (i - (k + vs.length)) < N := by omega
        simp only [h1, h3, h4, if_true, if_false]
  · have h3 : ¬ i < k + vs.length := by omega
    have h4 : ¬ k + vs.length + (i - (k + vs.length)) < N := by omega
    simp only [h1, h3, h4, if_false]

section
variable {P : Program} {T : TypeId} {w : World} {B n size : Nat} {v : Value} {xs : List Value}
variable {ops : Array Oper} {rest : List Oper} {o : Oper} {a : Act} {Q : Exit → Act → World → Prop}

/-- 'make([]T, n)'. -/
theorem wpList_make_rows {L : List Asr} (hH : Has w B L) (hg : o.guard = none) (lo co : Operand) (t : TypeId) (hop : o.op = Op.makeSlice t lo co)
    (i : TypeInfo) (z : Value) (bytes : Nat) (h1 : P.underlying t = some (.slice T)) (h2 : P.info? T = some i) (h3 : i.zero = some z) (h4 : i.size = size) (h5 : i.bytes = bytes)
    (kl kc : IntKind) (L0 C0 : Int) (hl : a.eval lo = .int kl L0) (hc : a.eval co = .int kc C0) (hL : L0 = (n : Int)) (hC : C0 = (n : Int)) (b2 : bytes * n ≤ 281474976710656) (b3 : n ≤ maxLen)
    (hK : ∀ w', Has w' B (row T size (.slice (some ⟨w.heap.size, 0, none⟩) n n) n (madeCells z.cells (n * size)).toList :: L) → Below B w w' → wpList P ops Q rest (a.put o.dst (.slice (some ⟨w.heap.size, 0, none⟩) n n)) w') :
    wpList P ops Q (o :: rest) a w := by
  refine wpList_make_full w hg lo co t hop w.heap.size T i z size h1 h2 h3 h4 kl kc L0 C0 n hl hc hL hC (by rw [h5]; exact b2) b3 (Nat.le_refl _) ?_
  intro w' hown hgr
  refine hK w' ?_ ((Below.refl _ _).grown hgr hH.le (fun k hk => by cases hk))
  refine hH.new _ hgr.size (fun k hk => hgr.block k hk (by simp)) ⟨[w.heap.size], ⟨rfl, ?_⟩, by simp⟩
  rcases hown.2 with ⟨h, _⟩ | ⟨g, cap, cur, hv, hb, hgg, hrest⟩
  · cases h
  · cases hv
    exact ⟨hown.1, .inr ⟨w.heap.size, n, cur, rfl, Nat.zero_le _, hgg, hrest⟩⟩

/-- A struct or an array is stored into an element. -/
theorem wpList_store_row {g cap : Nat} (L1 L2 : List Asr) (hH : Has w B (L1 ++ row T size (.slice (some ⟨g, 0, none⟩) n cap) n xs :: L2)) (ty : TypeId) (x v : Operand) (ho : o.op = .store ty x v) (hgd : Region.wanted o (yielded ops a.tmps) = true) (k : Nat) (hx : a.eval x = .pointer (some ⟨g, k, none⟩)) (vs : Array Value) (hv : a.eval v = .agg vs)
    (hi : (P.info? ty).map (·.size) = some vs.size) (hk : k + vs.size ≤ xs.length) (h1 : ∀ u ∈ vs.toList, u.oneCell' = true)
    (hK : ∀ w', Has w' B (L1 ++ row T size (.slice (some ⟨g, 0, none⟩) n cap) n (xs.take k ++ vs.toList ++ xs.drop (k + vs.size)) :: L2) → Below B w w' → w'.heap.size = w.heap.size → wpList P ops Q rest (a.put o.dst undef) w') : wpList P ops Q (o :: rest) a w := by
  obtain ⟨hr, hgB⟩ := hH.row_at L1 L2
  rcases hr.2 with ⟨hv', _⟩ | ⟨g', cap', cur, hv', hb, hgg, hc1, hc2, hc3, hc4⟩
  · cases hv'
  · cases hv'
    obtain ⟨hBg, hlt⟩ := hgB g rfl
    have hN : n * size ≤ cur.toList.length := by
      rw [Array.length_toList, hc3]
      exact Nat.mul_le_mul_right _ hc1
    have hxl := hr.1
    refine BigFrame.wpList_want hgd fun K hK' => ?_
    have hst := run_storeCells_at (P := P) g k T vs.toList 0 cur w hgg (by simp at hN ⊢; omega) h1
    have hsz : (sizeOf ty).run P w = .ok vs.size w := by
      cases hq : P.info? ty with
      | none => simp [hq] at hi
      | some i => simp [hq] at hi; simp [sizeOf, typeInfo, hq, hi]
    unfold Oper.wp execOp
    simp only [ho, hx, hv, Instr.storeAt, Instr.sureAddr, storeVar, Value.cells, Sem.run_bind, Sem.run_pure, Result.andThen_ok, hsz, ne_eq, not_true_eq_false, if_false, hst]
    refine hK' _ _ (hK _ ?_ ?_ (by simp))
    · have := hH.step (A' := row T size (.slice (some ⟨g, 0, none⟩) n cap) n (xs.take k ++ vs.toList ++ xs.drop (k + vs.size))) L1 L2 (w' := w.setRow g (cur.toList.take k ++ vs.toList ++ cur.toList.drop (k + vs.size)).toArray) (by simp)
        (fun S ⟨hS, _⟩ => ⟨[g], ⟨by simp [Value.ownBlock], ⟨by simp; omega, .inr ⟨g, cap, _, rfl, Nat.zero_le _, setRow_heap w g cur _ T (0, 0) hgg, hc1, hc2, by simp; simp at hN; omega, by
            have h := take_splice cur.toList vs.toList k (n * size) (by simp; omega) hN
            simp only [Array.length_toList] at h
            simp only [h, hc4]⟩⟩⟩, fun z hz => .inl (by rw [hS]; simpa [Value.ownBlock] using hz), fun z _ hz => setRow_other w g z _ (fun e => hz (by rw [hS, e]; simp [Value.ownBlock]))⟩)
      simpa using this
    · refine ⟨rfl, rfl, rfl, by simp, fun z hz => ?_⟩
      rw [setRow_other _ _ _ _ (by omega)]

/-- The cells of an element of a row, as a load reads them. -/
theorem Has.row_part {g cap : Nat} (L1 L2 : List Asr) (hH : Has w B (L1 ++ row T size (.slice (some ⟨g, 0, none⟩) n cap) n xs :: L2)) (off : Nat) (l : List Value) (hl : ∀ j u, l[j]? = some u → xs[off + j]? = some u) : ∀ j u, l[j]? = some u → w.cell? ((⟨g, off, none⟩ : Addr).add j) = some u := by
  intro j u hj
  have e : (⟨g, off, none⟩ : Addr).add j = ⟨g, off + j, none⟩ := by unfold Addr.add; split <;> simp_all
  rw [e]
  exact hH.row_cell L1 L2 (off + j) (hl j u hj)

theorem madeCells_same (x : Value) (s m : Nat) (hs : 0 < s) : (madeCells (Array.replicate s x) m).toList = List.replicate m x := by
  refine List.ext_getElem? fun i => ?_
  by_cases h : i < m
  · have : i % s < s := Nat.mod_lt _ hs
    simp [madeCells, h, this]
  · rw [List.getElem?_eq_none (by simp [size_madeCells]; omega), List.getElem?_eq_none (by simp; omega)]
end

end Go.Proofs.Yteeapkndappnoaa
