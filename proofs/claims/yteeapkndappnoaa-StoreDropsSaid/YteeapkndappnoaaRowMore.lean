/-
  'append' within the room, and 'clear' behind the elements, of a slice of the call's own.
-/
import Derived.Test.YteeapkndappnoaaRow8
namespace Go.Proofs.Yteeapkndappnoaa
open Go.RowKit
set_option linter.unusedVariables false
set_option linter.unusedSimpArgs false

section
variable {P : Program} {T : TypeId} {w : World} {B n size : Nat} {xs : List Value}
variable {ops : Array Oper} {rest : List Oper} {o : Oper} {a : Act} {Q : Exit → Act → World → Prop}

/-- 'append(dst, src...)', where there is room. -/
theorem wpList_append_in {g0 cap0 : Nat} (L1 L2 : List Asr) (hH : Has w B (L1 ++ row T size (.slice (some ⟨g0, 0, none⟩) n cap0) n xs :: L2)) (hgd : o.guard = none) (s x : Operand) (t : TypeId)
    (ho : o.op = .call { callee := .builtin .append, args := #[s, x], argTypes := #[t, t] })
    (i : TypeInfo) (ht : P.underlying t = some (.slice T)) (hi : P.info? T = some i) (hsize : i.size = size) (hs : a.eval s = .slice (some ⟨g0, 0, none⟩) n cap0)
    (ad : Addr) (m c : Nat) (news : List Value) (hx : a.eval x = .slice (some ad) m c) (hl : news.length = m * size) (hnews : ∀ j u, news[j]? = some u → w.cell? (ad.add j) = some u) (h1 : ∀ u ∈ news, u.oneCell' = true)
    (hc : n + m ≤ cap0)
    (hK : ∀ w', Has w' B (L1 ++ row T size (.slice (some ⟨g0, 0, none⟩) (n + m) cap0) (n + m) (xs ++ news) :: L2) → Below B w w' → wpList P ops Q rest (a.put o.dst (.slice (some ⟨g0, 0, none⟩) (n + m) cap0)) w') : wpList P ops Q (o :: rest) a w := by
  obtain ⟨hr, hg⟩ := hH.row_at L1 L2
  rcases hr.2 with ⟨hv, _⟩ | ⟨g, cap, cur, hv, _, hgg, h2, h3, h4, h5⟩
  · cases hv
  · cases hv
    refine wpList_append_fits w hgd s x t ho 0 T i size ht hi hsize g0 n cap0 xs hs hr ad m c news hx hl hnews h1 hc (fun w' hown hgr => hK w' ?_ ?_)
    · exact hH.step L1 L2 hgr.size (fun S ⟨hS, _⟩ => ⟨[g0], ⟨by simp [Value.ownBlock], hown⟩, fun k hk => .inl (by rw [hS]; simpa [Value.ownBlock] using hk), fun k hk hk' => hgr.block k hk (fun e => hk' (by rw [hS]; injection e with e; simp [Value.ownBlock, e]))⟩)
    · exact (Below.refl _ _).grown hgr hH.le (fun k hk => by cases hk; exact (hg g0 rfl).1)

/-- 'clear(s[k:])' behind what is owned: nothing of it turns. -/
theorem wpList_clear_row {g cap : Nat} (L1 L2 : List Asr) (hH : Has w B (L1 ++ row T size (.slice (some ⟨g, 0, none⟩) n cap) n xs :: L2)) (hgd : o.guard = none) (x : Operand) (t : TypeId)
    (ho : o.op = .call { callee := .builtin .clear, args := #[x], argTypes := #[t] }) (ht : P.underlying t = some (.slice T)) (z : Value) (hz : ∀ w, (zeroValue T).run P w = .ok z w) (hzs : z.cells.size = size) (h1 : ∀ u ∈ z.cells.toList, u.oneCell' = true)
    (k m c off : Nat) (hoff : off = k * size) (hx : a.eval x = .slice (some ⟨g, off, none⟩) m c) (hk : n ≤ k) (hkm : k + m ≤ cap)
    (hK : ∀ w', Has w' B (L1 ++ row T size (.slice (some ⟨g, 0, none⟩) n cap) n xs :: L2) → Below B w w' → wpList P ops Q rest (a.put o.dst (.tuple #[])) w') : wpList P ops Q (o :: rest) a w := by
  subst hoff
  obtain ⟨hr, hgB⟩ := hH.row_at L1 L2
  refine wpList_plain hgd fun K hK' => ?_
  by_cases hm : m = 0
  · subst hm
    unfold Oper.wp
    simp [execOp, ho, resolve, invoke, builtin, hx, Builtin.clear_, run_underlying ht, Result.andThen]
    exact hK' _ _ (hK w hH (Below.refl _ _))
  · rcases hr.2 with ⟨hv', _⟩ | ⟨g', cap', cur, hv', hb, hgg, hc1, hc2, hc3, hc4⟩
    · cases hv'
    · cases hv'
      obtain ⟨hBg, hlt⟩ := hgB g rfl
      have hzl : (Builtin.zeroCells z.cells m).toList.length = m * size := by simp [Builtin.zeroCells, hzs, Nat.mul_comm]
      have hz1 : ∀ v ∈ (Builtin.zeroCells z.cells m).toList, v.oneCell' = true := by
        intro v hv
        simp only [Builtin.zeroCells] at hv
        simp at hv
        obtain ⟨i, hi, rfl⟩ := hv
        by_cases hs0 : 0 < size
        · have hlt : i % z.cells.size < z.cells.size := Nat.mod_lt _ (by omega)
          have e : z.cells[i % z.cells.size]? = some (z.cells[i % z.cells.size]'hlt) := Array.getElem?_eq_getElem hlt
          simp [Array.getD, hlt]
          exact h1 _ (by simp)
        · have : size = 0 := by omega
          rw [hzs, this] at hi
          simp at hi
      have hmul : (k + m) * size ≤ cap * size := Nat.mul_le_mul_right _ hkm
      rw [Nat.add_mul] at hmul
      have hst := run_storeCells_at (P := P) g (k * size) T (Builtin.zeroCells z.cells m).toList 0 cur w hgg (by rw [hzl, hc3]; omega) hz1
      obtain ⟨m', rfl⟩ : ∃ m', m = m' + 1 := ⟨m - 1, by omega⟩
      unfold Oper.wp
      simp [execOp, ho, resolve, invoke, builtin, hx, Builtin.clear_, run_underlying ht, hz, hst, Result.andThen]
      have hnk : n * size ≤ k * size := Nat.mul_le_mul_right _ hk
      have hcl : k * size ≤ cur.toList.length := by rw [Array.length_toList, hc3]; omega
      refine hK' _ _ (hK _ ?_ ?_)
      · have := hH.step (A' := row T size (.slice (some ⟨g, 0, none⟩) n cap) n xs) L1 L2 (w' := w.setRow g (cur.toList.take (k * size) ++ (Builtin.zeroCells z.cells (m' + 1)).toList ++ cur.toList.drop (k * size + (Builtin.zeroCells z.cells (m' + 1)).toList.length)).toArray) (by simp)
          (fun S ⟨hS, _⟩ => ⟨[g], ⟨by simp [Value.ownBlock], ⟨hr.1, .inr ⟨g, cap, _, rfl, Nat.zero_le _, setRow_heap w g cur _ T (0, 0) hgg, hc1, hc2, by
              simp only [List.size_toArray, List.length_append, List.length_take, List.length_drop, hzl, Array.length_toList, hc3]
              omega, by
              rw [List.append_assoc, List.toList_toArray, List.take_append_of_le_length (by simp; omega), List.take_take, Nat.min_eq_left hnk]
              exact hc4⟩⟩⟩, fun z hz => .inl (by rw [hS]; simpa [Value.ownBlock] using hz), fun z _ hz => setRow_other w g z _ (fun e => hz (by rw [hS, e]; simp [Value.ownBlock]))⟩)
        simpa using this
      · refine ⟨rfl, rfl, rfl, by simp, fun z hz => ?_⟩
        rw [setRow_other _ _ _ _ (by omega)]
end

end Go.Proofs.Yteeapkndappnoaa
