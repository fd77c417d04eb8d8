/-
  'append' upon a slice of the call's own, as one step of a region that draws its order: an operation that stands behind a guard.
-/
import Derived.Test.YtlcdjdchcjnhfaaReg
namespace Go.Proofs.Ytlcdjdchcjnhfaa
open Go.RowKit
set_option linter.unusedVariables false
set_option linter.unusedSimpArgs false

section
variable {P : Program} {T : TypeId} {w : World} {B n size : Nat} {v : Value} {xs : List Value}
variable {ops : Array Oper} {o : Oper} {a : Act} {K : Act → World → Prop} {Q : Exit → Act → World → Prop} {E : Prop}

/-- .. whatever slice it is, nil too, where the operation is wanted. -/
theorem step_append_wanted (L1 L2 : List Asr) (hH : Has w B (L1 ++ row T size v n xs :: L2)) (hw : Region.wanted o (yielded ops a.tmps) = true) (s x : Operand) (t : TypeId)
    (ho : o.op = .call { callee := .builtin .append, args := #[s, x], argTypes := #[t, t] })
    (i : TypeInfo) (z : Value) (bytes : Nat) (ht : P.underlying t = some (.slice T)) (hi : P.info? T = some i) (hz : i.zero = some z)
    (hsize : i.size = size) (hby : i.bytes = bytes) (hzs : z.cells.size = size) (hsz : 0 < size) (hs : a.eval s = v)
    (ad : Addr) (m c : Nat) (news : List Value) (hx : a.eval x = .slice (some ad) m c) (hl : news.length = m * size) (hnews : ∀ j u, news[j]? = some u → w.cell? (ad.add j) = some u) (h1 : ∀ u ∈ news, u.oneCell' = true)
    (hm : 0 < m) (h63 : n + m ≤ maxLen) (hbytes : (n + m) * bytes ≤ 140737488355328)
    (hK : ∀ g cap w', Has w' B (L1 ++ row T size (.slice (some ⟨g, 0, none⟩) (n + m) cap) (n + m) (xs ++ news) :: L2) → Below B w w' → K (a.put o.dst (.slice (some ⟨g, 0, none⟩) (n + m) cap)) w') :
    if Region.wanted o (yielded ops a.tmps) = true then Oper.wp P o a w K Q else E := by
  rw [if_pos hw]
  obtain ⟨hr, hg⟩ := hH.row_at L1 L2
  have fresh : ∀ v' w', w'.ownsRow w.heap.size T size v' (n + m) (xs ++ news) → w.grownBy w' none → K (a.put o.dst v') w' := by
    intro v' w' hown hgr
    rcases hown.2 with ⟨_, h⟩ | ⟨g, cap, cur, rfl, hb, hgg, hrest⟩
    · omega
    · refine hK g cap w' ?_ ((Below.refl _ _).grown hgr hH.le (fun k hk => by cases hk))
      exact hH.step L1 L2 hgr.size (fun S _ => ⟨[g], ⟨by simp [Value.ownBlock], hown.1, .inr ⟨g, cap, cur, rfl, Nat.zero_le _, hgg, hrest⟩⟩, fun k hk => by
        simp at hk
        subst hk
        exact .inr hb, fun k hk _ => hgr.block k hk (by simp)⟩)
  rcases hr.2 with ⟨rfl, rfl⟩ | ⟨g, cap, cur, rfl, _, hgg, h2, h3, h4, h5⟩
  · have hx0 : xs = [] := List.eq_nil_of_length_eq_zero (by simpa using hr.1)
    subst hx0
    obtain ⟨v', w', hrun, r1, r2, _⟩ := run_append_own (P := P) w w.heap.size t o.type T i z size bytes ht hi hz hsize hby hzs hsz (.slice none 0 0) 0 [] (World.ownsRow_nil w _ T size) ad m c news hl hnews h1 h63 hbytes (Nat.le_refl _)
    unfold Oper.wp
    simp [execOp, ho, resolve, invoke, builtin, hs, hx, hrun, Result.andThen]
    exact fresh v' w' r1 r2
  · by_cases hc : n + m ≤ cap
    · obtain ⟨w', hrun, hown, hgr⟩ := run_append_fits (P := P) w 0 t o.type T i size ht hi hsize g n cap xs hr ad m c news hl hnews h1 hc
      unfold Oper.wp
      simp [execOp, ho, resolve, invoke, builtin, hs, hx, hrun, Result.andThen]
      refine hK g cap w' ?_ ?_
      · exact hH.step L1 L2 hgr.size (fun S ⟨hS, _⟩ => ⟨[g], ⟨by simp [Value.ownBlock], hown⟩, fun k hk => .inl (by rw [hS]; simpa [Value.ownBlock] using hk), fun k hk hk' => hgr.block k hk (fun e => hk' (by rw [hS]; injection e with e; simp [Value.ownBlock, e]))⟩)
      · exact (Below.refl _ _).grown hgr hH.le (fun k hk => by cases hk; exact (hg g rfl).1)
    · obtain ⟨v', w', hrun, hown, hgr⟩ := run_append_arg_grows (P := P) w t o.type T i z size bytes ht hi hz hsize hby hzs hsz ⟨g, 0, none⟩ n cap xs hr.1 (fun j u hu => hr.cells (g := g) rfl j u hu) ad m c news hl hnews (by omega) h63 hbytes
      unfold Oper.wp
      simp [execOp, ho, resolve, invoke, builtin, hs, hx, hrun, Result.andThen]
      exact fresh v' w' hown hgr

end

end Go.Proofs.Ytlcdjdchcjnhfaa
