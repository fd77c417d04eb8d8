/-
  'append' upon a slice of the call's own, as one step of a region that draws its order.
-/
import Derived.Test.YteeapkndappnoaaOwn
import Derived.Deep.RegionLaw
import Derived.Deep.RegionLawGrows
namespace Go.Proofs.Yteeapkndappnoaa
open Go.RowKit
set_option linter.unusedVariables false
set_option linter.unusedSimpArgs false

section
variable {P : Program} {T : TypeId} {w : World} {B n size : Nat} {v : Value} {xs : List Value}
variable {ops : Array Oper} {o : Oper} {a : Act} {K : Act → World → Prop} {Q : Exit → Act → World → Prop} {E : Prop}

theorem step_append_row {g0 cap0 : Nat} (L1 L2 : List Asr) (hH : Has w B (L1 ++ row T size (.slice (some ⟨g0, 0, none⟩) n cap0) n xs :: L2)) (hgd : o.guard = none) (s x : Operand) (t : TypeId)
    (ho : o.op = .call { callee := .builtin .append, args := #[s, x], argTypes := #[t, t] })
    (i : TypeInfo) (z : Value) (bytes : Nat) (ht : P.underlying t = some (.slice T)) (hi : P.info? T = some i) (hz : i.zero = some z)
    (hsize : i.size = size) (hby : i.bytes = bytes) (hzs : z.cells.size = size) (hsz : 0 < size) (hs : a.eval s = .slice (some ⟨g0, 0, none⟩) n cap0)
    (ad : Addr) (m c : Nat) (news : List Value) (hx : a.eval x = .slice (some ad) m c) (hl : news.length = m * size) (hnews : ∀ j u, news[j]? = some u → w.cell? (ad.add j) = some u) (h1 : ∀ u ∈ news, u.oneCell' = true)
    (h63 : n + m ≤ maxLen) (hbytes : (n + m) * bytes ≤ 140737488355328)
    (hK : ∀ g cap w', Has w' B (L1 ++ row T size (.slice (some ⟨g, 0, none⟩) (n + m) cap) (n + m) (xs ++ news) :: L2) → Below B w w' → K (a.put o.dst (.slice (some ⟨g, 0, none⟩) (n + m) cap)) w') :
    if Region.wanted o (yielded ops a.tmps) = true then Oper.wp P o a w K Q else E := by
  have hw : Region.wanted o (yielded ops a.tmps) = true := by simp [Region.wanted, hgd]
  rw [if_pos hw]
  obtain ⟨hr, hg⟩ := hH.row_at L1 L2
  rcases hr.2 with ⟨hv, _⟩ | ⟨g, cap, cur, hv, _, hgg, h2, h3, h4, h5⟩
  · cases hv
  · cases hv
    by_cases hc : n + m ≤ cap0
    · obtain ⟨w', hrun, hown, hgr⟩ := run_append_fits (P := P) w 0 t o.type T i size ht hi hsize g0 n cap0 xs hr ad m c news hl hnews h1 hc
      unfold Oper.wp
      simp [execOp, ho, resolve, invoke, builtin, hs, hx, hrun, Result.andThen]
      refine hK g0 cap0 w' ?_ ?_
      · exact hH.step L1 L2 hgr.size (fun S ⟨hS, _⟩ => ⟨[g0], ⟨by simp [Value.ownBlock], hown⟩, fun k hk => .inl (by rw [hS]; simpa [Value.ownBlock] using hk), fun k hk hk' => hgr.block k hk (fun e => hk' (by rw [hS]; injection e with e; simp [Value.ownBlock, e]))⟩)
      · exact (Below.refl _ _).grown hgr hH.le (fun k hk => by cases hk; exact (hg g0 rfl).1)
    · obtain ⟨v', w', hrun, hown, hgr⟩ := run_append_arg_grows (P := P) w t o.type T i z size bytes ht hi hz hsize hby hzs hsz ⟨g0, 0, none⟩ n cap0 xs hr.1 (fun j u hu => hr.cells (g := g0) rfl j u hu) ad m c news hl hnews (by omega) h63 hbytes
      unfold Oper.wp
      simp [execOp, ho, resolve, invoke, builtin, hs, hx, hrun, Result.andThen]
      rcases hown.2 with ⟨_, h⟩ | ⟨g, cap, cur, rfl, hb, hgg, hrest⟩
      · omega
      · refine hK g cap w' ?_ ((Below.refl _ _).grown hgr hH.le (fun k hk => by cases hk))
        exact hH.step L1 L2 hgr.size (fun S _ => ⟨[g], ⟨by simp [Value.ownBlock], hown.1, .inr ⟨g, cap, cur, rfl, Nat.zero_le _, hgg, hrest⟩⟩, fun k hk => by
          simp at hk
          subst hk
          exact .inr hb, fun k hk _ => hgr.block k hk (by simp)⟩)

/-- .. whatever slice it is, nil too. -/
theorem step_append_any (L1 L2 : List Asr) (hH : Has w B (L1 ++ row T size v n xs :: L2)) (hgd : o.guard = none) (s x : Operand) (t : TypeId)
    (ho : o.op = .call { callee := .builtin .append, args := #[s, x], argTypes := #[t, t] })
    (i : TypeInfo) (z : Value) (bytes : Nat) (ht : P.underlying t = some (.slice T)) (hi : P.info? T = some i) (hz : i.zero = some z)
    (hsize : i.size = size) (hby : i.bytes = bytes) (hzs : z.cells.size = size) (hsz : 0 < size) (hs : a.eval s = v)
    (ad : Addr) (m c : Nat) (news : List Value) (hx : a.eval x = .slice (some ad) m c) (hl : news.length = m * size) (hnews : ∀ j u, news[j]? = some u → w.cell? (ad.add j) = some u) (h1 : ∀ u ∈ news, u.oneCell' = true)
    (hm : 0 < m) (h63 : n + m ≤ maxLen) (hbytes : (n + m) * bytes ≤ 140737488355328)
    (hK : ∀ g cap w', Has w' B (L1 ++ row T size (.slice (some ⟨g, 0, none⟩) (n + m) cap) (n + m) (xs ++ news) :: L2) → Below B w w' → K (a.put o.dst (.slice (some ⟨g, 0, none⟩) (n + m) cap)) w') :
    if Region.wanted o (yielded ops a.tmps) = true then Oper.wp P o a w K Q else E := by
  rcases hH.row_shape L1 L2 with ⟨rfl, rfl⟩ | ⟨g, cap, rfl, _, _, _, _⟩
  · have hx0 : xs = [] := List.eq_nil_of_length_eq_zero (by have := hH.row_len L1 L2; simpa using this)
    subst hx0
    refine step_append_grows hgd s x t ho T i z size bytes ht hi hz hsize hby hzs hsz none 0 0 [] hs (fun _ => ⟨rfl, rfl⟩) (by simp) (by intro b hb; cases hb) ad m c news hx hl hnews h1 (by omega) h63 hbytes ?_
    intro v' w' hown hgr
    rcases hown.2 with ⟨_, h⟩ | ⟨g, cap, cur, rfl, hb, hgg, hrest⟩
    · omega
    · refine hK g cap w' ?_ ((Below.refl _ _).grown hgr hH.le (fun k hk => by cases hk))
      exact hH.step L1 L2 hgr.size (fun S _ => ⟨[g], ⟨by simp [Value.ownBlock], hown.1, .inr ⟨g, cap, cur, rfl, Nat.zero_le _, hgg, hrest⟩⟩, fun k hk => by
        simp at hk
        subst hk
        exact .inr hb, fun k hk _ => hgr.block k hk (by simp)⟩)
  · exact step_append_row L1 L2 hH hgd s x t ho i z bytes ht hi hz hsize hby hzs hsz hs ad m c news hx hl hnews h1 h63 hbytes hK

/-- The cells of a block, as 'append' reads them. -/
theorem blk_adds {b : Nat} {cs : Array Value} (L1 L2 : List Asr) (h : Has w B (L1 ++ blk b T cs :: L2)) : ∀ j u, cs.toList[j]? = some u → w.cell? ((⟨b, 0, none⟩ : Addr).add j) = some u := by
  intro j u hj
  have e : (⟨b, 0, none⟩ : Addr).add j = ⟨b, j, none⟩ := by unfold Addr.add; split <;> simp_all
  rw [e]
  exact h.cell L1 L2 j (by simpa using hj)
end

end Go.Proofs.Yteeapkndappnoaa
