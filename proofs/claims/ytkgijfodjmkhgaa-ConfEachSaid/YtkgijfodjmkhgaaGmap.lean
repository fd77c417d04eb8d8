/-
  Contracts of package gmap (layer 3): a map as the list of the host's frames.
-/
import Derived.Test.YtkgijfodjmkhgaaRows
import Derived.Test.YtkgijfodjmkhgaaOwn
namespace Go.Proofs.Ytkgijfodjmkhgaa
open Go.RowKit
set_option linter.unusedVariables false
set_option linter.unusedSimpArgs false

/-- A list that is a map into so many frames. -/
def gok (l : List Int) (frames : Int) : Prop := 1 ≤ l.length ∧ l.length ≤ 64 ∧ 1 ≤ frames ∧ frames ≤ 256 ∧ (∀ h ∈ l, 0 ≤ h ∧ h < frames) ∧ l.Nodup

/-- The guest's frame of each of the host's, when the first k have been told. -/
def gmG (l : List Int) : Nat → Int → Option Int
  | 0 => fun _ => none
  | k + 1 => upd (gmG l k) (l.getD k 0) (some (k : Int))
def gmN (l : List Int) : Nat → Nat
  | 0 => 0
  | k + 1 => more (gmG l k) (l.getD k 0) (gmN l k)

theorem gmG_some (l : List Int) : ∀ k, k ≤ l.length → ∀ x, (gmG l k x).isSome = true ↔ ∃ i, i < k ∧ l[i]? = some x
  | 0, _, x => by simp [gmG]
  | k + 1, hk, x => by
    have ih := gmG_some l k (by omega) x
    have hg : l[k]? = some (l.getD k 0) := by rw [List.getElem?_eq_getElem (by omega)]; simp [List.getD, List.getElem?_eq_getElem (show k < l.length by omega)]
    simp only [gmG]
    by_cases e : x = l.getD k 0
    · subst e
      rw [upd_same]
      simp only [Option.isSome_some, true_iff]
      exact ⟨k, by omega, hg⟩
    · rw [upd_other _ _ e, ih]
      constructor
      · rintro ⟨i, h1, h2⟩; exact ⟨i, by omega, h2⟩
      · rintro ⟨i, h1, h2⟩
        refine ⟨i, ?_, h2⟩
        by_cases hik : i = k
        · subst hik
          rw [hg] at h2
          injection h2 with h2
          exact (e h2.symm).elim
        · omega

theorem gmN_le (l : List Int) : ∀ k, gmN l k ≤ k
  | 0 => Nat.le_refl _
  | k + 1 => by
    have := gmN_le l k
    simp only [gmN, more]
    split <;> omega

theorem nodup_at {l : List Int} (h : l.Nodup) {i j : Nat} {x : Int} (hi : l[i]? = some x) (hj : l[j]? = some x) : i = j := by
  obtain ⟨li, ei⟩ := List.getElem?_eq_some_iff.1 hi
  obtain ⟨lj, ej⟩ := List.getElem?_eq_some_iff.1 hj
  have hp := List.pairwise_iff_getElem.1 h
  rcases Nat.lt_trichotomy i j with hlt | he | hlt
  · exact (hp i j li lj hlt (ei.trans ej.symm)).elim
  · exact he
  · exact (hp j i lj li hlt (ej.trans ei.symm)).elim

/-- In a list without repeats all are counted, and each is found at its place. -/
theorem gmN_full {l : List Int} (h : l.Nodup) : ∀ k, k ≤ l.length → gmN l k = k
  | 0, _ => rfl
  | k + 1, hk => by
    have ih := gmN_full h k (by omega)
    have hg : l[k]? = some (l.getD k 0) := by rw [List.getElem?_eq_getElem (by omega)]; simp [List.getD, List.getElem?_eq_getElem (show k < l.length by omega)]
    simp only [gmN, more]
    rw [if_neg, ih]
    rw [gmG_some l k (by omega)]
    rintro ⟨i, h1, h2⟩
    have := nodup_at h h2 hg
    omega
theorem gmN_nodup {l : List Int} : ∀ k, k ≤ l.length → gmN l k = k → ∀ i j x, i < k → j < k → l[i]? = some x → l[j]? = some x → i = j
  | 0, _, _, i, j, x, hi, _, _, _ => by omega
  | k + 1, hk, hn, i, j, x, hi, hj, hx, hy => by
    have hle := gmN_le l k
    have hg : l[k]? = some (l.getD k 0) := by rw [List.getElem?_eq_getElem (by omega)]; simp [List.getD, List.getElem?_eq_getElem (show k < l.length by omega)]
    simp only [gmN, more] at hn
    split at hn
    · omega
    · rename_i hs
      have hs' : ¬ ∃ i, i < k ∧ l[i]? = some (l.getD k 0) := fun h => hs ((gmG_some l k (by omega) _).2 h)
      have ih := gmN_nodup (l := l) k (by omega) (by omega)
      by_cases e1 : i = k
      · by_cases e2 : j = k
        · omega
        · subst e1
          rw [hg] at hx
          injection hx with hx
          exact (hs' ⟨j, by omega, by rw [hy, hx]⟩).elim
      · by_cases e2 : j = k
        · subst e2
          rw [hg] at hy
          injection hy with hy
          exact (hs' ⟨i, by omega, by rw [hx, hy]⟩).elim
        · exact ih i j x (by omega) (by omega) hx hy

theorem nodup_of_at {l : List Int} (h : ∀ i j x, i < l.length → j < l.length → l[i]? = some x → l[j]? = some x → i = j) : l.Nodup := by
  refine List.pairwise_iff_getElem.2 fun i j hi hj hij e => ?_
  have := h i j l[j] hi hj (by rw [List.getElem?_eq_getElem hi, e]) (List.getElem?_eq_getElem hj)
  omega

theorem gmG_at {l : List Int} (h : l.Nodup) : ∀ k, k ≤ l.length → ∀ x i, gmG l k x = some i ↔ ∃ j : Nat, j < k ∧ i = j ∧ l[j]? = some x
  | 0, _, x, i => by simp [gmG]
  | k + 1, hk, x, i => by
    have ih := gmG_at h k (by omega) x i
    have hg : l[k]? = some (l.getD k 0) := by rw [List.getElem?_eq_getElem (by omega)]; simp [List.getD, List.getElem?_eq_getElem (show k < l.length by omega)]
    simp only [gmG]
    by_cases e : x = l.getD k 0
    · subst e
      rw [upd_same]
      constructor
      · intro h1
        injection h1 with h1
        exact ⟨k, by omega, h1.symm, hg⟩
      · rintro ⟨j, h1, rfl, h2⟩
        rw [nodup_at h h2 hg]
    · rw [upd_other _ _ e, ih]
      constructor
      · rintro ⟨j, h1, h2⟩; exact ⟨j, by omega, h2⟩
      · rintro ⟨j, h1, h2, h3⟩
        refine ⟨j, ?_, h2, h3⟩
        by_cases hjk : j = k
        · subst hjk
          rw [hg] at h3
          injection h3 with h3
          exact (e h3.symm).elim
        · omega

/-- The program's map, at block b: the list's own copy, and the places of its members. -/
structure GmapS where
  m : Nat
  v : Value
def GmapA (b : Nat) (l : List Int) : Asr :=
  Asr.ex fun s : GmapS => Asr.and (l.Nodup ∧ 1 ≤ l.length ∧ l.length ≤ 64) <| Asr.all
    [blk b 48 #[s.v, .map (some s.m)], imap Try.prog 3 s.m (gmG l l.length) l.length, row 3 1 s.v l.length (l.map (Value.int .i64))]

theorem zeroIntG (w : World) : (zeroValue 3).run Try.prog w = .ok (.int .i64 0) w := by kernel_rfl

/-- 'append' to what has no room: a new row. -/
theorem wpList_append_fresh {P : Program} {ops : Array Oper} {Q : Exit → Act → World → Prop} {o : Oper} {rest : List Oper} {a : Act} {w : World} {B size : Nat} {T : TypeId} {L : List Asr} (hH : Has w B L) (hgd : o.guard = none) (s x : Operand) (t : TypeId)
    (ho : o.op = .call { callee := .builtin .append, args := #[s, x], argTypes := #[t, t] })
    (i : TypeInfo) (z : Value) (bytes : Nat) (ht : P.underlying t = some (.slice T)) (hi : P.info? T = some i) (hz : i.zero = some z)
    (hsize : i.size = size) (hby : i.bytes = bytes) (hzs : z.cells.size = size) (hsz : 0 < size) (ao : Option Addr) (hs : a.eval s = .slice ao 0 0)
    (ad : Addr) (m c : Nat) (news : List Value) (hx : a.eval x = .slice (some ad) m c) (hl : news.length = m * size) (hnews : ∀ j u, news[j]? = some u → w.cell? (ad.add j) = some u) (h1 : ∀ u ∈ news, u.oneCell' = true)
    (hm : 0 < m) (h63 : m ≤ maxLen) (hbytes : m * bytes ≤ 140737488355328)
    (hK : ∀ g cap w', Has w' B (row T size (.slice (some ⟨g, 0, none⟩) m cap) m news :: L) → Below B w w' → wpList P ops Q rest (a.put o.dst (.slice (some ⟨g, 0, none⟩) m cap)) w') : wpList P ops Q (o :: rest) a w := by
  refine wpList_append_grows w hgd s x t ho T i z size bytes ht hi hz hsize hby hzs hsz ao 0 0 [] hs (fun _ => ⟨rfl, rfl⟩) (by simp) (by intro b hb j u hu; simp at hu) ad m c news hx hl hnews h1 (by omega) (by omega) (by rw [Nat.zero_add]; exact hbytes) ?_
  intro v' w' hown hgr
  rw [Nat.zero_add, List.nil_append] at hown
  rcases hown.2 with ⟨_, h⟩ | ⟨g, cap, cur, rfl, hb, hgg, hrest⟩
  · omega
  · refine hK g cap w' ?_ ((Below.refl _ _).grown hgr hH.le (fun k hk => by cases hk))
    exact hH.new _ hgr.size (fun k hk => hgr.block k hk (by simp)) ⟨[g], ⟨by simp [Value.ownBlock], hown.1, .inr ⟨g, cap, cur, rfl, Nat.zero_le _, hgg, hrest⟩⟩, fun k hk => by
      simp at hk
      subst hk
      exact hb⟩

end Go.Proofs.Ytkgijfodjmkhgaa
