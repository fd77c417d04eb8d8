/-
  What TlbMap, TlbPlays and TlbPicks are handed: calls; ints. And what is known of one page.
-/
import Derived.Test.YtcfphdebekbbkaaTlbArgs
namespace Go.Proofs.Ytcfphdebekbbkaa
open Go.RowKit Go.Deep Go.ChangeShapes Go.WideShapes
set_option linter.unusedVariables false
set_option linter.unusedSimpArgs false

/-- A call. -/
structure TOp where
  What : Int
  H : HitS
  N : Int
def topC (o : TOp) : List Value := [.int .i64 o.What, .int .i64 o.H.a, .int .i64 o.H.p, .int .i64 o.H.f, .bool o.H.w, .bool o.H.u, .bool o.H.x, .bool o.H.d, .int .i64 o.N]
structure TOk (o : TOp) : Prop where
  what : (Lit.int .i64 o.What).wf = true
  h : HitOk o.H
  n : (Lit.int .i64 o.N).wf = true

theorem open_op {H : Type} {enc : TypeId × Value → H} {w : World} {base : Nat} {spare : Nat → Bool} {held : Bool} (fuel : Nat) (cs : List Value) (x : DataW H × List MemPlace)
    (h : DataW.trod enc Try.prog w base spare held fuel 46 cs = some x) : ∃ o, cs = topC o ∧ TOk o := by
  have hl := open_struct_len Try.underlying46 h
  have hs : Try.prog.cellsOf 46 = 9 := by kernel_rfl
  rw [hs] at hl
  obtain ⟨a0, h0, w0⟩ := open_int_field Try.underlying46 h 0 0 (e := 3) (by kernel_rfl) Try.underlying3 (by kernel_rfl)
  obtain ⟨a2, h2, w2⟩ := open_int_field Try.underlying46 h 2 8 (e := 3) (by kernel_rfl) Try.underlying3 (by kernel_rfl)
  obtain ⟨n, y, hy⟩ := open_field Try.underlying46 h 1 _ rfl
  have hr : Try.prog.cellsOf 30 = 7 := by kernel_rfl
  have hy : DataW.trod enc Try.prog w base spare held n 30 ((cs.drop 1).take (Try.prog.cellsOf 30)) = some y := hy
  rw [hr] at hy
  obtain ⟨g, hg, hok⟩ := open_hit _ _ _ hy
  refine ⟨⟨a0, g, a2⟩, ?_, ⟨w0, hok, w2⟩⟩
  match cs, hl with
  | [c0, c1, c2, c3, c4, c5, c6, c7, c8], _ =>
    simp [hitC] at h0 h2 hg
    obtain ⟨e1, e2, e3, e4, e5, e6, e7⟩ := hg
    rw [h0, h2, e1, e2, e3, e4, e5, e6, e7]
    rfl

theorem open_ops {H : Type} {enc : TypeId × Value → H} {w : World} {base : Nat} {spare : Nat → Bool} {held : Bool} {a : Option Addr} {len cap : Nat} {d : DataW H} {p : List MemPlace}
    (h : DataW.Trod enc Try.prog w base spare held 42 (.slice a len cap) d p) : ∃ l : List TOp, l.length = len ∧ ArgRow w 9 a len (l.flatMap topC) ∧ ∀ x ∈ l, TOk x :=
  open_row topC TOk 9 (fun _ => rfl) (by decide) Try.underlying42 (by kernel_rfl) open_op h

/-! ### one page -/
theorem find_drop (a p b q : Int) (L : List HitS) : (dropL b q L).find? (keyB a p) = if b = a ∧ q = p then none else L.find? (keyB a p) := by
  unfold dropL
  induction L with
  | nil => simp
  | cons h L ih =>
    by_cases hb : keyB b q h = true
    · rw [List.filter_cons_of_neg (by simp [hb]), ih]
      have hk := keyB_true.1 hb
      by_cases e : b = a ∧ q = p
      · rw [if_pos e, if_pos e]
      · rw [if_neg e, if_neg e, List.find?_cons_of_neg]
        intro hc
        have hk2 := keyB_true.1 hc
        exact e ⟨hk.1.symm.trans hk2.1, hk.2.symm.trans hk2.2⟩
    · have hb2 : keyB b q h = false := by simpa using hb
      rw [List.filter_cons_of_pos (by simp [hb2])]
      by_cases hc : keyB a p h = true
      · have e : ¬ (b = a ∧ q = p) := by
          rintro ⟨rfl, rfl⟩
          rw [hb2] at hc
          cases hc
        rw [List.find?_cons_of_pos hc, if_neg e, List.find?_cons_of_pos hc]
      · rw [List.find?_cons_of_neg hc, ih, List.find?_cons_of_neg hc]
theorem find_keep (a p b : Int) (L : List HitS) : (keepF b L).find? (keyB a p) = if b = a then none else L.find? (keyB a p) := by
  unfold keepF
  induction L with
  | nil => simp
  | cons h L ih =>
    by_cases hb : asidB b h = true
    · rw [List.filter_cons_of_neg (by simp [hb]), ih]
      have hk : h.a = b := by simpa [asidB] using hb
      by_cases e : b = a
      · rw [if_pos e, if_pos e]
      · rw [if_neg e, if_neg e, List.find?_cons_of_neg]
        intro hc
        have hk2 := keyB_true.1 hc
        exact e (hk.symm.trans hk2.1)
    · have hb2 : asidB b h = false := by simpa using hb
      rw [List.filter_cons_of_pos (by simp [hb2])]
      by_cases hc : keyB a p h = true
      · have hk2 := keyB_true.1 hc
        have e : ¬ b = a := by
          intro e
          have : asidB b h = true := by simp [asidB, hk2.1, e]
          rw [hb2] at this
          cases this
        rw [List.find?_cons_of_pos hc, if_neg e, List.find?_cons_of_pos hc]
      · rw [List.find?_cons_of_neg hc, ih, List.find?_cons_of_neg hc]
/-- .. where none goes for another one. -/
theorem find_put {n : Nat} {L : List HitS} {h : HitS} (hl : L.length < n) (a p : Int) : (putL n L h).find? (keyB a p) = if h.a = a ∧ h.p = p then some h else L.find? (keyB a p) := by
  have hle := dropL_le h.a h.p L
  unfold putL
  rw [if_neg (by omega), List.find?_append, find_drop]
  by_cases e : h.a = a ∧ h.p = p
  · rw [if_pos e, if_pos e]
    have : keyB a p h = true := keyB_true.2 e
    simp [this]
  · rw [if_neg e, if_neg e]
    have : keyB a p h = false := keyB_false.2 e
    simp [this]
theorem putL_len_le {n : Nat} {L : List HitS} {h : HitS} : (putL n L h).length ≤ L.length + 1 := by
  have hle := dropL_le h.a h.p L
  unfold putL
  split
  · have := (List.eraseIdx_sublist (dropL h.a h.p L) 0).length_le
    simp
    omega
  · simp
    omega
theorem any_find (q : HitS → Bool) (L : List HitS) : L.any q = (L.find? q).isSome := by
  induction L with
  | nil => rfl
  | cons h L ih =>
    cases hq : q h with
    | true => simp [hq]
    | false => simp [hq, ih]

end Go.Proofs.Ytcfphdebekbbkaa
