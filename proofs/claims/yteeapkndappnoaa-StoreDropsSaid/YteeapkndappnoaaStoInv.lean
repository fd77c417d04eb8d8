/-
  The plain side of chapter 14: what each call does to slots, keys and words; what is always so.
-/
import Derived.Test.YteeapkndappnoaaStoArgs
namespace Go.Proofs.Yteeapkndappnoaa
open Go.RowKit
set_option linter.unusedVariables false
set_option linter.unusedSimpArgs false

theorem run_inv {n : Nat} {Q : StS → Prop} (h : ∀ S o, Q S → Q (playS n S o)) : ∀ (l : List OpS) (S : StS), Q S → Q (runS n S l)
  | [], _, hS => hS
  | o :: l, S, hS => run_inv h l _ (h S o hS)
theorem play_keep {n : Nat} {Q : StS → Prop} {S : StS} (o : OpS) (hS : Q S) (hm : ∀ k, makeB S k = true → Q (makeS n S k)) (hc : ∀ f i c r, childB S f i c = true → Q (childS n S f i c r)) (hl : ∀ f i g h r, leafB n S f i h = true → Q (leafS n S f i g h r))
    (hx : ∀ f i, clearB S f i = true → Q (clearS n S f i)) (hd : ∀ f, dropB S f = true → Q (dropS n S f)) : Q (playS n S o) := by
  unfold playS
  split
  · by_cases h : makeB S o.k = true
    · exact hm _ h
    · unfold makeS; rw [if_neg h]; exact hS
  · split
    · by_cases h : childB S o.p o.i o.to = true
      · exact hc _ _ _ _ h
      · unfold childS; rw [if_neg h]; exact hS
    · split
      · by_cases h : leafB n S o.p o.i o.h = true
        · exact hl _ _ _ _ _ h
        · unfold leafS; rw [if_neg h]; exact hS
      · split
        · by_cases h : clearB S o.p o.i = true
          · exact hx _ _ h
          · unfold clearS; rw [if_neg h]; exact hS
        · by_cases h : dropB S o.p = true
          · exact hd _ h
          · unfold dropS; rw [if_neg h]; exact hS

/-! ### pages and slots -/
theorem pageAt_none {ps : List PageS} {f : Int} (h : f ∉ ps.map (·.f)) : pageAt ps f = none := by
  cases h2 : pageAt ps f with
  | none => rfl
  | some p => exact absurd (pageAt_some (by rw [h2]; rfl)) h
theorem pageAt_of {ps : List PageS} (hn : (ps.map (·.f)).Nodup) {p : PageS} (hp : p ∈ ps) : pageAt ps p.f = some p := by
  unfold pageAt
  induction ps with
  | nil => cases hp
  | cons q ps ih =>
    rw [List.map_cons, List.nodup_cons] at hn
    rcases List.mem_cons.1 hp with rfl | hp
    · simp
    · have hne : ¬ q.f = p.f := fun e => hn.1 (List.mem_map.2 ⟨p, hp, e.symm⟩)
      rw [List.find?_cons_of_neg (by simpa using hne)]
      exact ih hn.2 hp
theorem pageAt_mem {ps : List PageS} {f : Int} {p : PageS} (h : pageAt ps f = some p) : p ∈ ps ∧ p.f = f := by
  unfold pageAt at h
  have := List.find?_some h
  exact ⟨List.mem_of_find?_eq_some h, by simpa using this⟩
theorem pageAt_set (ps : List PageS) (g : Int) (k : Nat) (y : SlotS) (f : Int) : pageAt (setSlot ps g k y) f = (pageAt ps f).map fun p => if p.f = g then { p with s := p.s.set k y } else p := by
  unfold pageAt setSlot
  rw [List.find?_map]
  congr 1
  congr 1
  funext p
  simp only [Function.comp]
  split <;> rfl
theorem keyAt_set (ps : List PageS) (g : Int) (k : Nat) (y : SlotS) (f : Int) : keyAt (setSlot ps g k y) f = keyAt ps f := by
  unfold keyAt
  rw [pageAt_set]
  cases pageAt ps f with
  | none => rfl
  | some p =>
    simp only [Option.map]
    split <;> rfl
theorem isPage_set (ps : List PageS) (g : Int) (k : Nat) (y : SlotS) (f : Int) : (pageAt (setSlot ps g k y) f).isSome = (pageAt ps f).isSome := by
  rw [pageAt_set]
  cases pageAt ps f <;> rfl
theorem slotAt_range {ps : List PageS} {f i : Int} {y : SlotS} (h : slotAt ps f i = some y) : 0 ≤ i ∧ i < 8 := by
  unfold slotAt at h
  cases hp : pageAt ps f with
  | none => rw [hp] at h; cases h
  | some p =>
    rw [hp] at h
    dsimp only at h
    by_cases hi : 0 ≤ i ∧ i < 8
    · exact hi
    · rw [if_neg hi] at h; cases h
theorem slotAt_page {ps : List PageS} {f i : Int} {y : SlotS} (h : slotAt ps f i = some y) : ∃ p, pageAt ps f = some p ∧ p.s[i.toNat]? = some y := by
  have hr := slotAt_range h
  unfold slotAt at h
  cases hp : pageAt ps f with
  | none => rw [hp] at h; cases h
  | some p =>
    rw [hp] at h
    dsimp only at h
    rw [if_pos hr] at h
    exact ⟨p, rfl, h⟩
theorem slotAt_intro {ps : List PageS} {f i : Int} {y : SlotS} {p : PageS} (hp : pageAt ps f = some p) (hr : 0 ≤ i ∧ i < 8) (h : p.s[i.toNat]? = some y) : slotAt ps f i = some y := by
  unfold slotAt
  rw [hp]
  dsimp only
  rw [if_pos hr]
  exact h
theorem slotAt_set {ps : List PageS} {g j : Int} {y : SlotS} (hg : (slotAt ps g j).isSome = true) (f i : Int) : slotAt (setSlot ps g j.toNat y) f i = if f = g ∧ i = j then some y else slotAt ps f i := by
  obtain ⟨x, hx⟩ := Option.isSome_iff_exists.1 hg
  have hjr := slotAt_range hx
  obtain ⟨pg, hpg, hxs⟩ := slotAt_page hx
  unfold slotAt
  rw [pageAt_set]
  cases hp : pageAt ps f with
  | none =>
    have hne : ¬ (f = g ∧ i = j) := by rintro ⟨rfl, _⟩; rw [hpg] at hp; cases hp
    rw [if_neg hne]
    rfl
  | some p =>
    have hf := (pageAt_mem hp).2
    simp only [Option.map]
    by_cases e : f = g
    · subst e
      rw [hpg] at hp
      injection hp with hp
      subst hp
      rw [if_pos hf]
      by_cases hi : 0 ≤ i ∧ i < 8
      · rw [if_pos hi, if_pos hi]
        dsimp only
        by_cases ej : i = j
        · subst ej
          rw [if_pos ⟨rfl, rfl⟩, List.getElem?_set_self (List.getElem?_eq_some_iff.1 hxs).1]
        · rw [if_neg (fun h => ej h.2), List.getElem?_set_ne (by omega)]
      · rw [if_neg hi, if_neg hi, if_neg (by rintro ⟨_, rfl⟩; exact hi hjr)]
    · rw [if_neg (show ¬ p.f = g from by rw [hf]; exact e), if_neg (show ¬ (f = g ∧ i = j) from fun h => e h.1)]
theorem slotAt_key {ps : List PageS} {f i : Int} {y : SlotS} (h : slotAt ps f i = some y) : (pageAt ps f).isSome = true := by
  obtain ⟨p, hp, _⟩ := slotAt_page h
  rw [hp]; rfl

/-- A slot that is cleared. -/
def clr (x : SlotS) : SlotS := if x.kd = 0 then x else slotZ
theorem clr_clr (x : SlotS) : clr (clr x) = clr x := by
  unfold clr
  by_cases h : x.kd = 0 <;> simp [h, slotZ]
theorem slotAt_clear (n : Nat) (S : StS) (g j f i : Int) : slotAt (clearS n S g j).ps f i = if f = g ∧ i = j then (slotAt S.ps f i).map clr else slotAt S.ps f i := by
  unfold clearS
  by_cases h : clearB S g j = true
  · rw [if_pos h]
    have hs : (slotAt S.ps g j).isSome = true := by
      unfold clearB at h
      cases hq : slotAt S.ps g j with
      | none => rw [hq] at h; cases h
      | some x => rfl
    show slotAt (setSlot S.ps g j.toNat slotZ) f i = _
    rw [slotAt_set hs]
    by_cases e : f = g ∧ i = j
    · rw [if_pos e, if_pos e]
      obtain ⟨rfl, rfl⟩ := e
      obtain ⟨x, hx⟩ := Option.isSome_iff_exists.1 hs
      rw [hx]
      unfold clearB at h
      rw [hx] at h
      have hk : ¬ x.kd = 0 := by simpa using h
      simp [clr, hk]
    · rw [if_neg e, if_neg e]
  · rw [if_neg h]
    by_cases e : f = g ∧ i = j
    · rw [if_pos e]
      obtain ⟨rfl, rfl⟩ := e
      unfold clearB at h
      cases hq : slotAt S.ps f i with
      | none => rfl
      | some x =>
        rw [hq] at h
        have hk : x.kd = 0 := by simpa using h
        simp [clr, hk]
    · rw [if_neg e]
theorem slotAt_clearL (n : Nat) (f i : Int) : ∀ (l : List (Int × Int)) (S : StS), slotAt (clearL n S l).ps f i = if (f, i) ∈ l then (slotAt S.ps f i).map clr else slotAt S.ps f i
  | [], S => by simp [clearL]
  | a :: l, S => by
    show slotAt (clearL n (clearS n S a.1 a.2) l).ps f i = _
    rw [slotAt_clearL n f i l, slotAt_clear]
    by_cases e : f = a.1 ∧ i = a.2
    · have e2 : (f, i) ∈ a :: l := by simp [Prod.ext_iff, e]
      rw [if_pos e, if_pos e2]
      split
      · rw [Option.map_map]
        congr 1
        funext x
        exact clr_clr x
      · rfl
    · rw [if_neg e]
      have e3 : (f, i) ∈ a :: l ↔ (f, i) ∈ l := by
        rw [List.mem_cons]
        exact ⟨fun h => h.elim (fun h => absurd (by rw [← h]; exact ⟨rfl, rfl⟩) e) id, .inr⟩
      by_cases e2 : (f, i) ∈ l
      · rw [if_pos e2, if_pos (e3.2 e2)]
      · rw [if_neg e2, if_neg (fun h => e2 (e3.1 h))]
theorem slotAt_clearN (n : Nat) (g f i : Int) (S : StS) : ∀ k : Nat, slotAt (clearN n S g k).ps f i = if f = g ∧ 0 ≤ i ∧ i < (k : Int) then (slotAt S.ps f i).map clr else slotAt S.ps f i
  | 0 => by
    rw [if_neg (by omega)]
    rfl
  | k + 1 => by
    rw [clearN_succ, slotAt_clear, slotAt_clearN n g f i S k]
    by_cases e : f = g ∧ i = (k : Int)
    · rw [if_pos e, if_neg (by omega), if_pos (by omega)]
    · rw [if_neg e]
      by_cases e2 : f = g ∧ 0 ≤ i ∧ i < (k : Int)
      · rw [if_pos e2, if_pos (by omega)]
      · rw [if_neg e2, if_neg (by omega)]
/-- All slots, by their places. -/
theorem allS_mem {ps : List PageS} (hn : (ps.map (·.f)).Nodup) (h8 : ∀ p ∈ ps, p.s.length = 8) {f i : Int} {y : SlotS} : ((f, i), y) ∈ allS ps ↔ slotAt ps f i = some y := by
  unfold allS
  rw [List.mem_flatMap]
  constructor
  · rintro ⟨p, hp, h⟩
    obtain ⟨⟨z, j⟩, hz, e⟩ := List.mem_map.1 h
    simp only [Prod.mk.injEq] at e
    obtain ⟨⟨rfl, rfl⟩, rfl⟩ := e
    have hz2 := List.mem_zipIdx_iff_getElem?.1 hz
    have hl := h8 p hp
    have hj := (List.getElem?_eq_some_iff.1 hz2).1
    exact slotAt_intro (pageAt_of hn hp) (by omega) (by simpa using hz2)
  · intro h
    have hr := slotAt_range h
    obtain ⟨p, hp, hy⟩ := slotAt_page h
    obtain ⟨hm, rfl⟩ := pageAt_mem hp
    refine ⟨p, hm, List.mem_map.2 ⟨(y, i.toNat), List.mem_zipIdx_iff_getElem?.2 hy, ?_⟩⟩
    simp only [Prod.mk.injEq]
    exact ⟨⟨trivial, by omega⟩, trivial⟩
theorem toldL_mem {ps : List PageS} (hn : (ps.map (·.f)).Nodup) (h8 : ∀ p ∈ ps, p.s.length = 8) {kd to f i : Int} : (f, i) ∈ toldL kd to (allS ps) ↔ ∃ y, slotAt ps f i = some y ∧ y.kd = kd ∧ y.to = to := by
  unfold toldL
  rw [List.mem_map]
  constructor
  · rintro ⟨⟨⟨a, b⟩, y⟩, hx, e⟩
    obtain ⟨hx, ht⟩ := List.mem_filter.1 hx
    simp only [Prod.mk.injEq] at e
    obtain ⟨rfl, rfl⟩ := e
    refine ⟨y, (allS_mem hn h8).1 hx, ?_⟩
    unfold tellB at ht
    simpa using ht
  · rintro ⟨y, hy, h1, h2⟩
    refine ⟨((f, i), y), List.mem_filter.2 ⟨(allS_mem hn h8).2 hy, ?_⟩, rfl⟩
    unfold tellB
    simp [h1, h2]
/-- What a page's slots are behind all that is cleared ahead of its going. -/
theorem slotAt_dropC {n : Nat} {S : StS} (hn : (S.ps.map (·.f)).Nodup) (h8 : ∀ p ∈ S.ps, p.s.length = 8) (g f i : Int) : slotAt (dropC n S g).ps f i = (slotAt S.ps f i).map fun y => if f = g ∨ (y.kd = 1 ∧ y.to = g) then clr y else y := by
  unfold dropC
  rw [slotAt_clearN, slotAt_clearL]
  cases hs : slotAt S.ps f i with
  | none => simp
  | some y =>
    have hr := slotAt_range hs
    have hm : (f, i) ∈ toldL 1 g (allS S.ps) ↔ y.kd = 1 ∧ y.to = g := by
      rw [toldL_mem hn h8]
      constructor
      · rintro ⟨z, hz, h1, h2⟩
        rw [hs] at hz
        injection hz with hz
        rw [hz]
        exact ⟨h1, h2⟩
      · rintro ⟨h1, h2⟩
        exact ⟨y, hs, h1, h2⟩
    have hb : (if (f, i) ∈ toldL 1 g (allS S.ps) then (some y).map clr else some y) = some (if y.kd = 1 ∧ y.to = g then clr y else y) := by
      by_cases e2 : (f, i) ∈ toldL 1 g (allS S.ps)
      · rw [if_pos e2, if_pos (hm.1 e2)]; rfl
      · rw [if_neg e2, if_neg (fun h => e2 (hm.2 h))]
    rw [hb]
    by_cases e1 : f = g
    · rw [if_pos ⟨e1, hr.1, by omega⟩]
      simp only [Option.map]
      rw [if_pos (Or.inl e1)]
      split
      · rw [clr_clr]
      · rfl
    · rw [if_neg (fun h => e1 h.1)]
      simp only [Option.map]
      congr 1
      by_cases e3 : y.kd = 1 ∧ y.to = g
      · rw [if_pos e3, if_pos (Or.inr e3)]
      · rw [if_neg e3, if_neg (fun h => h.elim e1 e3)]
theorem pageAt_filter (ps : List PageS) (g f : Int) : pageAt (ps.filter fun p => p.f != g) f = if f = g then none else pageAt ps f := by
  unfold pageAt
  rw [List.find?_filter]
  by_cases e : f = g
  · subst e
    rw [if_pos rfl, List.find?_eq_none]
    intro p _
    simp
  · rw [if_neg e]
    congr 1
    funext p
    by_cases h : p.f = f
    · simp [h, e]
    · simp [h]
theorem slotAt_drop {n : Nat} {S : StS} (hn : (S.ps.map (·.f)).Nodup) (h8 : ∀ p ∈ S.ps, p.s.length = 8) {g : Int} (hd : dropB S g = true) (f i : Int) : slotAt (dropS n S g).ps f i = if f = g then none else (slotAt S.ps f i).map fun y => if y.kd = 1 ∧ y.to = g then clr y else y := by
  have hs : dropS n S g = ⟨(dropC n S g).W, (dropC n S g).F ++ [g], (dropC n S g).ps.filter fun p => p.f != g⟩ := by unfold dropS; rw [if_pos hd]
  have hdc := slotAt_dropC (n := n) hn h8 g f i
  rw [hs]
  generalize dropC n S g = T at *
  have h1 : slotAt (T.ps.filter fun p => p.f != g) f i = if f = g then none else slotAt T.ps f i := by
    unfold slotAt
    rw [pageAt_filter]
    by_cases e : f = g
    · rw [if_pos e, if_pos e]
    · rw [if_neg e, if_neg e]
  show slotAt (T.ps.filter fun p => p.f != g) f i = _
  rw [h1]
  by_cases e : f = g
  · rw [if_pos e, if_pos e]
  · rw [if_neg e, if_neg e, hdc]
    congr 1
    funext y
    simp [e]
theorem keyAt_clear (n : Nat) (S : StS) (g j f : Int) : keyAt (clearS n S g j).ps f = keyAt S.ps f := by
  unfold clearS putS
  split
  · exact keyAt_set _ _ _ _ _
  · rfl
theorem isPage_clear (n : Nat) (S : StS) (g j f : Int) : (pageAt (clearS n S g j).ps f).isSome = (pageAt S.ps f).isSome := by
  unfold clearS putS
  split
  · exact isPage_set _ _ _ _ _
  · rfl
theorem keyAt_dropC (n : Nat) (S : StS) (g f : Int) : keyAt (dropC n S g).ps f = keyAt S.ps f := dropC_inv (Q := fun T => keyAt T.ps f = keyAt S.ps f) (fun T a i h => by rw [keyAt_clear]; exact h) S g rfl
theorem isPage_dropC (n : Nat) (S : StS) (g f : Int) : (pageAt (dropC n S g).ps f).isSome = (pageAt S.ps f).isSome := dropC_inv (Q := fun T => (pageAt T.ps f).isSome = (pageAt S.ps f).isSome) (fun T a i h => by rw [isPage_clear]; exact h) S g rfl
theorem keyAt_drop {n : Nat} {S : StS} {g : Int} (hd : dropB S g = true) {f : Int} (hf : f ≠ g) : keyAt (dropS n S g).ps f = keyAt S.ps f := by
  have h := keyAt_dropC n S g f
  unfold dropS
  rw [if_pos hd, ← h]
  generalize dropC n S g = T at *
  show keyAt (T.ps.filter fun p => p.f != g) f = _
  unfold keyAt
  rw [pageAt_filter, if_neg hf]
theorem isPage_drop {n : Nat} {S : StS} {g : Int} (hd : dropB S g = true) (f : Int) : (pageAt (dropS n S g).ps f).isSome = (decide (f ≠ g) && (pageAt S.ps f).isSome) := by
  have h := isPage_dropC n S g f
  unfold dropS
  rw [if_pos hd, ← h]
  generalize dropC n S g = T at *
  show (pageAt (T.ps.filter fun p => p.f != g) f).isSome = _
  rw [pageAt_filter]
  by_cases e : f = g
  · rw [if_pos e]; simp [e]
  · rw [if_neg e]; simp [e]

/-! ### a page more -/
theorem pageAt_more {ps : List PageS} {p : PageS} (h : p.f ∉ ps.map (·.f)) (f : Int) : pageAt (ps ++ [p]) f = if f = p.f then some p else pageAt ps f := by
  unfold pageAt
  rw [List.find?_append]
  by_cases e : f = p.f
  · subst e
    have := pageAt_none h
    unfold pageAt at this
    rw [this, if_pos rfl]
    simp
  · rw [if_neg e]
    have : (p.f == f) = false := by rw [beq_eq_false_iff_ne]; exact fun h => e h.symm
    simp [this]
theorem slotAt_more {ps : List PageS} {g : Int} {k : KeyS} (h : g ∉ ps.map (·.f)) (f i : Int) : slotAt (ps ++ [newPg g k]) f i = if f = g then (if 0 ≤ i ∧ i < 8 then some slotZ else none) else slotAt ps f i := by
  unfold slotAt
  rw [pageAt_more (p := newPg g k) h]
  by_cases e : f = g
  · rw [if_pos e, if_pos (show f = (newPg g k).f from e)]
    dsimp only
    by_cases hi : 0 ≤ i ∧ i < 8
    · rw [if_pos hi, if_pos hi]
      show (List.replicate 8 slotZ)[i.toNat]? = some slotZ
      rw [List.getElem?_replicate, if_pos (by omega)]
    · rw [if_neg hi, if_neg hi]
  · rw [if_neg e, if_neg (show ¬ f = (newPg g k).f from e)]
/-- What making does. -/
theorem make_yes {n : Nat} {first many : Int} {S : StS} (hP : StoP n first many S.F S.ps) {k : KeyS} (h : makeB S k = true) :
    findK S.ps k = none ∧ rightK k ∧ takeB S.F = true ∧ makeS n S k = ⟨fillW S.W n (takeV S.F) (List.replicate 8 0), S.F.dropLast, S.ps ++ [newPg (takeV S.F) k]⟩ ∧ takeV S.F ∉ S.ps.map (·.f) ∧ first ≤ takeV S.F ∧ takeV S.F < first + many := by
  have h0 := h
  unfold makeB at h
  simp only [Bool.and_eq_true, Option.isNone_iff_eq_none, decide_eq_true_eq] at h
  have hm := takeV_mem h.2
  refine ⟨h.1.1, h.1.2, h.2, ?_, ?_, (hP.ff.rg _ hm).1, (hP.ff.rg _ hm).2⟩
  · unfold makeS
    rw [if_pos h0]
    rfl
  · intro hx
    obtain ⟨p, hp, e⟩ := List.mem_map.1 hx
    exact hP.df p hp (by rw [e]; exact hm)

/-- All is as it may be. -/
def okS (n : Nat) (first many : Int) (S : StS) : Prop := StoP n first many S.F S.ps
theorem okS_clear {n : Nat} {first many : Int} {S : StS} (h : okS n first many S) (f i : Int) : okS n first many (clearS n S f i) := by
  unfold clearS putS
  split
  · exact StoP.put h f i.toNat slotZ
  · exact h
theorem okS_put {n : Nat} {first many : Int} {S : StS} (h : okS n first many S) (f i h' : Int) (y : SlotS) : okS n first many (putS n S f i y h') := StoP.put h f i.toNat y
theorem okS_drop {n : Nat} {first many : Int} {S : StS} (h : okS n first many S) (f : Int) : okS n first many (dropS n S f) := by
  have h2 : okS n first many (dropC n S f) := dropC_inv (Q := okS n first many) (fun T g i hT => okS_clear hT g i) S f h
  have h3 := dropC_f n S f
  unfold dropS
  by_cases hd : dropB S f = true
  · rw [if_pos hd]
    generalize dropC n S f = T at *
    have hf : f ∈ T.ps.map (·.f) := by rw [h3]; exact pageAt_some hd
    obtain ⟨p, hp, rfl⟩ := List.mem_map.1 hf
    obtain ⟨k, hk⟩ := List.mem_iff_getElem?.1 hp
    have h4 := StoP.drop h2 hk
    rw [erase_filter h2.nd hk] at h4
    exact h4
  · rw [if_neg hd]
    exact h
theorem okS_play {n : Nat} {first many : Int} {S : StS} (h : okS n first many S) (o : OpS) : okS n first many (playS n S o) := by
  refine play_keep o h (fun k hk => ?_) (fun f i c r hc => ?_) (fun f i g h' r hl => ?_) (fun f i hx => okS_clear h f i) (fun f hd => okS_drop h f)
  · obtain ⟨h1, h2, h3, h4, _⟩ := make_yes h hk
    rw [h4]
    exact StoP.make h h1 h2 h3
  · unfold childS; rw [if_pos hc]; exact okS_put h _ _ _ _
  · unfold leafS; rw [if_pos hl]; exact okS_put h _ _ _ _

end Go.Proofs.Yteeapkndappnoaa
