/-
  A guest's memory: the plain laws.
-/
import Derived.Test.YtlkjccchlmhchaaGuestHead
namespace Go.Proofs.Ytlkjccchlmhchaa
open Go.RowKit
set_option linter.unusedVariables false
set_option linter.unusedSimpArgs false

theorem fillW_get {W : List Int} {n p : Nat} (hW : W.length = n * 8) (hp : p < n) {ws : List Int} (hws : ws.length = 8) (i : Nat) : (fillW W n p ws)[i]? = if p * 8 ≤ i ∧ i < p * 8 + 8 then ws[i - p * 8]? else W[i]? := by
  unfold fillW
  rw [if_pos ⟨by omega, by omega, hws⟩]
  simp only [Int.toNat_natCast]
  by_cases h1 : i < p * 8
  · rw [if_neg (by omega), List.append_assoc, List.getElem?_append_left (by simp; omega), List.getElem?_take_of_lt h1]
  · by_cases h2 : i < p * 8 + 8
    · rw [if_pos ⟨by omega, h2⟩, List.append_assoc, List.getElem?_append_right (by simp; omega), List.getElem?_append_left (by simp; omega)]
      simp
      congr 1
      omega
    · rw [if_neg (by omega), List.getElem?_append_right (by simp; omega), List.getElem?_drop]
      congr 1
      simp
      omega
theorem setW_get (W : List Int) (n p : Nat) (i v : Int) (x : Nat) : (setW W n p i v)[x]? = if wok n p i ∧ x = p * 8 + i.toNat ∧ x < W.length then some v else W[x]? := by
  have e0 : wat (p : Int) i = p * 8 + i.toNat := rfl
  unfold setW
  rw [e0]
  by_cases h : wok n p i
  · rw [if_pos h, List.getElem?_set]
    by_cases e : p * 8 + i.toNat = x
    · rw [if_pos e]
      by_cases hl : p * 8 + i.toNat < W.length
      · rw [if_pos hl, if_pos ⟨h, e.symm, by omega⟩]
      · rw [if_neg hl, if_neg (by omega), List.getElem?_eq_none (by omega)]
    · rw [if_neg e, if_neg (fun hh => e hh.2.1.symm)]
  · rw [if_neg h, if_neg (fun hh => h hh.1)]

/-- V's words are W's but in the frames of a map. -/
def Off (n : Nat) (l : List Int) (W V : List Int) : Prop := V.length = W.length ∧ ∀ p : Nat, (p : Int) ∉ l → ∀ j, j < 8 → V[p * 8 + j]? = W[p * 8 + j]?
theorem Off.refl (n : Nat) (l W : List Int) : Off n l W W := ⟨rfl, fun _ _ _ _ => rfl⟩
theorem Off.trans {n : Nat} {l U V W : List Int} (h : Off n l U V) (k : Off n l V W) : Off n l U W := ⟨k.1.trans h.1, fun p hp j hj => (k.2 p hp j hj).trans (h.2 p hp j hj)⟩
theorem off_gSet {W : List Int} {n : Nat} {l : List Int} (hl : hosts n l) (g i v : Int) : Off n l W (gSet W n l g i v) := by
  refine ⟨gSet_length .., fun p hp j hj => ?_⟩
  unfold gSet
  by_cases hg : 0 ≤ g ∧ g < l.length
  · rw [if_pos hg]
    obtain ⟨k, rfl⟩ := Int.eq_ofNat_of_zero_le hg.1
    obtain ⟨f, hf⟩ : ∃ f, l[k]? = some f := ⟨_, List.getElem?_eq_getElem (by omega)⟩
    have hm := List.mem_of_getElem? hf
    have hfn := hl f hm
    obtain ⟨q, rfl⟩ := Int.eq_ofNat_of_zero_le hfn.1
    rw [show l.getD (k : Int).toNat 0 = (q : Int) from by simp [List.getD, hf], setW_get, if_neg]
    rintro ⟨hw, e, _⟩
    obtain ⟨_, _, h3, h4⟩ := hw
    have : p = q := by omega
    exact hp (by rw [this]; exact hm)
  · rw [if_neg hg]
theorem off_gLoadK {W : List Int} {n : Nat} (hW : W.length = n * 8) {l : List Int} (hl : hosts n l) (ws : List Int) (hws : ws.length = l.length * 8) (m : Nat) (hm : m ≤ l.length) : Off n l W (gLoadK W n l ws m) := by
  induction m with
  | zero => exact Off.refl ..
  | succ m ih =>
    refine (ih (by omega)).trans ?_
    obtain ⟨f, hf⟩ : ∃ f, l[m]? = some f := ⟨_, List.getElem?_eq_getElem (by omega)⟩
    have hmm := List.mem_of_getElem? hf
    have hfn := hl f hmm
    obtain ⟨q, rfl⟩ := Int.eq_ofNat_of_zero_le hfn.1
    have hV := gLoadK_length hW l ws m
    refine ⟨(show (fillW (gLoadK W n l ws m) n _ _).length = _ from fillW_length (by omega) _ _), fun p hp j hj => ?_⟩
    show (fillW _ n _ _)[_]? = _
    rw [show l.getD m 0 = (q : Int) from by simp [List.getD, hf], fillW_get (by omega) (by omega) (by simp; omega), if_neg]
    intro h
    have : p = q := by omega
    exact hp (by rw [this]; exact hmm)
theorem off_gLoad {W : List Int} {n : Nat} (hW : W.length = n * 8) {l : List Int} (hl : hosts n l) (ws : List Int) : Off n l W (gLoad W n l ws) := by
  unfold gLoad
  by_cases h : ws.length = l.length * 8
  · rw [if_pos h]; exact off_gLoadK hW hl ws h _ (Nat.le_refl _)
  · rw [if_neg h]; exact Off.refl ..
theorem Off.frame {n : Nat} {l W V : List Int} (h : Off n l W V) {f : Int} (hf : f ∉ l) : frameW V n f = frameW W n f := by
  unfold frameW
  by_cases hr : 0 ≤ f ∧ f < n
  · rw [if_pos hr, if_pos hr]
    obtain ⟨p, rfl⟩ := Int.eq_ofNat_of_zero_le hr.1
    simp only [Int.toNat_natCast]
    refine List.ext_getElem? fun j => ?_
    by_cases hj : j < 8
    · rw [List.getElem?_take_of_lt hj, List.getElem?_take_of_lt hj, List.getElem?_drop, List.getElem?_drop]
      exact h.2 p hf j hj
    · rw [List.getElem?_eq_none (by simp; omega), List.getElem?_eq_none (by simp; omega)]
  · rw [if_neg hr, if_neg hr]
theorem Off.all {n : Nat} {l W V : List Int} (h : Off n l W V) {m : List Int} (hd : ∀ f ∈ m, f ∉ l) : gAll V n m = gAll W n m := by
  unfold gAll
  induction m with
  | nil => rfl
  | cons f m ih => rw [List.flatMap_cons, List.flatMap_cons, h.frame (hd f (by simp)), ih (fun x hx => hd x (by simp [hx]))]

/-- What is loaded is there. -/
theorem gLoadK_at {W : List Int} {n : Nat} (hW : W.length = n * 8) {l : List Int} (hl : hosts n l) (hnd : l.Nodup) (ws : List Int) (hws : ws.length = l.length * 8) (m : Nat) (hm : m ≤ l.length) {k j : Nat} (hk : k < m) (hj : j < 8) {f : Int} (hf : l[k]? = some f) : (gLoadK W n l ws m)[f.toNat * 8 + j]? = ws[k * 8 + j]? := by
  induction m with
  | zero => omega
  | succ m ih =>
    obtain ⟨f2, hf2⟩ : ∃ f2, l[m]? = some f2 := ⟨_, List.getElem?_eq_getElem (by omega)⟩
    have hfn := hl f (List.mem_of_getElem? hf)
    have hfn2 := hl f2 (List.mem_of_getElem? hf2)
    obtain ⟨q, rfl⟩ := Int.eq_ofNat_of_zero_le hfn.1
    obtain ⟨q2, rfl⟩ := Int.eq_ofNat_of_zero_le hfn2.1
    have hV := gLoadK_length hW l ws m
    show (fillW _ n _ _)[_]? = _
    rw [show l.getD m 0 = (q2 : Int) from by simp [List.getD, hf2], fillW_get (by omega) (by omega) (by simp; omega)]
    simp only [Int.toNat_natCast]
    by_cases e : k = m
    · subst e
      rw [hf] at hf2
      injection hf2 with hf2
      have : q = q2 := by omega
      subst this
      rw [if_pos (by omega), List.getElem?_take_of_lt (by omega), List.getElem?_drop]
      congr 1
      omega
    · have hne : q ≠ q2 := by
        intro h
        subst h
        obtain ⟨a1, a2⟩ := List.getElem?_eq_some_iff.1 hf
        obtain ⟨b1, b2⟩ := List.getElem?_eq_some_iff.1 hf2
        have := List.pairwise_iff_getElem.1 hnd k m a1 b1 (by omega)
        exact this (by rw [a2, b2])
      rw [if_neg (by omega)]
      exact ih (by omega) (by omega)
theorem gAll_ext {W : List Int} {n : Nat} (hW : W.length = n * 8) {l : List Int} (hl : hosts n l) {ws : List Int} (hws : ws.length = l.length * 8) (h : ∀ k j f, l[k]? = some f → j < 8 → W[f.toNat * 8 + j]? = ws[k * 8 + j]?) : gAll W n l = ws := by
  refine List.ext_getElem? fun i => ?_
  by_cases hi : i < l.length * 8
  · obtain ⟨f, hf⟩ : ∃ f, l[i / 8]? = some f := ⟨_, List.getElem?_eq_getElem (by omega)⟩
    have e : i / 8 * 8 + i % 8 = i := by omega
    have h1 := gAll_get hW hl hf (j := i % 8) (by omega)
    have h2 := h (i / 8) (i % 8) f hf (by omega)
    rw [e] at h1 h2
    rw [h1, h2]
  · rw [List.getElem?_eq_none (by rw [gAll_length hW hl]; omega), List.getElem?_eq_none (by omega)]
theorem gAll_load {W : List Int} {n : Nat} (hW : W.length = n * 8) {l : List Int} (hl : hosts n l) (hnd : l.Nodup) (ws : List Int) (hws : ws.length = l.length * 8) : gAll (gLoad W n l ws) n l = ws := by
  refine gAll_ext (by rw [gLoad_length hW]; exact hW) hl hws fun k j f hf hj => ?_
  unfold gLoad
  rw [if_pos hws]
  exact gLoadK_at hW hl hnd ws hws _ (Nat.le_refl _) (List.getElem?_eq_some_iff.1 hf).1 hj hf
/-- What is set is there, and nothing else. -/
theorem gAll_set {W : List Int} {n : Nat} (hW : W.length = n * 8) {l : List Int} (hl : hosts n l) (hnd : l.Nodup) {a b : Nat} (ha : a < l.length) (hb : b < 8) (v : Int) : gAll (gSet W n l a b v) n l = (gAll W n l).set (8 * a + b) v := by
  refine gAll_ext (by rw [gSet_length]; exact hW) hl (by simp [gAll_length hW hl]) fun k j f hf hj => ?_
  obtain ⟨f2, hf2⟩ : ∃ f2, l[a]? = some f2 := ⟨_, List.getElem?_eq_getElem ha⟩
  have hfn := hl f (List.mem_of_getElem? hf)
  have hfn2 := hl f2 (List.mem_of_getElem? hf2)
  obtain ⟨q, rfl⟩ := Int.eq_ofNat_of_zero_le hfn.1
  obtain ⟨q2, rfl⟩ := Int.eq_ofNat_of_zero_le hfn2.1
  have hkl := (List.getElem?_eq_some_iff.1 hf).1
  unfold gSet
  rw [if_pos ⟨by omega, by omega⟩, show l.getD (a : Int).toNat 0 = (q2 : Int) from by simp [List.getD, hf2], setW_get, List.getElem?_set, gAll_get hW hl hf hj]
  have hw : wok n q2 b := ⟨by omega, by omega, by omega, by omega⟩
  simp only [Int.toNat_natCast]
  by_cases e : 8 * a + b = k * 8 + j
  · have h1 : a = k := by omega
    have h2 : b = j := by omega
    subst h1 h2
    rw [hf] at hf2
    injection hf2 with hf2
    have : q = q2 := by omega
    subst this
    rw [if_pos ⟨hw, rfl, by omega⟩, if_pos e, if_pos (by rw [gAll_length hW hl]; omega)]
  · rw [if_neg, if_neg e]
    rintro ⟨_, e2, _⟩
    have h1 : q = q2 := by omega
    have h2 : j = b := by omega
    subst h1 h2
    have hak : a ≠ k := fun h => e (by omega)
    obtain ⟨a1, a2⟩ := List.getElem?_eq_some_iff.1 hf
    obtain ⟨b1, b2⟩ := List.getElem?_eq_some_iff.1 hf2
    rcases Nat.lt_or_gt_of_ne hak with h | h
    · exact List.pairwise_iff_getElem.1 hnd a k b1 a1 h (by rw [a2, b2])
    · exact List.pairwise_iff_getElem.1 hnd k a a1 b1 h (by rw [a2, b2])
theorem gGet_reverse (W : List Int) (n : Nat) (l : List Int) {g : Nat} (hg : g < l.length) (i : Int) : gGet W n l.reverse ((l.length : Int) - 1 - g) i = gGet W n l g i := by
  unfold gGet
  rw [if_pos ⟨by omega, by simp; omega⟩, if_pos ⟨by omega, by omega⟩]
  have e : ((l.length : Int) - 1 - g).toNat = l.length - 1 - g := by omega
  rw [e]
  congr 1
  have h1 : l.length - 1 - g < l.reverse.length := by simp; omega
  simp only [List.getD, Int.toNat_natCast]
  rw [List.getElem?_reverse (by omega)]
  congr 2
  omega

end Go.Proofs.Ytlkjccchlmhchaa
