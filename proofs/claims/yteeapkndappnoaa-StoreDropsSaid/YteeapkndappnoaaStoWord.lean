/-
  The plain side of chapter 14: words of frames, and slots.
-/
import Derived.Test.YteeapkndappnoaaStoInv
namespace Go.Proofs.Yteeapkndappnoaa
open Go.RowKit
set_option linter.unusedVariables false
set_option linter.unusedSimpArgs false

theorem wat_inj {n : Nat} {f i g j : Int} (h1 : wok n f i) (h2 : wok n g j) (h : wat f i = wat g j) : f = g ∧ i = j := by
  obtain ⟨a1, a2, a3, a4⟩ := h1
  obtain ⟨b1, b2, b3, b4⟩ := h2
  unfold wat at h
  omega
theorem setW_at {W : List Int} {n : Nat} (hW : W.length = n * 8) {g j : Int} (v : Int) {f i : Int} (hf : wok n f i) : (setW W n g j v).getD (wat f i) 0 = if f = g ∧ i = j then v else W.getD (wat f i) 0 := by
  unfold setW
  by_cases hw : wok n g j
  · rw [if_pos hw]
    have hl := wat_lt hw
    simp only [List.getD_eq_getElem?_getD, List.getElem?_set]
    by_cases e : wat g j = wat f i
    · obtain ⟨rfl, rfl⟩ := wat_inj hw hf e
      rw [if_pos rfl, if_pos (by omega), if_pos ⟨rfl, rfl⟩]
      rfl
    · rw [if_neg e, if_neg (by rintro ⟨rfl, rfl⟩; exact e rfl)]
  · rw [if_neg hw, if_neg (by rintro ⟨rfl, rfl⟩; exact hw hf)]
theorem setW_len (W : List Int) (n : Nat) (g j v : Int) : (setW W n g j v).length = W.length := by unfold setW; split <;> simp
theorem fillW_len {W : List Int} {n : Nat} (hW : W.length = n * 8) (g : Int) (l : List Int) : (fillW W n g l).length = W.length := by
  unfold fillW
  split
  · rename_i h
    have h3 := h.2.2
    simp only [List.length_append, List.length_take, List.length_drop, h3]
    omega
  · rfl
theorem fillW_at {W : List Int} {n : Nat} (hW : W.length = n * 8) {g : Int} {f i : Int} (hf : wok n f i) : (fillW W n g (List.replicate 8 0)).getD (wat f i) 0 = if f = g then 0 else W.getD (wat f i) 0 := by
  obtain ⟨a1, a2, a3, a4⟩ := hf
  unfold fillW
  by_cases hg : 0 ≤ g ∧ g < n ∧ (List.replicate 8 (0 : Int)).length = 8
  · rw [if_pos hg]
    obtain ⟨b1, b2, _⟩ := hg
    have ht : (W.take (g.toNat * 8)).length = g.toNat * 8 := by rw [List.length_take]; omega
    simp only [List.getD_eq_getElem?_getD, wat]
    rw [List.append_assoc]
    by_cases h1 : f.toNat * 8 + i.toNat < g.toNat * 8
    · rw [List.getElem?_append_left (by omega), List.getElem?_take_of_lt h1, if_neg (by omega)]
    · rw [List.getElem?_append_right (by omega), ht]
      by_cases h2 : f.toNat * 8 + i.toNat - g.toNat * 8 < 8
      · rw [List.getElem?_append_left (by simp; omega), List.getElem?_replicate, if_pos h2, if_pos (by omega)]
        rfl
      · rw [List.getElem?_append_right (by simp; omega), List.getElem?_drop, if_neg (by omega)]
        congr 2
        simp
        omega
  · rw [if_neg hg]
    by_cases e : f = g
    · exfalso
      apply hg
      refine ⟨?_, ?_, by simp⟩ <;> omega
    · rw [if_neg e]
/-- Two memories have the same frame, if its words are. -/
theorem frameW_same {W V : List Int} {n : Nat} (hW : W.length = n * 8) (hV : V.length = n * 8) {f : Nat} (h : ∀ i : Nat, i < 8 → f < n → W.getD (wat (f : Int) (i : Int)) 0 = V.getD (wat (f : Int) (i : Int)) 0) : frameW W n f = frameW V n f := by
  unfold frameW
  by_cases hf : 0 ≤ (f : Int) ∧ (f : Int) < n
  · rw [if_pos hf, if_pos hf]
    have hfn : f < n := by omega
    refine List.ext_getElem? fun i => ?_
    simp only [Int.toNat_natCast, List.getElem?_take, List.getElem?_drop]
    by_cases hi : i < 8
    · rw [if_pos hi, if_pos hi]
      have := h i hi hfn
      unfold wat at this
      simp only [Int.toNat_natCast, List.getD_eq_getElem?_getD] at this
      rw [List.getElem?_eq_getElem (by omega), List.getElem?_eq_getElem (by omega)] at this ⊢
      simpa using this
    · rw [if_neg hi, if_neg hi]
  · rw [if_neg hf, if_neg hf]

/-- A slot, and its word. -/
def SlotW (n : Nat) (y : SlotS) (V : Int) : Prop := (y = slotZ ∧ V = 0) ∨ ((y.kd = 1 ∨ y.kd = 2) ∧ ∃ h : Int, 0 ≤ h ∧ h < n ∧ V = (putN (pteOf y h) : Int) ∧ (y.kd = 1 → h = y.to))
structure WordI (n : Nat) (S : StS) : Prop where
  len : S.W.length = n * 8
  at_ : ∀ f i y, slotAt S.ps f i = some y → SlotW n y (S.W.getD (wat f i) 0)
theorem slot_wok {n : Nat} {first many : Int} {S : StS} (h : okS n first many S) {f i : Int} {y : SlotS} (hs : slotAt S.ps f i = some y) : wok n f i := by
  have hr := slotAt_range hs
  obtain ⟨p, hp, _⟩ := slotAt_page hs
  obtain ⟨hm, rfl⟩ := pageAt_mem hp
  have h1 := h.rg p hm
  have h2 := h.hn
  have h3 := h.ff.a1
  refine ⟨?_, ?_, ?_, ?_⟩ <;> omega
theorem wordI_put {n : Nat} {first many : Int} {S : StS} (h : okS n first many S) (hI : WordI n S) {g j h' : Int} {y : SlotS} (hs : (slotAt S.ps g j).isSome = true) (hy : SlotW n y (wordOf y h')) : WordI n (putS n S g j y h') := by
  obtain ⟨x, hx⟩ := Option.isSome_iff_exists.1 hs
  refine ⟨by show (setW S.W n g j (wordOf y h')).length = _; rw [setW_len]; exact hI.len, fun f i z hz => ?_⟩
  have hz : slotAt (setSlot S.ps g j.toNat y) f i = some z := hz
  show SlotW n z ((setW S.W n g j (wordOf y h')).getD (wat f i) 0)
  rw [slotAt_set hs] at hz
  by_cases e : f = g ∧ i = j
  · rw [if_pos e] at hz
    injection hz with hz
    subst hz
    obtain ⟨rfl, rfl⟩ := e
    rw [setW_at hI.len _ (slot_wok h hx), if_pos ⟨rfl, rfl⟩]
    exact hy
  · rw [if_neg e] at hz
    rw [setW_at hI.len _ (slot_wok h hz), if_neg e]
    exact hI.at_ f i z hz
theorem wordOf_child {n : Nat} {h : Int} {y : SlotS} (hy : y.kd = 1 ∨ y.kd = 2) (h0 : 0 ≤ h) (h1 : h < n) (hn : n ≤ 1000) (hc : y.kd = 1 → h = y.to) : SlotW n y (wordOf y h) := by
  refine .inr ⟨hy, h, h0, h1, ?_, hc⟩
  unfold wordOf
  rw [if_neg (by omega), if_pos]
  rw [putOk_iff]
  exact ⟨rfl, h0, by show h < 1048576; omega⟩
theorem wordOf_Z (n : Nat) : SlotW n slotZ (wordOf slotZ 0) := .inl ⟨rfl, rfl⟩
theorem clear_put {n : Nat} {S : StS} {f i : Int} (h : clearB S f i = true) : clearS n S f i = putS n S f i slotZ 0 ∧ (slotAt S.ps f i).isSome = true := by
  refine ⟨by unfold clearS; rw [if_pos h], ?_⟩
  unfold clearB at h
  cases hq : slotAt S.ps f i with
  | none => rw [hq] at h; cases h
  | some x => rfl
theorem wordI_clear {n : Nat} {first many : Int} {S : StS} (h : okS n first many S) (hI : WordI n S) (f i : Int) : WordI n (clearS n S f i) := by
  by_cases hc : clearB S f i = true
  · obtain ⟨h1, h2⟩ := clear_put (n := n) hc
    rw [h1]
    exact wordI_put h hI h2 (wordOf_Z n)
  · unfold clearS
    rw [if_neg hc]
    exact hI
theorem slotAt_filter (ps : List PageS) (g f i : Int) : slotAt (ps.filter fun p => p.f != g) f i = if f = g then none else slotAt ps f i := by
  unfold slotAt
  rw [pageAt_filter]
  by_cases e : f = g
  · rw [if_pos e, if_pos e]
  · rw [if_neg e, if_neg e]
theorem page_range {n : Nat} {first many : Int} {S : StS} (h : okS n first many S) {c : Int} (hc : (pageAt S.ps c).isSome = true) : first ≤ c ∧ c < first + many ∧ 0 ≤ c ∧ c < n := by
  obtain ⟨p, hp⟩ := Option.isSome_iff_exists.1 hc
  obtain ⟨hm, rfl⟩ := pageAt_mem hp
  have h1 := h.rg p hm
  have h2 := h.hn
  have h3 := h.ff.a1
  refine ⟨?_, ?_, ?_, ?_⟩ <;> omega
theorem child_put {n : Nat} {S : StS} {f i c : Int} (r : Bool × Bool × Bool) (h : childB S f i c = true) : childS n S f i c r = putS n S f i ⟨1, c, r.1, r.2.1, r.2.2⟩ c ∧ (slotAt S.ps f i).isSome = true ∧ (pageAt S.ps c).isSome = true ∧ (keyAt S.ps c).lv = (keyAt S.ps f).lv - 1 := by
  refine ⟨by unfold childS; rw [if_pos h], ?_⟩
  unfold childB at h
  simp only [Bool.and_eq_true, decide_eq_true_eq] at h
  exact ⟨h.1.1, h.1.2, h.2⟩
theorem leaf_put {n : Nat} {S : StS} {f i g h' : Int} (r : Bool × Bool × Bool) (h : leafB n S f i h' = true) : leafS n S f i g h' r = putS n S f i ⟨2, g, r.1, r.2.1, r.2.2⟩ h' ∧ (slotAt S.ps f i).isSome = true ∧ (keyAt S.ps f).lv = 1 ∧ 0 ≤ h' ∧ h' < n := by
  refine ⟨by unfold leafS; rw [if_pos h], ?_⟩
  unfold leafB at h
  simp only [Bool.and_eq_true, decide_eq_true_eq] at h
  exact ⟨h.1.1.1, h.1.1.2, h.1.2, h.2⟩
theorem wordI_play {n : Nat} {first many : Int} (hn : n ≤ 1000) {S : StS} (h : okS n first many S) (hI : WordI n S) (o : OpS) : WordI n (playS n S o) := by
  refine play_keep o hI (fun k hk => ?_) (fun f i c r hc => ?_) (fun f i g h' r hl => ?_) (fun f i _ => wordI_clear h hI f i) (fun g hd => ?_)
  · obtain ⟨h1, h2, h3, h4, h5, h6, h7⟩ := make_yes h hk
    rw [h4]
    refine ⟨by show (fillW _ _ _ _).length = _; rw [fillW_len hI.len]; exact hI.len, fun f i z hz => ?_⟩
    have hz : slotAt (S.ps ++ [newPg (takeV S.F) k]) f i = some z := hz
    show SlotW n z ((fillW S.W n (takeV S.F) (List.replicate 8 0)).getD (wat f i) 0)
    rw [slotAt_more h5] at hz
    by_cases e : f = takeV S.F
    · rw [if_pos e] at hz
      have hnr := h.hn
      have ha1 := h.ff.a1
      by_cases hi : 0 ≤ i ∧ i < 8
      · rw [if_pos hi] at hz
        injection hz with hz
        subst hz
        rw [fillW_at hI.len (by refine ⟨?_, ?_, ?_, ?_⟩ <;> omega), if_pos e]
        exact .inl ⟨rfl, rfl⟩
      · rw [if_neg hi] at hz
        cases hz
    · rw [if_neg e] at hz
      rw [fillW_at hI.len (slot_wok h hz), if_neg e]
      exact hI.at_ f i z hz
  · obtain ⟨h1, h2, h3, h4⟩ := child_put (n := n) r hc
    obtain ⟨_, _, h5, h6⟩ := page_range h h3
    rw [h1]
    exact wordI_put h hI h2 (wordOf_child (.inl rfl) h5 h6 hn (fun _ => rfl))
  · obtain ⟨h1, h2, h3, h4, h5⟩ := leaf_put (n := n) (g := g) r hl
    rw [h1]
    exact wordI_put h hI h2 (wordOf_child (.inr rfl) h4 h5 hn (fun e => absurd (show (2 : Int) = 1 from e) (by decide)))
  · have hdc : okS n first many (dropC n S g) ∧ WordI n (dropC n S g) := dropC_inv (Q := fun T => okS n first many T ∧ WordI n T) (fun T a b hT => ⟨okS_clear hT.1 a b, wordI_clear hT.1 hT.2 a b⟩) S g ⟨h, hI⟩
    unfold dropS
    rw [if_pos hd]
    generalize dropC n S g = T at *
    refine ⟨hdc.2.len, fun f i z hz => ?_⟩
    have hz : slotAt (T.ps.filter fun p => p.f != g) f i = some z := hz
    rw [slotAt_filter] at hz
    by_cases e : f = g
    · rw [if_pos e] at hz; cases hz
    · rw [if_neg e] at hz
      exact hdc.2.at_ f i z hz

/-- No frame is changed but a page's. -/
structure OutI (n : Nat) (first many : Int) (W0 : List Int) (S : StS) : Prop where
  len : S.W.length = n * 8
  at_ : ∀ f i, wok n f i → ¬ (first ≤ f ∧ f < first + many) → S.W.getD (wat f i) 0 = W0.getD (wat f i) 0
theorem outI_put {n : Nat} {first many : Int} {W0 : List Int} {S : StS} (h : okS n first many S) (hI : OutI n first many W0 S) {g j h' : Int} {y : SlotS} (hs : (slotAt S.ps g j).isSome = true) : OutI n first many W0 (putS n S g j y h') := by
  have hg := page_range h (slotAt_key (Option.isSome_iff_exists.1 hs).choose_spec)
  refine ⟨by show (setW S.W n g j (wordOf y h')).length = _; rw [setW_len]; exact hI.len, fun f i hw hf => ?_⟩
  show (setW S.W n g j (wordOf y h')).getD (wat f i) 0 = _
  rw [setW_at hI.len _ hw, if_neg (by rintro ⟨rfl, _⟩; exact hf ⟨hg.1, hg.2.1⟩)]
  exact hI.at_ f i hw hf
theorem outI_clear {n : Nat} {first many : Int} {W0 : List Int} {S : StS} (h : okS n first many S) (hI : OutI n first many W0 S) (f i : Int) : OutI n first many W0 (clearS n S f i) := by
  by_cases hc : clearB S f i = true
  · obtain ⟨h1, h2⟩ := clear_put (n := n) hc
    rw [h1]
    exact outI_put h hI h2
  · unfold clearS
    rw [if_neg hc]
    exact hI
theorem outI_play {n : Nat} {first many : Int} {W0 : List Int} {S : StS} (h : okS n first many S) (hI : OutI n first many W0 S) (o : OpS) : OutI n first many W0 (playS n S o) := by
  refine play_keep o hI (fun k hk => ?_) (fun f i c r hc => ?_) (fun f i g h' r hl => ?_) (fun f i _ => outI_clear h hI f i) (fun g hd => ?_)
  · obtain ⟨h1, h2, h3, h4, h5, h6, h7⟩ := make_yes h hk
    rw [h4]
    refine ⟨by show (fillW _ _ _ _).length = _; rw [fillW_len hI.len]; exact hI.len, fun f i hw hf => ?_⟩
    show (fillW S.W n (takeV S.F) (List.replicate 8 0)).getD (wat f i) 0 = _
    rw [fillW_at hI.len hw, if_neg (by rintro rfl; exact hf ⟨h6, h7⟩)]
    exact hI.at_ f i hw hf
  · obtain ⟨h1, h2, _⟩ := child_put (n := n) r hc
    rw [h1]
    exact outI_put h hI h2
  · obtain ⟨h1, h2, _⟩ := leaf_put (n := n) (g := g) r hl
    rw [h1]
    exact outI_put h hI h2
  · have hdc : okS n first many (dropC n S g) ∧ OutI n first many W0 (dropC n S g) := dropC_inv (Q := fun T => okS n first many T ∧ OutI n first many W0 T) (fun T a b hT => ⟨okS_clear hT.1 a b, outI_clear hT.1 hT.2 a b⟩) S g ⟨h, hI⟩
    unfold dropS
    rw [if_pos hd]
    generalize dropC n S g = T at *
    exact ⟨hdc.2.len, hdc.2.at_⟩

/-- A child is a page of the next lower level; a leaf is of the lowest one. -/
def LinkI (S : StS) : Prop := ∀ f i y, slotAt S.ps f i = some y → (y.kd = 1 → (pageAt S.ps y.to).isSome = true ∧ (keyAt S.ps y.to).lv = (keyAt S.ps f).lv - 1) ∧ (y.kd = 2 → (keyAt S.ps f).lv = 1)
theorem linkI_put {n : Nat} {S : StS} (hI : LinkI S) {g j h' : Int} {y : SlotS} (hs : (slotAt S.ps g j).isSome = true) (hy : (y.kd = 1 → (pageAt S.ps y.to).isSome = true ∧ (keyAt S.ps y.to).lv = (keyAt S.ps g).lv - 1) ∧ (y.kd = 2 → (keyAt S.ps g).lv = 1)) : LinkI (putS n S g j y h') := by
  intro f i z hz
  have hz : slotAt (setSlot S.ps g j.toNat y) f i = some z := hz
  show (z.kd = 1 → (pageAt (setSlot S.ps g j.toNat y) z.to).isSome = true ∧ (keyAt (setSlot S.ps g j.toNat y) z.to).lv = (keyAt (setSlot S.ps g j.toNat y) f).lv - 1) ∧ (z.kd = 2 → (keyAt (setSlot S.ps g j.toNat y) f).lv = 1)
  rw [isPage_set, keyAt_set, keyAt_set]
  rw [slotAt_set hs] at hz
  by_cases e : f = g ∧ i = j
  · rw [if_pos e] at hz
    injection hz with hz
    subst hz
    rw [e.1]
    exact hy
  · rw [if_neg e] at hz
    exact hI f i z hz
theorem slotZ_kd : slotZ.kd = 0 := rfl
theorem linkI_clear {n : Nat} {S : StS} (hI : LinkI S) (f i : Int) : LinkI (clearS n S f i) := by
  by_cases hc : clearB S f i = true
  · obtain ⟨h1, h2⟩ := clear_put (n := n) hc
    rw [h1]
    exact linkI_put hI h2 ⟨fun e => absurd (show (0 : Int) = 1 from e) (by decide), fun e => absurd (show (0 : Int) = 2 from e) (by decide)⟩
  · unfold clearS
    rw [if_neg hc]
    exact hI
theorem keyAt_more {ps : List PageS} {p : PageS} (h : p.f ∉ ps.map (·.f)) {f : Int} (hf : f ≠ p.f) : keyAt (ps ++ [p]) f = keyAt ps f := by
  unfold keyAt
  rw [pageAt_more h, if_neg hf]
theorem linkI_play {n : Nat} {first many : Int} {S : StS} (h : okS n first many S) (hI : LinkI S) (o : OpS) : LinkI (playS n S o) := by
  refine play_keep o hI (fun k hk => ?_) (fun f i c r hc => ?_) (fun f i g h' r hl => ?_) (fun f i _ => linkI_clear hI f i) (fun g hd => ?_)
  · obtain ⟨h1, h2, h3, h4, h5, h6, h7⟩ := make_yes h hk
    rw [h4]
    intro f i z hz
    have hz : slotAt (S.ps ++ [newPg (takeV S.F) k]) f i = some z := hz
    show (z.kd = 1 → (pageAt (S.ps ++ [newPg (takeV S.F) k]) z.to).isSome = true ∧ (keyAt (S.ps ++ [newPg (takeV S.F) k]) z.to).lv = (keyAt (S.ps ++ [newPg (takeV S.F) k]) f).lv - 1) ∧ (z.kd = 2 → (keyAt (S.ps ++ [newPg (takeV S.F) k]) f).lv = 1)
    rw [slotAt_more h5] at hz
    by_cases e : f = takeV S.F
    · rw [if_pos e] at hz
      split at hz
      · injection hz with hz
        subst hz
        exact ⟨fun e => absurd (show (0 : Int) = 1 from e) (by decide), fun e => absurd (show (0 : Int) = 2 from e) (by decide)⟩
      · cases hz
    · rw [if_neg e] at hz
      have hf := keyAt_more (p := newPg (takeV S.F) k) h5 (f := f) e
      rw [hf]
      obtain ⟨q1, q2⟩ := hI f i z hz
      refine ⟨fun hk1 => ?_, q2⟩
      obtain ⟨q3, q4⟩ := q1 hk1
      have hne : z.to ≠ takeV S.F := by
        rintro e2
        exact h5 (by rw [← e2]; exact pageAt_some q3)
      rw [keyAt_more (p := newPg (takeV S.F) k) h5 hne, pageAt_more (p := newPg (takeV S.F) k) h5, if_neg (show ¬ z.to = (newPg (takeV S.F) k).f from hne)]
      exact ⟨q3, q4⟩
  · obtain ⟨h1, h2, h3, h4⟩ := child_put (n := n) r hc
    rw [h1]
    exact linkI_put hI h2 ⟨fun _ => ⟨h3, h4⟩, fun e => absurd (show (1 : Int) = 2 from e) (by decide)⟩
  · obtain ⟨h1, h2, h3, h4, h5⟩ := leaf_put (n := n) (g := g) r hl
    rw [h1]
    exact linkI_put hI h2 ⟨fun e => absurd (show (2 : Int) = 1 from e) (by decide), fun _ => h3⟩
  · intro f i z hz
    rw [slotAt_drop h.nd h.s8 hd] at hz
    by_cases e : f = g
    · rw [if_pos e] at hz; cases hz
    · rw [if_neg e] at hz
      obtain ⟨y, hy, hzy⟩ := Option.map_eq_some_iff.1 hz
      rw [keyAt_drop hd e]
      by_cases ec : y.kd = 1 ∧ y.to = g
      · rw [if_pos ec] at hzy
        have hk : ¬ y.kd = 0 := by omega
        have : z = slotZ := by rw [← hzy]; unfold clr; rw [if_neg hk]
        subst this
        exact ⟨fun e => absurd (show (0 : Int) = 1 from e) (by decide), fun e => absurd (show (0 : Int) = 2 from e) (by decide)⟩
      · rw [if_neg ec] at hzy
        subst hzy
        obtain ⟨q1, q2⟩ := hI f i y hy
        refine ⟨fun hk1 => ?_, q2⟩
        obtain ⟨q3, q4⟩ := q1 hk1
        have hne : y.to ≠ g := fun e2 => ec ⟨hk1, e2⟩
        rw [isPage_drop hd, keyAt_drop hd hne]
        exact ⟨by simp [hne, q3], q4⟩

/-- All that is always so, behind any calls. -/
theorem run_all {n : Nat} {first many : Int} (hn : n ≤ 1000) {S0 : StS} (W0 : List Int) (l : List OpS) (h0 : okS n first many S0) (h1 : WordI n S0) (h2 : OutI n first many W0 S0) (h3 : LinkI S0) :
    okS n first many (runS n S0 l) ∧ WordI n (runS n S0 l) ∧ OutI n first many W0 (runS n S0 l) ∧ LinkI (runS n S0 l) :=
  run_inv (Q := fun S => okS n first many S ∧ WordI n S ∧ OutI n first many W0 S ∧ LinkI S) (fun S o h => ⟨okS_play h.1 o, wordI_play hn h.1 h.2.1 o, outI_play h.1 h.2.2.1 o, linkI_play h.1 h.2.2.2 o⟩) l S0 ⟨h0, h1, h2, h3⟩
theorem slotAt_nil (f i : Int) : slotAt [] f i = none := rfl
theorem run_new {n : Nat} {first many : Int} (hn : n ≤ 1000) {W : List Int} (hW : W.length = n * 8) (h : newP n first many) (l : List OpS) :
    okS n first many (runS n ⟨W, freshL first many 0, []⟩ l) ∧ WordI n (runS n ⟨W, freshL first many 0, []⟩ l) ∧ OutI n first many W (runS n ⟨W, freshL first many 0, []⟩ l) ∧ LinkI (runS n ⟨W, freshL first many 0, []⟩ l) :=
  run_all hn W l (StoP.new h (FreeFits.fresh first many h.1 h.2.1 h.2.2.1 h.2.2.2.1)) ⟨hW, fun f i y hy => by cases hy⟩ ⟨hW, fun f i _ _ => rfl⟩ (fun f i y hy => by cases hy)

end Go.Proofs.Yteeapkndappnoaa
