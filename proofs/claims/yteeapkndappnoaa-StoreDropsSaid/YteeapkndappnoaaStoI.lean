/-
  Package store: entries are told, and cleared.
-/
import Derived.Test.YteeapkndappnoaaStoH
namespace Go.Proofs.Yteeapkndappnoaa
open Go.RowKit Go.Shelf
set_option linter.unusedVariables false
set_option linter.unusedSimpArgs false

theorem toX {w : World} {B : Nat} {A S M : Asr} {X : List Asr} (h : Has w B (A :: S :: M :: X)) : Has w B (S :: M :: A :: X) := h.perm ((List.Perm.swap _ _ _).trans (List.Perm.cons _ (List.Perm.swap _ _ _)))
theorem fromX {w : World} {B : Nat} {A S M : Asr} {X : List Asr} (h : Has w B (S :: M :: A :: X)) : Has w B (A :: S :: M :: X) := h.perm ((List.Perm.cons _ (List.Perm.swap _ _ _)).trans (List.Perm.swap _ _ _))
theorem StoA.host {sb hb n : Nat} {first many : Int} {F : List Int} {ps : List PageS} {w : World} {B : Nat} {X : List Asr} (hH : Has w B (StoA sb hb n first many F ps :: X)) : w.cell? ⟨sb, 0, none⟩ = some (.pointer (some ⟨hb, 0, none⟩)) := by
  obtain ⟨_, fb, v, q, _, _, hO⟩ := StoA.openX hH
  exact hO.cell [] _ 0 (v := ptrV hb) rfl
theorem slot_right {n : Nat} {first many : Int} {F : List Int} {ps : List PageS} (hP : StoP n first many F ps) {f i : Int} (h : (slotAt ps f i).isSome = true) : rightK (keyAt ps f) := by
  unfold slotAt at h
  unfold keyAt
  cases hp : pageAt ps f with
  | none => rw [hp] at h; cases h
  | some p => exact hP.ok p (List.mem_of_find?_eq_some hp)

/-- A slot's address: what is known of it. -/
theorem slot_closed (sb hb n : Nat) (first many : Int) (F : List Int) (ps : List PageS) (f i : Int) (w : World) (B : Nat) (X : List Asr) (hH : Has w B (StoA sb hb n first many F ps :: X)) :
    Calls Try.prog 51 #[.pointer (some ⟨sb, 0, none⟩), .int .i64 f, .int .i64 i] w fun e w' => ∃ p, e = .returned (.pointer p) ∧ ((p = none ∧ slotAt ps f i = none) ∨ ∃ b k y, p = some ⟨b, k, none⟩ ∧ slotAt ps f i = some y ∧ w'.cell? ⟨b, k, none⟩ = some (.int .i64 y.kd)) ∧ Has w' B (StoA sb hb n first many F ps :: X) ∧ Below B w w' := by
  obtain ⟨hP, fb, v, q, rfl, hl, hO⟩ := StoA.openX hH
  obtain ⟨o, ho⟩ : ∃ o, q.find? (fun x => x.2.f == f) = o := ⟨_, rfl⟩
  refine (slot_calls sb hb fb v first many F q f i o ho hl _ B _ hO).mono ?_
  rintro e w2 ⟨rfl, hH2, hB2⟩
  refine ⟨_, rfl, ?_, StoA.shut fb v q hP hH2, hB2⟩
  rcases find_slot hP f i o ho with ⟨h1, h2⟩ | ⟨x, j, k, y0, rfl, hj, hf, rfl, hk8, hy, h8, h1, h2⟩
  · exact .inl ⟨h1, h2⟩
  · refine .inr ⟨_, _, y0, h1, h2, ?_⟩
    have := (stoX_R hH2).page hj (pageC_slot hy (j := 0) (u := .int .i64 y0.kd) rfl)
    exact this

/-- All of a store, with its host's memory. -/
def staL (sb hb n : Nat) (first many : Int) (S : StS) (X : List Asr) : List Asr := StoA sb hb n first many S.F S.ps :: MemA hb n S.W :: X
theorem put_is (sb hb n : Nat) (first many : Int) (S : StS) (f i h : Int) (y : SlotS) (hs : (slotAt S.ps f i).isSome = true) (w : World) (B : Nat) (X : List Asr) (hH : Has w B (staL sb hb n first many S X)) :
    Calls Try.prog 63 #[.pointer (some ⟨sb, 0, none⟩), .int .i64 f, .int .i64 i, .agg (slotC y), .int .i64 h] w fun e w' => e = .returned (.bool true) ∧ Has w' B (staL sb hb n first many (putS n S f i y h) X) ∧ Below B w w' :=
  put_calls sb hb n first many S.F S.ps S.W f i h y hs w B X hH

set_option maxHeartbeats 1000000 in
theorem Clear_calls (sb hb n : Nat) (first many : Int) (S : StS) (f i : Int) (w : World) (B : Nat) (X : List Asr) (hH : Has w B (staL sb hb n first many S X)) :
    Calls Try.prog 30 #[.pointer (some ⟨sb, 0, none⟩), .int .i64 f, .int .i64 i] w fun e w' => e = .returned (.bool (clearB S f i)) ∧ Has w' B (staL sb hb n first many (clearS n S f i) X) ∧ Below B w w' := by
  have CS := hid (slot_closed sb hb n first many S.F S.ps f i w B _ hH)
  have zs := zeroSlot
  obtain ⟨cb, hcb⟩ : ∃ cb, clearB S f i = cb := ⟨_, rfl⟩
  have HCB := hid hcb
  rw [hcb]
  clear hH hcb
  go_enter Try.func30, Try.ntmps30
  go_wp2_with fail
  refine CS.out.mono ?_
  rintro e w2 ⟨p, rfl, ⟨rfl, h1⟩ | ⟨b, k, y, rfl, h1, c1⟩, hH2, hB2⟩
  · have hc : cb = false := by rw [← HCB.out]; unfold clearB; rw [h1]
    have hs : clearS n S f i = S := by unfold clearS; rw [HCB.out, hc]; rfl
    subst hc
    have HS := hid hs
    clear CS h1 hs
    go_wp2_with fail
    go_ret
    exact ⟨rfl, by rw [HS.out]; exact hH2, hB2⟩
  · have hv : clearB S f i = (y.kd != 0) := by unfold clearB; rw [h1]
    have h2 : (slotAt S.ps f i).isSome = true := by rw [h1]; rfl
    have H2 := hid h2
    rw [HCB.out] at hv
    by_cases hk : y.kd = 0
    · have e1 : (y.kd == 0) = true := by rw [beq_iff_eq]; exact hk
      have e2 : (y.kd != 0) = false := by simp [hk]
      have hc : cb = false := by rw [hv]; simp [hk]
      have hs : clearS n S f i = S := by unfold clearS; rw [HCB.out, hc]; rfl
      subst hc
      have HS := hid hs
      clear CS h1 hs hv hk h2
      go_wp2_with fail
      go_ret
      exact ⟨rfl, by rw [HS.out]; exact hH2, hB2⟩
    · have e1 : (y.kd == 0) = false := by rw [beq_eq_false_iff_ne]; exact hk
      have e2 : (y.kd != 0) = true := by simp [hk]
      have hc : cb = true := by rw [hv]; simp [hk]
      have hs : clearS n S f i = putS n S f i slotZ 0 := by unfold clearS; rw [HCB.out, hc]; rfl
      subst hc
      have HS := hid hs
      clear CS h1 hs hv hk h2
      go_wp2_with fail
      refine (put_is sb hb n first many S f i 0 slotZ H2.out w2 B X hH2).mono ?_
      rintro e w3 ⟨rfl, hH3, hB3⟩
      go_wp2_with fail
      go_ret
      exact ⟨rfl, by rw [HS.out]; exact hH3, hB2.trans hB3⟩

end Go.Proofs.Yteeapkndappnoaa
