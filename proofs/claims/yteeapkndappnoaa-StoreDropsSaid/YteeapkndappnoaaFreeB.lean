/-
  Contracts of package free, said of the list of the frames that are free.
-/
import Derived.Test.YteeapkndappnoaaFree
namespace Go.Proofs.Yteeapkndappnoaa
open Go.RowKit
set_option linter.unusedVariables false
set_option linter.unusedSimpArgs false

/-- What is known of a list beside its frames. -/
structure FreeFits (first many : Int) (F : List Int) : Prop where
  a1 : 0 ≤ first
  a2 : 0 ≤ many
  a3 : first ≤ 256
  a4 : many ≤ 256 - first
  nd : F.Nodup
  rg : ∀ x ∈ F, first ≤ x ∧ x < first + many
  ln : (F.length : Int) ≤ many

theorem Has.free {b : Nat} {first many : Int} {F : List Int} {w : World} {B : Nat} (L1 L2 : List Asr) (hH : Has w B (L1 ++ FreeA b first many F :: L2)) : FreeFits first many F := by
  obtain ⟨s, hI, _⟩ := FreeA.open (hH.front L1 L2)
  exact ⟨hI.a1, hI.a2, hI.a3, hI.a4, hI.nodup, fun x hx => ⟨((hI.mem x).1 hx).1, ((hI.mem x).1 hx).2.1⟩, by have := hI.length; omega⟩

def takeV (F : List Int) : Int := F.getLast?.getD 0
def takeB (F : List Int) : Bool := !F.isEmpty

theorem FreeTake (b : Nat) (first many : Int) (F : List Int) :
    Does Try.prog 57 #[.pointer (some ⟨b, 0, none⟩)] [FreeA b first many F] (fun _ : Unit => .tuple #[.int .i64 (takeV F), .bool (takeB F)]) (fun _ => [FreeA b first many F.dropLast]) := by
  intro w B X hX
  obtain ⟨⟨m, v, fresh, back, g, n⟩, hI, hH⟩ := FreeA.open hX
  clear hX
  have hlen := hI.length
  obtain ⟨a1, a2, a3, a4, a5, a6, eq, nd, rg, tk, ln⟩ := hI
  dsimp only at *
  rcases List.eq_nil_or_concat back with rfl | ⟨bs, x, rfl⟩
  · rw [List.append_nil] at eq
    have hv : ∃ a c, v = .slice a 0 c := by
      rcases Has.row_shape [_, _] _ hH with ⟨rfl, _⟩ | ⟨gb, cap, rfl, _⟩
      · exact ⟨_, _, rfl⟩
      · exact ⟨_, _, rfl⟩
    obtain ⟨a, c, rfl⟩ := hv
    by_cases hlt : fresh < many
    · rw [freshL_step first many fresh hlt] at eq
      subst eq
      refine (take_fresh b m c n a first many fresh g w B _ a1 a3 a5 (by omega) hlt (by simp at ln; omega) hH).mono ?_
      rintro e w' ⟨y, rfl, hH', hB⟩
      refine ⟨(), by simp [takeV, takeB], ?_, hB⟩
      refine FreeA.shut m (.slice a 0 c) (fresh + 1) [] _ _ ⟨a1, a2, a3, a4, by dsimp only; omega, by dsimp only; omega, by simp, by simp, by simp, ?_, ?_⟩ hH'
      · intro z
        dsimp only
        by_cases hz : z = first + fresh
        · subst hz; rw [upd_same]; simp; omega
        · rw [upd_other g _ hz, tk z]
          congr 1
          simp
          omega
      · have : (g (first + fresh)).isSome = false := by rw [tk]; simp
        simp [more, this] at ln ⊢
        omega
    · have he : fresh = many := by omega
      subst he
      rw [freshL_end] at eq
      subst eq
      refine (take_none b m c n a first fresh fresh g w B _ a1 a3 a5 (by omega) (by omega) hH).mono ?_
      rintro e w' ⟨y, rfl, hH', hB⟩
      refine ⟨(), by simp [takeV, takeB], ?_, hB⟩
      exact FreeA.shut m (.slice a 0 c) fresh [] _ _ ⟨a1, a2, a3, a4, a5, a6, by simp [freshL_end], by simp, by simp, tk, ln⟩ hH'
  · rcases Has.row_shape [_, _] _ hH with ⟨rfl, h0⟩ | ⟨gb, cap, rfl, hc1, hc2, hgB, _⟩
    · simp at h0
    · have hxr := rg x (by simp)
      have hnd := List.nodup_append.1 (by simpa using nd : (bs ++ [x]).Nodup)
      have hlen2 : bs.length ≤ 256 := by
        have h1 := congrArg List.length eq
        simp [freshL_length] at h1
        omega
      simp only [List.length_concat] at hH hc1
      refine (take_back b m gb bs.length cap n first many fresh x g _ w B _ a1 a3 a5 (by omega) (by omega) (by omega) (by omega) (by omega) hc1 (by simp) hH).mono ?_
      rintro e w' ⟨y, rfl, hH', hB⟩
      have e1 : F.getLast? = some x := by rw [eq]; simp
      have e2 : F.dropLast = freshL first many fresh ++ bs := by rw [eq, List.concat_eq_append, ← List.append_assoc, List.dropLast_concat]
      have e3 : F ≠ [] := by intro h; rw [h] at e1; cases e1
      have hgx : (g x).isSome = false := by rw [tk]; simp
      refine ⟨(), by simp [takeV, takeB, e1, e3], ?_, hB⟩
      refine FreeA.shut m (.slice (some ⟨gb, 0, none⟩) bs.length cap) fresh bs (upd g x (some y)) (more g x n) ⟨a1, a2, a3, a4, a5, a6, e2, hnd.1, fun z hz => rg z (by simp [hz]), ?_, ?_⟩ ?_
      · intro z
        dsimp only
        by_cases hz : z = x
        · subst hz; rw [upd_same]; simp; refine ⟨hxr.1, hxr.2, fun h => ?_⟩; exact hnd.2.2 z h z (by simp) rfl
        · rw [upd_other g _ hz, tk z]
          simp [hz]
      · simp [more, hgx] at ln ⊢
        omega
      · simpa using hH'

def givesB (first many : Int) (F : List Int) (f : Int) : Bool := decide (first ≤ f ∧ f < first + many ∧ f ∉ F)
def given (first many : Int) (F : List Int) (f : Int) : List Int := if givesB first many F f then F ++ [f] else F

theorem FreeGive (b : Nat) (first many f : Int) (F : List Int) (hw : (Lit.int .i64 f).wf = true) :
    Does Try.prog 55 #[.pointer (some ⟨b, 0, none⟩), .int .i64 f] [FreeA b first many F] (fun _ : Unit => .bool (givesB first many F f)) (fun _ => [FreeA b first many (given first many F f)]) := by
  intro w B X hX
  obtain ⟨⟨m, v, fresh, back, g, n⟩, hI, hH⟩ := FreeA.open hX
  clear hX
  have hlen := hI.length
  have hmem := hI.mem f
  obtain ⟨a1, a2, a3, a4, a5, a6, eq, nd, rg, tk, ln⟩ := id hI
  dsimp only at *
  have htk := tk f
  cases hg : (g f).isSome with
  | false =>
    refine (give_no b m n v first many fresh f g w B _ hw hg hH).mono ?_
    rintro e w' ⟨rfl, rfl⟩
    have e1 : givesB first many F f = false := by
      unfold givesB
      rw [decide_eq_false_iff_not, hmem, hg]
      rintro ⟨h1, h2, h3⟩
      exact h3 ⟨h1, h2, rfl⟩
    exact ⟨(), by rw [e1], by unfold given; rw [e1]; exact FreeA.shut m v fresh back g n hI hH, Below.refl _ _⟩
  | true =>
    rw [hg] at htk
    have htk' := of_decide_eq_true htk.symm
    have e1 : givesB first many F f = true := by
      unfold givesB
      rw [decide_eq_true_eq, hmem, hg]
      simp
      omega
    have hbl : back.length ≤ 1000 := by
      have h1 := congrArg List.length eq
      simp [freshL_length] at h1
      omega
    refine (give_yes b m n back.length v first many fresh f g _ w B _ hw hg hbl hH).mono ?_
    rintro e w' ⟨y, rfl, hH', hB⟩
    refine ⟨(), by rw [e1], ?_, hB⟩
    unfold given
    rw [e1]
    refine FreeA.shut m (.slice (some ⟨y.1, 0, none⟩) (back.length + 1) y.2) fresh (back ++ [f]) (upd g f none) (less g f n) ⟨a1, a2, a3, a4, a5, a6, by simp [eq], ?_, ?_, ?_, ?_⟩ ?_
    · exact List.nodup_append.2 ⟨nd, by simp, fun a ha b hb e => by simp at hb; subst hb; subst e; exact htk'.2.2 ha⟩
    · intro z hz
      simp at hz
      rcases hz with h | rfl
      · exact rg z h
      · exact ⟨htk'.1, htk'.2.1⟩
    · intro z
      dsimp only
      by_cases hz : z = f
      · subst hz; rw [upd_same]; simp
      · rw [upd_other g _ hz, tk z]
        simp [hz]
    · have hp : 0 < n := by
        by_cases h0 : n = 0
        · exfalso
          subst h0
          have h2 := hI.length
          dsimp only at h2
          have h3 : f ∉ F := fun h => by rw [hmem, hg] at h; simp at h
          have h4 : ∀ z ∈ f :: F, z ∈ freshL first many 0 := by
            intro z hz
            rw [freshL_mem]
            simp at hz
            rcases hz with rfl | h
            · omega
            · have := (hI.mem z).1 h; omega
          have h5 := nodup_le _ _ (List.nodup_cons.2 ⟨h3, hI.nodup⟩) h4
          simp [freshL_length] at h5
          omega
        · omega
      simp [less, hg] at ln ⊢
      omega
    · simpa using hH'

theorem FreeLeft (b : Nat) (first many : Int) (F : List Int) :
    Does Try.prog 59 #[.pointer (some ⟨b, 0, none⟩)] [FreeA b first many F] (fun _ : Unit => .int .i64 F.length) (fun _ => [FreeA b first many F]) := by
  intro w B X hH
  obtain ⟨⟨m, v, fresh, back, g, n⟩, hI, hH'⟩ := FreeA.open hH
  have hlen := hI.length
  obtain ⟨a1, a2, a3, a4, a5, a6, eq, nd, rg, tk, ln⟩ := id hI
  dsimp only at *
  refine (left_walk b m n v first many fresh g w B _ a2 (by omega) (by omega) hH').mono ?_
  rintro e w' ⟨rfl, nq, rfl⟩
  exact ⟨(), by rw [hlen], hH.drewN nq, below_drewN (Below.refl _ _) _⟩

theorem left_is (b : Nat) (a n k : Int) (F : List Int) (h : (F.length : Int) = k) :
    Does Try.prog 59 #[.pointer (some ⟨b, 0, none⟩)] [FreeA b a n F] (fun _ : Unit => .int .i64 k) (fun _ => [FreeA b a n F]) := h ▸ FreeLeft b a n F

theorem give_is (b : Nat) (a n f : Int) (F F' : List Int) (r : Bool) (hw : (Lit.int .i64 f).wf = true) (h : givesB a n F f = r) (h' : given a n F f = F') :
    Does Try.prog 55 #[.pointer (some ⟨b, 0, none⟩), .int .i64 f] [FreeA b a n F] (fun _ : Unit => .bool r) (fun _ => [FreeA b a n F']) := h ▸ h' ▸ FreeGive b a n f F hw

theorem take_is (b : Nat) (a n f : Int) (F F' : List Int) (r : Bool) (h1 : takeV F = f) (h2 : takeB F = r) (h3 : F.dropLast = F') :
    Does Try.prog 57 #[.pointer (some ⟨b, 0, none⟩)] [FreeA b a n F] (fun _ : Unit => .tuple #[.int .i64 f, .bool r]) (fun _ => [FreeA b a n F']) := h1 ▸ h2 ▸ h3 ▸ FreeTake b a n F

theorem freshL_dec (a n f : Int) (r : Bool) (h : decide (a ≤ f ∧ f < a + n) = r) : decide (f ∈ freshL a n 0) = r := by
  rw [← h]
  congr 1
  rw [freshL_mem, Int.add_zero]

end Go.Proofs.Yteeapkndappnoaa
