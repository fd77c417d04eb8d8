/-
  An array of slices of words, each of the call's own.
-/
import Derived.Test.YteeapkndappnoaaFrameHead
import Derived.Test.YteeapkndappnoaaPick
namespace Go.Proofs.Yteeapkndappnoaa
open Go.RowKit
set_option linter.unusedVariables false
set_option linter.unusedSimpArgs false

/-- Its cells: so many are there, the others are nil. -/
def wasC (N : Nat) (ps : List (Value × List Int)) : Array Value := (ps.map Prod.fst ++ List.replicate (N - ps.length) (Value.slice none 0 0)).toArray
theorem wasC_size (N : Nat) (ps : List (Value × List Int)) (h : ps.length ≤ N) : (wasC N ps).size = N := by simp [wasC]; omega
theorem wasC_get {N : Nat} {ps : List (Value × List Int)} {j : Nat} {p : Value × List Int} (h : ps[j]? = some p) : (wasC N ps)[j]? = some p.1 := by
  have hj := (List.getElem?_eq_some_iff.1 h).1
  simp only [wasC, List.getElem?_toArray]
  rw [List.getElem?_append_left (by simpa using hj), List.getElem?_map, h]
  rfl
theorem wasC_next {N : Nat} {ps : List (Value × List Int)} (h : ps.length < N) : (wasC N ps)[ps.length]? = some (.slice none 0 0) := by
  simp only [wasC, List.getElem?_toArray]
  rw [List.getElem?_append_right (by simp), List.length_map, Nat.sub_self, List.getElem?_replicate, if_pos (by omega)]
theorem wasC_set {N : Nat} {ps : List (Value × List Int)} (h : ps.length < N) (p : Value × List Int) : (wasC N ps).setIfInBounds ps.length p.1 = wasC N (ps ++ [p]) := by
  simp only [wasC, List.setIfInBounds_toArray]
  congr 1
  rw [List.set_append_right _ _ (by simp), List.map_append]
  obtain ⟨m, hm⟩ : ∃ m, N - ps.length = m + 1 := ⟨N - ps.length - 1, by omega⟩
  have e : N - (ps ++ [p]).length = m := by simp; omega
  rw [hm, e, List.replicate_succ]
  simp

def wasR (ps : List (Value × List Int)) : List Asr := ps.map fun p => row 55 1 p.1 p.2.length (u64s p.2)
/-- The array, at block wb. -/
def WasA (wb N : Nat) (T : TypeId) (ps : List (Value × List Int)) : Asr := Asr.all (blk wb T (wasC N ps) :: wasR ps)
theorem WasA.open {wb N : Nat} {T : TypeId} {ps : List (Value × List Int)} {w : World} {B : Nat} {X : List Asr} (hH : Has w B (WasA wb N T ps :: X)) : Has w B (blk wb T (wasC N ps) :: (wasR ps ++ X)) := hH.open_all
theorem WasA.shut {wb N : Nat} {T : TypeId} {ps : List (Value × List Int)} {w : World} {B : Nat} {X : List Asr} (hH : Has w B (blk wb T (wasC N ps) :: (wasR ps ++ X))) : Has w B (WasA wb N T ps :: X) := Has.shut_all _ hH
theorem WasA.cell {wb N : Nat} {T : TypeId} {ps : List (Value × List Int)} {w : World} {B : Nat} (X1 X : List Asr) (hH : Has w B (X1 ++ WasA wb N T ps :: X)) {j : Nat} {p : Value × List Int} (h : ps[j]? = some p) : w.cell? ⟨wb, j, none⟩ = some p.1 :=
  Has.cell [] _ (WasA.open (hH.front X1 X)) j (wasC_get h)
theorem WasA.next {wb N : Nat} {T : TypeId} {ps : List (Value × List Int)} {w : World} {B : Nat} (X1 X : List Asr) (hH : Has w B (X1 ++ WasA wb N T ps :: X)) (h : ps.length < N) : w.cell? ⟨wb, ps.length, none⟩ = some (.slice none 0 0) ∧ w.frozen? ⟨wb, ps.length, none⟩ = false ∧ B ≤ wb :=
  ⟨Has.cell [] _ (WasA.open (hH.front X1 X)) _ (wasC_next h), Has.frozen [] _ (WasA.open (hH.front X1 X)) _, (Has.blk_at [] _ (WasA.open (hH.front X1 X))).2.1⟩
/-- One slice more. -/
theorem WasA.set {wb N : Nat} {T : TypeId} {ps : List (Value × List Int)} {w : World} {B : Nat} {X : List Asr} {v : Value} {F : List Int} (hH : Has w B (row 55 1 v F.length (u64s F) :: WasA wb N T ps :: X)) (h : ps.length < N) :
    Has (w.setCell ⟨wb, ps.length, none⟩ v) B (WasA wb N T (ps ++ [(v, F)]) :: X) := by
  have h1 := WasA.open (Has.front [_] _ hH)
  have h2 := Has.set [] _ h1 ps.length v
  rw [show (wasC N ps).setIfInBounds ps.length v = wasC N (ps ++ [(v, F)]) from wasC_set h (v, F)] at h2
  refine WasA.shut ?_
  have h3 : (blk wb T (wasC N (ps ++ [(v, F)])) :: (wasR ps ++ ([row 55 1 v F.length (u64s F)] ++ X))).Perm (blk wb T (wasC N (ps ++ [(v, F)])) :: (wasR (ps ++ [(v, F)]) ++ X)) := by
    rw [← List.append_assoc]
    refine List.Perm.cons _ (List.Perm.of_eq ?_)
    simp [wasR]
  exact h2.perm h3
theorem WasA.src {wb N : Nat} {T : TypeId} {ps : List (Value × List Int)} {w : World} {B : Nat} (X1 X : List Asr) (hH : Has w B (X1 ++ WasA wb N T ps :: X)) {j : Nat} {v : Value} {F : List Int} (h : ps[j]? = some (v, F)) : ∃ ao cap, v = .slice ao F.length cap ∧ SrcU w ao F := by
  have h1 := (WasA.open (hH.front X1 X)).drop
  obtain ⟨hj, hv⟩ := List.getElem?_eq_some_iff.1 h
  have hs : ps = ps.take j ++ (v, F) :: ps.drop (j + 1) := by
    rw [← hv, ← List.drop_eq_getElem_cons hj, List.take_append_drop]
  have h2 : Has w B (wasR (ps.take j) ++ row 55 1 v F.length (u64s F) :: (wasR (ps.drop (j + 1)) ++ (X1 ++ X))) := by
    have e : wasR ps ++ (X1 ++ X) = wasR (ps.take j) ++ row 55 1 v F.length (u64s F) :: (wasR (ps.drop (j + 1)) ++ (X1 ++ X)) := by
      conv => lhs; rw [hs]
      simp [wasR]
    rw [← e]
    exact h1
  obtain ⟨ao, cap, rfl, _, _, _⟩ := h2.row_form _ _
  exact ⟨ao, cap, rfl, srcu_row _ _ h2 rfl⟩
theorem WasA.srcAt {wb N : Nat} {T : TypeId} {ps : List (Value × List Int)} {w : World} {B : Nat} (X1 X : List Asr) (hH : Has w B (X1 ++ WasA wb N T ps :: X)) {j n : Nat} {ao : Option Addr} {cap : Nat} {F : List Int} (h : ps[j]? = some (.slice ao n cap, F)) : SrcU w ao F := by
  obtain ⟨ao', cap', hv, hs⟩ := WasA.src X1 X hH h
  injection hv with h1 h2 h3
  subst h1
  exact hs
theorem WasA.new {wb N : Nat} {T : TypeId} {w : World} {B : Nat} {X : List Asr} (hH : Has w B (blk wb T (List.replicate N (Value.slice none 0 0)).toArray :: X)) : Has w B (WasA wb N T [] :: X) := by
  refine WasA.shut ?_
  exact hH

end Go.Proofs.Yteeapkndappnoaa
