/-
  Contracts of the reference of layer 2: the same list of free frames.
-/
import Derived.Test.YtkgijfodjmkhgaaFreeB
namespace Go.Proofs.Ytkgijfodjmkhgaa
open Go.RowKit
set_option linter.unusedVariables false
set_option linter.unusedSimpArgs false

theorem FreeFits.fresh (first many : Int) (h1 : 0 ≤ first) (h2 : 0 ≤ many) (h3 : first ≤ 256) (h4 : many ≤ 256 - first) : FreeFits first many (freshL first many 0) :=
  ⟨h1, h2, h3, h4, by unfold freshL; exact List.pairwise_map.2 (List.Pairwise.imp (fun h e => h (by omega)) List.nodup_range), fun x hx => by rw [freshL_mem] at hx; omega, by rw [freshL_length]; omega⟩
theorem FreeFits.take {first many : Int} {F : List Int} (h : FreeFits first many F) : FreeFits first many F.dropLast :=
  ⟨h.a1, h.a2, h.a3, h.a4, h.nd.sublist (List.dropLast_sublist F), fun x hx => h.rg x (List.dropLast_subset F hx), by have := h.ln; simp; omega⟩
theorem FreeFits.give {first many : Int} {F : List Int} (h : FreeFits first many F) (f : Int) : FreeFits first many (given first many F f) := by
  unfold given
  split
  · rename_i hg
    unfold givesB at hg
    rw [decide_eq_true_eq] at hg
    have hnd : (F ++ [f]).Nodup := List.nodup_append.2 ⟨h.nd, by simp, fun a ha b hb e => by simp at hb; subst hb; subst e; exact hg.2.2 ha⟩
    have hrg : ∀ x ∈ F ++ [f], first ≤ x ∧ x < first + many := by
      intro x hx
      rcases List.mem_append.1 hx with h1 | h1
      · exact h.rg x h1
      · simp at h1; subst h1; exact ⟨hg.1, hg.2.1⟩
    refine ⟨h.a1, h.a2, h.a3, h.a4, hnd, hrg, ?_⟩
    have := nodup_le _ (freshL first many 0) hnd (fun x hx => by rw [freshL_mem]; have := hrg x hx; omega)
    rw [freshL_length] at this
    have := h.a2
    omega
  · exact h

/-- The reference's list, at block b. -/
def RefA (b : Nat) (first many : Int) (F : List Int) : Asr :=
  Asr.ex fun v : Value => Asr.and (FreeFits first many F) <| Asr.all [blk b 55 #[.int .i64 first, .int .i64 many, v], row 3 1 v F.length (F.map (Value.int .i64))]

theorem RefA.open {b : Nat} {first many : Int} {F : List Int} {w : World} {B : Nat} {X : List Asr} (hH : Has w B (RefA b first many F :: X)) : FreeFits first many F ∧ ∃ ao cap, (0 < F.length → ∃ g, ao = some ⟨g, 0, none⟩) ∧ (ao = none → F.length = 0 ∧ cap = 0) ∧ F.length ≤ cap ∧
    Has w B (blk b 55 #[.int .i64 first, .int .i64 many, .slice ao F.length cap] :: row 3 1 (.slice ao F.length cap) F.length (F.map (Value.int .i64)) :: X) := by
  obtain ⟨v, hH⟩ := hH.open_ex
  obtain ⟨hI, hH⟩ := hH.open_and
  have hH := hH.open_all
  refine ⟨hI, ?_⟩
  rcases Has.row_shape [_] _ hH with ⟨rfl, h0⟩ | ⟨g, cap, rfl, h1, h2, _⟩
  · rw [h0] at hH ⊢
    exact ⟨none, 0, fun h => absurd h (Nat.lt_irrefl _), fun _ => ⟨rfl, rfl⟩, Nat.le_refl _, hH⟩
  · exact ⟨some ⟨g, 0, none⟩, cap, fun _ => ⟨g, rfl⟩, (fun h => by cases h), h1, hH⟩

theorem RefA.shut {b : Nat} {first many : Int} {F : List Int} {w : World} {B : Nat} {X : List Asr} (v : Value) (hI : FreeFits first many F)
    (hH : Has w B (blk b 55 #[.int .i64 first, .int .i64 many, v] :: row 3 1 v F.length (F.map (Value.int .i64)) :: X)) : Has w B (RefA b first many F :: X) :=
  Has.shut_ex v (Has.shut_and hI (Has.shut_all [_, _] hH))

theorem ref_cells {b : Nat} {first many : Int} {v : Value} {w : World} {B : Nat} {X : List Asr} (hH : Has w B (blk b 55 #[.int .i64 first, .int .i64 many, v] :: X)) :
    w.cell? ⟨b, 0, none⟩ = some (.int .i64 first) ∧ w.cell? ⟨b, 1, none⟩ = some (.int .i64 many) ∧ w.cell? ⟨b, 2, none⟩ = some v ∧ w.frozen? ⟨b, 2, none⟩ = false :=
  ⟨Has.cell [] _ hH 0 rfl, Has.cell [] _ hH 1 rfl, Has.cell [] _ hH 2 rfl, Has.frozen [] _ hH 2⟩

theorem ret_bool {a b : Bool} (h : a = b) : Ending.returned (.bool a) = .returned (.bool b) := by rw [h]

/-- What is known of the cells of the reference's own slice. -/
theorem ref_row {ao : Option Addr} {cap : Nat} {F : List Int} {w : World} {B : Nat} (L1 L2 : List Asr) (hg : 0 < F.length → ∃ g, ao = some ⟨g, 0, none⟩)
    (hH : Has w B (L1 ++ row 3 1 (.slice ao F.length cap) F.length (F.map (Value.int .i64)) :: L2)) :
    0 < F.length → ∃ g, ao = some ⟨g, 0, none⟩ ∧ ∀ (j : Nat) (y : Int), F[j]? = some y → w.cell? ⟨g, j, none⟩ = some (.int .i64 y) := by
  intro h
  obtain ⟨g, rfl⟩ := hg h
  exact ⟨g, rfl, fun j y hy => hH.row_cell L1 L2 j (by simp [hy])⟩

/-- The frames from the last one on, so many. -/
def upL (first many : Int) (k : Nat) : List Int := (List.range k).map (fun i : Nat => first + many - 1 - (i : Int))
theorem upL_step (first many : Int) (k : Nat) : upL first many (k + 1) = upL first many k ++ [first + many - 1 - k] := by simp [upL, List.range_succ]
theorem upL_all (first many : Int) (h : 0 ≤ many) : upL first many many.toNat = freshL first many 0 := by simp [upL, freshL]
theorem upL_length (first many : Int) (k : Nat) : (upL first many k).length = k := by simp [upL]

set_option maxHeartbeats 1000000 in
theorem RefNew_ok (first many : Int) (h1 : 0 ≤ first) (h2 : 0 ≤ many) (h3 : first ≤ 256) (h4 : many ≤ 256 - first) :
    Does Try.prog 23 #[.int .i64 first, .int .i64 many] [] (fun b : Nat => .pointer (some ⟨b, 0, none⟩)) (fun b => [RefA b first many (freshL first many 0)]) := by
  intro w B X hH
  have hH : Has w B X := hH
  have e1 : decide (first < 0) = false := by simpa using h1
  have e2 : decide (many < 0) = false := by simpa using h2
  have e3 : decide (256 < first) = false := by simpa using h3
  have e4 : decide (256 - first < many) = false := by simpa using h4
  obtain ⟨i0, hi, hz0, hz1, hz2⟩ := info_parts infoInt
  have hN := (hH.newblk w.heap.size 55 #[.int .i64 first, .int .i64 many, .slice none 0 0] rfl).nilrow 3 1
  have hB := below_new (Below.refl B w) hH (.cells #[.int .i64 first, .int .i64 many, .slice none 0 0] 55)
  generalize hb : w.heap.size = b at *
  go_enter Try.func23, Try.ntmps23
  go_wp2
  go_loopw [6] (fun i wr => ∃ (k : Nat) (v : Value), (k : Int) ≤ many ∧ i = .int .i64 (many - 1 - k) ∧ Has wr B (row 3 1 v k ((upL first many k).map (Value.int .i64)) :: blk b 55 #[.int .i64 first, .int .i64 many, v] :: X) ∧ Below B w wr) (fun i _ => (intOf i + 1).toNat)
  case atStart => exact ⟨0, .slice none 0 0, by simpa using h2, by simp, by simpa [upL] using hN, hB⟩
  case round =>
    obtain ⟨k, v, hk, rfl, hHr, hBr⟩ := hrel
    clear hN hB hH
    obtain ⟨ao, cap, rfl, hc1, hc2, hgo⟩ := hHr.row_form [] _
    have c0 := Has.cell [_] _ hHr 0 rfl
    have c2 := Has.cell [_] _ hHr 2 rfl
    by_cases hlt : (k : Int) < many
    · have g1 : 0 ≤ many - 1 - k := by omega
      clear hgo
      go_wp2_with (at_builtin; refine wpList_append_row [] _ (hHr.alloc _) rfl (.tmp 37) (.tmp 41) 22 rfl i0 (.int .i64 0) 8 Try.underlying22 hi hz0 hz1 hz2 rfl (by decide) rfl ⟨wr.heap.size, 0, none⟩ 1 1 [.int .i64 (first + (many - 1 - k))] rfl rfl (cell_one_new _ _ _) (by simp [Value.oneCell']) (by decide) (by unfold maxLen; omega) (by omega) ?_; intro g2 cap2 w2 hH2 hB2; have k4 := Has.frozen [_] _ hH2 2; have k5 := Has.cell [_] _ hH2 2 rfl)
      go_roundw
      case rel =>
        refine ⟨k + 1, .slice (some ⟨g2, 0, none⟩) (k + 1) cap2, by omega, by congr 1 <;> omega, ?_, hBr.trans ((below_new (Below.refl _ _) hHr _).trans (below_set hB2 [_] _ hH2 2 _))⟩
        have h5 := hH2.set [_] _ 2 (.slice (some ⟨g2, 0, none⟩) (k + 1) cap2)
        rw [upL_step, List.map_append]
        have e : first + (many - 1 - (k : Int)) = first + many - 1 - k := by omega
        rw [e] at h5
        exact h5
      case measure => simp [intOf] <;> omega
    · obtain rfl : many = k := by omega
      have g1 : ¬ 0 ≤ (k : Int) - 1 - k := by omega
      have hfit := FreeFits.fresh first k h1 h2 h3 h4
      have h5 := hHr.perm (List.Perm.swap _ _ _)
      clear hgo
      go_wp2
      go_ret
      refine ⟨b, rfl, RefA.shut (.slice ao k cap) hfit ?_, hBr⟩
      rw [← upL_all first k h2]
      simpa [upL_length] using h5

theorem RefNew_no (first many : Int) (h : first < 0 ∨ many < 0 ∨ 256 < first ∨ 256 - first < many) (w : World) :
    Calls Try.prog 23 #[.int .i64 first, .int .i64 many] w fun e w' => e = .returned (.pointer none) ∧ w = w' := by
  by_cases h1 : first < 0
  · have e1 : decide (first < 0) = true := by simpa using h1
    clear h
    go_enter Try.func23, Try.ntmps23
    go_wp2
    go_ret
    exact ⟨rfl, rfl⟩
  · have e1 : decide (first < 0) = false := by simpa using h1
    by_cases h2 : many < 0
    · have e2 : decide (many < 0) = true := by simpa using h2
      clear h
      go_enter Try.func23, Try.ntmps23
      go_wp2
      go_ret
      exact ⟨rfl, rfl⟩
    · have e2 : decide (many < 0) = false := by simpa using h2
      by_cases h3 : 256 < first
      · have e3 : decide (256 < first) = true := by simpa using h3
        clear h
        go_enter Try.func23, Try.ntmps23
        go_wp2
        go_ret
        exact ⟨rfl, rfl⟩
      · have e3 : decide (256 < first) = false := by simpa using h3
        have h4 : 256 - first < many := by omega
        have e4 : decide (256 - first < many) = true := by simpa using h4
        have h5 : 0 ≤ first := by omega
        have h6 : first ≤ 256 := by omega
        clear h
        go_enter Try.func23, Try.ntmps23
        go_wp2
        go_ret
        exact ⟨rfl, rfl⟩

end Go.Proofs.Ytkgijfodjmkhgaa
