/-
  The live question of layer 1; SameWords of the document's answer.
-/
import Derived.Test.YteeapkndappnoaaFrameS
namespace Go.Proofs.Yteeapkndappnoaa
open Go.RowKit
set_option linter.unusedVariables false
set_option linter.unusedSimpArgs false

theorem MemNew_yes (n : Nat) (h1 : 1 ≤ n) (h2 : n ≤ 256) (w : World) (B : Nat) (X : List Asr) (hH : Has w B X) :
    Calls Try.prog 11 #[.int .i64 n] w fun e w' => ∃ b, e = .returned (.pointer (some ⟨b, 0, none⟩)) ∧ Has w' B (MemA b n (List.replicate (n * 8) 0) :: X) ∧ Below B w w' := by
  refine (MemNew_calls n w B X hH).mono ?_
  rintro e w' (⟨h, _⟩ | ⟨b, m, hm, _, _, he, hh, hb⟩)
  · exact absurd ⟨by omega, by omega⟩ h
  · obtain rfl : n = m := by omega
    exact ⟨b, he, hh, hb⟩
theorem MemNew_no (f : Int) (h : ¬ (1 ≤ f ∧ f ≤ 256)) (w : World) (B : Nat) (X : List Asr) (hH : Has w B X) :
    Calls Try.prog 11 #[.int .i64 f] w fun e w' => e = .returned (.pointer none) ∧ Has w' B X ∧ Below B w w' := by
  refine (MemNew_calls f w B X hH).mono ?_
  rintro e w' (⟨_, he⟩ | ⟨b, m, hm, h1, h2, _⟩)
  · exact he
  · exact absurd ⟨by omega, by omega⟩ h

theorem srcu_nil (w : World) : SrcU w none [] := ⟨by simp, by simp⟩
/-- A row of the call's own serves as words. -/
theorem srcu_row {w : World} {B cap n : Nat} {ao : Option Addr} {T : TypeId} {l : List Int} (L1 L2 : List Asr) (hH : Has w B (L1 ++ row T 1 (.slice ao n cap) n (u64s l) :: L2)) (hn : n = l.length) : SrcU w ao l := by
  subst hn
  rcases hH.row_shape L1 L2 with ⟨h, h0⟩ | ⟨g', cap', h, h1, h2, _, hg⟩
  · exact ⟨by omega, by omega⟩
  · cases h
    refine ⟨by unfold maxLen at h2; omega, fun _ => ⟨g', 0, rfl, hg, fun j u hj => ?_⟩⟩
    rw [Nat.zero_add]
    exact hH.row_cell L1 L2 j hj
theorem SrcU.later {w w' : World} {a : Option Addr} {l : List Int} (h : SrcU w a l) (hb : Below w.heap.size w w') : SrcU w' a l :=
  ⟨h.small, fun h0 => by
    obtain ⟨b, o, ha, hlt, hc⟩ := h.mem h0
    exact ⟨b, o, ha, Nat.lt_of_lt_of_le hlt hb.size, fun j u hj => ArgRow.later hlt hc hb j hj⟩⟩
theorem SrcU.at {w : World} {a : Option Addr} {l : List Int} (h : SrcU w a l) {b o : Nat} (ha : a = some ⟨b, o, none⟩) {k : Nat} {x : Int} (hk : l[k]? = some x) : w.cell? ⟨b, o + k, none⟩ = some (.int .u64 x) := by
  have := (List.getElem?_eq_some_iff.1 hk).1
  obtain ⟨b', o', e, hlt, hc⟩ := h.mem (by omega)
  rw [ha] at e
  injection e with e
  injection e with e1 e2 e3
  subst e1 e2
  exact hc k _ (u64s_get hk)

set_option maxHeartbeats 1000000 in
set_option maxRecDepth 100000 in
/-- SameWords. -/
theorem SameWords_calls (a b : Option Addr) (ca cb : Nat) (l m : List Int) (w : World) (h1 : SrcU w a l) (h2 : SrcU w b m) :
    Calls Try.prog 28 #[.slice a l.length ca, .slice b m.length cb] w fun e w' => e = .returned (.bool (l == m)) ∧ Below w.heap.size w w' := by
  have s1 := h1.small
  have s2 := h2.small
  by_cases hn : l.length = m.length
  · have e1 : (l.length == m.length) = true := by rw [beq_iff_eq]; exact hn
    have H1 := hid h1
    have H2 := hid h2
    rw [← hn]
    have HN := hid hn
    clear h1 h2 hn e1 s2
    go_enter Try.func28, Try.ntmps28
    go_wp2_with fail
    go_loopw [5] (fun i wr => ∃ k : Nat, k ≤ l.length ∧ i = .int .i64 k ∧ Below w.heap.size w wr ∧ ∀ j, j < k → l[j]? = m[j]?) (fun i _ => l.length - (intOf i).toNat)
    case atStart => exact ⟨0, by omega, rfl, Below.refl _ _, fun j h => by omega⟩
    case round =>
      obtain ⟨k, hk, rfl, hBr, hall⟩ := hrel
      have HALL := hid hall
      clear hall
      by_cases hlt : k < l.length
      · obtain ⟨x, hx⟩ : ∃ x, l[k]? = some x := ⟨l[k], List.getElem?_eq_getElem hlt⟩
        obtain ⟨y, hy⟩ : ∃ y, m[k]? = some y := ⟨_, List.getElem?_eq_getElem (by have := HN.out; omega)⟩
        obtain ⟨ba, oa, rfl, _, _⟩ := H1.out.mem (by omega)
        obtain ⟨bb, ob, rfl, _, _⟩ := H2.out.mem (by have := HN.out; omega)
        have c1 := (H1.out.later hBr).at rfl hx
        have c2 := (H2.out.later hBr).at rfl hy
        by_cases hxy : x = y
        · subst hxy
          have HX := hid (And.intro hx hy)
          clear hx hy
          go_wp2_with fail
          go_quiet (fail)
          have hBq := below_drewN hBr nq
          go_wp2_with fail
          go_roundw
          case rel => exact ⟨k + 1, by omega, by go_num, hBq, fun j hj => by
            by_cases e : j = k
            · subst e; rw [HX.out.1, HX.out.2]
            · exact HALL.out j (by omega)⟩
          case measure => simp [intOf] <;> omega
        · have e1 : (x == y) = false := by rw [beq_eq_false_iff_ne]; exact hxy
          have hr : (l == m) = false := by
            rw [beq_eq_false_iff_ne]
            intro e
            rw [e, hy] at hx
            injection hx with hx
            exact hxy hx.symm
          have HR := hid hr
          clear hx hy hxy hr
          go_wp2_with fail
          go_quiet (fail)
          have hBq := below_drewN hBr nq
          go_wp2_with fail
          go_ret
          exact ⟨by rw [HR.out]; rfl, hBq⟩
      · obtain rfl : k = l.length := by omega
        have hr : (l == m) = true := by
          rw [beq_iff_eq]
          refine List.ext_getElem? fun i => ?_
          by_cases hi : i < l.length
          · exact HALL.out i hi
          · rw [List.getElem?_eq_none (by omega), List.getElem?_eq_none (by have := HN.out; omega)]
        have HR := hid hr
        clear hr
        go_wp2_with fail
        go_ret
        exact ⟨by rw [HR.out]; rfl, hBr⟩
  · have e1 : (l.length == m.length) = false := by rw [beq_eq_false_iff_ne]; exact hn
    have e2 : ((l.length : Int) == (m.length : Int)) = false := by rw [beq_eq_false_iff_ne]; omega
    have hr : (l == m) = false := by
      rw [beq_eq_false_iff_ne]
      intro e
      exact hn (by rw [e])
    rw [hr]
    clear hr h1 h2
    go_enter Try.func28, Try.ntmps28
    go_wp2_with fail
    go_ret
    exact ⟨rfl, Below.refl _ _⟩

/-- The two memories of the live question. -/
def hW0 : List Int := List.replicate (3 * 8) 0
def hW1 : List Int := setW (setW (setW hW0 3 1 7 5) 3 1 8 5) 3 3 0 5

end Go.Proofs.Yteeapkndappnoaa
