/-
  The document's answer to layer 3.
-/
import Derived.Test.YtkgijfodjmkhgaaGmapArgs0
namespace Go.Proofs.Ytkgijfodjmkhgaa
open Go.RowKit
set_option linter.unusedVariables false
set_option linter.unusedSimpArgs false

/-- The document's map, at block b: the list. -/
def RmapA (b : Nat) (l : List Int) : Asr :=
  Asr.ex fun v : Value => Asr.all [blk b 53 #[v], row 3 1 v l.length (l.map (Value.int .i64))]
theorem RmapA.open {b : Nat} {l : List Int} {w : World} {B : Nat} {X : List Asr} (hH : Has w B (RmapA b l :: X)) : ∃ v, Has w B (blk b 53 #[v] :: row 3 1 v l.length (l.map (Value.int .i64)) :: X) := by
  obtain ⟨v, hH⟩ := hH.open_ex
  exact ⟨v, hH.open_all⟩

/-- What the document's New hands back. -/
def RNewPost (l : List Int) (frames : Int) (X : List Asr) (B : Nat) (w : World) (e : Ending) (w' : World) : Prop :=
  (¬ gok l frames ∧ e = .returned (.pointer none) ∧ Has w' B X ∧ Below B w w') ∨ (gok l frames ∧ ∃ b, e = .returned (.pointer (some ⟨b, 0, none⟩)) ∧ Has w' B (RmapA b l :: X) ∧ Below B w w')

set_option maxHeartbeats 2000000 in
set_option maxRecDepth 100000 in
theorem RNew_walk (gb o cap : Nat) (l : List Int) (frames : Int) (w : World) (B : Nat) (X : List Asr) (hH : Has w B X) (h1 : 1 ≤ l.length) (h2 : l.length ≤ 64) (h3 : 1 ≤ frames) (h4 : frames ≤ 256) (hgb : gb < w.heap.size)
    (hsrc : ∀ j u, (l.map (Value.int .i64))[j]? = some u → w.cell? ⟨gb, o + j, none⟩ = some u) :
    Calls Try.prog 22 #[.slice (some ⟨gb, o, none⟩) l.length cap, .int .i64 frames] w (RNewPost l frames X B w) := by
  obtain ⟨i0, hi, hz0, hz1, hz2⟩ := info_parts infoIntG
  have e1 : decide ((l.length : Int) < 1) = false := by rw [decide_eq_false_iff_not]; omega
  have e2 : decide (64 < (l.length : Int)) = false := by rw [decide_eq_false_iff_not]; omega
  have e3 : decide (frames < 1) = false := by rw [decide_eq_false_iff_not]; omega
  have e4 : decide (256 < frames) = false := by rw [decide_eq_false_iff_not]; omega
  have hsrc' : ∀ (W : World) , Below w.heap.size w W → ∀ (k : Nat) x, l[k]? = some x → W.cell? ⟨gb, o + k, none⟩ = some (.int .i64 x) := fun W hb k x hk => ArgRow.later hgb hsrc hb k (by simp [hk])
  have HC := hid hsrc'
  have hs2 : ∀ W, Below w.heap.size w W → ∀ j u, (l.map (Value.int .i64))[j]? = some u → W.cell? ((⟨gb, o, none⟩ : Addr).add j) = some u := fun W hb j u hj => by
    have h := ArgRow.later hgb hsrc hb j hj
    have e : (⟨gb, o, none⟩ : Addr).add j = ⟨gb, o + j, none⟩ := by
      unfold Addr.add
      split <;> simp_all
    rw [e]
    exact h
  have HS := hid hs2
  clear hsrc hs2 hgb hsrc'
  go_enter Try.func22, Try.ntmps22
  go_wp2_with fail
  clear e1 e2 e3 e4
  go_loopw [5, 6] (fun i _ wr => ∃ k : Nat, k ≤ l.length ∧ i = .int .i64 k ∧ Below w.heap.size w wr ∧ (∀ j x, j < k → l[j]? = some x → 0 ≤ x ∧ x < frames) ∧ (∀ i j x, i < k → j < k → l[i]? = some x → l[j]? = some x → i = j)) (fun i _ _ => l.length - (intOf i).toNat)
  case atStart => exact ⟨0, by omega, rfl, Below.refl _ _, fun j x h => by omega, fun i j x h => by omega⟩
  case round =>
    obtain ⟨k, hk, rfl, hBr, hall, hnd⟩ := hrel
    have HALL := hid hall
    have HND := hid hnd
    clear hall hnd
    by_cases hlt : k < l.length
    · obtain ⟨x, hx⟩ : ∃ x, l[k]? = some x := ⟨l[k], List.getElem?_eq_getElem hlt⟩
      have cx := HC.out _ hBr k x hx
      have HX := hid hx
      clear hx
      by_cases hx0 : x < 0
      · have e2 : decide (x < 0) = true := by rw [decide_eq_true_eq]; exact hx0
        go_wp2_with fail
        go_ret
        exact .inl ⟨fun hg => by have := (hg.2.2.2.2.1 x (List.mem_of_getElem? HX.out)).1; omega, rfl, hH.below hBr, hBr.mono hH.le⟩
      · have e2 : decide (x < 0) = false := by rw [decide_eq_false_iff_not]; exact hx0
        by_cases hxf : frames ≤ x
        · have e3 : decide (frames ≤ x) = true := by rw [decide_eq_true_eq]; exact hxf
          go_wp2_with fail
          go_ret
          exact .inl ⟨fun hg => by have := (hg.2.2.2.2.1 x (List.mem_of_getElem? HX.out)).2; omega, rfl, hH.below hBr, hBr.mono hH.le⟩
        · have e3 : decide (frames ≤ x) = false := by rw [decide_eq_false_iff_not]; exact hxf
          go_wp2_with fail
          obtain ⟨wo, rfl⟩ : ∃ wo : World, wo = wr := ⟨_, rfl⟩
          clear cx
          go_loopw [6] (fun i wr => ∃ m : Nat, m ≤ k ∧ i = .int .i64 m ∧ Below w.heap.size w wr ∧ ∀ j y, j < m → l[j]? = some y → y ≠ x) (fun i _ => k - (intOf i).toNat)
          case atStart => exact ⟨0, by omega, rfl, hBr, fun j y hj => by omega⟩
          case round =>
            clear hBr
            obtain ⟨m, hm, rfl, hBr, hin⟩ := hrel
            have HIN := hid hin
            clear hin
            have cx := HC.out _ hBr k x HX.out
            by_cases hmk : m < k
            · obtain ⟨y, hy⟩ : ∃ y, l[m]? = some y := ⟨l[m], List.getElem?_eq_getElem (by omega)⟩
              have cy := HC.out _ hBr m y hy
              have HY := hid hy
              clear hy
              have hml : m < l.length := by omega
              by_cases hyx : y = x
              · have e4 : (y == x) = true := by rw [beq_iff_eq]; exact hyx
                have HYX := hid hyx
                clear hyx
                go_wp2_with fail
                go_quiet (fail)
                have hBq := below_drewN hBr nq
                go_wp2_with fail
                go_ret
                exact .inl ⟨fun hg => by have := nodup_at hg.2.2.2.2.2 (by rw [← HYX.out]; exact HY.out) HX.out; omega, rfl, hH.below hBq, hBq.mono hH.le⟩
              · have e4 : (y == x) = false := by rw [beq_eq_false_iff_ne]; exact hyx
                have HYX := hid hyx
                clear hyx
                go_wp2_with fail
                go_quiet (fail)
                have hBq := below_drewN hBr nq
                go_wp2_with fail
                go_roundw
                case rel => exact ⟨m + 1, by omega, by go_num, hBq, fun j z hj hz => by
                    by_cases e : j = m
                    · subst e
                      rw [HY.out] at hz
                      injection hz with hz
                      subst hz
                      exact HYX.out
                    · exact HIN.out j z (by omega) hz⟩
                case measure => simp [intOf] <;> omega
            · obtain rfl : m = k := by omega
              go_wp2_with fail
              go_roundw
              case rel => exact ⟨m + 1, by omega, by go_num, hBr, fun j z hj hz => by
                    by_cases e : j = m
                    · subst e
                      rw [HX.out] at hz
                      injection hz with hz
                      omega
                    · exact HALL.out j z (by omega) hz, fun i j z hi hj hz hz2 => by
                    by_cases e1 : i = m
                    · by_cases e2 : j = m
                      · omega
                      · subst e1
                        rw [HX.out] at hz
                        injection hz with hz
                        exact absurd hz.symm (HIN.out j z (by omega) hz2)
                    · by_cases e2 : j = m
                      · subst e2
                        rw [HX.out] at hz2
                        injection hz2 with hz2
                        exact absurd hz2.symm (HIN.out i z (by omega) hz)
                      · exact HND.out i j z (by omega) (by omega) hz hz2⟩
              case measure => simp [intOf] <;> omega
    · obtain rfl : k = l.length := by omega
      have hHr := hH.below hBr
      have hN := hHr.newrow wr.heap.size 3 1 rfl
      have hBN := below_new (hBr.mono hH.le) hHr (.cells #[] 3)
      have hBA := below_new hBr (Has.nil hBr.size : Has wr w.heap.size []) (.cells #[] 3)
      have HS2 := hid (HS.out _ hBA)
      go_wp2_with (at_builtin; refine wpList_append_rows [] _ hN rfl _ _ 22 rfl i0 (.int .i64 0) 8 Try.underlying22 hi hz0 hz1 hz2 rfl (by decide) rfl (some ⟨gb, o, none⟩) l.length cap (l.map (Value.int .i64)) rfl (by simp) (by simp) (by intro ad h; cases h; exact HS2.out) (by simp [Value.oneCell']) (by unfold maxLen; omega) (by omega) ?_; intro g1 cap1 w2 hH2 hB2; simp only [Nat.zero_add, List.nil_append] at hH2 ⊢)
      go_ret
      have hP := hH2.newblk w2.heap.size 53 #[.slice (some ⟨g1, 0, none⟩) l.length cap1] rfl
      refine .inr ⟨⟨h1, h2, h3, h4, fun x hx => ?_, nodup_of_at HND.out⟩, w2.heap.size, rfl, ?_, (hBN.trans hB2).trans (below_new (Below.refl _ _) hH2 _)⟩
      · obtain ⟨j, hj⟩ := List.mem_iff_getElem?.1 hx
        exact HALL.out j x (List.getElem?_eq_some_iff.1 hj).1 hj
      · exact Has.shut_ex (.slice (some ⟨g1, 0, none⟩) l.length cap1) (Has.shut_all _ hP)

theorem RNew_calls (a : Option Addr) (cap : Nat) (l : List Int) (frames : Int) (w : World) (hs : Src w a l) {B : Nat} {X : List Asr} (hH : Has w B X) :
    Calls Try.prog 22 #[.slice a l.length cap, .int .i64 frames] w (RNewPost l frames X B w) := by
  have hno : ∀ e : Ending, ¬ gok l frames → e = .returned (.pointer none) → RNewPost l frames X B w e w := fun e h1 h2 => .inl ⟨h1, h2, hH, Below.refl _ _⟩
  have HNO := hid hno
  by_cases h1 : 1 ≤ l.length
  · by_cases h2 : l.length ≤ 64
    · by_cases h3 : 1 ≤ frames
      · by_cases h4 : frames ≤ 256
        · obtain ⟨b, o, rfl, hb, hc⟩ := hs.mem (by omega)
          exact RNew_walk b o cap l frames w B X hH h1 h2 h3 h4 hb hc
        · have e1 : decide ((l.length : Int) < 1) = false := by rw [decide_eq_false_iff_not]; omega
          have e2 : decide (64 < (l.length : Int)) = false := by rw [decide_eq_false_iff_not]; omega
          have e3 : decide (frames < 1) = false := by rw [decide_eq_false_iff_not]; omega
          have e4 : decide (256 < frames) = true := by rw [decide_eq_true_eq]; omega
          clear hno hs hH
          go_enter Try.func22, Try.ntmps22
          go_wp2_with fail
          go_ret
          exact HNO.out _ (fun h => by have := h.2.2.2.1; omega) rfl
      · have e1 : decide ((l.length : Int) < 1) = false := by rw [decide_eq_false_iff_not]; omega
        have e2 : decide (64 < (l.length : Int)) = false := by rw [decide_eq_false_iff_not]; omega
        have e3 : decide (frames < 1) = true := by rw [decide_eq_true_eq]; omega
        clear hno hs hH
        go_enter Try.func22, Try.ntmps22
        go_wp2_with fail
        go_ret
        exact HNO.out _ (fun h => by have := h.2.2.1; omega) rfl
    · have e1 : decide ((l.length : Int) < 1) = false := by rw [decide_eq_false_iff_not]; omega
      have e2 : decide (64 < (l.length : Int)) = true := by rw [decide_eq_true_eq]; omega
      clear hno hs hH
      go_enter Try.func22, Try.ntmps22
      go_wp2_with fail
      go_ret
      exact HNO.out _ (fun h => by have := h.2.1; omega) rfl
  · have e1 : decide ((l.length : Int) < 1) = true := by rw [decide_eq_true_eq]; omega
    clear hno hs hH
    go_enter Try.func22, Try.ntmps22
    go_wp2_with fail
    go_ret
    exact HNO.out _ (fun h => by have := h.1; omega) rfl

end Go.Proofs.Ytkgijfodjmkhgaa
