/-
  The document's answer to layer 1.
-/
import Derived.Test.YtlcdjdchcjnhfaaFrameGreat
import Derived.StillTailTactics
namespace Go.Proofs.Ytlcdjdchcjnhfaa
open Go.RowKit
set_option linter.unusedVariables false
set_option linter.unusedSimpArgs false

/-- The document's memory, at block b. -/
def RMemA (b n : Nat) (W : List Int) : Asr :=
  Asr.ex fun g : Nat => Asr.and (1 ≤ n ∧ n ≤ 256 ∧ W.length = n * 8) <| Asr.all [blk b 101 #[.slice (some ⟨g, 0, none⟩) (n * 8) (n * 8)], row 34 1 (.slice (some ⟨g, 0, none⟩) (n * 8) (n * 8)) (n * 8) (u64s W)]
theorem RMemA.open {b n : Nat} {W : List Int} {w : World} {B : Nat} {X : List Asr} (hH : Has w B (RMemA b n W :: X)) : ∃ g : Nat, (1 ≤ n ∧ n ≤ 256 ∧ W.length = n * 8) ∧
    Has w B (blk b 101 #[.slice (some ⟨g, 0, none⟩) (n * 8) (n * 8)] :: row 34 1 (.slice (some ⟨g, 0, none⟩) (n * 8) (n * 8)) (n * 8) (u64s W) :: X) := by
  obtain ⟨g, hH⟩ := hH.open_ex
  obtain ⟨hI, hH⟩ := hH.open_and
  exact ⟨g, hI, hH.open_all⟩
theorem RMemA.shut {b n g : Nat} {W : List Int} {w : World} {B : Nat} {X : List Asr} (hI : 1 ≤ n ∧ n ≤ 256 ∧ W.length = n * 8)
    (hH : Has w B (blk b 101 #[.slice (some ⟨g, 0, none⟩) (n * 8) (n * 8)] :: row 34 1 (.slice (some ⟨g, 0, none⟩) (n * 8) (n * 8)) (n * 8) (u64s W) :: X)) : Has w B (RMemA b n W :: X) :=
  Has.shut_ex g (Has.shut_and hI (Has.shut_all _ hH))

/-- What the document's New hands back. -/
def RMemNewPost (frames : Int) (X : List Asr) (B : Nat) (w : World) (e : Ending) (w' : World) : Prop :=
  (¬ (1 ≤ frames ∧ frames ≤ 256) ∧ e = .returned (.pointer none) ∧ Has w' B X ∧ Below B w w') ∨
  (∃ b n : Nat, frames = n ∧ 1 ≤ n ∧ n ≤ 256 ∧ e = .returned (.pointer (some ⟨b, 0, none⟩)) ∧ Has w' B (RMemA b n (List.replicate (n * 8) 0) :: X) ∧ Below B w w')
theorem RMemNew_calls (frames : Int) (w : World) (B : Nat) (X : List Asr) (hH : Has w B X) :
    Calls Try.prog 24 #[.int .i64 frames] w (RMemNewPost frames X B w) := by
  by_cases h1 : frames < 1
  · have e1 : decide (frames < 1) = true := by rw [decide_eq_true_eq]; exact h1
    go_enter Try.func24, Try.ntmps24
    go_wp2_with fail
    go_ret
    exact .inl ⟨by omega, rfl, hH, Below.refl _ _⟩
  · have e1 : decide (frames < 1) = false := by rw [decide_eq_false_iff_not]; exact h1
    by_cases h2 : 256 < frames
    · have e2 : decide (256 < frames) = true := by rw [decide_eq_true_eq]; exact h2
      go_enter Try.func24, Try.ntmps24
      go_wp2_with fail
      go_ret
      exact .inl ⟨by omega, rfl, hH, Below.refl _ _⟩
    · have e2 : decide (256 < frames) = false := by rw [decide_eq_false_iff_not]; exact h2
      obtain ⟨n, rfl⟩ := Int.eq_ofNat_of_zero_le (show 0 ≤ frames by omega)
      obtain ⟨i0, hi, hz0, hz1, hz2⟩ := info_parts infoU64
      go_enter Try.func24, Try.ntmps24
      go_wp2_with (at_make; refine wpList_make_rows (n := n * 8) hH rfl _ _ 68 rfl i0 _ 8 Try.underlying68 hi hz0 hz1 hz2 _ _ _ _ rfl rfl (by simp) (by simp) (by omega) (by unfold maxLen; omega) ?_; intro w1 hH1 hB1)
      go_ret
      have e : (madeCells (Value.int .u64 0).cells (n * 8 * 1)).toList = u64s (List.replicate (n * 8) 0) := by
        rw [show (Value.int .u64 0).cells = Array.replicate 1 (.int .u64 0) from rfl, madeCells_same _ 1 _ (by omega)]
        simp [u64s]
      rw [e] at hH1
      have hN := hH1.newblk w1.heap.size 101 #[.slice (some ⟨w.heap.size, 0, none⟩) (n * 8) (n * 8)] rfl
      exact .inr ⟨w1.heap.size, n, rfl, by omega, by omega, rfl, RMemA.shut ⟨by omega, by omega, by simp⟩ hN, hB1.trans (below_new (Below.refl _ _) hH1 _)⟩

theorem RFrames_calls (b n : Nat) (W : List Int) (w : World) (B : Nat) (X : List Asr) (hH : Has w B (RMemA b n W :: X)) :
    Calls Try.prog 72 #[.pointer (some ⟨b, 0, none⟩)] w fun e w' => e = .returned (.int .i64 n) ∧ w = w' := by
  obtain ⟨g, ⟨hI1, hI2, hI3⟩, hO⟩ := RMemA.open hH
  have c0 := hO.cell [] _ 0 rfl
  have e1 : ((n : Int) * 8) / 8 = n := by omega
  have e1 : (((n * 8 : Nat) : Int)) / 8 = n := by omega
  clear hH hO
  go_enter Try.func72, Try.ntmps72
  go_wp2_with fail
  go_ret
  exact ⟨rfl, rfl⟩

theorem is_calls (b n : Nat) (W : List Int) (f i : Int) (w : World) (B : Nat) (X : List Asr) (hH : Has w B (RMemA b n W :: X)) :
    Calls Try.prog 51 #[.pointer (some ⟨b, 0, none⟩), .int .i64 f, .int .i64 i] w fun e w' => e = .returned (.bool (decide (wok n f i))) ∧ w = w' := by
  have cf := RFrames_calls b n W w B X hH
  have CF := hid cf
  clear cf hH
  by_cases h1 : 0 ≤ f
  · have e1 : decide (0 ≤ f) = true := by rw [decide_eq_true_eq]; exact h1
    by_cases h2 : f < n
    · have e2 : decide (f < (n : Int)) = true := by rw [decide_eq_true_eq]; exact h2
      by_cases h3 : 0 ≤ i
      · have e3 : decide (0 ≤ i) = true := by rw [decide_eq_true_eq]; exact h3
        by_cases h4 : i < 8
        · have e4 : decide (i < 8) = true := by rw [decide_eq_true_eq]; exact h4
          rw [show decide (wok n f i) = true from by rw [decide_eq_true_eq]; exact ⟨h1, h2, h3, h4⟩]
          go_enter Try.func51, Try.ntmps51
          go_wp2_with fail
          refine CF.out.mono ?_
          rintro e w6 ⟨rfl, rfl⟩
          go_wp2_with fail
          go_ret
          exact ⟨rfl, rfl⟩
        · have e4 : decide (i < 8) = false := by rw [decide_eq_false_iff_not]; exact h4
          rw [show decide (wok n f i) = false from by rw [decide_eq_false_iff_not]; exact fun h => h4 h.2.2.2]
          go_enter Try.func51, Try.ntmps51
          go_wp2_with fail
          refine CF.out.mono ?_
          rintro e w6 ⟨rfl, rfl⟩
          go_wp2_with fail
          go_ret
          exact ⟨rfl, rfl⟩
      · have e3 : decide (0 ≤ i) = false := by rw [decide_eq_false_iff_not]; exact h3
        rw [show decide (wok n f i) = false from by rw [decide_eq_false_iff_not]; exact fun h => h3 h.2.2.1]
        go_enter Try.func51, Try.ntmps51
        go_wp2_with fail
        refine CF.out.mono ?_
        rintro e w6 ⟨rfl, rfl⟩
        go_wp2_with fail
        go_ret
        exact ⟨rfl, rfl⟩
    · have e2 : decide (f < (n : Int)) = false := by rw [decide_eq_false_iff_not]; exact h2
      rw [show decide (wok n f i) = false from by rw [decide_eq_false_iff_not]; exact fun h => h2 h.2.1]
      go_enter Try.func51, Try.ntmps51
      go_wp2_with fail
      refine CF.out.mono ?_
      rintro e w6 ⟨rfl, rfl⟩
      go_wp2_with fail
      go_ret
      exact ⟨rfl, rfl⟩
  · have e1 : decide (0 ≤ f) = false := by rw [decide_eq_false_iff_not]; exact h1
    rw [show decide (wok n f i) = false from by rw [decide_eq_false_iff_not]; exact fun h => h1 h.1]
    go_enter Try.func51, Try.ntmps51
    go_wp2_with fail
    go_ret
    exact ⟨rfl, rfl⟩

theorem RGet_calls (b n : Nat) (W : List Int) (f i : Int) (w : World) (B : Nat) (X : List Asr) (hH : Has w B (RMemA b n W :: X)) :
    Calls Try.prog 57 #[.pointer (some ⟨b, 0, none⟩), .int .i64 f, .int .i64 i] w fun e w' => e = .returned (getR W n f i) ∧ w = w' := by
  obtain ⟨g, ⟨hI1, hI2, hI3⟩, hO⟩ := RMemA.open hH
  have ci := is_calls b n W f i w B X hH
  by_cases hk : wok n f i
  · rw [decide_eq_true hk] at ci
    obtain ⟨k, j, rfl, rfl, h1, h2⟩ := wok_nat hk
    have hlt := wat_lt hk
    obtain ⟨x, hx⟩ : ∃ x, W[k * 8 + j]? = some x := ⟨_, List.getElem?_eq_getElem (by simp [wat] at hlt; omega)⟩
    have er : getR W n k j = .tuple #[.int .u64 x, .bool true] := by simp [getR, hk, wat, List.getD, hx]
    rw [er]
    have c0 := hO.cell [] _ 0 rfl
    have c1 := hO.row_cell [_] _ (k * 8 + j) (u64s_get hx)
    have hb : k * 8 + j < n * 8 := by omega
    have CI := hid ci
    clear er hk hlt hx hH hO ci
    go_enter Try.func57, Try.ntmps57
    go_wp2_with fail
    refine CI.out.mono ?_
    rintro e w' ⟨rfl, rfl⟩
    go_wp2_with fail
    go_ret2
    exact ⟨rfl, rfl⟩
  · rw [decide_eq_false hk] at ci
    have er : getR W n f i = .tuple #[.int .u64 0, .bool false] := by simp [getR, hk]
    rw [er]
    have CI := hid ci
    clear er hk hH hO ci
    go_enter Try.func57, Try.ntmps57
    go_wp2_with fail
    refine CI.out.mono ?_
    rintro e w' ⟨rfl, rfl⟩
    go_wp2_with fail
    go_ret2
    exact ⟨rfl, rfl⟩

theorem RSet_calls (b n : Nat) (W : List Int) (f i v : Int) (w : World) (B : Nat) (X : List Asr) (hH : Has w B (RMemA b n W :: X)) :
    Calls Try.prog 25 #[.pointer (some ⟨b, 0, none⟩), .int .i64 f, .int .i64 i, .int .u64 v] w fun e w' => e = .returned (.bool (decide (wok n f i))) ∧ Has w' B (RMemA b n (setW W n f i v) :: X) ∧ Below B w w' := by
  obtain ⟨g, ⟨hI1, hI2, hI3⟩, hO⟩ := RMemA.open hH
  have ci := is_calls b n W f i w B X hH
  by_cases hk : wok n f i
  · rw [decide_eq_true hk] at ci ⊢
    obtain ⟨k, j, rfl, rfl, h1, h2⟩ := wok_nat hk
    have hlt := wat_lt hk
    obtain ⟨x, hx⟩ : ∃ x, W[k * 8 + j]? = some x := ⟨_, List.getElem?_eq_getElem (by simp [wat] at hlt; omega)⟩
    have er : setW W n k j v = W.set (k * 8 + j) v := by simp [setW, hk, wat]
    rw [er]
    have c0 := hO.cell [] _ 0 rfl
    have c1 := hO.row_cell [_] _ (k * 8 + j) (u64s_get hx)
    have f1 := hO.row_frozen [_] _ (k * 8 + j)
    have hb : k * 8 + j < n * 8 := by omega
    have hS := hO.row_set [_] _ (k * 8 + j) (by rw [u64s_length]; omega) (.int .u64 v)
    rw [u64s_set] at hS
    have hgB : B ≤ g := by
      rcases hO.row_shape [_] _ with ⟨h, _⟩ | ⟨g', cap', h, _, _, h3, _⟩
      · cases h
      · cases h; exact h3
    have CI := hid ci
    clear er hk hlt hx hH hO ci
    go_enter Try.func25, Try.ntmps25
    go_wp2_with fail
    refine CI.out.mono ?_
    rintro e w' ⟨rfl, rfl⟩
    go_wp2_with fail
    go_ret
    exact ⟨rfl, RMemA.shut ⟨hI1, hI2, by simpa using hI3⟩ hS, (Below.refl _ _).setCell (p := ⟨g, k * 8 + j, none⟩) hgB (.int .u64 v)⟩
  · rw [decide_eq_false hk] at ci ⊢
    have er : setW W n f i v = W := by simp [setW, hk]
    rw [er]
    have CI := hid ci
    clear er hk hO ci
    go_enter Try.func25, Try.ntmps25
    go_wp2_with fail
    refine CI.out.mono ?_
    rintro e w' ⟨rfl, rfl⟩
    go_wp2_with fail
    go_ret
    exact ⟨rfl, hH, Below.refl _ _⟩

theorem wok_zero (n : Nat) (f : Int) : wok n f 0 ↔ 0 ≤ f ∧ f < n := ⟨fun h => ⟨h.1, h.2.1⟩, fun h => ⟨h.1, h.2, by omega, by omega⟩⟩

end Go.Proofs.Ytlcdjdchcjnhfaa
