/-
  Contracts of package frame (layer 1): a memory of n frames as its words, one behind the other.
-/
import Derived.Test.YteeapkndappnoaaRows
import Derived.Test.YteeapkndappnoaaRow8
namespace Go.Proofs.Yteeapkndappnoaa
open Go.RowKit
set_option linter.unusedVariables false
set_option linter.unusedSimpArgs false

/-- The words' cells. -/
def u64s (W : List Int) : List Value := W.map (Value.int .u64)
theorem u64s_length (W : List Int) : (u64s W).length = W.length := by simp [u64s]
theorem u64s_get {W : List Int} {i : Nat} {x : Int} (h : W[i]? = some x) : (u64s W)[i]? = some (.int .u64 x) := by simp [u64s, h]
theorem u64s_set (W : List Int) (i : Nat) (x : Int) : (u64s W).set i (.int .u64 x) = u64s (W.set i x) := by simp [u64s, List.map_set]
theorem u64s_app (W V : List Int) : u64s W ++ u64s V = u64s (W ++ V) := by simp [u64s]

/-- The program's memory, at block b. -/
def MemA (b n : Nat) (W : List Int) : Asr :=
  Asr.ex fun g : Nat => Asr.and (1 ≤ n ∧ n ≤ 256 ∧ W.length = n * 8) <| Asr.all [blk b 83 #[.slice (some ⟨g, 0, none⟩) n n], row 126 8 (.slice (some ⟨g, 0, none⟩) n n) n (u64s W)]
theorem MemA.open {b n : Nat} {W : List Int} {w : World} {B : Nat} {X : List Asr} (hH : Has w B (MemA b n W :: X)) : ∃ g : Nat, (1 ≤ n ∧ n ≤ 256 ∧ W.length = n * 8) ∧
    Has w B (blk b 83 #[.slice (some ⟨g, 0, none⟩) n n] :: row 126 8 (.slice (some ⟨g, 0, none⟩) n n) n (u64s W) :: X) := by
  obtain ⟨g, hH⟩ := hH.open_ex
  obtain ⟨hI, hH⟩ := hH.open_and
  exact ⟨g, hI, hH.open_all⟩
theorem MemA.shut {b n g : Nat} {W : List Int} {w : World} {B : Nat} {X : List Asr} (hI : 1 ≤ n ∧ n ≤ 256 ∧ W.length = n * 8)
    (hH : Has w B (blk b 83 #[.slice (some ⟨g, 0, none⟩) n n] :: row 126 8 (.slice (some ⟨g, 0, none⟩) n n) n (u64s W) :: X)) : Has w B (MemA b n W :: X) :=
  Has.shut_ex g (Has.shut_and hI (Has.shut_all _ hH))
theorem MemA.fits {b n : Nat} {W : List Int} {w : World} {B : Nat} {X : List Asr} (hH : Has w B (MemA b n W :: X)) : 1 ≤ n ∧ n ≤ 256 ∧ W.length = n * 8 := (MemA.open hH).choose_spec.1

theorem infoFrame : (Try.prog.info? 126).map (fun i => (i.zero, i.size, i.bytes)) = some (some (.agg (Array.replicate 8 (.int .u64 0))), 8, 64) := by kernel_rfl

/-- What frame.New hands back. -/
def MemNewPost (frames : Int) (X : List Asr) (B : Nat) (w : World) (e : Ending) (w' : World) : Prop :=
  (¬ (1 ≤ frames ∧ frames ≤ 256) ∧ e = .returned (.pointer none) ∧ Has w' B X ∧ Below B w w') ∨
  (∃ b n : Nat, frames = n ∧ 1 ≤ n ∧ n ≤ 256 ∧ e = .returned (.pointer (some ⟨b, 0, none⟩)) ∧ Has w' B (MemA b n (List.replicate (n * 8) 0) :: X) ∧ Below B w w')
/-- frame.New. -/
theorem MemNew_calls (frames : Int) (w : World) (B : Nat) (X : List Asr) (hH : Has w B X) :
    Calls Try.prog 11 #[.int .i64 frames] w (MemNewPost frames X B w) := by
  by_cases h1 : frames < 1
  · have e1 : decide (frames < 1) = true := by rw [decide_eq_true_eq]; exact h1
    go_enter Try.func11, Try.ntmps11
    go_wp2_with fail
    go_ret
    exact .inl ⟨by omega, rfl, hH, Below.refl _ _⟩
  · have e1 : decide (frames < 1) = false := by rw [decide_eq_false_iff_not]; exact h1
    by_cases h2 : 256 < frames
    · have e2 : decide (256 < frames) = true := by rw [decide_eq_true_eq]; exact h2
      go_enter Try.func11, Try.ntmps11
      go_wp2_with fail
      go_ret
      exact .inl ⟨by omega, rfl, hH, Below.refl _ _⟩
    · have e2 : decide (256 < frames) = false := by rw [decide_eq_false_iff_not]; exact h2
      obtain ⟨n, rfl⟩ := Int.eq_ofNat_of_zero_le (show 0 ≤ frames by omega)
      obtain ⟨i0, hi, hz0, hz1, hz2⟩ := info_parts infoFrame
      go_enter Try.func11, Try.ntmps11
      go_wp2_with (at_make; refine wpList_make_rows hH rfl _ _ 81 rfl i0 _ 64 Try.underlying81 hi hz0 hz1 hz2 _ _ _ _ rfl rfl rfl rfl (by omega) (by unfold maxLen; omega) ?_; intro w1 hH1 hB1)
      go_ret
      have e : (madeCells (Value.agg (Array.replicate 8 (.int .u64 0))).cells (n * 8)).toList = u64s (List.replicate (n * 8) 0) := by
        rw [show (Value.agg (Array.replicate 8 (.int .u64 0))).cells = Array.replicate 8 (.int .u64 0) from rfl, madeCells_same _ 8 _ (by omega)]
        simp [u64s]
      rw [e] at hH1
      have hN := hH1.newblk w1.heap.size 83 #[.slice (some ⟨w.heap.size, 0, none⟩) n n] rfl
      exact .inr ⟨w1.heap.size, n, rfl, by omega, by omega, rfl, MemA.shut ⟨by omega, by omega, by simp⟩ hN, hB1.trans (below_new (Below.refl _ _) hH1 _)⟩

theorem Frames_calls (b n : Nat) (W : List Int) (w : World) (B : Nat) (X : List Asr) (hH : Has w B (MemA b n W :: X)) :
    Calls Try.prog 47 #[.pointer (some ⟨b, 0, none⟩)] w fun e w' => e = .returned (.int .i64 n) ∧ w = w' := by
  obtain ⟨g, _, hO⟩ := MemA.open hH
  have c0 := hO.cell [] _ 0 rfl
  clear hH hO
  go_enter Try.func47, Try.ntmps47
  go_wp2_with fail
  go_ret
  exact ⟨rfl, rfl⟩

/-- There is such a word. -/
def wok (n : Nat) (f i : Int) : Prop := 0 ≤ f ∧ f < n ∧ 0 ≤ i ∧ i < 8
instance (n : Nat) (f i : Int) : Decidable (wok n f i) := by unfold wok; infer_instance
/-- Where it is. -/
def wat (f i : Int) : Nat := f.toNat * 8 + i.toNat
theorem wat_lt {n : Nat} {f i : Int} (h : wok n f i) : wat f i < n * 8 := by
  obtain ⟨h1, h2, h3, h4⟩ := h
  unfold wat
  omega
theorem wok_nat {n : Nat} {f i : Int} (h : wok n f i) : ∃ k j : Nat, f = k ∧ i = j ∧ k < n ∧ j < 8 := by
  obtain ⟨h1, h2, h3, h4⟩ := h
  exact ⟨f.toNat, i.toNat, by omega, by omega, by omega, by omega⟩

/-- word, where there is one. -/
theorem word_yes (b g n k j : Nat) (hk : k < n) (hj : j < 8) (hn : n ≤ 256) (w : World) (B : Nat) (X : List Asr) (hH : Has w B (blk b 83 #[.slice (some ⟨g, 0, none⟩) n n] :: X)) :
    Calls Try.prog 60 #[.pointer (some ⟨b, 0, none⟩), .int .i64 k, .int .i64 j] w fun e w' => e = .returned (.pointer (some ⟨g, k * 8 + j, none⟩)) ∧ w = w' := by
  have c0 := hH.cell [] _ 0 rfl
  clear hH
  have e1 : decide ((n : Int) ≤ (k : Int)) = false := by rw [decide_eq_false_iff_not]; omega
  have e1 : decide (n ≤ k) = false := by rw [decide_eq_false_iff_not]; omega
  have e1 : decide (8 ≤ (j : Int)) = false := by rw [decide_eq_false_iff_not]; omega
  have e1 : decide (8 ≤ j) = false := by rw [decide_eq_false_iff_not]; omega
  go_enter Try.func60, Try.ntmps60
  go_wp2_with fail
  go_ret
  exact ⟨rfl, rfl⟩

/-- word, where there is none. -/
theorem word_no (b g n : Nat) (f i : Int) (hno : ¬ wok n f i) (w : World) (B : Nat) (X : List Asr) (hH : Has w B (blk b 83 #[.slice (some ⟨g, 0, none⟩) n n] :: X)) :
    Calls Try.prog 60 #[.pointer (some ⟨b, 0, none⟩), .int .i64 f, .int .i64 i] w fun e w' => e = .returned (.pointer none) ∧ w = w' := by
  have c0 := hH.cell [] _ 0 rfl
  clear hH
  by_cases h1 : f < 0
  · have e1 : decide (f < 0) = true := by rw [decide_eq_true_eq]; exact h1
    clear hno
    go_enter Try.func60, Try.ntmps60
    go_wp2_with fail
    go_ret
    exact ⟨rfl, rfl⟩
  · have e1 : decide (f < 0) = false := by rw [decide_eq_false_iff_not]; exact h1
    by_cases h2 : (n : Int) ≤ f
    · have e2 : decide ((n : Int) ≤ f) = true := by rw [decide_eq_true_eq]; exact h2
      clear hno
      go_enter Try.func60, Try.ntmps60
      go_wp2_with fail
      go_ret
      exact ⟨rfl, rfl⟩
    · have e2 : decide ((n : Int) ≤ f) = false := by rw [decide_eq_false_iff_not]; exact h2
      by_cases h3 : i < 0
      · have e3 : decide (i < 0) = true := by rw [decide_eq_true_eq]; exact h3
        clear hno
        go_enter Try.func60, Try.ntmps60
        go_wp2_with fail
        go_ret
        exact ⟨rfl, rfl⟩
      · have e3 : decide (i < 0) = false := by rw [decide_eq_false_iff_not]; exact h3
        by_cases h4 : 8 ≤ i
        · have e4 : decide (8 ≤ i) = true := by rw [decide_eq_true_eq]; exact h4
          clear hno
          go_enter Try.func60, Try.ntmps60
          go_wp2_with fail
          go_ret
          exact ⟨rfl, rfl⟩
        · exact absurd ⟨by omega, by omega, by omega, by omega⟩ hno

/-- What Get answers. -/
def getR (W : List Int) (n : Nat) (f i : Int) : Value := .tuple #[.int .u64 (if wok n f i then W.getD (wat f i) 0 else 0), .bool (decide (wok n f i))]

theorem Get_calls (b n : Nat) (W : List Int) (f i : Int) (w : World) (B : Nat) (X : List Asr) (hH : Has w B (MemA b n W :: X)) :
    Calls Try.prog 24 #[.pointer (some ⟨b, 0, none⟩), .int .i64 f, .int .i64 i] w fun e w' => e = .returned (getR W n f i) ∧ w = w' := by
  obtain ⟨g, ⟨hI1, hI2, hI3⟩, hO⟩ := MemA.open hH
  by_cases hk : wok n f i
  · obtain ⟨k, j, rfl, rfl, h1, h2⟩ := wok_nat hk
    have hlt := wat_lt hk
    obtain ⟨x, hx⟩ : ∃ x, W[k * 8 + j]? = some x := ⟨_, List.getElem?_eq_getElem (by simp [wat] at hlt; omega)⟩
    have er : getR W n k j = .tuple #[.int .u64 x, .bool true] := by simp [getR, hk, wat, List.getD, hx]
    rw [er]
    have c0 := hO.row_cell [_] _ (k * 8 + j) (u64s_get hx)
    have cw := word_yes b g n k j h1 h2 hI2 w B _ hO
    clear er hk hlt hx hH hO
    go_enter Try.func24, Try.ntmps24
    go_wp2_with fail
    refine cw.mono ?_
    rintro e w' ⟨rfl, rfl⟩
    go_wp2_with fail
    go_ret2
    exact ⟨rfl, rfl⟩
  · have er : getR W n f i = .tuple #[.int .u64 0, .bool false] := by simp [getR, hk]
    rw [er]
    have cw := word_no b g n f i hk w B _ hO
    clear er hk hH hO
    go_enter Try.func24, Try.ntmps24
    go_wp2_with fail
    refine cw.mono ?_
    rintro e w' ⟨rfl, rfl⟩
    go_wp2_with fail
    go_ret2
    exact ⟨rfl, rfl⟩

/-- What Set leaves. -/
def setW (W : List Int) (n : Nat) (f i v : Int) : List Int := if wok n f i then W.set (wat f i) v else W

theorem Set_calls (b n : Nat) (W : List Int) (f i v : Int) (w : World) (B : Nat) (X : List Asr) (hH : Has w B (MemA b n W :: X)) :
    Calls Try.prog 26 #[.pointer (some ⟨b, 0, none⟩), .int .i64 f, .int .i64 i, .int .u64 v] w fun e w' => e = .returned (.bool (decide (wok n f i))) ∧ Has w' B (MemA b n (setW W n f i v) :: X) ∧ Below B w w' := by
  obtain ⟨g, ⟨hI1, hI2, hI3⟩, hO⟩ := MemA.open hH
  by_cases hk : wok n f i
  · obtain ⟨k, j, rfl, rfl, h1, h2⟩ := wok_nat hk
    have hlt := wat_lt hk
    obtain ⟨x, hx⟩ : ∃ x, W[k * 8 + j]? = some x := ⟨_, List.getElem?_eq_getElem (by simp [wat] at hlt; omega)⟩
    have er : setW W n k j v = W.set (k * 8 + j) v := by simp [setW, hk, wat]
    rw [er, decide_eq_true hk]
    have c0 := hO.row_cell [_] _ (k * 8 + j) (u64s_get hx)
    have f0 := hO.row_frozen [_] _ (k * 8 + j)
    have cw := word_yes b g n k j h1 h2 hI2 w B _ hO
    have hS := hO.row_set [_] _ (k * 8 + j) (by rw [u64s_length]; simp [wat] at hlt; omega) (.int .u64 v)
    rw [u64s_set] at hS
    have hgB : B ≤ g := by
      rcases hO.row_shape [_] _ with ⟨h, _⟩ | ⟨g', cap', h, _, _, h3, _⟩
      · cases h
      · cases h; exact h3
    clear er hk hlt hx hH hO
    go_enter Try.func26, Try.ntmps26
    go_wp2_with fail
    refine cw.mono ?_
    rintro e w' ⟨rfl, rfl⟩
    go_wp2_with fail
    go_ret
    exact ⟨rfl, MemA.shut ⟨hI1, hI2, by simpa using hI3⟩ hS, (Below.refl _ _).setCell (p := ⟨g, k * 8 + j, none⟩) hgB (.int .u64 v)⟩
  · have er : setW W n f i v = W := by simp [setW, hk]
    rw [er, decide_eq_false hk]
    have cw := word_no b g n f i hk w B _ hO
    clear er hk hO
    go_enter Try.func26, Try.ntmps26
    go_wp2_with fail
    refine cw.mono ?_
    rintro e w' ⟨rfl, rfl⟩
    go_wp2_with fail
    go_ret
    exact ⟨rfl, hH, Below.refl _ _⟩

end Go.Proofs.Yteeapkndappnoaa
