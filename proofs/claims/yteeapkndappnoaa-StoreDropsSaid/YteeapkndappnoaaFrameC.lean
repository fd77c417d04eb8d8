/-
  Fill and Same of package frame.
-/
import Derived.Test.YteeapkndappnoaaFrameB
import Derived.StillTailTactics
namespace Go.Proofs.Yteeapkndappnoaa
open Go.RowKit
set_option linter.unusedVariables false
set_option linter.unusedSimpArgs false

/-- A list of words that came in, or is the call's own. -/
structure SrcU (w : World) (a : Option Addr) (l : List Int) : Prop where
  small : l.length ≤ 9223372036854775807
  mem : 0 < l.length → ∃ b o, a = some ⟨b, o, none⟩ ∧ b < w.heap.size ∧ ∀ j u, (u64s l)[j]? = some u → w.cell? ⟨b, o + j, none⟩ = some u

/-- What Fill leaves. -/
def fillW (W : List Int) (n : Nat) (f : Int) (l : List Int) : List Int := if 0 ≤ f ∧ f < n ∧ l.length = 8 then W.take (f.toNat * 8) ++ l ++ W.drop (f.toNat * 8 + 8) else W

set_option maxHeartbeats 1000000 in
set_option maxRecDepth 100000 in
theorem Fill_calls (b n : Nat) (W : List Int) (f : Int) (a : Option Addr) (cap : Nat) (l : List Int) (w : World) (hs : SrcU w a l) (B : Nat) (X : List Asr) (hH : Has w B (MemA b n W :: X)) :
    Calls Try.prog 58 #[.pointer (some ⟨b, 0, none⟩), .int .i64 f, .slice a l.length cap] w fun e w' => e = .returned (.bool (decide (0 ≤ f ∧ f < n ∧ l.length = 8))) ∧ Has w' B (MemA b n (fillW W n f l) :: X) ∧ Below B w w' := by
  obtain ⟨g, ⟨hI1, hI2, hI3⟩, hO⟩ := MemA.open hH
  by_cases hf : 0 ≤ f ∧ f < n
  · obtain ⟨p, rfl⟩ := Int.eq_ofNat_of_zero_le hf.1
    have hp : p < n := by omega
    have cw := word_yes b g n p 0 hp (by omega) hI2 w B _ hO
    by_cases hl : l.length = 8
    · have er : fillW W n p l = W.take (p * 8) ++ l ++ W.drop (p * 8 + 8) := by
        have : 0 ≤ (p : Int) ∧ (p : Int) < n ∧ l.length = 8 := ⟨hf.1, hf.2, hl⟩
        unfold fillW
        rw [if_pos this]
        simp
      rw [er, decide_eq_true (⟨hf.1, hf.2, hl⟩ : 0 ≤ (p : Int) ∧ (p : Int) < n ∧ l.length = 8)]
      obtain ⟨gb, o, rfl, hgb, hc⟩ := hs.mem (by omega)
      have c0 := hO.cell [] _ 0 rfl
      obtain ⟨y0, y1, y2, y3, y4, y5, y6, y7, rfl⟩ : ∃ y0 y1 y2 y3 y4 y5 y6 y7, l = [y0, y1, y2, y3, y4, y5, y6, y7] := by
        match l, hl with
        | [y0, y1, y2, y3, y4, y5, y6, y7], _ => exact ⟨y0, y1, y2, y3, y4, y5, y6, y7, rfl⟩
      have d0 := hc 0 _ rfl
      have d1 := hc 1 _ rfl
      have d2 := hc 2 _ rfl
      have d3 := hc 3 _ rfl
      have d4 := hc 4 _ rfl
      have d5 := hc 5 _ rfl
      have d6 := hc 6 _ rfl
      have d7 := hc 7 _ rfl
      rw [Nat.add_zero] at d0
      have HL := hid hl
      rw [hl]
      have hsa : ∀ W, Sem.run Try.prog (Instr.arrayAt 126 (.slice (some ⟨gb, o, none⟩) 8 cap)) W = .ok (.pointer (some ⟨gb, o, none⟩)) W := fun W => by
        have h := Try.underlying126
        simp [Instr.arrayAt, run_underlying h]
      clear er hf hs hl hc
      go_enter Try.func58, Try.ntmps58
      go_wp2_with fail
      refine cw.mono ?_
      rintro e w' ⟨rfl, rfl⟩
      go_wp2_with fail
      go_still_tail 9, (by kernel_rfl)
      change wpList _ _ _ _ _ (w.drew)
      have hD := hO.drew
      have hBd : Below B w w.drew := (Below.refl B w).drew
      go_wp2_with (refine wpList_store_row [_] _ hD 126 (.tmp 24) (.tmp 23) rfl rfl (p * 8) rfl _ rfl rfl (by rw [u64s_length]; simp; omega) (by simp [Value.oneCell']) ?_; intro w2 hH2 hB2 hz2)
      go_ret
      have e : (u64s W).take (p * 8) ++ [Value.int .u64 y0, .int .u64 y1, .int .u64 y2, .int .u64 y3, .int .u64 y4, .int .u64 y5, .int .u64 y6, .int .u64 y7] ++ (u64s W).drop (p * 8 + 8) = u64s (W.take (p * 8) ++ [y0, y1, y2, y3, y4, y5, y6, y7] ++ W.drop (p * 8 + 8)) := by
        simp [u64s, List.map_take, List.map_drop]
      have hH3 : Has w2 B (blk b 83 #[.slice (some ⟨g, 0, none⟩) n n] :: row 126 8 (.slice (some ⟨g, 0, none⟩) n n) n (u64s (W.take (p * 8) ++ [y0, y1, y2, y3, y4, y5, y6, y7] ++ W.drop (p * 8 + 8))) :: X) := by
        rw [← e]
        exact hH2
      exact ⟨rfl, by simpa using MemA.shut ⟨hI1, hI2, by simp; omega⟩ hH3, hBd.trans hB2⟩
    · have er : fillW W n p l = W := by
        have : ¬ (0 ≤ (p : Int) ∧ (p : Int) < n ∧ l.length = 8) := fun h => hl h.2.2
        unfold fillW
        rw [if_neg this]
      rw [er, decide_eq_false (fun h => hl h.2.2 : ¬ (0 ≤ (p : Int) ∧ (p : Int) < n ∧ l.length = 8))]
      have e1 : (l.length == 8) = false := by rw [beq_eq_false_iff_ne]; exact hl
      have e2 : ((l.length : Int) == 8) = false := by rw [beq_eq_false_iff_ne]; omega
      clear er hf hs hl
      go_enter Try.func58, Try.ntmps58
      go_wp2_with fail
      refine cw.mono ?_
      rintro e w' ⟨rfl, rfl⟩
      go_wp2_with fail
      go_ret
      exact ⟨rfl, hH, Below.refl _ _⟩
  · have er : fillW W n f l = W := by
      have : ¬ (0 ≤ f ∧ f < n ∧ l.length = 8) := fun h => hf ⟨h.1, h.2.1⟩
      unfold fillW
      rw [if_neg this]
    have cw := word_no b g n f 0 (fun h => hf ⟨h.1, h.2.1⟩) w B _ hO
    rw [er, decide_eq_false (fun h => hf ⟨h.1, h.2.1⟩ : ¬ (0 ≤ f ∧ f < n ∧ l.length = 8))]
    clear er hf hs
    go_enter Try.func58, Try.ntmps58
    go_wp2_with fail
    refine cw.mono ?_
    rintro e w' ⟨rfl, rfl⟩
    go_wp2_with fail
    go_ret
    exact ⟨rfl, hH, Below.refl _ _⟩

end Go.Proofs.Yteeapkndappnoaa
