/-
  The live question of layer 3.
-/
import Derived.Test.YtljejmembogioaaGmapB
namespace Go.Proofs.Ytljejmembogioaa
open Go.RowKit
set_option linter.unusedVariables false
set_option linter.unusedSimpArgs false

/-- A list of the law's own, in a block. -/
theorem src_blk {w : World} {B b : Nat} {T : TypeId} {l : List Int} {L1 L2 : List Asr} (hH : Has w B (L1 ++ blk b T (l.map (Value.int .i64)).toArray :: L2)) (hl : l.length ≤ 1000) (hw : ∀ x ∈ l, (Lit.int .i64 x).wf = true) : Src w (some ⟨b, 0, none⟩) l := by
  refine ⟨by omega, hw, fun _ => ⟨b, 0, rfl, (hH.blk_at L1 L2).2.2, fun j u hj => ?_⟩⟩
  rw [Nat.zero_add]
  exact hH.cell L1 L2 j (by simpa using hj)
theorem src_nil (w : World) : Src w none [] := ⟨by simp, by simp, by simp⟩

instance (l : List Int) (frames : Int) : Decidable (gok l frames) := by unfold gok; infer_instance

theorem New_yes {a : Option Addr} {cap : Nat} {l : List Int} {frames : Int} {w : World} (hg : gok l frames) (hs : Src w a l) {B : Nat} {X : List Asr} (hH : Has w B X) :
    Calls Try.prog 10 #[.slice a l.length cap, .int .i64 frames] w fun e w' => ∃ b, e = .returned (.pointer (some ⟨b, 0, none⟩)) ∧ Has w' B (GmapA b l :: X) ∧ Below B w w' := by
  refine (New_calls a cap l frames w hs hH).mono ?_
  rintro e w' (⟨h, _⟩ | ⟨_, h⟩)
  · exact absurd hg h
  · exact h
theorem New_no {a : Option Addr} {cap : Nat} {l : List Int} {frames : Int} {w : World} (hg : ¬ gok l frames) (hs : Src w a l) {B : Nat} {X : List Asr} (hH : Has w B X) :
    Calls Try.prog 10 #[.slice a l.length cap, .int .i64 frames] w fun e w' => e = .returned (.pointer none) ∧ Has w' B X ∧ Below B w w' := by
  refine (New_calls a cap l frames w hs hH).mono ?_
  rintro e w' (⟨_, h⟩ | ⟨h, _⟩)
  · exact h
  · exact absurd h hg

set_option maxHeartbeats 1000000 in
set_option maxRecDepth 100000 in
theorem head_true : Does Try.prog 9 #[] [] (fun _ : Unit => .bool true) (fun _ => []) := by
  intro w B X hH
  have hH0 : Has w B X := hH
  clear hH
  go_enter Try.func9, Try.ntmps9
  go_wp2_with fail
  have hN0 := hH0.newblk w.heap.size 3 #[.int .i64 5, .int .i64 2, .int .i64 9] rfl
  have hB0 := below_new (Below.refl B w) hH0 (.cells #[.int .i64 5, .int .i64 2, .int .i64 9] 3)
  refine (New_yes (l := [5, 2, 9]) (frames := 10) (by decide) (src_blk (L1 := []) hN0 (by decide) (by decide)) hN0.drop).mono ?_
  rintro e w1 ⟨b, rfl, hH1, hB1⟩
  have hB1 := hB0.trans hB1
  clear hN0 hB0 hH0
  go_wp2_with fail
  have hN0 := hH1.newblk w1.heap.size 3 #[.int .i64 5, .int .i64 5] rfl
  have hB0 := hB1.trans (below_new (Below.refl B w1) hH1 (.cells #[.int .i64 5, .int .i64 5] 3))
  refine (New_no (l := [5, 5]) (frames := 10) (by decide) (src_blk (L1 := []) hN0 (by decide) (by decide)) hN0.drop).mono ?_
  rintro e w2 ⟨rfl, hH2, hB2⟩
  have hB2 := hB0.trans hB2
  clear hN0 hB0 hH1 hB1
  go_wp2_with fail
  have hN0 := hH2.newblk w2.heap.size 3 #[.int .i64 10] rfl
  have hB0 := hB2.trans (below_new (Below.refl B w2) hH2 (.cells #[.int .i64 10] 3))
  refine (New_no (l := [10]) (frames := 10) (by decide) (src_blk (L1 := []) hN0 (by decide) (by decide)) hN0.drop).mono ?_
  rintro e w3 ⟨rfl, hH3, hB3⟩
  have hB3 := hB0.trans hB3
  clear hN0 hB0 hH2
  go_wp2_with fail
  refine (New_no (a := none) (cap := 0) (l := []) (frames := 10) (by decide) (src_nil _) hH3).mono ?_
  rintro e w4 ⟨rfl, hH4, hB4⟩
  have hB4 := hB3.trans hB4
  clear hH3
  go_wp2_with fail
  have hN0 := hH4.newblk w4.heap.size 3 #[.int .i64 0] rfl
  have hB0 := hB4.trans (below_new (Below.refl B w4) hH4 (.cells #[.int .i64 0] 3))
  refine (New_no (l := [0]) (frames := 257) (by decide) (src_blk (L1 := []) hN0 (by decide) (by decide)) hN0.drop).mono ?_
  rintro e w5 ⟨rfl, hH5, hB5⟩
  have hB5 := hB0.trans hB5
  clear hN0 hB0 hH4
  go_wp2_with fail
  have r1 : hostR [5, 2, 9] 1 = .tuple #[.int .i64 2, .bool true] := by kernel_rfl
  have r2 : hostR [5, 2, 9] 3 = .tuple #[.int .i64 0, .bool false] := by kernel_rfl
  have r3 : guestR [5, 2, 9] 9 = .tuple #[.int .i64 2, .bool true] := by kernel_rfl
  have r4 : guestR [5, 2, 9] 0 = .tuple #[.int .i64 0, .bool false] := by kernel_rfl
  have q1 := Host_calls b [5, 2, 9] 1 _ _ _ hH5
  have q2 := Host_calls b [5, 2, 9] 3 _ _ _ hH5
  have q3 := Guest_calls b [5, 2, 9] 9 (by decide) _ _ _ hH5
  have q4 := Guest_calls b [5, 2, 9] 0 (by decide) _ _ _ hH5
  have q5 := Many_calls b [5, 2, 9] _ _ _ hH5
  rw [r1] at q1
  rw [r2] at q2
  rw [r3] at q3
  rw [r4] at q4
  have Q1 := hid q1
  have Q2 := hid q2
  have Q3 := hid q3
  have Q4 := hid q4
  have Q5 := hid q5
  clear q1 q2 q3 q4 q5 r1 r2 r3 r4
  refine Q1.out.mono ?_
  rintro e w6 ⟨rfl, rfl⟩
  go_wp2_with fail
  refine Q2.out.mono ?_
  rintro e w6 ⟨rfl, rfl⟩
  go_wp2_with fail
  refine Q3.out.mono ?_
  rintro e w6 ⟨rfl, rfl⟩
  go_wp2_with fail
  refine Q4.out.mono ?_
  rintro e w6 ⟨rfl, rfl⟩
  go_wp2_with fail
  refine Q5.out.mono ?_
  rintro e w6 ⟨rfl, rfl⟩
  go_wp2_with fail
  go_ret
  exact ⟨(), rfl, hH5.drop, hB5⟩

end Go.Proofs.Ytljejmembogioaa
