/-
  FreeAll: as many are taken as there are, each once, the least first; no more.
-/
import Derived.Test.YtjbeneiicneidaaFreeHead
namespace Go.Proofs.Ytjbeneiicneidaa
open Go.RowKit
set_option linter.unusedVariables false
set_option linter.unusedSimpArgs false

theorem take_freshL (b : Nat) (a n i : Int) (hi : i < n) :
    Does Try.prog 14 #[.pointer (some ⟨b, 0, none⟩)] [FreeA b a n (freshL a n i)] (fun _ : Unit => .tuple #[.int .i64 (a + i), .bool true]) (fun _ => [FreeA b a n (freshL a n (i + 1))]) := by
  have h := FreeTake b a n (freshL a n i)
  have e1 : takeV (freshL a n i) = a + i := by rw [freshL_step a n i hi]; simp [takeV]
  have e2 : takeB (freshL a n i) = true := by rw [freshL_step a n i hi]; simp [takeB]
  have e3 : (freshL a n i).dropLast = freshL a n (i + 1) := by rw [freshL_step a n i hi]; simp
  rwa [e1, e2, e3] at h

set_option maxHeartbeats 1000000 in
theorem FreeAll_walk (a n : Int) (w : World) (ha : (Lit.int .u8 a).wf = true) (hn : (Lit.int .u8 n).wf = true) :
    Calls Try.prog 5 #[.int .u8 a, .int .u8 n] w fun e w' => e = .returned (.bool true) ∧ Below w.heap.size w w' := by
  obtain ⟨a0, a1⟩ := bounds_u8 ha
  obtain ⟨n0, n1⟩ := bounds_u8 hn
  clear ha hn
  have hH0 : Has w w.heap.size [] := Has.nil (Nat.le_refl _)
  by_cases hs : 256 < a + n
  · go_enter Try.func5, Try.ntmps5
    go_wp2_with fail
    refine (head_true w _ [] hH0).mono ?_
    rintro e w1 ⟨_, rfl, hH1, hB1⟩
    go_wp2_with fail
    refine (FreeNew_no a n (by omega) _).mono ?_
    rintro e w2 ⟨rfl, rfl⟩
    go_wp2_with fail
    go_ret
    exact ⟨rfl, hB1⟩
  · go_enter Try.func5, Try.ntmps5
    go_wp2_with fail
    refine (head_true w _ [] hH0).mono ?_
    rintro e w1 ⟨_, rfl, hH1, hB1⟩
    go_wp2_with fail
    refine ((FreeNew_ok a n (by omega) (by omega) (by omega) (by omega)).mk hH1).mono ?_
    rintro e w2 ⟨b, rfl, hH2, hB2⟩
    have hB := hB1.trans hB2
    clear hH0 hH1 hB1 hB2
    go_wp2_with fail
    go_loopw [9, 10, 11] (fun i _ _ wr => ∃ k : Nat, k ≤ n ∧ i = .int .i64 k ∧ Has wr w.heap.size [FreeA b a n (freshL a n k)] ∧ Below w.heap.size w wr) (fun i _ _ _ => n.toNat - (intOf i).toNat)
    case atStart => exact ⟨0, n0, rfl, hH2, hB⟩
    case round =>
      obtain ⟨k, hk, rfl, hHr, hBr⟩ := hrel
      by_cases hlt : (k : Int) < n
      · go_wp2_with fail
        refine ((take_freshL b a n k hlt).at [] [] hHr).mono ?_
        rintro e w3 ⟨_, rfl, hH3, hB3⟩
        go_wp2_with fail
        go_roundw
        case rel => exact ⟨k + 1, by omega, by go_num, hH3, hBr.trans hB3⟩
        case measure => simp [intOf]; omega
      · obtain rfl : n = k := by omega
        go_wp2_with fail
        rw [freshL_end] at hHr
        refine ((show Does Try.prog 14 #[.pointer (some ⟨b, 0, none⟩)] [FreeA b a k []] (fun _ : Unit => .tuple #[.int .i64 0, .bool false]) (fun _ => [FreeA b a k []]) from FreeTake b a k []).at [] [] hHr).mono ?_
        rintro e w3 ⟨_, rfl, hH3, hB3⟩
        go_wp2_with fail
        refine ((show Does Try.prog 16 #[.pointer (some ⟨b, 0, none⟩)] [FreeA b a k []] (fun _ : Unit => .int .i64 0) (fun _ => [FreeA b a k []]) from FreeLeft b a k []).at [] [] hH3).mono ?_
        rintro e w4 ⟨_, rfl, hH4, hB4⟩
        go_wp2_with fail
        go_ret
        exact ⟨rfl, hBr.trans (hB3.trans hB4)⟩

end Go.Proofs.Ytjbeneiicneidaa
