/-
  FreeMany: two lists of frames that follow one another have what one list of all has.
-/
import Derived.Test.YtjbeneiicneidaaFreeHead
namespace Go.Proofs.Ytjbeneiicneidaa
open Go.RowKit
set_option linter.unusedVariables false
set_option linter.unusedSimpArgs false

set_option maxHeartbeats 2000000 in
set_option maxRecDepth 100000 in
theorem FreeMany_walk (a c : Int) (w : World) (ha : (Lit.int .u8 a).wf = true) (hc : (Lit.int .u8 c).wf = true) :
    Calls Try.prog 8 #[.int .u8 a, .int .u8 c] w fun e w' => e = .returned (.bool true) ∧ Below w.heap.size w w' := by
  obtain ⟨a0, a1⟩ := bounds_u8 ha
  obtain ⟨c0, c1⟩ := bounds_u8 hc
  clear ha hc
  have hH0 : Has w w.heap.size [] := Has.nil (Nat.le_refl _)
  go_enter Try.func8, Try.ntmps8
  go_wp2_with fail
  refine (head_true w _ [] hH0).mono ?_
  rintro e w1 ⟨_, rfl, hH1, hB1⟩
  go_wp2_with fail
  have n0 : 0 ≤ a % 60 := by omega
  have n1 : a % 60 ≤ 59 := by omega
  have m0 : 0 ≤ c % 60 := by omega
  have m1 : c % 60 ≤ 59 := by omega
  generalize a % 60 = n at *
  generalize c % 60 = m at *
  clear a0 a1 c0 c1
  refine ((FreeNew_ok 5 n (by omega) (by omega) (by omega) (by omega)).mk hH1).mono ?_
  rintro e w2 ⟨x, rfl, hH2, hB2⟩
  go_wp2_with fail
  refine ((FreeNew_ok (5 + n) m (by omega) (by omega) (by omega) (by omega)).mk hH2).mono ?_
  rintro e w3 ⟨y, rfl, hH3, hB3⟩
  go_wp2_with fail
  refine ((FreeNew_ok 5 (n + m) (by omega) (by omega) (by omega) (by omega)).mk hH3).mono ?_
  rintro e w4 ⟨z, rfl, hH4, hB4⟩
  have hB := hB1.trans (hB2.trans (hB3.trans hB4))
  clear hH0 hH1 hB1 hB2 hH2 hH3 hB3 hB4
  go_wp2_with fail
  go_loopw [11] (fun i wr => ∃ k : Nat, k ≤ 140 ∧ i = .int .i64 k ∧ Has wr w.heap.size [FreeA z 5 (n + m) (freshL 5 (n + m) 0), FreeA y (5 + n) m (freshL (5 + n) m 0), FreeA x 5 n (freshL 5 n 0)] ∧ Below w.heap.size w wr) (fun i _ => 140 - (intOf i).toNat)
  case atStart => exact ⟨0, by omega, rfl, hH4, hB⟩
  case round =>
    obtain ⟨k, hk, rfl, hHr, hBr⟩ := hrel
    clear hH4 hB
    by_cases hlt : k < 140
    · have hw : (Lit.int .i64 (k : Int)).wf = true := WalkArith.wf_i64 (by omega)
      by_cases h1 : 5 ≤ (k : Int) ∧ (k : Int) < 5 + n
      · have cz := has_is z 5 (n + m) k _ true hw (freshL_dec 5 (n + m) k true (by simp; omega))
        have cy := has_is y (5 + n) m k _ false hw (freshL_dec (5 + n) m k false (by simp; omega))
        have cx := has_is x 5 n k _ true hw (freshL_dec 5 n k true (by simp; omega))
        go_wp2_with fail
        refine (cz.at [] _ hHr).mono ?_
        rintro e w5 ⟨_, rfl, hH5, hB5⟩
        go_wp2_with fail
        refine (cx.at [_, _] _ hH5).mono ?_
        rintro e w6 ⟨_, rfl, hH6, hB6⟩
        go_wp2_with fail
        refine (cx.at [_, _] _ hH6).mono ?_
        rintro e w7 ⟨_, rfl, hH7, hB7⟩
        go_wp2_with fail
        refine (cy.at [_] _ hH7).mono ?_
        rintro e w8 ⟨_, rfl, hH8, hB8⟩
        go_wp2_with fail
        go_roundw
        case rel => exact ⟨k + 1, by omega, by go_num, hH8, hBr.trans (hB5.trans (hB6.trans (hB7.trans hB8)))⟩
        case measure => simp [intOf]; omega
      · by_cases h2 : 5 + n ≤ (k : Int) ∧ (k : Int) < 5 + n + m
        · have cz := has_is z 5 (n + m) k _ true hw (freshL_dec 5 (n + m) k true (by simp; omega))
          have cy := has_is y (5 + n) m k _ true hw (freshL_dec (5 + n) m k true (by simp; omega))
          have cx := has_is x 5 n k _ false hw (freshL_dec 5 n k false (by simp; omega))
          go_wp2_with fail
          refine (cz.at [] _ hHr).mono ?_
          rintro e w5 ⟨_, rfl, hH5, hB5⟩
          go_wp2_with fail
          refine (cx.at [_, _] _ hH5).mono ?_
          rintro e w6 ⟨_, rfl, hH6, hB6⟩
          go_wp2_with fail
          refine (cy.at [_] _ hH6).mono ?_
          rintro e w7 ⟨_, rfl, hH7, hB7⟩
          go_wp2_with fail
          refine (cx.at [_, _] _ hH7).mono ?_
          rintro e w8 ⟨_, rfl, hH8, hB8⟩
          go_wp2_with fail
          go_roundw
          case rel => exact ⟨k + 1, by omega, by go_num, hH8, hBr.trans (hB5.trans (hB6.trans (hB7.trans hB8)))⟩
          case measure => simp [intOf]; omega
        · have cz := has_is z 5 (n + m) k _ false hw (freshL_dec 5 (n + m) k false (by simp; omega))
          have cy := has_is y (5 + n) m k _ false hw (freshL_dec (5 + n) m k false (by simp; omega))
          have cx := has_is x 5 n k _ false hw (freshL_dec 5 n k false (by simp; omega))
          go_wp2_with fail
          refine (cz.at [] _ hHr).mono ?_
          rintro e w5 ⟨_, rfl, hH5, hB5⟩
          go_wp2_with fail
          refine (cx.at [_, _] _ hH5).mono ?_
          rintro e w6 ⟨_, rfl, hH6, hB6⟩
          go_wp2_with fail
          refine (cy.at [_] _ hH6).mono ?_
          rintro e w7 ⟨_, rfl, hH7, hB7⟩
          go_wp2_with fail
          refine (cx.at [_, _] _ hH7).mono ?_
          rintro e w8 ⟨_, rfl, hH8, hB8⟩
          go_wp2_with fail
          go_roundw
          case rel => exact ⟨k + 1, by omega, by go_num, hH8, hBr.trans (hB5.trans (hB6.trans (hB7.trans hB8)))⟩
          case measure => simp [intOf]; omega
    · have c1 := left_is z 5 (n + m) (n + m) (freshL 5 (n + m) 0) (by simp [freshL_length]; omega)
      have c2 := left_is x 5 n n (freshL 5 n 0) (by simp [freshL_length]; omega)
      have c3 := left_is y (5 + n) m m (freshL (5 + n) m 0) (by simp [freshL_length]; omega)
      have e4 : givesB 5 n (freshL 5 n 0) 5 = false := by unfold givesB; rw [decide_eq_false_iff_not, freshL_mem]; omega
      have c4 := give_is x 5 n 5 (freshL 5 n 0) (freshL 5 n 0) false (by decide) e4 (by unfold given; rw [e4]; rfl)
      go_wp2_with fail
      refine (c1.at [] _ hHr).mono ?_
      rintro e w5 ⟨_, rfl, hH5, hB5⟩
      go_wp2_with fail
      refine (c2.at [_, _] _ hH5).mono ?_
      rintro e w6 ⟨_, rfl, hH6, hB6⟩
      go_wp2_with fail
      refine (c3.at [_] _ hH6).mono ?_
      rintro e w7 ⟨_, rfl, hH7, hB7⟩
      go_wp2_with fail
      refine (c4.at [_, _] _ hH7).mono ?_
      rintro e w8 ⟨_, rfl, hH8, hB8⟩
      go_wp2_with fail
      go_ret
      exact ⟨rfl, hBr.trans (hB5.trans (hB6.trans (hB7.trans hB8)))⟩

end Go.Proofs.Ytjbeneiicneidaa
