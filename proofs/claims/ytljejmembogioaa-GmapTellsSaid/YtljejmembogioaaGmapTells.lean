/-
  GmapTells: whether any list is a map, and the host's, and the guest's frame of any one, are the document's.
-/
import Derived.Test.YtljejmembogioaaGmapRef
namespace Go.Proofs.Ytljejmembogioaa
open Go.RowKit
set_option linter.unusedVariables false
set_option linter.unusedSimpArgs false

set_option maxHeartbeats 4000000 in
set_option maxRecDepth 100000 in
theorem GmapTells_walk (a : Option Addr) (len cap : Nat) (l : List Int) (frames x : Int) (w : World) (hA0 : IntsArg w a len cap l) (hl : ∀ x ∈ l, (Lit.int .i64 x).wf = true) (hf : (Lit.int .i64 frames).wf = true) (hx : (Lit.int .i64 x).wf = true) :
    Calls Try.prog 3 #[.slice a len cap, .int .i64 frames, .int .i64 x] w fun e w' => e = .returned (.bool true) ∧ Below w.heap.size w w' := by
  obtain ⟨hA, hnil⟩ := hA0
  obtain rfl : l.length = len := by have := hA.lc; simpa using this
  clear hnil
  have hH0 : Has w w.heap.size [] := Has.nil (Nat.le_refl _)
  have HA := hid hA
  have HL := hid hl
  clear hA hl
  by_cases hbig : 2000 < l.length
  · have e1 : decide (2000 < l.length) = true := by rw [decide_eq_true_eq]; omega
    go_enter Try.func3, Try.ntmps3
    go_wp2_with fail
    refine (head_true w _ [] hH0).mono ?_
    rintro e w1 ⟨_, rfl, hH1, hB1⟩
    go_wp2_with fail
    go_ret
    exact ⟨rfl, hB1⟩
  · have e1 : decide (2000 < l.length) = false := by rw [decide_eq_false_iff_not]; omega
    go_enter Try.func3, Try.ntmps3
    go_wp2_with fail
    refine (head_true w _ [] hH0).mono ?_
    rintro e w1 ⟨_, rfl, hH1, hB1⟩
    go_wp2_with fail
    refine (New_calls a cap l frames _ (HA.out.src HL.out hB1) hH1).mono ?_
    rintro e w2 (⟨hn, rfl, hH2, hB2⟩ | ⟨hg, b, rfl, hH2, hB2⟩)
    · have hB2 := hB1.trans hB2
      have HN := hid hn
      clear hn
      go_wp2_with fail
      refine (RNew_calls a cap l frames _ (HA.out.src HL.out hB2) hH2).mono ?_
      rintro e w3 (⟨hn, rfl, hH3, hB3⟩ | ⟨hg, b, rfl, hH3, hB3⟩)
      · clear hn
        go_wp2_with fail
        go_ret
        exact ⟨rfl, hB2.trans hB3⟩
      · exact absurd hg HN.out
    · have hB2 := hB1.trans hB2
      have HG := hid hg
      clear hg
      go_wp2_with fail
      refine (RNew_calls a cap l frames _ (HA.out.src HL.out hB2) hH2).mono ?_
      rintro e w3 (⟨hn, rfl, hH3, hB3⟩ | ⟨hg, d, rfl, hH3, hB3⟩)
      · exact absurd HG.out hn
      · clear hg
        have hB3 := hB2.trans hB3
        have q1 := Host_calls b l x _ _ _ (hH3.front [_] _)
        have q2 := RHost_calls d l x _ _ _ hH3 HG.out.1 HG.out.2.1
        have q3 := Guest_calls b l x hx _ _ _ (hH3.front [_] _)
        have q4 := RGuest_calls d l x _ _ _ hH3 HG.out.1 HG.out.2.1 HG.out.2.2.2.2.2
        have q5 := Many_calls b l _ _ _ (hH3.front [_] _)
        have q6 := RMany_calls d l _ _ _ hH3
        obtain ⟨c1, c2, r1⟩ : ∃ c1 c2, hostR l x = .tuple #[.int .i64 c1, .bool c2] := ⟨_, _, rfl⟩
        obtain ⟨c3, c4, r2⟩ : ∃ c3 c4, guestR l x = .tuple #[.int .i64 c3, .bool c4] := ⟨_, _, rfl⟩
        rw [r1] at q1 q2
        rw [r2] at q3 q4
        have Q1 := hid q1
        have Q2 := hid q2
        have Q3 := hid q3
        have Q4 := hid q4
        have Q5 := hid q5
        have Q6 := hid q6
        clear q1 q2 q3 q4 q5 q6 r1 r2
        go_wp2_with fail
        refine Q1.out.mono ?_
        rintro e w6 ⟨rfl, rfl⟩
        go_wp2_with fail
        refine Q2.out.mono ?_
        rintro e w6 ⟨rfl, rfl⟩
        go_wp2_with fail
        refine Q3.out.mono ?_
        rintro e w6 ⟨rfl, rfl⟩
        go_wp2_with fail
        refine Q4.out.mono ?_
        rintro e w6 ⟨rfl, rfl⟩
        go_wp2_with fail
        refine Q5.out.mono ?_
        rintro e w6 ⟨rfl, rfl⟩
        go_wp2_with fail
        refine Q6.out.mono ?_
        rintro e w6 ⟨rfl, rfl⟩
        go_wp2_with fail
        go_ret
        exact ⟨rfl, hB3⟩

end Go.Proofs.Ytljejmembogioaa
