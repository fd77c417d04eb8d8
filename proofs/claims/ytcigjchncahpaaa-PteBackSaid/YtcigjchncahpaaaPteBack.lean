/-
  PteBack: what is put is got; a word that is not bad is put as it was, and any other one is not put.
-/
import Derived.Test.YtcigjchncahpaaaPteHead
import Derived.Test.YtcigjchncahpaaaPteArgs
namespace Go.Proofs.Ytcigjchncahpaaa
open Go.RowKit Go.Sort
set_option linter.unusedVariables false
set_option linter.unusedSimpArgs false

set_option maxHeartbeats 2000000 in
set_option maxRecDepth 100000 in
theorem PteBack_bad (V : Nat) (p S : PteS) (it : Bool) (bb : Int) (w : World) (cv : ∀ W, Calls Try.prog 12 #[.int .u64 (V : Int)] W fun e w' => e = .returned (.agg (pteC S)) ∧ Below W.heap.size W w') (q3 : 0 ≤ S.Frame) (q4 : S.Frame < 1048576) (hno : putOk p = false) (h7 : p.Bad = true)
    (cq : ∀ W, Calls Try.prog 10 #[.agg (pteC S)] W fun e w' => e = .returned (.tuple #[.int .u64 bb, .bool it]) ∧ Below W.heap.size W w')
    (q1 : S.Bad = !it) (q2 : it = true → bb = V) :
    Calls Try.prog 4 #[.int .u64 (V : Int), .agg (pteC p)] w fun e w' => e = .returned (.bool true) ∧ Below w.heap.size w w' := by
  have hH0 : Has w w.heap.size [] := Has.nil (Nat.le_refl _)
  have hN := hH0.newblk w.heap.size 24 (pteC p) rfl
  have hBN := below_new (Below.refl w.heap.size w) hH0 (.cells (pteC p) 24)
  have cp : ∀ W, Calls Try.prog 10 #[.agg (pteC p)] W fun e w' => e = .returned (.tuple #[.int .u64 0, .bool false]) ∧ Below W.heap.size W w' := fun W => Put_no p W hno
  have CQ := hid cq
  have Q1 := hid q1
  have Q2 := hid q2
  have CV := hid cv
  clear cq q1 q2 hH0 cv
  go_enter Try.func4, Try.ntmps4
  go_wp2_with fail
  refine (head_true _ _ _ hN).mono ?_
  rintro e w1 ⟨_, rfl, hH1, hB1⟩
  have hB1 := hBN.trans hB1
  clear hBN hN
  go_wp2_with (refine wpList_load_blk [] _ hH1 rfl 24 (.tmp 3) rfl rfl _ Try.underlying24 rfl (pte_size _) ?_)
  refine (keeps (cp _) hH1).mono ?_
  rintro e w2 ⟨rfl, hH2, hB2⟩
  have hB2 := hB1.trans hB2
  clear hH1 hB1
  obtain ⟨k0, k1, k2, k3, k4, k5, k6, k7, k8⟩ := pte_cells [] _ hH2
  go_wp2_with fail
  rw [h7] at k7
  clear h7 hno k0 k1 k2 k3 k4 k5 k6
  go_quiet (fail)
  have hH3 := hH2.drewN nq
  have hB3 := below_drewN hB2 nq
  clear hH2 hB2
  go_wp2_with fail
  refine (keeps (CV.out _) hH3).mono ?_
  rintro e w5 ⟨rfl, hH5, hB5⟩
  go_wp2_with (first
    | (refine wpList_store_all [] _ (hH5.newblk w5.heap.size 24 pteZ rfl) rfl 24 (.tmp 8) (.tmp 42) rfl rfl _ rfl (pte_size _) rfl (pte_one _) ?_; intro w6 hH6 hB6 hz6; clear hz6)
    | (refine wpList_load_blk [] _ hH6 rfl 24 (.tmp 8) rfl rfl _ Try.underlying24 rfl (pte_size _) ?_))
  have hB7 := hB3.trans (hB5.trans ((below_new (Below.refl _ _) hH5 _).trans hB6))
  clear hB6 hB5
  refine (keeps (CQ.out _) hH6).mono ?_
  rintro e w8 ⟨rfl, hH8, hB8⟩
  obtain ⟨k0, k1, k2, k3, k4, k5, k6, k7, k8⟩ := pte_cells [] _ hH8
  clear k0 k1 k2 k3 k4 k5 k6
  rw [Q1.out] at k7
  obtain ⟨F, hF⟩ : ∃ F, Hid (S.Frame = F) := ⟨_, rfl⟩
  rw [hF.out] at k8 q3 q4
  cases it with
  | true =>
    have hb := Q2.out rfl
    subst hb
    go_wp2_with fail
    go_ret
    exact ⟨rfl, hB7.trans hB8⟩
  | false =>
    go_wp2_with fail
    go_ret
    exact ⟨rfl, hB7.trans hB8⟩

set_option maxHeartbeats 2000000 in
set_option maxRecDepth 100000 in
theorem PteBack_low (V : Nat) (p S : PteS) (it : Bool) (bb : Int) (w : World) (cv : ∀ W, Calls Try.prog 12 #[.int .u64 (V : Int)] W fun e w' => e = .returned (.agg (pteC S)) ∧ Below W.heap.size W w') (q3 : 0 ≤ S.Frame) (q4 : S.Frame < 1048576) (hno : putOk p = false) (h7 : p.Bad = false) (h8 : p.Frame < 0)
    (cq : ∀ W, Calls Try.prog 10 #[.agg (pteC S)] W fun e w' => e = .returned (.tuple #[.int .u64 bb, .bool it]) ∧ Below W.heap.size W w')
    (q1 : S.Bad = !it) (q2 : it = true → bb = V) :
    Calls Try.prog 4 #[.int .u64 (V : Int), .agg (pteC p)] w fun e w' => e = .returned (.bool true) ∧ Below w.heap.size w w' := by
  have hH0 : Has w w.heap.size [] := Has.nil (Nat.le_refl _)
  have hN := hH0.newblk w.heap.size 24 (pteC p) rfl
  have hBN := below_new (Below.refl w.heap.size w) hH0 (.cells (pteC p) 24)
  have cp : ∀ W, Calls Try.prog 10 #[.agg (pteC p)] W fun e w' => e = .returned (.tuple #[.int .u64 0, .bool false]) ∧ Below W.heap.size W w' := fun W => Put_no p W hno
  have CQ := hid cq
  have Q1 := hid q1
  have Q2 := hid q2
  have CV := hid cv
  clear cq q1 q2 hH0 cv
  go_enter Try.func4, Try.ntmps4
  go_wp2_with fail
  refine (head_true _ _ _ hN).mono ?_
  rintro e w1 ⟨_, rfl, hH1, hB1⟩
  have hB1 := hBN.trans hB1
  clear hBN hN
  go_wp2_with (refine wpList_load_blk [] _ hH1 rfl 24 (.tmp 3) rfl rfl _ Try.underlying24 rfl (pte_size _) ?_)
  refine (keeps (cp _) hH1).mono ?_
  rintro e w2 ⟨rfl, hH2, hB2⟩
  have hB2 := hB1.trans hB2
  clear hH1 hB1
  obtain ⟨k0, k1, k2, k3, k4, k5, k6, k7, k8⟩ := pte_cells [] _ hH2
  go_wp2_with fail
  rw [h7] at k7
  have e8 : decide (0 ≤ p.Frame) = false := by rw [decide_eq_false_iff_not]; omega
  clear h7 hno k0 k1 k2 k3 k4 k5 k6 h8
  go_quiet (fail)
  have hH3 := hH2.drewN nq
  have hB3 := below_drewN hB2 nq
  clear hH2 hB2
  go_wp2_with fail
  refine (keeps (CV.out _) hH3).mono ?_
  rintro e w5 ⟨rfl, hH5, hB5⟩
  go_wp2_with (first
    | (refine wpList_store_all [] _ (hH5.newblk w5.heap.size 24 pteZ rfl) rfl 24 (.tmp 8) (.tmp 42) rfl rfl _ rfl (pte_size _) rfl (pte_one _) ?_; intro w6 hH6 hB6 hz6; clear hz6)
    | (refine wpList_load_blk [] _ hH6 rfl 24 (.tmp 8) rfl rfl _ Try.underlying24 rfl (pte_size _) ?_))
  have hB7 := hB3.trans (hB5.trans ((below_new (Below.refl _ _) hH5 _).trans hB6))
  clear hB6 hB5
  refine (keeps (CQ.out _) hH6).mono ?_
  rintro e w8 ⟨rfl, hH8, hB8⟩
  obtain ⟨k0, k1, k2, k3, k4, k5, k6, k7, k8⟩ := pte_cells [] _ hH8
  clear k0 k1 k2 k3 k4 k5 k6
  rw [Q1.out] at k7
  obtain ⟨F, hF⟩ : ∃ F, Hid (S.Frame = F) := ⟨_, rfl⟩
  rw [hF.out] at k8 q3 q4
  cases it with
  | true =>
    have hb := Q2.out rfl
    subst hb
    go_wp2_with fail
    go_ret
    exact ⟨rfl, hB7.trans hB8⟩
  | false =>
    go_wp2_with fail
    go_ret
    exact ⟨rfl, hB7.trans hB8⟩

set_option maxHeartbeats 2000000 in
set_option maxRecDepth 100000 in
theorem PteBack_high (V : Nat) (p S : PteS) (it : Bool) (bb : Int) (w : World) (cv : ∀ W, Calls Try.prog 12 #[.int .u64 (V : Int)] W fun e w' => e = .returned (.agg (pteC S)) ∧ Below W.heap.size W w') (q3 : 0 ≤ S.Frame) (q4 : S.Frame < 1048576) (hno : putOk p = false) (h7 : p.Bad = false) (h8 : 1048576 ≤ p.Frame)
    (cq : ∀ W, Calls Try.prog 10 #[.agg (pteC S)] W fun e w' => e = .returned (.tuple #[.int .u64 bb, .bool it]) ∧ Below W.heap.size W w')
    (q1 : S.Bad = !it) (q2 : it = true → bb = V) :
    Calls Try.prog 4 #[.int .u64 (V : Int), .agg (pteC p)] w fun e w' => e = .returned (.bool true) ∧ Below w.heap.size w w' := by
  have hH0 : Has w w.heap.size [] := Has.nil (Nat.le_refl _)
  have hN := hH0.newblk w.heap.size 24 (pteC p) rfl
  have hBN := below_new (Below.refl w.heap.size w) hH0 (.cells (pteC p) 24)
  have cp : ∀ W, Calls Try.prog 10 #[.agg (pteC p)] W fun e w' => e = .returned (.tuple #[.int .u64 0, .bool false]) ∧ Below W.heap.size W w' := fun W => Put_no p W hno
  have CQ := hid cq
  have Q1 := hid q1
  have Q2 := hid q2
  have CV := hid cv
  clear cq q1 q2 hH0 cv
  go_enter Try.func4, Try.ntmps4
  go_wp2_with fail
  refine (head_true _ _ _ hN).mono ?_
  rintro e w1 ⟨_, rfl, hH1, hB1⟩
  have hB1 := hBN.trans hB1
  clear hBN hN
  go_wp2_with (refine wpList_load_blk [] _ hH1 rfl 24 (.tmp 3) rfl rfl _ Try.underlying24 rfl (pte_size _) ?_)
  refine (keeps (cp _) hH1).mono ?_
  rintro e w2 ⟨rfl, hH2, hB2⟩
  have hB2 := hB1.trans hB2
  clear hH1 hB1
  obtain ⟨k0, k1, k2, k3, k4, k5, k6, k7, k8⟩ := pte_cells [] _ hH2
  go_wp2_with fail
  rw [h7] at k7
  have e8 : decide (0 ≤ p.Frame) = true := by rw [decide_eq_true_eq]; omega
  have e9 : decide (p.Frame < 1048576) = false := by rw [decide_eq_false_iff_not]; omega
  clear h7 hno k0 k1 k2 k3 k4 k5 k6 h8
  go_quiet (fail)
  have hH3 := hH2.drewN nq
  have hB3 := below_drewN hB2 nq
  clear hH2 hB2
  go_wp2_with fail
  refine (keeps (CV.out _) hH3).mono ?_
  rintro e w5 ⟨rfl, hH5, hB5⟩
  go_wp2_with (first
    | (refine wpList_store_all [] _ (hH5.newblk w5.heap.size 24 pteZ rfl) rfl 24 (.tmp 8) (.tmp 42) rfl rfl _ rfl (pte_size _) rfl (pte_one _) ?_; intro w6 hH6 hB6 hz6; clear hz6)
    | (refine wpList_load_blk [] _ hH6 rfl 24 (.tmp 8) rfl rfl _ Try.underlying24 rfl (pte_size _) ?_))
  have hB7 := hB3.trans (hB5.trans ((below_new (Below.refl _ _) hH5 _).trans hB6))
  clear hB6 hB5
  refine (keeps (CQ.out _) hH6).mono ?_
  rintro e w8 ⟨rfl, hH8, hB8⟩
  obtain ⟨k0, k1, k2, k3, k4, k5, k6, k7, k8⟩ := pte_cells [] _ hH8
  clear k0 k1 k2 k3 k4 k5 k6
  rw [Q1.out] at k7
  obtain ⟨F, hF⟩ : ∃ F, Hid (S.Frame = F) := ⟨_, rfl⟩
  rw [hF.out] at k8 q3 q4
  cases it with
  | true =>
    have hb := Q2.out rfl
    subst hb
    go_wp2_with fail
    go_ret
    exact ⟨rfl, hB7.trans hB8⟩
  | false =>
    go_wp2_with fail
    go_ret
    exact ⟨rfl, hB7.trans hB8⟩

set_option maxHeartbeats 2000000 in
set_option maxRecDepth 100000 in
theorem PteBack_ok (V : Nat) (p S : PteS) (it : Bool) (bb : Int) (w : World) (cv : ∀ W, Calls Try.prog 12 #[.int .u64 (V : Int)] W fun e w' => e = .returned (.agg (pteC S)) ∧ Below W.heap.size W w') (q3 : 0 ≤ S.Frame) (q4 : S.Frame < 1048576) (hyes : putOk p = true) (h7 : p.Bad = false) (h8 : 0 ≤ p.Frame) (h9 : p.Frame < 1048576)
    (cq : ∀ W, Calls Try.prog 10 #[.agg (pteC S)] W fun e w' => e = .returned (.tuple #[.int .u64 bb, .bool it]) ∧ Below W.heap.size W w')
    (q1 : S.Bad = !it) (q2 : it = true → bb = V) :
    Calls Try.prog 4 #[.int .u64 (V : Int), .agg (pteC p)] w fun e w' => e = .returned (.bool true) ∧ Below w.heap.size w w' := by
  have hH0 : Has w w.heap.size [] := Has.nil (Nat.le_refl _)
  have hN := hH0.newblk w.heap.size 24 (pteC p) rfl
  have hBN := below_new (Below.refl w.heap.size w) hH0 (.cells (pteC p) 24)
  have cp : ∀ W, Calls Try.prog 10 #[.agg (pteC p)] W fun e w' => e = .returned (.tuple #[.int .u64 (putN p : Nat), .bool true]) ∧ Below W.heap.size W w' := fun W => by
    have h := Put_calls p W
    rwa [show putR p = .tuple #[.int .u64 (putN p : Nat), .bool true] from by simp [putR, hyes]] at h
  have cg : ∀ W, Calls Try.prog 12 #[.int .u64 (putN p : Nat)] W fun e w' => e = .returned (.agg (pteC p)) ∧ Below W.heap.size W w' := fun W => by
    have h := Get_calls (putN p) (putN_lt p hyes) W
    rwa [get_put p hyes] at h
  have CG := hid cg
  clear cg
  have CQ := hid cq
  have Q1 := hid q1
  have Q2 := hid q2
  have CV := hid cv
  clear cq q1 q2 hH0 cv
  go_enter Try.func4, Try.ntmps4
  go_wp2_with fail
  refine (head_true _ _ _ hN).mono ?_
  rintro e w1 ⟨_, rfl, hH1, hB1⟩
  have hB1 := hBN.trans hB1
  clear hBN hN
  go_wp2_with (refine wpList_load_blk [] _ hH1 rfl 24 (.tmp 3) rfl rfl _ Try.underlying24 rfl (pte_size _) ?_)
  refine (keeps (cp _) hH1).mono ?_
  rintro e w2 ⟨rfl, hH2, hB2⟩
  have hB2 := hB1.trans hB2
  clear hH1 hB1
  obtain ⟨k0, k1, k2, k3, k4, k5, k6, k7, k8⟩ := pte_cells [] _ hH2
  go_wp2_with fail
  rw [h7] at k7
  have e8 : decide (0 ≤ p.Frame) = true := by rw [decide_eq_true_eq]; exact h8
  have e9 : decide (p.Frame < 1048576) = true := by rw [decide_eq_true_eq]; exact h9
  have r0 := cell_regrown k0
  have r1 := cell_regrown k1
  have r2 := cell_regrown k2
  have r3 := cell_regrown k3
  have r4 := cell_regrown k4
  have r5 := cell_regrown k5
  have r6 := cell_regrown k6
  have r7 := cell_regrown k7
  have r8 := cell_regrown k8
  have cG : ∀ d os, Calls Try.prog 12 #[.int .u64 (putN p : Nat)] (grow (redrawn w2 d) os) fun e w'' => e = .returned (.agg (pteC p)) ∧ ∃ q : Regrown, w'' = grow (redrawn w2 q.d) q.os := fun d os => Calls.regrown_of (CG.out _)
  have hne : ∀ W, Sem.run Try.prog (binOp .neq 24 (.agg (pteC p)) (.agg #[.bool p.P, .bool p.W, .bool p.U, .bool p.A, .bool p.D, .bool p.PS, .bool p.NX, .bool false, .int .i64 p.Frame])) W = .ok (.bool false) W := fun W => by
    have h := pte_neq p p W
    rw [show decide (p = p) = true from by simp] at h
    have e : pteC p = #[.bool p.P, .bool p.W, .bool p.U, .bool p.A, .bool p.D, .bool p.PS, .bool p.NX, .bool false, .int .i64 p.Frame] := by simp [pteC, h7]
    rw [← e]
    exact h
  clear h7 h8 h9 hyes k0 k1 k2 k3 k4 k5 k6
  have CGR := hid cG
  clear cG
  refine wp_region_quiet_below (by kernel_rfl) (by kernel_rfl) ?_
  repeat (quiet_step (exact CGR.out _ _))
  refine wpQuiet_nil ?_
  intro _ hw'
  obtain ⟨⟨dq, osq⟩, hw''⟩ := hw'
  subst hw''
  have hBq := below_regrown w2 dq osq
  have hH3 := hH2.below hBq
  have hB3 := hB2.trans (hBq.mono hH2.le)
  generalize grow (redrawn w2 dq) osq = w3 at *
  clear hBq r0 r1 r2 r3 r4 r5 r6 r7 r8 hne hH2 hB2
  go_wp2_with fail
  refine (keeps (CV.out _) hH3).mono ?_
  rintro e w5 ⟨rfl, hH5, hB5⟩
  go_wp2_with (first
    | (refine wpList_store_all [] _ (hH5.newblk w5.heap.size 24 pteZ rfl) rfl 24 (.tmp 8) (.tmp 42) rfl rfl _ rfl (pte_size _) rfl (pte_one _) ?_; intro w6 hH6 hB6 hz6; clear hz6)
    | (refine wpList_load_blk [] _ hH6 rfl 24 (.tmp 8) rfl rfl _ Try.underlying24 rfl (pte_size _) ?_))
  have hB7 := hB3.trans (hB5.trans ((below_new (Below.refl _ _) hH5 _).trans hB6))
  clear hB6 hB5
  refine (keeps (CQ.out _) hH6).mono ?_
  rintro e w8 ⟨rfl, hH8, hB8⟩
  obtain ⟨k0, k1, k2, k3, k4, k5, k6, k7, k8⟩ := pte_cells [] _ hH8
  clear k0 k1 k2 k3 k4 k5 k6
  rw [Q1.out] at k7
  obtain ⟨F, hF⟩ : ∃ F, Hid (S.Frame = F) := ⟨_, rfl⟩
  rw [hF.out] at k8 q3 q4
  cases it with
  | true =>
    have hb := Q2.out rfl
    subst hb
    go_wp2_with fail
    go_ret
    exact ⟨rfl, hB7.trans hB8⟩
  | false =>
    go_wp2_with fail
    go_ret
    exact ⟨rfl, hB7.trans hB8⟩

theorem PteBack_all (V : Nat) (p : PteS) (w : World) (hV : V < 18446744073709551616) :
    Calls Try.prog 4 #[.int .u64 (V : Int), .agg (pteC p)] w fun e w' => e = .returned (.bool true) ∧ Below w.heap.size w w' := by
  have hq : ∀ W, Calls Try.prog 10 #[.agg (pteC (getS V))] W fun e w' => e = .returned (.tuple #[.int .u64 (if putOk (getS V) then (putN (getS V) : Int) else 0), .bool (putOk (getS V))]) ∧ Below W.heap.size W w' := fun W => Put_calls (getS V) W
  have cv := fun W => Get_calls V hV W
  have q3 : 0 ≤ (getS V).Frame := Int.natCast_nonneg _
  have q4 : (getS V).Frame < 1048576 := by have := frame_lt V; simp only [getS]; omega
  have q1 : (getS V).Bad = !(putOk (getS V)) := by rw [getS_ok]; simp [getS]
  have q2 : putOk (getS V) = true → (if putOk (getS V) then (putN (getS V) : Int) else 0) = V := by
    intro h
    rw [if_pos h, put_get hV]
    rw [getS_ok] at h
    simpa using h
  cases hp : putOk p with
  | true =>
    have h := (putOk_iff p).1 hp
    exact PteBack_ok V p _ _ _ w cv q3 q4 hp h.1 h.2.1 h.2.2 hq q1 q2
  | false =>
    cases hb : p.Bad with
    | true => exact PteBack_bad V p _ _ _ w cv q3 q4 hp hb hq q1 q2
    | false =>
      by_cases h8 : p.Frame < 0
      · exact PteBack_low V p _ _ _ w cv q3 q4 hp hb h8 hq q1 q2
      · refine PteBack_high V p _ _ _ w cv q3 q4 hp hb ?_ hq q1 q2
        simp [putOk, hb] at hp
        omega

theorem PteBack_walk (v : Int) (p : PteS) (w : World) (hv : (Lit.int .u64 v).wf = true) (hp : (Lit.int .i64 p.Frame).wf = true) :
    Calls Try.prog 4 #[.int .u64 v, .agg (pteC p)] w fun e w' => e = .returned (.bool true) ∧ Below w.heap.size w w' := by
  obtain ⟨V, rfl, hV⟩ := u64_nat hv
  exact PteBack_all V p w hV

end Go.Proofs.Ytcigjchncahpaaa
