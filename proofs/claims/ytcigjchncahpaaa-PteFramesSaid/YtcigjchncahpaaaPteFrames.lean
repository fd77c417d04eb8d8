/-
  PteFrames: a word's frame is told by its bits alone; with another frame it says else the same.
-/
import Derived.Test.YtcigjchncahpaaaPteHead
import Derived.Test.YtcigjchncahpaaaPteArgs
namespace Go.Proofs.Ytcigjchncahpaaa
open Go.RowKit Go.Sort
set_option linter.unusedVariables false
set_option linter.unusedSimpArgs false

/-- The word that the law makes. -/
def mkU (v F : Int) : Int := bits .or .u64 (bits .andNot .u64 v 4294963200) (IntKind.u64.wrap (IntKind.u64.wrap F * 4096))

theorem pteC_frame (P W U A D PS NX Bad : Bool) (F G : Int) : (pteC ⟨P, W, U, A, D, PS, NX, Bad, G⟩).setIfInBounds 8 (.int .i64 F) = pteC ⟨P, W, U, A, D, PS, NX, Bad, F⟩ := by simp [pteC]

set_option maxHeartbeats 4000000 in
set_option maxRecDepth 100000 in
theorem PteFrames_core (P W U A D PS NX Bad : Bool) (G : Int) (v f : Int) (w : World)
    (cv : ∀ W', Calls Try.prog 12 #[.int .u64 v] W' fun e w' => e = .returned (.agg (pteC ⟨P, W, U, A, D, PS, NX, Bad, G⟩)) ∧ Below W'.heap.size W' w')
    (cu : ∀ F, wrap64 (f.tmod 1048576) = F → ∀ W', Calls Try.prog 12 #[.int .u64 (mkU v F)] W' fun e w' => e = .returned (.agg (pteC ⟨P, W, U, A, D, PS, NX, Bad, F⟩)) ∧ Below W'.heap.size W' w') :
    Calls Try.prog 8 #[.int .u64 v, .int .u32 f] w fun e w' => e = .returned (.bool true) ∧ Below w.heap.size w w' := by
  have hH0 : Has w w.heap.size [] := Has.nil (Nat.le_refl _)
  have heq : ∀ W', Sem.run Try.prog (binOp .eql 24 (.agg (pteC ⟨P, W, U, A, D, PS, NX, Bad, G⟩)) (.agg (pteC ⟨P, W, U, A, D, PS, NX, Bad, G⟩))) W' = .ok (.bool true) W' := fun W' => by
    rw [pte_eql]; simp
  have CV := hid cv
  have CU := hid cu
  clear cv cu
  go_enter Try.func8, Try.ntmps8
  go_wp2_with fail
  refine (head_true _ _ _ hH0).mono ?_
  rintro e w1 ⟨_, rfl, hH1, hB1⟩
  go_wp2_with fail
  refine (keeps (CV.out _) hH1).mono ?_
  rintro e w3 ⟨rfl, hH3, hB3⟩
  have tok1 : True := trivial
  go_wp2_with (have _t := tok1; refine wpList_store_all [] _ (hH3.newblk w3.heap.size 24 pteZ rfl) 24 (.tmp 8) (.tmp 21) rfl rfl rfl _ rfl (pte_size _) rfl (pte_one _) ?_; intro w4 hH4 hB4 hz4; clear hz4 _t tok1)
  refine (keeps (CU.out _ rfl _) hH4).mono ?_
  rintro e w5 ⟨rfl, hH5, hB5⟩
  have hBa := hB1.trans (hB3.trans (((below_new (Below.refl _ _) hH3 _).trans hB4).trans hB5))
  clear hB1 hB3 hB4 hB5 hH0 hH1 hH3 hH4
  generalize wrap64 (f.tmod 1048576) = F at *
  have tok1 : True := trivial
  go_wp2_with (first
      | (have _t := tok1; refine wpList_store_all [] _ (hH5.newblk w5.heap.size 24 pteZ rfl) 24 (.tmp 9) (.tmp 23) rfl rfl rfl _ rfl (pte_size _) rfl (pte_one _) ?_; intro w6 hH6 hB6 hz6; clear hz6 _t tok1; have j8 := (pte_cells [] _ hH6).2.2.2.2.2.2.2.2; have k8 := (pte_cells [_] _ hH6).2.2.2.2.2.2.2.2; have g8 := hH6.frozen [] _ 8; have hH8 := hH6.set [] _ 8 (.int .i64 G); rw [pteC_frame] at hH8)
      | (refine wpList_load_blk [_] _ hH8 24 (.tmp 8) rfl rfl rfl _ Try.underlying24 rfl (pte_size _) ?_)
      | (refine wpList_load_blk [] _ hH8 24 (.tmp 9) rfl rfl rfl _ Try.underlying24 rfl (pte_size _) ?_))
  go_ret
  have hT := hBa.trans ((below_new (Below.refl _ _) hH5 _).trans hB6)
  exact ⟨rfl, below_set hT [] _ hH6 8 (.int .i64 G)⟩

theorem get_mk {V : Nat} (hV : V < 18446744073709551616) {F : Nat} (hF : F < 1048576) : ∃ U : Nat, mkU (V : Int) (F : Int) = (U : Int) ∧ U < 18446744073709551616 ∧ getS U = { getS V with Frame := (F : Int) } := by
  have e1 : IntKind.u64.wrap (IntKind.u64.wrap (F : Int) * 4096) = ((F * 4096 : Nat) : Int) := by
    have : IntKind.u64.wrap (F : Int) = (F : Int) := by show (F : Int) % 18446744073709551616 = _; omega
    rw [this]
    show ((F : Int) * 4096) % 18446744073709551616 = _
    omega
  have e2 : bits .andNot .u64 (V : Int) 4294963200 = ((V &&& 18446744069414588415 : Nat) : Int) := by
    rw [show (4294963200 : Int) = ((4294963200 : Nat) : Int) from rfl, u64_andNot_nat V _ hV (by decide)]
  have l2 : V &&& 18446744069414588415 < 18446744073709551616 := Nat.lt_of_le_of_lt Nat.and_le_left hV
  have l1 : F * 4096 < 18446744073709551616 := by omega
  refine ⟨(V &&& 18446744069414588415) ||| F * 4096, ?_, Nat.or_lt_two_pow (n := 64) (by simpa using l2) (by simpa using l1), ?_⟩
  · unfold mkU
    rw [e1, e2, u64_or_nat _ _ l2 l1]
  · have hb : ∀ i, ((V &&& 18446744069414588415) ||| F * 4096).testBit i = ((V.testBit i && !(decide (12 ≤ i) && decide (i < 32))) || (decide (12 ≤ i) && F.testBit (i - 12))) := by
      intro i
      rw [Nat.testBit_or, Nat.testBit_and, show F * 4096 = F <<< 12 from by rw [Nat.shiftLeft_eq], Nat.testBit_shiftLeft]
      by_cases h64 : i < 64
      · have hm : ∀ i, i < 64 → (18446744069414588415 : Nat).testBit i = !(decide (12 ≤ i) && decide (i < 32)) := by decide
        rw [hm i h64]
      · rw [lt64 hV (by omega)]
        simp
    have e7 : badN ((V &&& 18446744069414588415) ||| F * 4096) = badN V := badN_congr fun i hi => by
      have hp : i = 3 ∨ i = 4 ∨ 8 ≤ i ∧ i ≤ 11 ∨ 32 ≤ i ∧ i ≤ 62 := by simp [badPos] at hi; omega
      rw [hb]
      have d : (decide (12 ≤ i) && decide (i < 32)) = false := by
        simp; omega
      have d2 : (decide (12 ≤ i) && F.testBit (i - 12)) = false := by
        by_cases h12 : 12 ≤ i
        · rw [low_frame hF (i - 12) (by omega)]; simp
        · simp [h12]
      rw [d, d2]
      simp
    have e8 : ((V &&& 18446744069414588415) ||| F * 4096) / 4096 % 1048576 = F := by
      apply Nat.eq_of_testBit_eq
      intro j
      rw [frame_bit, hb]
      by_cases hj : j < 20
      · have : decide (12 ≤ j + 12) = true := by simp
        have h3 : decide (j + 12 < 32) = true := by simp; omega
        rw [this, h3, show j + 12 - 12 = j from by omega]
        simp [hj]
      · rw [low_frame hF j (by omega)]
        simp [hj]
    unfold getS
    rw [e7, e8]
    simp only [hb]
    have e63 : F.testBit (63 - 12) = false := low_frame hF _ (by omega)
    rw [e63]
    simp

theorem PteFrames_walk (v f : Int) (w : World) (hv : (Lit.int .u64 v).wf = true) (hf : (Lit.int .u32 f).wf = true) :
    Calls Try.prog 8 #[.int .u64 v, .int .u32 f] w fun e w' => e = .returned (.bool true) ∧ Below w.heap.size w w' := by
  obtain ⟨V, rfl, hV⟩ := u64_nat hv
  obtain ⟨f0, f1⟩ := bounds_u32 hf
  refine PteFrames_core (getS V).P (getS V).W (getS V).U (getS V).A (getS V).D (getS V).PS (getS V).NX (getS V).Bad (getS V).Frame V f w (fun W => Get_calls V hV W) fun F hF W => ?_
  have hF' : F = ((f.toNat % 1048576 : Nat) : Int) := by
    rw [← hF, Int.tmod_eq_emod_of_nonneg f0]
    unfold wrap64
    omega
  obtain ⟨U, hU, hU2, hg⟩ := get_mk hV (F := f.toNat % 1048576) (Nat.mod_lt _ (by decide))
  rw [hF', hU]
  have h := Get_calls U hU2 W
  rwa [hg] at h

end Go.Proofs.Ytcigjchncahpaaa
