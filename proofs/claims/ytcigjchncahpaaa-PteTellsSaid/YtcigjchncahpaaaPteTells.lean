/-
  PteTells: what any word says, the word of any entry, and what says that it was used, are the document's.
-/
import Derived.Test.YtcigjchncahpaaaPteArgs
import Derived.Test.YtcigjchncahpaaaPteRefGet
import Derived.Test.YtcigjchncahpaaaPteRefPut
namespace Go.Proofs.Ytcigjchncahpaaa
open Go.RowKit Go.Sort
set_option linter.unusedVariables false
set_option linter.unusedSimpArgs false

set_option maxHeartbeats 4000000 in
set_option maxRecDepth 100000 in
theorem PteTells_core (p S : PteS) (v u : Int) (a : Int) (is wr : Bool) (w : World)
    (cp : ∀ W, Calls Try.prog 10 #[.agg (pteC p)] W fun e w' => e = .returned (.tuple #[.int .u64 a, .bool is]) ∧ Below W.heap.size W w')
    (cp2 : ∀ W, Calls Try.prog 11 #[.agg (pteC p)] W fun e w' => e = .returned (.tuple #[.int .u64 a, .bool is]) ∧ Below W.heap.size W w')
    (cg : ∀ W, Calls Try.prog 12 #[.int .u64 v] W fun e w' => e = .returned (.agg (pteC S)) ∧ Below W.heap.size W w')
    (cg2 : ∀ W, Calls Try.prog 13 #[.int .u64 v] W fun e w' => e = .returned (.agg (pteC S)) ∧ Below W.heap.size W w')
    (cu : ∀ W, Calls Try.prog 14 #[.int .u64 v, .bool wr] W fun e w' => e = .returned (.int .u64 u) ∧ W = w')
    (cu2 : ∀ W, Calls Try.prog 15 #[.int .u64 v, .bool wr] W fun e w' => e = .returned (.int .u64 u) ∧ W = w') :
    Calls Try.prog 3 #[.int .u64 v, .agg (pteC p), .bool wr] w fun e w' => e = .returned (.bool true) ∧ Below w.heap.size w w' := by
  have hH0 : Has w w.heap.size [] := Has.nil (Nat.le_refl _)
  have hN := hH0.newblk w.heap.size 24 (pteC p) rfl
  have hBN := below_new (Below.refl w.heap.size w) hH0 (.cells (pteC p) 24)
  have heq := fun W => pte_eql S S W
  simp only [decide_true] at heq
  have CP := hid cp
  have CQ := hid cp2
  have CG := hid cg
  have CH := hid cg2
  have CU := hid cu
  have CV := hid cu2
  clear cp cp2 cg cg2 cu cu2 hH0
  go_enter Try.func3, Try.ntmps3
  go_wp2_with fail
  refine (head_true _ _ _ hN).mono ?_
  rintro e w1 ⟨_, rfl, hH1, hB1⟩
  have hB1 := hBN.trans hB1
  clear hBN hN
  generalize hb : w.heap.size = b at *
  have HBB := hid hb
  clear hb
  go_wp2_with (refine wpList_load_blk [] _ hH1 24 (.tmp 4) rfl rfl rfl _ Try.underlying24 rfl (pte_size _) ?_)
  refine (keeps (CP.out _) hH1).mono ?_
  rintro e w2 ⟨rfl, hH2, hB2⟩
  have hB2 := hB1.trans hB2
  clear hB1 hH1
  go_wp2_with (refine wpList_load_blk [] _ hH2 24 (.tmp 4) rfl rfl rfl _ Try.underlying24 rfl (pte_size _) ?_)
  refine (keeps (CQ.out _) hH2).mono ?_
  rintro e w3 ⟨rfl, hH3, hB3⟩
  have hB3 := hB2.trans hB3
  clear hB2 hH2
  go_wp2_with fail
  refine (keeps (CG.out _) hH3).mono ?_
  rintro e w4 ⟨rfl, hH4, hB4⟩
  have hB4 := hB3.trans hB4
  clear hB3 hH3
  go_wp2_with fail
  refine (keeps (CH.out _) hH4).mono ?_
  rintro e w5 ⟨rfl, hH5, hB5⟩
  have hB5 := hB4.trans hB5
  clear hB4 hH4
  go_wp2_with fail
  refine (CU.out _).mono ?_
  rintro e w6 ⟨rfl, rfl⟩
  go_wp2_with fail
  refine (CV.out _).mono ?_
  rintro e w6 ⟨rfl, rfl⟩
  go_wp2_with fail
  go_ret
  exact ⟨by simp, by rw [HBB.out]; exact hB5⟩

theorem PteTells_walk (v : Int) (p : PteS) (wr : Bool) (w : World) (hv : (Lit.int .u64 v).wf = true) (hp : (Lit.int .i64 p.Frame).wf = true) :
    Calls Try.prog 3 #[.int .u64 v, .agg (pteC p), .bool wr] w fun e w' => e = .returned (.bool true) ∧ Below w.heap.size w w' := by
  obtain ⟨V, rfl, hV⟩ := u64_nat hv
  exact PteTells_core p (getS V) V _ _ _ wr w (fun W => Put_calls p W) (fun W => RPut_calls p W) (fun W => Get_calls V hV W) (fun W => RGet_calls V hV W) (fun W => Used_calls V wr hV W) (fun W => RUsed_calls V wr hV W)

end Go.Proofs.Ytcigjchncahpaaa
