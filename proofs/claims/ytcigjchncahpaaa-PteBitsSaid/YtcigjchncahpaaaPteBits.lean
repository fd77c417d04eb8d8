/-
  PteBits: each bit of a word tells one thing: turned, that alone is another one.
-/
import Derived.Test.YtcigjchncahpaaaPteHead
import Derived.Test.YtcigjchncahpaaaPteArgs
namespace Go.Proofs.Ytcigjchncahpaaa
open Go.RowKit Go.Sort
set_option linter.unusedVariables false
set_option linter.unusedSimpArgs false

theorem pteC_badset (P W U A D PS NX Bad Bad2 : Bool) (G : Int) : (pteC ⟨P, W, U, A, D, PS, NX, Bad2, G⟩).setIfInBounds 7 (.bool Bad) = pteC ⟨P, W, U, A, D, PS, NX, Bad, G⟩ := by simp [pteC]

set_option maxHeartbeats 4000000 in
set_option maxRecDepth 100000 in
theorem PteBits_3 (P W U0 A D PS NX Bad Bad2 : Bool) (G : Int) (v n k X U : Int) (w : World) (hk : wrap64 (n.tmod 64) = k) (g0 : (k == 3) = true) (g1 : (k == 4) = false) (g2 : decide (8 ≤ k) = false) (g3 : decide (k ≤ 11) = true) (g4 : decide (32 ≤ k) = false) (g5 : decide (k ≤ 62) = true) (g6 : decide (12 ≤ k) = false) (g7 : decide (k ≤ 31) = true)
    (hsh : ∀ W', Sem.run Try.prog (Op.shift BinOp.shl IntKind.u64 1 IntKind.i64 k) W' = .ok (.int .u64 X) W') (hU : bits .xor .u64 v X = U)
    (cv : ∀ W', Calls Try.prog 12 #[.int .u64 v] W' fun e w' => e = .returned (.agg (pteC ⟨P, W, U0, A, D, PS, NX, Bad, G⟩)) ∧ Below W'.heap.size W' w')
    (cu : ∀ W', Calls Try.prog 12 #[.int .u64 U] W' fun e w' => e = .returned (.agg (pteC ⟨P, W, U0, A, D, PS, NX, Bad2, G⟩)) ∧ Below W'.heap.size W' w') (hor : (Bad || Bad2) = true) :
    Calls Try.prog 6 #[.int .u64 v, .int .u8 n] w fun e w' => e = .returned (.bool true) ∧ Below w.heap.size w w' := by
  have z0 := hid g0; have z1 := hid g1; have z2 := hid g2; have z3 := hid g3; have z4 := hid g4; have z5 := hid g5; have z6 := hid g6; have z7 := hid g7; clear g0 g1 g2 g3 g4 g5 g6 g7
  have hH0 : Has w w.heap.size [] := Has.nil (Nat.le_refl _)
  have CV := hid cv
  have CU := hid cu
  clear cv cu
  go_enter Try.func6, Try.ntmps6
  go_wp2_with fail
  refine (head_true _ _ _ hH0).mono ?_
  rintro e w1 ⟨_, rfl, hH1, hB1⟩
  go_wp2_with fail
  refine (keeps (CV.out _) hH1).mono ?_
  rintro e w3 ⟨rfl, hH3, hB3⟩
  have tok1 : True := trivial
  go_wp2_with (have _t := tok1; refine wpList_store_all [] _ (hH3.newblk w3.heap.size 24 pteZ rfl) 24 (.tmp 8) (.tmp 19) rfl rfl rfl _ rfl (pte_size _) rfl (pte_one _) ?_; intro w4 hH4 hB4 hz4; clear hz4 _t tok1)
  refine (keeps (CU.out _) hH4).mono ?_
  rintro e w5 ⟨rfl, hH5, hB5⟩
  have hBa := hB1.trans (hB3.trans (((below_new (Below.refl _ _) hH3 _).trans hB4).trans hB5))
  clear hB1 hB3 hB4 hB5 hH0 hH1 hH3 hH4
  have tok1 : True := trivial
  clear hk hU hsh
  have g0 := z0.out; have g1 := z1.out; have g2 := z2.out; have g3 := z3.out; have g4 := z4.out; have g5 := z5.out; have g6 := z6.out; have g7 := z7.out; clear z0 z1 z2 z3 z4 z5 z6 z7
  have heq : ∀ W', Sem.run Try.prog (binOp .eql 24 (.agg (pteC ⟨P, W, U0, A, D, PS, NX, Bad, G⟩)) (.agg (pteC ⟨P, W, U0, A, D, PS, NX, Bad, G⟩))) W' = .ok (.bool true) W' := fun W' => by
    rw [pte_eql]; simp
  go_wp2_with (first
    | (have _t := tok1; refine wpList_store_all [] _ (hH5.newblk w5.heap.size 24 pteZ rfl) 24 (.tmp 9) (.tmp 21) rfl rfl rfl _ rfl (pte_size _) rfl (pte_one _) ?_; intro w6 hH6 hB6 hz6; clear hz6 _t tok1; have j7 := (pte_cells [] _ hH6).2.2.2.2.2.2.2.1; have k7 := (pte_cells [_] _ hH6).2.2.2.2.2.2.2.1; have c7 := hH6.frozen [] _ 7; have hH8 := hH6.set [] _ 7 (.bool Bad); rw [pteC_badset] at hH8)
    | (refine wpList_load_blk [_] _ hH8 24 (.tmp 8) rfl rfl rfl _ Try.underlying24 rfl (pte_size _) ?_)
    | (refine wpList_load_blk [] _ hH8 24 (.tmp 9) rfl rfl rfl _ Try.underlying24 rfl (pte_size _) ?_))
  have hT := below_set (hBa.trans ((below_new (Below.refl _ _) hH5 _).trans hB6)) [] _ hH6 7 (.bool Bad)
  refine (keeps (CV.out _) hH8).mono ?_
  rintro e w9 ⟨rfl, hH9, hB9⟩
  clear hH5 hH6 hH8 hBa hB6 c7
  have hbad := fun W' => pte_bad ⟨P, W, U0, A, D, PS, NX, Bad, G⟩ W'
  have hbad2 := fun W' => pte_bad ⟨P, W, U0, A, D, PS, NX, Bad2, G⟩ W'
  cases Bad with
  | true =>
    clear hor
    go_wp2_with fail
    go_ret
    exact ⟨rfl, hT.trans hB9⟩
  | false =>
    obtain rfl : Bad2 = true := by simpa using hor
    clear hor
    go_wp2_with fail
    refine (keeps (CU.out _) hH9).mono ?_
    rintro e w10 ⟨rfl, hH10, hB10⟩
    go_wp2_with fail
    go_ret
    exact ⟨rfl, (hT.trans hB9).trans hB10⟩

set_option maxHeartbeats 4000000 in
set_option maxRecDepth 100000 in
theorem PteBits_4 (P W U0 A D PS NX Bad Bad2 : Bool) (G : Int) (v n k X U : Int) (w : World) (hk : wrap64 (n.tmod 64) = k) (g0 : (k == 3) = false) (g1 : (k == 4) = true) (g2 : decide (8 ≤ k) = false) (g3 : decide (k ≤ 11) = true) (g4 : decide (32 ≤ k) = false) (g5 : decide (k ≤ 62) = true) (g6 : decide (12 ≤ k) = false) (g7 : decide (k ≤ 31) = true)
    (hsh : ∀ W', Sem.run Try.prog (Op.shift BinOp.shl IntKind.u64 1 IntKind.i64 k) W' = .ok (.int .u64 X) W') (hU : bits .xor .u64 v X = U)
    (cv : ∀ W', Calls Try.prog 12 #[.int .u64 v] W' fun e w' => e = .returned (.agg (pteC ⟨P, W, U0, A, D, PS, NX, Bad, G⟩)) ∧ Below W'.heap.size W' w')
    (cu : ∀ W', Calls Try.prog 12 #[.int .u64 U] W' fun e w' => e = .returned (.agg (pteC ⟨P, W, U0, A, D, PS, NX, Bad2, G⟩)) ∧ Below W'.heap.size W' w') (hor : (Bad || Bad2) = true) :
    Calls Try.prog 6 #[.int .u64 v, .int .u8 n] w fun e w' => e = .returned (.bool true) ∧ Below w.heap.size w w' := by
  have z0 := hid g0; have z1 := hid g1; have z2 := hid g2; have z3 := hid g3; have z4 := hid g4; have z5 := hid g5; have z6 := hid g6; have z7 := hid g7; clear g0 g1 g2 g3 g4 g5 g6 g7
  have hH0 : Has w w.heap.size [] := Has.nil (Nat.le_refl _)
  have CV := hid cv
  have CU := hid cu
  clear cv cu
  go_enter Try.func6, Try.ntmps6
  go_wp2_with fail
  refine (head_true _ _ _ hH0).mono ?_
  rintro e w1 ⟨_, rfl, hH1, hB1⟩
  go_wp2_with fail
  refine (keeps (CV.out _) hH1).mono ?_
  rintro e w3 ⟨rfl, hH3, hB3⟩
  have tok1 : True := trivial
  go_wp2_with (have _t := tok1; refine wpList_store_all [] _ (hH3.newblk w3.heap.size 24 pteZ rfl) 24 (.tmp 8) (.tmp 19) rfl rfl rfl _ rfl (pte_size _) rfl (pte_one _) ?_; intro w4 hH4 hB4 hz4; clear hz4 _t tok1)
  refine (keeps (CU.out _) hH4).mono ?_
  rintro e w5 ⟨rfl, hH5, hB5⟩
  have hBa := hB1.trans (hB3.trans (((below_new (Below.refl _ _) hH3 _).trans hB4).trans hB5))
  clear hB1 hB3 hB4 hB5 hH0 hH1 hH3 hH4
  have tok1 : True := trivial
  clear hk hU hsh
  have g0 := z0.out; have g1 := z1.out; have g2 := z2.out; have g3 := z3.out; have g4 := z4.out; have g5 := z5.out; have g6 := z6.out; have g7 := z7.out; clear z0 z1 z2 z3 z4 z5 z6 z7
  have heq : ∀ W', Sem.run Try.prog (binOp .eql 24 (.agg (pteC ⟨P, W, U0, A, D, PS, NX, Bad, G⟩)) (.agg (pteC ⟨P, W, U0, A, D, PS, NX, Bad, G⟩))) W' = .ok (.bool true) W' := fun W' => by
    rw [pte_eql]; simp
  go_wp2_with (first
    | (have _t := tok1; refine wpList_store_all [] _ (hH5.newblk w5.heap.size 24 pteZ rfl) 24 (.tmp 9) (.tmp 21) rfl rfl rfl _ rfl (pte_size _) rfl (pte_one _) ?_; intro w6 hH6 hB6 hz6; clear hz6 _t tok1; have j7 := (pte_cells [] _ hH6).2.2.2.2.2.2.2.1; have k7 := (pte_cells [_] _ hH6).2.2.2.2.2.2.2.1; have c7 := hH6.frozen [] _ 7; have hH8 := hH6.set [] _ 7 (.bool Bad); rw [pteC_badset] at hH8)
    | (refine wpList_load_blk [_] _ hH8 24 (.tmp 8) rfl rfl rfl _ Try.underlying24 rfl (pte_size _) ?_)
    | (refine wpList_load_blk [] _ hH8 24 (.tmp 9) rfl rfl rfl _ Try.underlying24 rfl (pte_size _) ?_))
  have hT := below_set (hBa.trans ((below_new (Below.refl _ _) hH5 _).trans hB6)) [] _ hH6 7 (.bool Bad)
  refine (keeps (CV.out _) hH8).mono ?_
  rintro e w9 ⟨rfl, hH9, hB9⟩
  clear hH5 hH6 hH8 hBa hB6 c7
  have hbad := fun W' => pte_bad ⟨P, W, U0, A, D, PS, NX, Bad, G⟩ W'
  have hbad2 := fun W' => pte_bad ⟨P, W, U0, A, D, PS, NX, Bad2, G⟩ W'
  cases Bad with
  | true =>
    clear hor
    go_wp2_with fail
    go_ret
    exact ⟨rfl, hT.trans hB9⟩
  | false =>
    obtain rfl : Bad2 = true := by simpa using hor
    clear hor
    go_wp2_with fail
    refine (keeps (CU.out _) hH9).mono ?_
    rintro e w10 ⟨rfl, hH10, hB10⟩
    go_wp2_with fail
    go_ret
    exact ⟨rfl, (hT.trans hB9).trans hB10⟩

set_option maxHeartbeats 4000000 in
set_option maxRecDepth 100000 in
theorem PteBits_9 (P W U0 A D PS NX Bad Bad2 : Bool) (G : Int) (v n k X U : Int) (w : World) (hk : wrap64 (n.tmod 64) = k) (g0 : (k == 3) = false) (g1 : (k == 4) = false) (g2 : decide (8 ≤ k) = true) (g3 : decide (k ≤ 11) = true) (g4 : decide (32 ≤ k) = false) (g5 : decide (k ≤ 62) = true) (g6 : decide (12 ≤ k) = false) (g7 : decide (k ≤ 31) = true)
    (hsh : ∀ W', Sem.run Try.prog (Op.shift BinOp.shl IntKind.u64 1 IntKind.i64 k) W' = .ok (.int .u64 X) W') (hU : bits .xor .u64 v X = U)
    (cv : ∀ W', Calls Try.prog 12 #[.int .u64 v] W' fun e w' => e = .returned (.agg (pteC ⟨P, W, U0, A, D, PS, NX, Bad, G⟩)) ∧ Below W'.heap.size W' w')
    (cu : ∀ W', Calls Try.prog 12 #[.int .u64 U] W' fun e w' => e = .returned (.agg (pteC ⟨P, W, U0, A, D, PS, NX, Bad2, G⟩)) ∧ Below W'.heap.size W' w') (hor : (Bad || Bad2) = true) :
    Calls Try.prog 6 #[.int .u64 v, .int .u8 n] w fun e w' => e = .returned (.bool true) ∧ Below w.heap.size w w' := by
  have z0 := hid g0; have z1 := hid g1; have z2 := hid g2; have z3 := hid g3; have z4 := hid g4; have z5 := hid g5; have z6 := hid g6; have z7 := hid g7; clear g0 g1 g2 g3 g4 g5 g6 g7
  have hH0 : Has w w.heap.size [] := Has.nil (Nat.le_refl _)
  have CV := hid cv
  have CU := hid cu
  clear cv cu
  go_enter Try.func6, Try.ntmps6
  go_wp2_with fail
  refine (head_true _ _ _ hH0).mono ?_
  rintro e w1 ⟨_, rfl, hH1, hB1⟩
  go_wp2_with fail
  refine (keeps (CV.out _) hH1).mono ?_
  rintro e w3 ⟨rfl, hH3, hB3⟩
  have tok1 : True := trivial
  go_wp2_with (have _t := tok1; refine wpList_store_all [] _ (hH3.newblk w3.heap.size 24 pteZ rfl) 24 (.tmp 8) (.tmp 19) rfl rfl rfl _ rfl (pte_size _) rfl (pte_one _) ?_; intro w4 hH4 hB4 hz4; clear hz4 _t tok1)
  refine (keeps (CU.out _) hH4).mono ?_
  rintro e w5 ⟨rfl, hH5, hB5⟩
  have hBa := hB1.trans (hB3.trans (((below_new (Below.refl _ _) hH3 _).trans hB4).trans hB5))
  clear hB1 hB3 hB4 hB5 hH0 hH1 hH3 hH4
  have tok1 : True := trivial
  clear hk hU hsh
  have g0 := z0.out; have g1 := z1.out; have g2 := z2.out; have g3 := z3.out; have g4 := z4.out; have g5 := z5.out; have g6 := z6.out; have g7 := z7.out; clear z0 z1 z2 z3 z4 z5 z6 z7
  have heq : ∀ W', Sem.run Try.prog (binOp .eql 24 (.agg (pteC ⟨P, W, U0, A, D, PS, NX, Bad, G⟩)) (.agg (pteC ⟨P, W, U0, A, D, PS, NX, Bad, G⟩))) W' = .ok (.bool true) W' := fun W' => by
    rw [pte_eql]; simp
  go_wp2_with (first
    | (have _t := tok1; refine wpList_store_all [] _ (hH5.newblk w5.heap.size 24 pteZ rfl) 24 (.tmp 9) (.tmp 21) rfl rfl rfl _ rfl (pte_size _) rfl (pte_one _) ?_; intro w6 hH6 hB6 hz6; clear hz6 _t tok1; have j7 := (pte_cells [] _ hH6).2.2.2.2.2.2.2.1; have k7 := (pte_cells [_] _ hH6).2.2.2.2.2.2.2.1; have c7 := hH6.frozen [] _ 7; have hH8 := hH6.set [] _ 7 (.bool Bad); rw [pteC_badset] at hH8)
    | (refine wpList_load_blk [_] _ hH8 24 (.tmp 8) rfl rfl rfl _ Try.underlying24 rfl (pte_size _) ?_)
    | (refine wpList_load_blk [] _ hH8 24 (.tmp 9) rfl rfl rfl _ Try.underlying24 rfl (pte_size _) ?_))
  have hT := below_set (hBa.trans ((below_new (Below.refl _ _) hH5 _).trans hB6)) [] _ hH6 7 (.bool Bad)
  refine (keeps (CV.out _) hH8).mono ?_
  rintro e w9 ⟨rfl, hH9, hB9⟩
  clear hH5 hH6 hH8 hBa hB6 c7
  have hbad := fun W' => pte_bad ⟨P, W, U0, A, D, PS, NX, Bad, G⟩ W'
  have hbad2 := fun W' => pte_bad ⟨P, W, U0, A, D, PS, NX, Bad2, G⟩ W'
  cases Bad with
  | true =>
    clear hor
    go_wp2_with fail
    go_ret
    exact ⟨rfl, hT.trans hB9⟩
  | false =>
    obtain rfl : Bad2 = true := by simpa using hor
    clear hor
    go_wp2_with fail
    refine (keeps (CU.out _) hH9).mono ?_
    rintro e w10 ⟨rfl, hH10, hB10⟩
    go_wp2_with fail
    go_ret
    exact ⟨rfl, (hT.trans hB9).trans hB10⟩

set_option maxHeartbeats 4000000 in
set_option maxRecDepth 100000 in
theorem PteBits_40 (P W U0 A D PS NX Bad Bad2 : Bool) (G : Int) (v n k X U : Int) (w : World) (hk : wrap64 (n.tmod 64) = k) (g0 : (k == 3) = false) (g1 : (k == 4) = false) (g2 : decide (8 ≤ k) = true) (g3 : decide (k ≤ 11) = false) (g4 : decide (32 ≤ k) = true) (g5 : decide (k ≤ 62) = true) (g6 : decide (12 ≤ k) = true) (g7 : decide (k ≤ 31) = false)
    (hsh : ∀ W', Sem.run Try.prog (Op.shift BinOp.shl IntKind.u64 1 IntKind.i64 k) W' = .ok (.int .u64 X) W') (hU : bits .xor .u64 v X = U)
    (cv : ∀ W', Calls Try.prog 12 #[.int .u64 v] W' fun e w' => e = .returned (.agg (pteC ⟨P, W, U0, A, D, PS, NX, Bad, G⟩)) ∧ Below W'.heap.size W' w')
    (cu : ∀ W', Calls Try.prog 12 #[.int .u64 U] W' fun e w' => e = .returned (.agg (pteC ⟨P, W, U0, A, D, PS, NX, Bad2, G⟩)) ∧ Below W'.heap.size W' w') (hor : (Bad || Bad2) = true) :
    Calls Try.prog 6 #[.int .u64 v, .int .u8 n] w fun e w' => e = .returned (.bool true) ∧ Below w.heap.size w w' := by
  have z0 := hid g0; have z1 := hid g1; have z2 := hid g2; have z3 := hid g3; have z4 := hid g4; have z5 := hid g5; have z6 := hid g6; have z7 := hid g7; clear g0 g1 g2 g3 g4 g5 g6 g7
  have hH0 : Has w w.heap.size [] := Has.nil (Nat.le_refl _)
  have CV := hid cv
  have CU := hid cu
  clear cv cu
  go_enter Try.func6, Try.ntmps6
  go_wp2_with fail
  refine (head_true _ _ _ hH0).mono ?_
  rintro e w1 ⟨_, rfl, hH1, hB1⟩
  go_wp2_with fail
  refine (keeps (CV.out _) hH1).mono ?_
  rintro e w3 ⟨rfl, hH3, hB3⟩
  have tok1 : True := trivial
  go_wp2_with (have _t := tok1; refine wpList_store_all [] _ (hH3.newblk w3.heap.size 24 pteZ rfl) 24 (.tmp 8) (.tmp 19) rfl rfl rfl _ rfl (pte_size _) rfl (pte_one _) ?_; intro w4 hH4 hB4 hz4; clear hz4 _t tok1)
  refine (keeps (CU.out _) hH4).mono ?_
  rintro e w5 ⟨rfl, hH5, hB5⟩
  have hBa := hB1.trans (hB3.trans (((below_new (Below.refl _ _) hH3 _).trans hB4).trans hB5))
  clear hB1 hB3 hB4 hB5 hH0 hH1 hH3 hH4
  have tok1 : True := trivial
  clear hk hU hsh
  have g0 := z0.out; have g1 := z1.out; have g2 := z2.out; have g3 := z3.out; have g4 := z4.out; have g5 := z5.out; have g6 := z6.out; have g7 := z7.out; clear z0 z1 z2 z3 z4 z5 z6 z7
  have heq : ∀ W', Sem.run Try.prog (binOp .eql 24 (.agg (pteC ⟨P, W, U0, A, D, PS, NX, Bad, G⟩)) (.agg (pteC ⟨P, W, U0, A, D, PS, NX, Bad, G⟩))) W' = .ok (.bool true) W' := fun W' => by
    rw [pte_eql]; simp
  go_wp2_with (first
    | (have _t := tok1; refine wpList_store_all [] _ (hH5.newblk w5.heap.size 24 pteZ rfl) 24 (.tmp 9) (.tmp 21) rfl rfl rfl _ rfl (pte_size _) rfl (pte_one _) ?_; intro w6 hH6 hB6 hz6; clear hz6 _t tok1; have j7 := (pte_cells [] _ hH6).2.2.2.2.2.2.2.1; have k7 := (pte_cells [_] _ hH6).2.2.2.2.2.2.2.1; have c7 := hH6.frozen [] _ 7; have hH8 := hH6.set [] _ 7 (.bool Bad); rw [pteC_badset] at hH8)
    | (refine wpList_load_blk [_] _ hH8 24 (.tmp 8) rfl rfl rfl _ Try.underlying24 rfl (pte_size _) ?_)
    | (refine wpList_load_blk [] _ hH8 24 (.tmp 9) rfl rfl rfl _ Try.underlying24 rfl (pte_size _) ?_))
  have hT := below_set (hBa.trans ((below_new (Below.refl _ _) hH5 _).trans hB6)) [] _ hH6 7 (.bool Bad)
  refine (keeps (CV.out _) hH8).mono ?_
  rintro e w9 ⟨rfl, hH9, hB9⟩
  clear hH5 hH6 hH8 hBa hB6 c7
  have hbad := fun W' => pte_bad ⟨P, W, U0, A, D, PS, NX, Bad, G⟩ W'
  have hbad2 := fun W' => pte_bad ⟨P, W, U0, A, D, PS, NX, Bad2, G⟩ W'
  cases Bad with
  | true =>
    clear hor
    go_wp2_with fail
    go_ret
    exact ⟨rfl, hT.trans hB9⟩
  | false =>
    obtain rfl : Bad2 = true := by simpa using hor
    clear hor
    go_wp2_with fail
    refine (keeps (CU.out _) hH9).mono ?_
    rintro e w10 ⟨rfl, hH10, hB10⟩
    go_wp2_with fail
    go_ret
    exact ⟨rfl, (hT.trans hB9).trans hB10⟩

set_option maxHeartbeats 4000000 in
set_option maxRecDepth 100000 in
theorem PteBits_20 (P W U0 A D PS NX Bad : Bool) (G G2 : Int) (v n k X U : Int) (w : World) (hk : wrap64 (n.tmod 64) = k) (g0 : (k == 3) = false) (g1 : (k == 4) = false) (g2 : decide (8 ≤ k) = true) (g3 : decide (k ≤ 11) = false) (g4 : decide (32 ≤ k) = false) (g5 : decide (k ≤ 62) = true) (g6 : decide (12 ≤ k) = true) (g7 : decide (k ≤ 31) = true)
    (hsh : ∀ W', Sem.run Try.prog (Op.shift BinOp.shl IntKind.u64 1 IntKind.i64 k) W' = .ok (.int .u64 X) W') (hU : bits .xor .u64 v X = U)
    (cv : ∀ W', Calls Try.prog 12 #[.int .u64 v] W' fun e w' => e = .returned (.agg (pteC ⟨P, W, U0, A, D, PS, NX, Bad, G⟩)) ∧ Below W'.heap.size W' w')
    (cu : ∀ W', Calls Try.prog 12 #[.int .u64 U] W' fun e w' => e = .returned (.agg (pteC ⟨P, W, U0, A, D, PS, NX, Bad, G2⟩)) ∧ Below W'.heap.size W' w') (j E : Int) (hj : wrap64 (k - 12) = j) (hx : bits .xor .i64 G G2 = E)
    (hs2 : ∀ W', Sem.run Try.prog (Op.shift BinOp.shl IntKind.i64 1 IntKind.i64 j) W' = .ok (.int .i64 E) W') :
    Calls Try.prog 6 #[.int .u64 v, .int .u8 n] w fun e w' => e = .returned (.bool true) ∧ Below w.heap.size w w' := by
  have z0 := hid g0; have z1 := hid g1; have z2 := hid g2; have z3 := hid g3; have z4 := hid g4; have z5 := hid g5; have z6 := hid g6; have z7 := hid g7; clear g0 g1 g2 g3 g4 g5 g6 g7
  have hH0 : Has w w.heap.size [] := Has.nil (Nat.le_refl _)
  have CV := hid cv
  have CU := hid cu
  clear cv cu
  go_enter Try.func6, Try.ntmps6
  go_wp2_with fail
  refine (head_true _ _ _ hH0).mono ?_
  rintro e w1 ⟨_, rfl, hH1, hB1⟩
  go_wp2_with fail
  refine (keeps (CV.out _) hH1).mono ?_
  rintro e w3 ⟨rfl, hH3, hB3⟩
  have tok1 : True := trivial
  go_wp2_with (have _t := tok1; refine wpList_store_all [] _ (hH3.newblk w3.heap.size 24 pteZ rfl) 24 (.tmp 8) (.tmp 19) rfl rfl rfl _ rfl (pte_size _) rfl (pte_one _) ?_; intro w4 hH4 hB4 hz4; clear hz4 _t tok1)
  refine (keeps (CU.out _) hH4).mono ?_
  rintro e w5 ⟨rfl, hH5, hB5⟩
  have hBa := hB1.trans (hB3.trans (((below_new (Below.refl _ _) hH3 _).trans hB4).trans hB5))
  clear hB1 hB3 hB4 hB5 hH0 hH1 hH3 hH4
  have tok1 : True := trivial
  clear hk hU hsh
  have g0 := z0.out; have g1 := z1.out; have g2 := z2.out; have g3 := z3.out; have g4 := z4.out; have g5 := z5.out; have g6 := z6.out; have g7 := z7.out; clear z0 z1 z2 z3 z4 z5 z6 z7
  go_wp2_with (first
    | (have _t := tok1; refine wpList_store_all [] _ (hH5.newblk w5.heap.size 24 pteZ rfl) 24 (.tmp 9) (.tmp 21) rfl rfl rfl _ rfl (pte_size _) rfl (pte_one _) ?_; intro w6 hH6 hB6 hz6; clear hz6 _t tok1; have j7 := (pte_cells [] _ hH6).2.2.2.2.2.2.2.1; have k7 := (pte_cells [_] _ hH6).2.2.2.2.2.2.2.1; have j8 := (pte_cells [] _ hH6).2.2.2.2.2.2.2.2; have k8 := (pte_cells [_] _ hH6).2.2.2.2.2.2.2.2; have j0 := (pte_cells [] _ hH6).1; have k0 := (pte_cells [_] _ hH6).1; have j6 := (pte_cells [] _ hH6).2.2.2.2.2.2.1; have k6 := (pte_cells [_] _ hH6).2.2.2.2.2.2.1))
  go_quiet (fail)
  go_wp2_with fail
  go_ret
  exact ⟨rfl, below_drewN (hBa.trans ((below_new (Below.refl _ _) hH5 _).trans hB6)) _⟩

set_option maxHeartbeats 4000000 in
set_option maxRecDepth 100000 in
theorem PteBits_1 (S T : PteS) (v n k X U : Int) (w : World) (hk : wrap64 (n.tmod 64) = k) (g0 : (k == 3) = false) (g1 : (k == 4) = false) (g2 : decide (8 ≤ k) = false) (g3 : decide (k ≤ 11) = true) (g4 : decide (32 ≤ k) = false) (g5 : decide (k ≤ 62) = true) (g6 : decide (12 ≤ k) = false) (g7 : decide (k ≤ 31) = true)
    (hsh : ∀ W', Sem.run Try.prog (Op.shift BinOp.shl IntKind.u64 1 IntKind.i64 k) W' = .ok (.int .u64 X) W') (hU : bits .xor .u64 v X = U)
    (cv : ∀ W', Calls Try.prog 12 #[.int .u64 v] W' fun e w' => e = .returned (.agg (pteC S)) ∧ Below W'.heap.size W' w')
    (cu : ∀ W', Calls Try.prog 12 #[.int .u64 U] W' fun e w' => e = .returned (.agg (pteC T)) ∧ Below W'.heap.size W' w') (hne : decide (S = T) = false) (hFr : S.Frame = T.Frame) (hBd : S.Bad = T.Bad) :
    Calls Try.prog 6 #[.int .u64 v, .int .u8 n] w fun e w' => e = .returned (.bool true) ∧ Below w.heap.size w w' := by
  have z0 := hid g0; have z1 := hid g1; have z2 := hid g2; have z3 := hid g3; have z4 := hid g4; have z5 := hid g5; have z6 := hid g6; have z7 := hid g7; clear g0 g1 g2 g3 g4 g5 g6 g7
  have hH0 : Has w w.heap.size [] := Has.nil (Nat.le_refl _)
  have CV := hid cv
  have CU := hid cu
  clear cv cu
  go_enter Try.func6, Try.ntmps6
  go_wp2_with fail
  refine (head_true _ _ _ hH0).mono ?_
  rintro e w1 ⟨_, rfl, hH1, hB1⟩
  go_wp2_with fail
  refine (keeps (CV.out _) hH1).mono ?_
  rintro e w3 ⟨rfl, hH3, hB3⟩
  have tok1 : True := trivial
  go_wp2_with (have _t := tok1; refine wpList_store_all [] _ (hH3.newblk w3.heap.size 24 pteZ rfl) 24 (.tmp 8) (.tmp 19) rfl rfl rfl _ rfl (pte_size _) rfl (pte_one _) ?_; intro w4 hH4 hB4 hz4; clear hz4 _t tok1)
  refine (keeps (CU.out _) hH4).mono ?_
  rintro e w5 ⟨rfl, hH5, hB5⟩
  have hBa := hB1.trans (hB3.trans (((below_new (Below.refl _ _) hH3 _).trans hB4).trans hB5))
  clear hB1 hB3 hB4 hB5 hH0 hH1 hH3 hH4
  have tok1 : True := trivial
  clear hk hU hsh
  have g0 := z0.out; have g1 := z1.out; have g2 := z2.out; have g3 := z3.out; have g4 := z4.out; have g5 := z5.out; have g6 := z6.out; have g7 := z7.out; clear z0 z1 z2 z3 z4 z5 z6 z7
  have hneq : ∀ W', Sem.run Try.prog (binOp .neq 24 (.agg (pteC S)) (.agg (pteC T))) W' = .ok (.bool true) W' := fun W' => by
    rw [pte_neq, hne]; simp
  go_wp2_with (first
    | (have _t := tok1; refine wpList_store_all [] _ (hH5.newblk w5.heap.size 24 pteZ rfl) 24 (.tmp 9) (.tmp 21) rfl rfl rfl _ rfl (pte_size _) rfl (pte_one _) ?_; intro w6 hH6 hB6 hz6; clear hz6 _t tok1; have j7 := (pte_cells [] _ hH6).2.2.2.2.2.2.2.1; have k7 := (pte_cells [_] _ hH6).2.2.2.2.2.2.2.1; have j8 := (pte_cells [] _ hH6).2.2.2.2.2.2.2.2; have k8 := (pte_cells [_] _ hH6).2.2.2.2.2.2.2.2; rw [← hBd] at j7; rw [← hFr] at j8)
    | (refine wpList_load_blk [_] _ hH6 24 (.tmp 8) rfl rfl rfl _ Try.underlying24 rfl (pte_size _) ?_)
    | (refine wpList_load_blk [] _ hH6 24 (.tmp 9) rfl rfl rfl _ Try.underlying24 rfl (pte_size _) ?_))
  go_ret
  exact ⟨by simp, hBa.trans ((below_new (Below.refl _ _) hH5 _).trans hB6)⟩

set_option maxHeartbeats 4000000 in
set_option maxRecDepth 100000 in
theorem PteBits_6 (S T : PteS) (v n k X U : Int) (w : World) (hk : wrap64 (n.tmod 64) = k) (g0 : (k == 3) = false) (g1 : (k == 4) = false) (g2 : decide (8 ≤ k) = false) (g3 : decide (k ≤ 11) = true) (g4 : decide (32 ≤ k) = false) (g5 : decide (k ≤ 62) = true) (g6 : decide (12 ≤ k) = false) (g7 : decide (k ≤ 31) = true)
    (hsh : ∀ W', Sem.run Try.prog (Op.shift BinOp.shl IntKind.u64 1 IntKind.i64 k) W' = .ok (.int .u64 X) W') (hU : bits .xor .u64 v X = U)
    (cv : ∀ W', Calls Try.prog 12 #[.int .u64 v] W' fun e w' => e = .returned (.agg (pteC S)) ∧ Below W'.heap.size W' w')
    (cu : ∀ W', Calls Try.prog 12 #[.int .u64 U] W' fun e w' => e = .returned (.agg (pteC T)) ∧ Below W'.heap.size W' w') (hne : decide (S = T) = false) (hFr : S.Frame = T.Frame) (hBd : S.Bad = T.Bad) :
    Calls Try.prog 6 #[.int .u64 v, .int .u8 n] w fun e w' => e = .returned (.bool true) ∧ Below w.heap.size w w' := by
  have z0 := hid g0; have z1 := hid g1; have z2 := hid g2; have z3 := hid g3; have z4 := hid g4; have z5 := hid g5; have z6 := hid g6; have z7 := hid g7; clear g0 g1 g2 g3 g4 g5 g6 g7
  have hH0 : Has w w.heap.size [] := Has.nil (Nat.le_refl _)
  have CV := hid cv
  have CU := hid cu
  clear cv cu
  go_enter Try.func6, Try.ntmps6
  go_wp2_with fail
  refine (head_true _ _ _ hH0).mono ?_
  rintro e w1 ⟨_, rfl, hH1, hB1⟩
  go_wp2_with fail
  refine (keeps (CV.out _) hH1).mono ?_
  rintro e w3 ⟨rfl, hH3, hB3⟩
  have tok1 : True := trivial
  go_wp2_with (have _t := tok1; refine wpList_store_all [] _ (hH3.newblk w3.heap.size 24 pteZ rfl) 24 (.tmp 8) (.tmp 19) rfl rfl rfl _ rfl (pte_size _) rfl (pte_one _) ?_; intro w4 hH4 hB4 hz4; clear hz4 _t tok1)
  refine (keeps (CU.out _) hH4).mono ?_
  rintro e w5 ⟨rfl, hH5, hB5⟩
  have hBa := hB1.trans (hB3.trans (((below_new (Below.refl _ _) hH3 _).trans hB4).trans hB5))
  clear hB1 hB3 hB4 hB5 hH0 hH1 hH3 hH4
  have tok1 : True := trivial
  clear hk hU hsh
  have g0 := z0.out; have g1 := z1.out; have g2 := z2.out; have g3 := z3.out; have g4 := z4.out; have g5 := z5.out; have g6 := z6.out; have g7 := z7.out; clear z0 z1 z2 z3 z4 z5 z6 z7
  have hneq : ∀ W', Sem.run Try.prog (binOp .neq 24 (.agg (pteC S)) (.agg (pteC T))) W' = .ok (.bool true) W' := fun W' => by
    rw [pte_neq, hne]; simp
  go_wp2_with (first
    | (have _t := tok1; refine wpList_store_all [] _ (hH5.newblk w5.heap.size 24 pteZ rfl) 24 (.tmp 9) (.tmp 21) rfl rfl rfl _ rfl (pte_size _) rfl (pte_one _) ?_; intro w6 hH6 hB6 hz6; clear hz6 _t tok1; have j7 := (pte_cells [] _ hH6).2.2.2.2.2.2.2.1; have k7 := (pte_cells [_] _ hH6).2.2.2.2.2.2.2.1; have j8 := (pte_cells [] _ hH6).2.2.2.2.2.2.2.2; have k8 := (pte_cells [_] _ hH6).2.2.2.2.2.2.2.2; rw [← hBd] at j7; rw [← hFr] at j8)
    | (refine wpList_load_blk [_] _ hH6 24 (.tmp 8) rfl rfl rfl _ Try.underlying24 rfl (pte_size _) ?_)
    | (refine wpList_load_blk [] _ hH6 24 (.tmp 9) rfl rfl rfl _ Try.underlying24 rfl (pte_size _) ?_))
  go_ret
  exact ⟨by simp, hBa.trans ((below_new (Below.refl _ _) hH5 _).trans hB6)⟩

set_option maxHeartbeats 4000000 in
set_option maxRecDepth 100000 in
theorem PteBits_63 (S T : PteS) (v n k X U : Int) (w : World) (hk : wrap64 (n.tmod 64) = k) (g0 : (k == 3) = false) (g1 : (k == 4) = false) (g2 : decide (8 ≤ k) = true) (g3 : decide (k ≤ 11) = false) (g4 : decide (32 ≤ k) = true) (g5 : decide (k ≤ 62) = false) (g6 : decide (12 ≤ k) = true) (g7 : decide (k ≤ 31) = false)
    (hsh : ∀ W', Sem.run Try.prog (Op.shift BinOp.shl IntKind.u64 1 IntKind.i64 k) W' = .ok (.int .u64 X) W') (hU : bits .xor .u64 v X = U)
    (cv : ∀ W', Calls Try.prog 12 #[.int .u64 v] W' fun e w' => e = .returned (.agg (pteC S)) ∧ Below W'.heap.size W' w')
    (cu : ∀ W', Calls Try.prog 12 #[.int .u64 U] W' fun e w' => e = .returned (.agg (pteC T)) ∧ Below W'.heap.size W' w') (hne : decide (S = T) = false) (hFr : S.Frame = T.Frame) (hBd : S.Bad = T.Bad) :
    Calls Try.prog 6 #[.int .u64 v, .int .u8 n] w fun e w' => e = .returned (.bool true) ∧ Below w.heap.size w w' := by
  have z0 := hid g0; have z1 := hid g1; have z2 := hid g2; have z3 := hid g3; have z4 := hid g4; have z5 := hid g5; have z6 := hid g6; have z7 := hid g7; clear g0 g1 g2 g3 g4 g5 g6 g7
  have hH0 : Has w w.heap.size [] := Has.nil (Nat.le_refl _)
  have CV := hid cv
  have CU := hid cu
  clear cv cu
  go_enter Try.func6, Try.ntmps6
  go_wp2_with fail
  refine (head_true _ _ _ hH0).mono ?_
  rintro e w1 ⟨_, rfl, hH1, hB1⟩
  go_wp2_with fail
  refine (keeps (CV.out _) hH1).mono ?_
  rintro e w3 ⟨rfl, hH3, hB3⟩
  have tok1 : True := trivial
  go_wp2_with (have _t := tok1; refine wpList_store_all [] _ (hH3.newblk w3.heap.size 24 pteZ rfl) 24 (.tmp 8) (.tmp 19) rfl rfl rfl _ rfl (pte_size _) rfl (pte_one _) ?_; intro w4 hH4 hB4 hz4; clear hz4 _t tok1)
  refine (keeps (CU.out _) hH4).mono ?_
  rintro e w5 ⟨rfl, hH5, hB5⟩
  have hBa := hB1.trans (hB3.trans (((below_new (Below.refl _ _) hH3 _).trans hB4).trans hB5))
  clear hB1 hB3 hB4 hB5 hH0 hH1 hH3 hH4
  have tok1 : True := trivial
  clear hk hU hsh
  have g0 := z0.out; have g1 := z1.out; have g2 := z2.out; have g3 := z3.out; have g4 := z4.out; have g5 := z5.out; have g6 := z6.out; have g7 := z7.out; clear z0 z1 z2 z3 z4 z5 z6 z7
  have hneq : ∀ W', Sem.run Try.prog (binOp .neq 24 (.agg (pteC S)) (.agg (pteC T))) W' = .ok (.bool true) W' := fun W' => by
    rw [pte_neq, hne]; simp
  go_wp2_with (first
    | (have _t := tok1; refine wpList_store_all [] _ (hH5.newblk w5.heap.size 24 pteZ rfl) 24 (.tmp 9) (.tmp 21) rfl rfl rfl _ rfl (pte_size _) rfl (pte_one _) ?_; intro w6 hH6 hB6 hz6; clear hz6 _t tok1; have j7 := (pte_cells [] _ hH6).2.2.2.2.2.2.2.1; have k7 := (pte_cells [_] _ hH6).2.2.2.2.2.2.2.1; have j8 := (pte_cells [] _ hH6).2.2.2.2.2.2.2.2; have k8 := (pte_cells [_] _ hH6).2.2.2.2.2.2.2.2; rw [← hBd] at j7; rw [← hFr] at j8)
    | (refine wpList_load_blk [_] _ hH6 24 (.tmp 8) rfl rfl rfl _ Try.underlying24 rfl (pte_size _) ?_)
    | (refine wpList_load_blk [] _ hH6 24 (.tmp 9) rfl rfl rfl _ Try.underlying24 rfl (pte_size _) ?_))
  go_ret
  exact ⟨by simp, hBa.trans ((below_new (Below.refl _ _) hH5 _).trans hB6)⟩


theorem shl_u64 : ∀ k : Nat, k < 64 → IntKind.u64.wrap (1 * 2 ^ min ((k : Int).toNat) IntKind.u64.bits) = ((2 ^ k : Nat) : Int) := by decide +kernel
theorem shl_i64 : ∀ k : Nat, k < 20 → IntKind.i64.wrap (1 * 2 ^ min ((k : Int).toNat) IntKind.i64.bits) = ((2 ^ k : Nat) : Int) := by decide +kernel
theorem run_shl_u64 (k : Nat) (h : k < 64) (W : World) : Sem.run Try.prog (Op.shift BinOp.shl IntKind.u64 1 IntKind.i64 (k : Int)) W = .ok (.int .u64 ((2 ^ k : Nat) : Int)) W := by
  rw [shift_shl_any _ _ _ _ (by omega), shl_u64 k h]
  rfl
theorem run_shl_i64 (k : Nat) (h : k < 20) (W : World) : Sem.run Try.prog (Op.shift BinOp.shl IntKind.i64 1 IntKind.i64 (k : Int)) W = .ok (.int .i64 ((2 ^ k : Nat) : Int)) W := by
  rw [shift_shl_any _ _ _ _ (by omega), shl_i64 k h]
  rfl

theorem i64_xor_nat (a b : Nat) (ha : a < 1048576) (hb : b < 1048576) : bits .xor .i64 (a : Int) (b : Int) = ((a ^^^ b : Nat) : Int) := by
  have hx : a ^^^ b < 2 ^ 20 := Nat.xor_lt_two_pow (by omega) (by omega)
  show IntKind.i64.wrap ((BitVec.ofInt 64 (a : Int) ^^^ BitVec.ofInt 64 (b : Int)).toNat : Int) = _
  rw [BitVec.toNat_xor, ofInt_u64 a (by omega), ofInt_u64 b (by omega), IntKind.wrap_i64]
  omega
theorem turn_bit (V k i : Nat) : (V ^^^ 2 ^ k).testBit i = (V.testBit i ^^ decide (k = i)) := by
  rw [Nat.testBit_xor, Nat.testBit_two_pow]
theorem turn_off {V k i : Nat} (h : k ≠ i) : (V ^^^ 2 ^ k).testBit i = V.testBit i := by
  rw [turn_bit]
  simp [h]
theorem turn_at (V k : Nat) : (V ^^^ 2 ^ k).testBit k = !V.testBit k := by
  rw [turn_bit]
  simp
theorem turn_bad {V k : Nat} (h : badPos k = false) : badN (V ^^^ 2 ^ k) = badN V := badN_congr fun i hi => turn_off fun e => by
  rw [e, hi] at h
  cases h
theorem turn_frame {V k : Nat} (h : ¬ (12 ≤ k ∧ k ≤ 31)) : (V ^^^ 2 ^ k) / 4096 % 1048576 = V / 4096 % 1048576 := by
  apply Nat.eq_of_testBit_eq
  intro j
  rw [frame_bit, frame_bit]
  by_cases hj : j < 20
  · rw [turn_off (by omega)]
  · simp [hj]

theorem turn_A {V k : Nat} (h : badPos k = true) : getS (V ^^^ 2 ^ k) = { getS V with Bad := badN (V ^^^ 2 ^ k) } ∧ (badN V || badN (V ^^^ 2 ^ k)) = true := by
  have hb : k = 3 ∨ k = 4 ∨ 8 ≤ k ∧ k ≤ 11 ∨ 32 ≤ k ∧ k ≤ 62 := by simp [badPos] at h; omega
  constructor
  · unfold getS
    rw [turn_frame (by omega), turn_off (by omega : k ≠ 0), turn_off (by omega : k ≠ 1), turn_off (by omega : k ≠ 2), turn_off (by omega : k ≠ 5), turn_off (by omega : k ≠ 6), turn_off (by omega : k ≠ 7), turn_off (by omega : k ≠ 63)]
  · cases hv : V.testBit k with
    | true => rw [(badN_iff V).2 ⟨k, hv, h⟩]; rfl
    | false =>
      have : (V ^^^ 2 ^ k).testBit k = true := by rw [turn_at, hv]; rfl
      rw [(badN_iff _).2 ⟨k, this, h⟩]
      simp

theorem turn_B {V k : Nat} (h : 12 ≤ k ∧ k ≤ 31) : getS (V ^^^ 2 ^ k) = { getS V with Frame := (((V ^^^ 2 ^ k) / 4096 % 1048576 : Nat) : Int) } ∧ (V / 4096 % 1048576) ^^^ ((V ^^^ 2 ^ k) / 4096 % 1048576) = 2 ^ (k - 12) := by
  constructor
  · unfold getS
    rw [turn_bad (by simp [badPos]; omega), turn_off (by omega : k ≠ 0), turn_off (by omega : k ≠ 1), turn_off (by omega : k ≠ 2), turn_off (by omega : k ≠ 5), turn_off (by omega : k ≠ 6), turn_off (by omega : k ≠ 7), turn_off (by omega : k ≠ 63)]
  · apply Nat.eq_of_testBit_eq
    intro j
    rw [Nat.testBit_xor, frame_bit, frame_bit, Nat.testBit_two_pow, turn_bit]
    by_cases hj : j < 20
    · by_cases e : k - 12 = j
      · have e2 : k = j + 12 := by omega
        simp [hj, e, e2]
      · have e2 : ¬ k = j + 12 := by omega
        simp [hj, e, e2]
    · have e : ¬ k - 12 = j := by omega
      simp [hj, e]

theorem turn_C {V k : Nat} (h : k = 0 ∨ k = 1 ∨ k = 2 ∨ k = 5 ∨ k = 6 ∨ k = 7 ∨ k = 63) : decide (getS V = getS (V ^^^ 2 ^ k)) = false ∧ (getS V).Frame = (getS (V ^^^ 2 ^ k)).Frame ∧ (getS V).Bad = (getS (V ^^^ 2 ^ k)).Bad := by
  have hb : badPos k = false := by rcases h with rfl | rfl | rfl | rfl | rfl | rfl | rfl <;> rfl
  have ha := turn_at V k
  refine ⟨?_, ?_, ?_⟩
  · rw [decide_eq_false_iff_not]
    intro e
    have e' : ∀ (b : Bool), b = !b → False := by intro b; cases b <;> simp
    unfold getS at e
    injection e with e0 e1 e2 e5 e6 e7 e63 eb ef
    rcases h with rfl | rfl | rfl | rfl | rfl | rfl | rfl
    · exact e' _ (e0.trans ha)
    · exact e' _ (e1.trans ha)
    · exact e' _ (e2.trans ha)
    · exact e' _ (e5.trans ha)
    · exact e' _ (e6.trans ha)
    · exact e' _ (e7.trans ha)
    · exact e' _ (e63.trans ha)
  · show ((_ : Nat) : Int) = ((_ : Nat) : Int)
    rw [turn_frame (by omega)]
  · exact (turn_bad hb).symm

theorem PteBits_walk (v n : Int) (w : World) (hv : (Lit.int .u64 v).wf = true) (hn : (Lit.int .u8 n).wf = true) :
    Calls Try.prog 6 #[.int .u64 v, .int .u8 n] w fun e w' => e = .returned (.bool true) ∧ Below w.heap.size w w' := by
  obtain ⟨V, rfl, hV⟩ := u64_nat hv
  obtain ⟨n0, n1⟩ := bounds_u8 hn
  have hkl : n.toNat % 64 < 64 := Nat.mod_lt _ (by decide)
  have hk : wrap64 (n.tmod 64) = ((n.toNat % 64 : Nat) : Int) := by
    rw [Int.tmod_eq_emod_of_nonneg n0]
    unfold wrap64
    omega
  generalize n.toNat % 64 = k at *
  have hX : 2 ^ k < 18446744073709551616 := Nat.pow_lt_pow_right (by decide) hkl
  have hU : bits .xor .u64 (V : Int) ((2 ^ k : Nat) : Int) = ((V ^^^ 2 ^ k : Nat) : Int) := u64_xor_nat _ _ hV hX
  have hUl : V ^^^ 2 ^ k < 18446744073709551616 := Nat.xor_lt_two_pow (n := 64) (by simpa using hV) (by simpa using hX)
  have cu := fun W => Get_calls (V ^^^ 2 ^ k) hUl W
  have cv := fun W => Get_calls V hV W
  have hsh := run_shl_u64 k hkl
  by_cases c3 : k = 3
  · obtain ⟨ha, hor⟩ := turn_A (V := V) (k := k) (by simp [badPos]; omega)
    simp only [ha] at cu
    exact PteBits_3 (getS V).P (getS V).W (getS V).U (getS V).A (getS V).D (getS V).PS (getS V).NX (getS V).Bad (badN (V ^^^ 2 ^ k)) (getS V).Frame _ n _ _ _ w hk (by rw [beq_iff_eq]; omega) (by rw [beq_eq_false_iff_ne]; omega) (by rw [decide_eq_false_iff_not]; omega) (by rw [decide_eq_true_eq]; omega) (by rw [decide_eq_false_iff_not]; omega) (by rw [decide_eq_true_eq]; omega) (by rw [decide_eq_false_iff_not]; omega) (by rw [decide_eq_true_eq]; omega) hsh hU cv cu hor
  by_cases c4 : k = 4
  · obtain ⟨ha, hor⟩ := turn_A (V := V) (k := k) (by simp [badPos]; omega)
    simp only [ha] at cu
    exact PteBits_4 (getS V).P (getS V).W (getS V).U (getS V).A (getS V).D (getS V).PS (getS V).NX (getS V).Bad (badN (V ^^^ 2 ^ k)) (getS V).Frame _ n _ _ _ w hk (by rw [beq_eq_false_iff_ne]; omega) (by rw [beq_iff_eq]; omega) (by rw [decide_eq_false_iff_not]; omega) (by rw [decide_eq_true_eq]; omega) (by rw [decide_eq_false_iff_not]; omega) (by rw [decide_eq_true_eq]; omega) (by rw [decide_eq_false_iff_not]; omega) (by rw [decide_eq_true_eq]; omega) hsh hU cv cu hor
  by_cases c9 : 8 ≤ k ∧ k ≤ 11
  · obtain ⟨ha, hor⟩ := turn_A (V := V) (k := k) (by simp [badPos]; omega)
    simp only [ha] at cu
    exact PteBits_9 (getS V).P (getS V).W (getS V).U (getS V).A (getS V).D (getS V).PS (getS V).NX (getS V).Bad (badN (V ^^^ 2 ^ k)) (getS V).Frame _ n _ _ _ w hk (by rw [beq_eq_false_iff_ne]; omega) (by rw [beq_eq_false_iff_ne]; omega) (by rw [decide_eq_true_eq]; omega) (by rw [decide_eq_true_eq]; omega) (by rw [decide_eq_false_iff_not]; omega) (by rw [decide_eq_true_eq]; omega) (by rw [decide_eq_false_iff_not]; omega) (by rw [decide_eq_true_eq]; omega) hsh hU cv cu hor
  by_cases c40 : 32 ≤ k ∧ k ≤ 62
  · obtain ⟨ha, hor⟩ := turn_A (V := V) (k := k) (by simp [badPos]; omega)
    simp only [ha] at cu
    exact PteBits_40 (getS V).P (getS V).W (getS V).U (getS V).A (getS V).D (getS V).PS (getS V).NX (getS V).Bad (badN (V ^^^ 2 ^ k)) (getS V).Frame _ n _ _ _ w hk (by rw [beq_eq_false_iff_ne]; omega) (by rw [beq_eq_false_iff_ne]; omega) (by rw [decide_eq_true_eq]; omega) (by rw [decide_eq_false_iff_not]; omega) (by rw [decide_eq_true_eq]; omega) (by rw [decide_eq_true_eq]; omega) (by rw [decide_eq_true_eq]; omega) (by rw [decide_eq_false_iff_not]; omega) hsh hU cv cu hor
  by_cases c20 : 12 ≤ k ∧ k ≤ 31
  · obtain ⟨ha, hor⟩ := turn_B (V := V) c20
    simp only [ha] at cu
    have hx : bits .xor .i64 (getS V).Frame (((V ^^^ 2 ^ k) / 4096 % 1048576 : Nat) : Int) = ((2 ^ (k - 12) : Nat) : Int) := by
      rw [← hor]
      exact i64_xor_nat _ _ (frame_lt V) (frame_lt _)
    have hj : wrap64 ((k : Int) - 12) = ((k - 12 : Nat) : Int) := by
      unfold wrap64
      omega
    exact PteBits_20 (getS V).P (getS V).W (getS V).U (getS V).A (getS V).D (getS V).PS (getS V).NX (getS V).Bad (getS V).Frame _ _ n _ _ _ w hk (by rw [beq_eq_false_iff_ne]; omega) (by rw [beq_eq_false_iff_ne]; omega) (by rw [decide_eq_true_eq]; omega) (by rw [decide_eq_false_iff_not]; omega) (by rw [decide_eq_false_iff_not]; omega) (by rw [decide_eq_true_eq]; omega) (by rw [decide_eq_true_eq]; omega) (by rw [decide_eq_true_eq]; omega) hsh hU cv cu _ _ hj hx (run_shl_i64 (k - 12) (by omega))
  by_cases c63 : k = 63
  · obtain ⟨h1, h2, h3⟩ := turn_C (V := V) (k := k) (by omega)
    exact PteBits_63 _ _ _ n _ _ _ w hk (by rw [beq_eq_false_iff_ne]; omega) (by rw [beq_eq_false_iff_ne]; omega) (by rw [decide_eq_true_eq]; omega) (by rw [decide_eq_false_iff_not]; omega) (by rw [decide_eq_true_eq]; omega) (by rw [decide_eq_false_iff_not]; omega) (by rw [decide_eq_true_eq]; omega) (by rw [decide_eq_false_iff_not]; omega) hsh hU cv cu h1 h2 h3
  by_cases c1 : k ≤ 2
  · obtain ⟨h1, h2, h3⟩ := turn_C (V := V) (k := k) (by omega)
    exact PteBits_1 _ _ _ n _ _ _ w hk (by rw [beq_eq_false_iff_ne]; omega) (by rw [beq_eq_false_iff_ne]; omega) (by rw [decide_eq_false_iff_not]; omega) (by rw [decide_eq_true_eq]; omega) (by rw [decide_eq_false_iff_not]; omega) (by rw [decide_eq_true_eq]; omega) (by rw [decide_eq_false_iff_not]; omega) (by rw [decide_eq_true_eq]; omega) hsh hU cv cu h1 h2 h3
  obtain ⟨h1, h2, h3⟩ := turn_C (V := V) (k := k) (by omega)
  exact PteBits_6 _ _ _ n _ _ _ w hk (by rw [beq_eq_false_iff_ne]; omega) (by rw [beq_eq_false_iff_ne]; omega) (by rw [decide_eq_false_iff_not]; omega) (by rw [decide_eq_true_eq]; omega) (by rw [decide_eq_false_iff_not]; omega) (by rw [decide_eq_true_eq]; omega) (by rw [decide_eq_false_iff_not]; omega) (by rw [decide_eq_true_eq]; omega) hsh hU cv cu h1 h2 h3

end Go.Proofs.Ytcigjchncahpaaa
