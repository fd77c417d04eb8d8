/-
  ConfTells: whether any machine is right, and whose its host's frames are, are the document's.
-/
import Derived.Test.YtkgijfodjmkhgaaConfArgs
import Derived.Deep.RegionHeld3
namespace Go.Proofs.Ytkgijfodjmkhgaa
open Go.RowKit
set_option linter.unusedVariables false
set_option linter.unusedSimpArgs false

set_option maxHeartbeats 4000000 in
set_option maxRecDepth 100000 in
theorem ConfTells_walk (c : ConfS) (w : World) (hc : ConfArg w c) :
    Calls Try.prog 3 #[.agg (confC c).toArray] w fun e w' => e = .returned (.bool true) ∧ Below w.heap.size w w' := by
  have hH0 : Has w w.heap.size [] := Has.nil (Nat.le_refl _)
  have hH1 := hH0.newblk w.heap.size 24 (confC c).toArray rfl
  have hB1 := below_new (Below.refl _ w) hH0 (.cells (confC c).toArray 24)
  have HS := hid hc.src
  have hsm := hc.src.small
  have CH := hid (head_true _ _ _ hH1)
  clear hc hH0 hH1
  go_enter Try.func3, Try.ntmps3
  go_wp2_with fail
  refine CH.out.mono ?_
  rintro e w1 ⟨_, rfl, hH2, hB2⟩
  have hH2 : Has w1 w.heap.size [blk w.heap.size 24 (confC c).toArray] := hH2
  have hB2 := hB1.trans hB2
  have c1 := hH2.cell [] _ 1 (v := .slice c.a c.l.length c.cap) rfl
  clear CH hB1
  by_cases hbig : 900 < c.l.length
  · have e1 : decide (900 < c.l.length) = true := decide_eq_true hbig
    have e2 : decide (900 < (c.l.length : Int)) = true := decide_eq_true (by omega)
    go_wp2_with fail
    go_ret
    exact ⟨rfl, hB2⟩
  · have e1 : decide (900 < c.l.length) = false := decide_eq_false hbig
    have e2 : decide (900 < (c.l.length : Int)) = false := decide_eq_false (by omega)
    obtain ⟨q, hq⟩ : ∃ q, decide (okC c) = q := ⟨_, rfl⟩
    have cr := fun U h => Right_calls c U h
    have cs := fun U h => RRight_calls c U h
    have ci := fun U h => Image_calls c U h
    have cj := fun U h => RImage_calls c U h
    have cf := fun U h => Foreign_calls c U h
    have cg := fun U h => RForeign_calls c U h
    rw [hq] at cr cs
    rw [conf_arr] at cr cs ci cj cf cg
    have CR := hid cr
    have CS := hid cs
    have CI := hid ci
    have CJ := hid cj
    have CF := hid cf
    have CG := hid cg
    have hHd := hH2.drew
    have hBd : Below w.heap.size w w1.drew := hB2.drew
    have s2 := conf_cells [] _ hHd
    clear cr cs ci cj cf cg hq hH2 hB2
    go_wp2_with fail
    clear c1 e1 e2 hbig
    go_region_held3 (fun U => U.cell? ⟨w.heap.size, 0, none⟩ = some (.int .i64 c.host) ∧ U.cell? ⟨w.heap.size, 1, none⟩ = some (.slice c.a c.l.length c.cap) ∧ U.cell? ⟨w.heap.size, 2, none⟩ = some (.int .i64 c.first) ∧ U.cell? ⟨w.heap.size, 3, none⟩ = some (.int .i64 c.many) ∧ U.cell? ⟨w.heap.size, 4, none⟩ = some (.int .i64 c.tlb) ∧ U.cell? ⟨w.heap.size, 5, none⟩ = some (.int .i64 c.asids) ∧ U.cell? ⟨w.heap.size, 6, none⟩ = some (.int .i64 c.root))
      (with_reducible first | exact s9 | exact s8 | exact s7 | exact s6 | exact s5 | exact s4 | exact s3 | exact s2 | exact sa | exact sb)
      (first
        | (go_at_call 10; (with_reducible refine (keeps (CR.out _ (HS.out.later hBd)) hHd).mono ?_); rintro e w3 ⟨rfl, hH3, hB3⟩; have hB3 := hBd.trans hB3; have s3 := conf_cells [] _ hH3)
        | (go_at_call 11; (with_reducible refine (keeps (CS.out _ (HS.out.later hB3)) hH3).mono ?_); rintro e w4 ⟨rfl, hH4, hB4⟩; have hB4 := hB3.trans hB4; have s4 := conf_cells [] _ hH4)
        | (go_at_call 13; (with_reducible refine (CI.out _ (HS.out.later hB4)).mono ?_); intro e w5 h5; obtain ⟨v5, rfl, hH5, hB5⟩ := h5.at hH4; clear h5; obtain ⟨a5, p5, rfl, _, _, _⟩ := hH5.row_form [] _; have hB5 := hB4.trans hB5; have s5 := conf_cells [_] _ hH5)
        | (go_at_call 14; (with_reducible refine (CJ.out _ (HS.out.later hB5)).mono ?_); intro e w6 h6; obtain ⟨v6, rfl, hH6, hB6⟩ := h6.at hH5; clear h6; obtain ⟨a6, p6, rfl, _, _, _⟩ := hH6.row_form [] _; have hB6 := hB5.trans hB6; have s6 := conf_cells [_, _] _ hH6)
        | (go_at_call 12; (with_reducible refine (keeps (SameInts_calls a5 a6 p5 p6 (allC c 1) (allC c 1) w6 (srci_row [_] _ hH6 rfl) (srci_row [] _ hH6 rfl)) hH6).mono ?_); rintro e w7 ⟨rfl, hH7, hB7⟩; rw [show (allC c 1 == allC c 1) = true from by simp]; have hB7 := hB6.trans hB7; have s7 := conf_cells [_, _] _ hH7)
        | (go_at_call 15; (with_reducible refine (CF.out _ (HS.out.later hB7)).mono ?_); intro e w8 h8; obtain ⟨v8, rfl, hH8, hB8⟩ := h8.at hH7; clear h8; obtain ⟨a8, p8, rfl, _, _, _⟩ := hH8.row_form [] _; have hB8 := hB7.trans hB8; have s8 := conf_cells [_, _, _] _ hH8)
        | (go_at_call 16; (with_reducible refine (CG.out _ (HS.out.later hB8)).mono ?_); intro e w9 h9; obtain ⟨v9, rfl, hH9, hB9⟩ := h9.at hH8; clear h9; obtain ⟨a9, p9, rfl, _, _, _⟩ := hH9.row_form [] _; have hB9 := hB8.trans hB9; have s9 := conf_cells [_, _, _, _] _ hH9)
        | (go_at_call 12; (with_reducible refine (keeps (SameInts_calls a8 a9 p8 p9 (allC c 0) (allC c 0) w9 (srci_row [_] _ hH9 rfl) (srci_row [] _ hH9 rfl)) hH9).mono ?_); rintro e wa ⟨rfl, hHa, hBa⟩; rw [show (allC c 0 == allC c 0) = true from by simp]; have hBa := hB9.trans hBa; have sa := conf_cells [_, _, _, _] _ hHa))
    all_goals (
      go_wp2_with fail
      go_ret
      exact ⟨rfl, hBa⟩)

end Go.Proofs.Ytkgijfodjmkhgaa
