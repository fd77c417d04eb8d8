/-
  ConfBounds: a right machine with one of its bounds overstepped is not right.
-/
import Derived.Test.YtkgijfodjmkhgaaConfArgs
import Derived.Deep.RegionHeld3
import Derived.StillTailTactics
namespace Go.Proofs.Ytkgijfodjmkhgaa
open Go.RowKit
set_option linter.unusedVariables false
set_option linter.unusedSimpArgs false

theorem no_tlb {c : ConfS} : decide (okC { c with tlb := 65 }) = false := decide_eq_false fun h => by have := h.t2; simp at this
theorem no_asids {c : ConfS} : decide (okC { c with asids := 9 }) = false := decide_eq_false fun h => by have := h.a2; simp at this
theorem no_root {c : ConfS} : decide (okC { c with root := -1 }) = false := decide_eq_false fun h => by have := h.r1; simp at this
theorem no_many {c : ConfS} : decide (okC { c with many := c.host - c.first + 1 }) = false := decide_eq_false fun h => by have := h.h; simp at this; omega
theorem no_first {c : ConfS} {x : Int} (hx : x ∈ c.l) : decide (okC { c with first := x, many := 1 }) = false := decide_eq_false fun h => h.p x hx ⟨Int.le_refl _, by simp⟩

set_option maxHeartbeats 4000000 in
set_option maxRecDepth 100000 in
theorem ConfBounds_walk (c : ConfS) (at_ : Int) (w : World) (hc : ConfArg w c) (hat : (Lit.int .u8 at_).wf = true) :
    Calls Try.prog 5 #[.agg (confC c).toArray, .int .u8 at_] w fun e w' => e = .returned (.bool true) ∧ Below w.heap.size w w' := by
  obtain ⟨i0, hi0, hz0, hz1, hz2⟩ := info_parts infoConf
  have hHz : Has w w.heap.size [] := Has.nil (Nat.le_refl _)
  have hH1 := hHz.newblk w.heap.size 24 (confC c).toArray rfl
  have hB1 := below_new (Below.refl _ w) hHz (.cells (confC c).toArray 24)
  have HS := hid hc.src
  have HW := hid hc.wf
  have hsm := hc.src.small
  have CH := hid (head_true _ _ _ hH1)
  obtain ⟨t0, t1⟩ := bounds_u8 hat
  clear hat
  clear hc hHz hH1
  go_enter Try.func5, Try.ntmps5
  go_wp2_with fail
  refine CH.out.mono ?_
  rintro e w1 ⟨_, rfl, hH2, hB2⟩
  have hH2 : Has w1 w.heap.size [blk w.heap.size 24 (confC c).toArray] := hH2
  have hB2 := hB1.trans hB2
  have c1 := hH2.cell [] _ 1 (v := .slice c.a c.l.length c.cap) rfl
  clear CH hB1
  by_cases hbig : 900 < c.l.length
  · have e1 : decide (900 < c.l.length) = true := decide_eq_true hbig
    have e2 : decide (900 < (c.l.length : Int)) = true := decide_eq_true (by omega)
    go_wp2_with fail
    go_ret
    exact ⟨rfl, hB2⟩
  have e1 : decide (900 < c.l.length) = false := decide_eq_false hbig
  have e2 : decide (900 < (c.l.length : Int)) = false := decide_eq_false (by omega)
  go_wp2_with (refine wpList_load_blk [] _ hH2 24 (.tmp 2) rfl rfl rfl _ Try.underlying24 rfl conf_size ?_)
  refine (keeps (Right_calls c w1 (HS.out.later hB2)) hH2).mono ?_
  rintro e w0 ⟨rfl, hH0, hB0⟩
  have hB0 := hB2.trans hB0
  clear hH2 hB2 c1 e1 e2
  by_cases hok : okC c
  rotate_left
  · rw [decide_eq_false hok]
    go_wp2_with fail
    go_ret
    exact ⟨rfl, hB0⟩
  rw [decide_eq_true hok]
  have HOK := hid hok
  obtain ⟨s0, hsz0⟩ : ∃ s0, w0.heap.size = s0 := ⟨_, rfl⟩
  clear hok
  have hr1 := HOK.out.g.1
  have hr2 := HOK.out.g.2.1
  have hr3 := HOK.out.g.2.2.1
  have hr4 := HOK.out.g.2.2.2.1
  have hr5 := HOK.out.f.1
  have hr6 := HOK.out.f.2.2.1
  have u0 := hH0.cell [] _ 0 (v := .int .i64 c.host) rfl
  have tok0 : True := trivial
  go_wp2_with (first
    | (refine wpList_load_blk [] _ hH0 24 (.tmp 2) rfl rfl rfl _ Try.underlying24 rfl conf_size ?_)
    | (have _t := tok0; refine wpList_store_all [] _ (hH0.newblk (s0) 24 confZ hsz0) 24 (.tmp 6) (.tmp 22) rfl rfl rfl (confC c).toArray rfl conf_size rfl (confC_one _) ?_; clear _t tok0; intro v0 hC0 bC0' hz; have bC0 := hB0.trans ((below_new (Below.refl _ _) hH0 _).trans bC0'); have zC0 : v0.heap.size = s0 + 1 := hz.trans (by simp [hsz0]); clear hz bC0'; have f0_0 := hC0.frozen [] _ 4; have k0_0 := hC0.cell [] _ 4 (v := .int .i64 c.tlb) rfl; have hC0_0 : Has (v0.setCell ⟨s0, 4, none⟩ (.int .i64 65)) w.heap.size (blk (s0) 24 (confC { c with tlb := 65 }).toArray :: _) := hC0.set [] _ 4 (.int .i64 65); have bC0_0 := below_set bC0 [] _ hC0 4 (.int .i64 65); have zC0_0 : (v0.setCell ⟨s0, 4, none⟩ (.int .i64 65)).heap.size = s0 + 1 := (by simp [zC0]); have tok1 : True := trivial)
    | (refine wpList_load_blk [_] _ hC0_0 24 (.tmp 2) rfl rfl rfl _ Try.underlying24 rfl conf_size ?_)
    | (have _t := tok1; refine wpList_store_all [] _ (hC0_0.newblk (s0 + 1) 24 confZ zC0_0) 24 (.tmp 7) (.tmp 24) rfl rfl rfl (confC c).toArray rfl conf_size rfl (confC_one _) ?_; clear _t tok1; intro v1 hC1 bC1' hz; have bC1 := bC0_0.trans ((below_new (Below.refl _ _) hC0_0 _).trans bC1'); have zC1 : v1.heap.size = s0 + 2 := hz.trans (by simp [zC0_0, zC0, zC0_0]); clear hz bC1'; have f1_0 := hC1.frozen [] _ 5; have k1_0 := hC1.cell [] _ 5 (v := .int .i64 c.asids) rfl; have hC1_0 : Has (v1.setCell ⟨s0 + 1, 5, none⟩ (.int .i64 9)) w.heap.size (blk (s0 + 1) 24 (confC { c with asids := 9 }).toArray :: _) := hC1.set [] _ 5 (.int .i64 9); have bC1_0 := below_set bC1 [] _ hC1 5 (.int .i64 9); have zC1_0 : (v1.setCell ⟨s0 + 1, 5, none⟩ (.int .i64 9)).heap.size = s0 + 2 := (by simp [zC1]); have tok2 : True := trivial)
    | (refine wpList_load_blk [_, _] _ hC1_0 24 (.tmp 2) rfl rfl rfl _ Try.underlying24 rfl conf_size ?_)
    | (have _t := tok2; refine wpList_store_all [] _ (hC1_0.newblk (s0 + 2) 24 confZ zC1_0) 24 (.tmp 8) (.tmp 26) rfl rfl rfl (confC c).toArray rfl conf_size rfl (confC_one _) ?_; clear _t tok2; intro v2 hC2 bC2' hz; have bC2 := bC1_0.trans ((below_new (Below.refl _ _) hC1_0 _).trans bC2'); have zC2 : v2.heap.size = s0 + 3 := hz.trans (by simp [zC1_0, zC1, zC1_0]); clear hz bC2'; have f2_0 := hC2.frozen [] _ 6; have k2_0 := hC2.cell [] _ 6 (v := .int .i64 c.root) rfl; have hC2_0 : Has (v2.setCell ⟨s0 + 2, 6, none⟩ (.int .i64 (-1))) w.heap.size (blk (s0 + 2) 24 (confC { c with root := -1 }).toArray :: _) := hC2.set [] _ 6 (.int .i64 (-1)); have bC2_0 := below_set bC2 [] _ hC2 6 (.int .i64 (-1)); have zC2_0 : (v2.setCell ⟨s0 + 2, 6, none⟩ (.int .i64 (-1))).heap.size = s0 + 3 := (by simp [zC2]); have tok3 : True := trivial)
    | (refine wpList_load_blk [_, _, _] _ hC2_0 24 (.tmp 2) rfl rfl rfl _ Try.underlying24 rfl conf_size ?_)
    | (have _t := tok3; refine wpList_store_all [] _ (hC2_0.newblk (s0 + 3) 24 confZ zC2_0) 24 (.tmp 9) (.tmp 28) rfl rfl rfl (confC c).toArray rfl conf_size rfl (confC_one _) ?_; clear _t tok3; intro v3 hC3 bC3' hz; have bC3 := bC2_0.trans ((below_new (Below.refl _ _) hC2_0 _).trans bC3'); have zC3 : v3.heap.size = s0 + 4 := hz.trans (by simp [zC2_0, zC2, zC2_0]); clear hz bC3'; have f3_0 := hC3.frozen [] _ 3; have k3_0 := hC3.cell [] _ 3 (v := .int .i64 c.many) rfl; have hC3_0 : Has (v3.setCell ⟨s0 + 3, 3, none⟩ (.int .i64 (c.host - c.first + 1))) w.heap.size (blk (s0 + 3) 24 (confC { c with many := c.host - c.first + 1 }).toArray :: _) := hC3.set [] _ 3 (.int .i64 (c.host - c.first + 1)); have bC3_0 := below_set bC3 [] _ hC3 3 (.int .i64 (c.host - c.first + 1)); have zC3_0 : (v3.setCell ⟨s0 + 3, 3, none⟩ (.int .i64 (c.host - c.first + 1))).heap.size = s0 + 4 := (by simp [zC3]); have g0 := hC3.cell [_, _, _, _] _ 0 (v := .int .i64 c.host) rfl; have g2 := hC3.cell [_, _, _, _] _ 2 (v := .int .i64 c.first) rfl; have tok4 : True := trivial)
    | (refine wpList_load_blk [_, _, _, _] _ hC3_0 24 (.tmp 2) rfl rfl rfl _ Try.underlying24 rfl conf_size ?_)
    | (have _t := tok4; refine wpList_store_all [] _ (hC3_0.newblk (s0 + 4) 24 confZ zC3_0) 24 (.tmp 10) (.tmp 36) rfl rfl rfl (confC c).toArray rfl conf_size rfl (confC_one _) ?_; clear _t tok4; intro v4 hC4 bC4' hz; have bC4 := bC3_0.trans ((below_new (Below.refl _ _) hC3_0 _).trans bC4'); have zC4 : v4.heap.size = s0 + 5 := hz.trans (by simp [zC3_0, zC3, zC3_0]); clear hz bC4'; have tok5 : True := trivial))
  have hlen : 0 < c.l.length := by omega
  obtain ⟨k, hk⟩ : ∃ k : Nat, at_ % (c.l.length : Int) = k := ⟨(at_ % (c.l.length : Int)).toNat, by have := Int.emod_nonneg at_ (show (c.l.length : Int) ≠ 0 by omega); omega⟩
  have hkl : k < c.l.length := by have := Int.emod_lt_of_pos at_ (show 0 < (c.l.length : Int) by omega); omega
  obtain ⟨x, hx⟩ : ∃ x, c.l[k]? = some x := ⟨_, List.getElem?_eq_getElem hkl⟩
  obtain ⟨gb, o, hca, hcell⟩ := (HS.out.later bC4).at hx
  have m1 := hC4.cell [_, _, _, _, _] _ 1 (v := .slice c.a c.l.length c.cap) rfl
  rw [hca] at m1
  have HX := hid hx
  have HCA := hid hca
  have z0 : ((c.l.length : Int) == 0) = false := by rw [beq_eq_false_iff_ne]; omega
  have z1 : ¬ c.l = [] := fun h => by rw [h] at hlen; simp at hlen
  have hw1 : IntKind.i64.wrap at_ = at_ := IntWalk.i64_in _ (by omega)
  have htm : at_.tmod (c.l.length : Int) = k := by rw [Int.tmod_eq_emod_of_nonneg t0]; exact hk
  clear hx hca hk
  go_still_tail 11, (by kernel_rfl)
  change wpList _ _ _ _ _ (World.drew _)
  have hD := hC4.drew
  have bD : Below w.heap.size w v4.drew := bC4.drew
  have f4 := hC4.frozen [] _ 2
  have k4 := hC4.cell [] _ 2 (v := .int .i64 c.first) rfl
  have hF1 : Has (v4.drew.setCell ⟨s0 + 4, 2, none⟩ (.int .i64 x)) w.heap.size (blk (s0 + 4) 24 (confC { c with first := x }).toArray :: _) := hD.set [] _ 2 (.int .i64 x)
  have bF1 := below_set bD [] _ hD 2 (.int .i64 x)
  have f5 := hC4.frozen [] _ 3
  have k5 := hC4.cell [] _ 3 (v := .int .i64 c.many) rfl
  have hF2 : Has ((v4.drew.setCell ⟨s0 + 4, 2, none⟩ (.int .i64 x)).setCell ⟨s0 + 4, 3, none⟩ (.int .i64 1)) w.heap.size (blk (s0 + 4) 24 (confC { c with first := x, many := 1 }).toArray :: _) := hF1.set [] _ 3 (.int .i64 1)
  have bF2 := below_set bF1 [] _ hF1 3 (.int .i64 1)
  go_wp2_with (refine wpList_load_blk [_, _, _, _] _ hF2 24 (.tmp 6) rfl rfl rfl _ Try.underlying24 rfl conf_size ?_)
  refine (RightIs { c with tlb := 65 } no_tlb _ hF2 (HS.out.later bF2)).mono ?_
  rintro e w20 ⟨rfl, hR20, bR20⟩
  have bR20 := bF2.trans bR20
  clear hF2 bF2
  go_wp2_with (refine wpList_load_blk [_, _, _] _ hR20 24 (.tmp 7) rfl rfl rfl _ Try.underlying24 rfl conf_size ?_)
  refine (RightIs { c with asids := 9 } no_asids _ hR20 (HS.out.later bR20)).mono ?_
  rintro e w21 ⟨rfl, hR21, bR21⟩
  have bR21 := bR20.trans bR21
  clear hR20 bR20
  go_wp2_with (refine wpList_load_blk [_, _] _ hR21 24 (.tmp 8) rfl rfl rfl _ Try.underlying24 rfl conf_size ?_)
  refine (RightIs { c with root := -1 } no_root _ hR21 (HS.out.later bR21)).mono ?_
  rintro e w22 ⟨rfl, hR22, bR22⟩
  have bR22 := bR21.trans bR22
  clear hR21 bR21
  go_wp2_with (refine wpList_load_blk [_] _ hR22 24 (.tmp 9) rfl rfl rfl _ Try.underlying24 rfl conf_size ?_)
  refine (RightIs { c with many := c.host - c.first + 1 } no_many _ hR22 (HS.out.later bR22)).mono ?_
  rintro e w23 ⟨rfl, hR23, bR23⟩
  have bR23 := bR22.trans bR23
  clear hR22 bR22
  go_wp2_with (refine wpList_load_blk [] _ hR23 24 (.tmp 10) rfl rfl rfl _ Try.underlying24 rfl conf_size ?_)
  refine (RightIs { c with first := x, many := 1 } (no_first (List.mem_of_getElem? HX.out)) _ hR23 (HS.out.later bR23)).mono ?_
  rintro e w24 ⟨rfl, hR24, bR24⟩
  have bR24 := bR23.trans bR24
  clear hR23 bR23
  go_wp2_with fail
  go_ret
  exact ⟨rfl, bR24⟩

end Go.Proofs.Ytkgijfodjmkhgaa
