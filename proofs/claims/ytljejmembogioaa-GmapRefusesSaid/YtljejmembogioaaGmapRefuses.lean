/-
  GmapRefuses: with one frame twice, or one that the host has not, there is no map.
-/
import Derived.Test.YtljejmembogioaaGmapArgs0
import Derived.Test.YtljejmembogioaaReg
namespace Go.Proofs.Ytljejmembogioaa
open Go.RowKit
set_option linter.unusedVariables false
set_option linter.unusedSimpArgs false

theorem New_no_row {w : World} {B g n cap : Nat} {xs : List Value} {frames : Int} (L1 L2 : List Asr) (hH : Has w B (L1 ++ row 3 1 (.slice (some ⟨g, 0, none⟩) n cap) n xs :: L2)) (m : List Int) (hn : m.length = n) (hx : xs = m.map (Value.int .i64)) (hg : ¬ gok m frames) (hm : ∀ y ∈ m, (Lit.int .i64 y).wf = true) :
    Calls Try.prog 10 #[.slice (some ⟨g, 0, none⟩) n cap, .int .i64 frames] w fun e w' => e = .returned (.pointer none) ∧ Has w' B (L1 ++ row 3 1 (.slice (some ⟨g, 0, none⟩) n cap) n xs :: L2) ∧ Below B w w' := by
  subst hn
  subst hx
  have hml : m.length ≤ 9223372036854775807 := by
    rcases hH.row_shape L1 L2 with ⟨h, _⟩ | ⟨g', cap', h, h1, h2, _, _⟩
    · cases h
    · unfold maxLen at h2; omega
  exact New_no (a := some ⟨g, 0, none⟩) (cap := cap) hg (src_row L1 L2 hH hml hm) hH

set_option maxHeartbeats 4000000 in
set_option maxRecDepth 100000 in
theorem GmapRefuses_walk (a : Option Addr) (len cap : Nat) (l : List Int) (frames at_ : Int) (w : World) (hA0 : IntsArg w a len cap l) (hl : ∀ x ∈ l, (Lit.int .i64 x).wf = true) (hf : (Lit.int .i64 frames).wf = true) (hat : (Lit.int .u8 at_).wf = true) :
    Calls Try.prog 5 #[.slice a len cap, .int .i64 frames, .int .u8 at_] w fun e w' => e = .returned (.bool true) ∧ Below w.heap.size w w' := by
  obtain ⟨hA, hnil⟩ := hA0
  obtain ⟨t0, t1⟩ := bounds_u8 hat
  obtain rfl : l.length = len := by have := hA.lc; simpa using this
  have HNIL := hid hnil
  clear hnil hat
  have hH0 : Has w w.heap.size [] := Has.nil (Nat.le_refl _)
  obtain ⟨i0, hi, hz0, hz1, hz2⟩ := info_parts infoInt
  have HA := hid hA
  have HL := hid hl
  clear hA hl
  by_cases hz : l.length = 0
  · have e0 : ((l.length : Int) == 0) = true := by rw [beq_iff_eq]; omega
    go_enter Try.func5, Try.ntmps5
    go_wp2_with fail
    refine (head_true w _ [] hH0).mono ?_
    rintro e w1 ⟨_, rfl, hH1, hB1⟩
    go_wp2_with fail
    go_ret
    exact ⟨rfl, hB1⟩
  · have e0 : ((l.length : Int) == 0) = false := by rw [beq_eq_false_iff_ne]; omega
    by_cases hbig : 2000 < l.length
    · have e1 : decide (2000 < l.length) = true := by rw [decide_eq_true_eq]; omega
      go_enter Try.func5, Try.ntmps5
      go_wp2_with fail
      refine (head_true w _ [] hH0).mono ?_
      rintro e w1 ⟨_, rfl, hH1, hB1⟩
      go_wp2_with fail
      go_ret
      exact ⟨rfl, hB1⟩
    · have e1 : decide (2000 < l.length) = false := by rw [decide_eq_false_iff_not]; omega
      go_enter Try.func5, Try.ntmps5
      go_wp2_with fail
      refine (head_true w _ [] hH0).mono ?_
      rintro e w1 ⟨_, rfl, hH1, hB1⟩
      go_wp2_with fail
      refine (New_calls a cap l frames _ (HA.out.src HL.out hB1) hH1).mono ?_
      rintro e w3 (⟨hn, rfl, hH3, hB3⟩ | ⟨hg, b, rfl, hH3, hB3⟩)
      · have hB3 := hB1.trans hB3
        clear hn
        go_wp2_with fail
        go_ret
        exact ⟨rfl, hB3⟩
      · have hB3 := hB1.trans hB3
        have HG := hid hg
        clear hg
        have hk0 : 0 ≤ at_ % (l.length : Int) := Int.emod_nonneg _ (by omega)
        have hk1 : at_ % (l.length : Int) < l.length := Int.emod_lt_of_pos _ (by omega)
        obtain ⟨k, hk⟩ := Int.eq_ofNat_of_zero_le hk0
        rw [hk] at hk1
        have hkl : k < l.length := by omega
        obtain ⟨gb, o, rfl, hgb, hc⟩ := HA.out.mem (by omega)
        obtain ⟨x, hx⟩ : ∃ x, l[k]? = some x := ⟨l[k], List.getElem?_eq_getElem hkl⟩
        have hN := hH3.newrow w3.heap.size 3 1 rfl
        have hBN := hB3.trans (below_new (Below.refl _ w3) hH3 (.cells #[] 3))
        have HC := hid (HA.out.adds hBN)
        have HX := hid hx
        clear hx hc hgb hk0
        have tok1 : True := trivial
        go_wp2_with (have _t := tok1; at_builtin; refine wpList_append_rows [] _ hN rfl (.tmp 33) (.tmp 34) 22 rfl i0 (.int .i64 0) 8 Try.underlying22 hi hz0 hz1 hz2 rfl (by decide) rfl (some ⟨gb, o, none⟩) l.length cap (l.map (Value.int .i64)) rfl HNIL.out (by simp) HC.out (by simp [Value.oneCell']) (by unfold maxLen; omega) (by omega) ?_; clear _t tok1; intro g1 cap1 w4 hH4 hB4; simp only [Nat.zero_add, List.nil_append] at hH4 ⊢; have fx := hH4.row_frozen [] _ k; have cx := hH4.row_cell [] _ k (u := .int .i64 x) (by simp [HX.out]))
        have hS := hH4.row_set [] _ k (by simpa using hkl) (.int .i64 frames)
        have hgB : w.heap.size ≤ g1 := by
          rcases hH4.row_shape [] _ with ⟨h, _⟩ | ⟨g', cap', h, _, _, h3, _⟩
          · cases h
          · cases h; exact h3
        have hBS := (hBN.trans hB4).setCell (p := ⟨g1, k, none⟩) hgB (.int .i64 frames)
        clear hN hBN hB4 hH4 fx cx HC hH3 hB3 hB1
        generalize w4.setCell ⟨g1, k, none⟩ (.int .i64 frames) = w5 at *
        rw [(List.map_set (f := Value.int .i64) (l := l) (i := k) (a := frames)).symm] at hS
        have n1 : ¬ gok (l.set k frames) frames := by
          rintro ⟨-, -, -, -, h5, -⟩
          have := (h5 frames (by apply List.mem_set; exact hkl)).2
          omega
        have n2 : ¬ gok (l ++ [x]) frames := by
          rintro ⟨-, -, -, -, -, h6⟩
          rw [List.nodup_append] at h6
          exact h6.2.2 x (List.mem_of_getElem? HX.out) x (by simp) rfl
        have n3 : ¬ gok (l.set k (-1)) frames := by
          rintro ⟨-, -, -, -, h5, -⟩
          have := (h5 (-1) (by apply List.mem_set; exact hkl)).1
          omega
        have l1 : ∀ y ∈ l.set k frames, (Lit.int .i64 y).wf = true := fun y hy => by
          rcases List.mem_or_eq_of_mem_set hy with h | rfl
          · exact HL.out y h
          · exact hf
        have l2 : ∀ y ∈ l ++ [x], (Lit.int .i64 y).wf = true := fun y hy => by
          rcases List.mem_append.1 hy with h | h
          · exact HL.out y h
          · simp at h; subst h; exact HL.out _ (List.mem_of_getElem? HX.out)
        have l3 : ∀ y ∈ l.set k (-1), (Lit.int .i64 y).wf = true := fun y hy => by
          rcases List.mem_or_eq_of_mem_set hy with h | rfl
          · exact HL.out y h
          · decide
        have N1 := hid n1
        have N2 := hid n2
        have N3 := hid n3
        have L1 := hid l1
        have L2 := hid l2
        have L3 := hid l3
        clear n1 n2 n3 l1 l2 l3
        have HCC := hid (fun (W : World) (hb : Below w.heap.size w W) => (HA.out.int_at hb rfl HX.out : W.cell? ⟨gb, o + k, none⟩ = some (.int .i64 x)))
        have HCA := hid (fun (W : World) (hb : Below w.heap.size w W) => HA.out.adds hb)
        have hRA := hS.drew.newrow w5.heap.size 3 1 rfl
        have hRB := hRA.newblk (w5.heap.size + 1) 3 #[.int .i64 x] (by simp)
        have hRX := hS.drew.newblk w5.heap.size 3 #[.int .i64 x] rfl
        have hRC := hRX.newrow (w5.heap.size + 1) 3 1 (by simp)
        have bA := below_new (Below.drew hBS) hS.drew (.cells #[] 3)
        have bX := below_new (Below.drew hBS) hS.drew (.cells #[.int .i64 x] 3)
        have bB := below_new bA hRA (.cells #[.int .i64 x] 3)
        have bC := below_new bX hRX (.cells #[] 3)
        have c0 := HCC.out _ hBS
        have c1 := HCC.out _ (below_new hBS hS (.cells #[] 3))
        have N2' := N2
        go_region_law (first
          | (refine step_append_row [] _ hRA rfl (.tmp 40) (.tmp 41) 22 rfl i0 (.int .i64 0) 8 Try.underlying22 hi hz0 hz1 hz2 rfl (by decide) rfl ⟨gb, o, none⟩ l.length cap (l.map (Value.int .i64)) rfl (by simp) (HCA.out _ bA ⟨gb, o, none⟩ rfl) (by simp [Value.oneCell']) (by unfold maxLen; omega) (by omega) ?_; intro g2 cap2 w6 hH6 hB6; simp only [Nat.zero_add, List.nil_append, List.cons_append] at hH6 ⊢; have hB6 := Below.trans bA hB6; have c2 := HCC.out _ hB6)
          | (refine step_append_row [_] _ hRB rfl (.tmp 40) (.tmp 41) 22 rfl i0 (.int .i64 0) 8 Try.underlying22 hi hz0 hz1 hz2 rfl (by decide) rfl ⟨gb, o, none⟩ l.length cap (l.map (Value.int .i64)) rfl (by simp) (HCA.out _ bB ⟨gb, o, none⟩ rfl) (by simp [Value.oneCell']) (by unfold maxLen; omega) (by omega) ?_; intro g2 cap2 w6 hH6 hB6; simp only [Nat.zero_add, List.nil_append, List.cons_append] at hH6 ⊢; have hB6 := Below.trans bB hB6; have c2 := HCC.out _ hB6)
          | (refine step_append_row [] _ hRC rfl (.tmp 40) (.tmp 41) 22 rfl i0 (.int .i64 0) 8 Try.underlying22 hi hz0 hz1 hz2 rfl (by decide) rfl ⟨gb, o, none⟩ l.length cap (l.map (Value.int .i64)) rfl (by simp) (HCA.out _ bC ⟨gb, o, none⟩ rfl) (by simp [Value.oneCell']) (by unfold maxLen; omega) (by omega) ?_; intro g2 cap2 w6 hH6 hB6; simp only [Nat.zero_add, List.nil_append, List.cons_append] at hH6 ⊢; have hB6 := Below.trans bC hB6; have c2 := HCC.out _ hB6)
          | (refine step_append_row [_] _ (hH6.newblk w6.heap.size 3 #[.int .i64 x] rfl) rfl (.tmp 42) (.tmp 47) 22 rfl i0 (.int .i64 0) 8 Try.underlying22 hi hz0 hz1 hz2 rfl (by decide) rfl ⟨w6.heap.size, 0, none⟩ 1 1 [.int .i64 x] rfl (by simp) (blk_adds [] _ (hH6.newblk w6.heap.size 3 #[.int .i64 x] rfl)) (by simp [Value.oneCell']) (by unfold maxLen; omega) (by omega) ?_; intro g3 cap3 w7 hH7 hB7; simp only [List.nil_append, List.cons_append] at hH7 ⊢; have hB7 := Below.trans (below_new hB6 hH6 (.cells #[.int .i64 x] 3)) hB7; replace hH7 := hH7.drop)
          | (refine step_append_row [_] _ hH6 rfl (.tmp 42) (.tmp 47) 22 rfl i0 (.int .i64 0) 8 Try.underlying22 hi hz0 hz1 hz2 rfl (by decide) rfl ⟨w5.heap.size + 1, 0, none⟩ 1 1 [.int .i64 x] rfl (by simp) (blk_adds [] _ hH6) (by simp [Value.oneCell']) (by unfold maxLen; omega) (by omega) ?_; intro g3 cap3 w7 hH7 hB7; simp only [List.nil_append, List.cons_append] at hH7 ⊢; have hB7 := Below.trans hB6 hB7; replace hH7 := hH7.drop)
          | (refine step_append_row [] _ hH6 rfl (.tmp 42) (.tmp 47) 22 rfl i0 (.int .i64 0) 8 Try.underlying22 hi hz0 hz1 hz2 rfl (by decide) rfl ⟨w5.heap.size, 0, none⟩ 1 1 [.int .i64 x] rfl (by simp) (blk_adds [_] _ hH6) (by simp [Value.oneCell']) (by unfold maxLen; omega) (by omega) ?_; intro g3 cap3 w7 hH7 hB7; simp only [List.nil_append, List.cons_append] at hH7 ⊢; have hB7 := Below.trans hB6 hB7; replace hH7 := (hH7.front [_] _).drop))
        all_goals (clear hRA hRB hRX hRC bA bX bB bC c0 c1 hH6 hB6 c2 hS hBS)
        all_goals (
          have hN := hH7.newrow w7.heap.size 3 1 rfl
          have hBN := below_new hB7 hH7 (.cells #[] 3)
          have HC := hid (HA.out.adds hBN)
          have tok1 : True := trivial
          go_wp2_with (have _t := tok1; at_builtin; refine wpList_append_rows [] _ hN rfl _ _ 22 rfl i0 (.int .i64 0) 8 Try.underlying22 hi hz0 hz1 hz2 rfl (by decide) rfl (some ⟨gb, o, none⟩) l.length cap (l.map (Value.int .i64)) rfl HNIL.out (by simp) HC.out (by simp [Value.oneCell']) (by unfold maxLen; omega) (by omega) ?_; clear _t tok1; intro g4 cap4 w8 hH8 hB8; simp only [Nat.zero_add, List.nil_append] at hH8 ⊢; have fx := hH8.row_frozen [] _ k; have cx := hH8.row_cell [] _ k (u := .int .i64 x) (by simp [HX.out]))
          have hgB4 : w.heap.size ≤ g4 := by
            rcases hH8.row_shape [] _ with ⟨h, _⟩ | ⟨g', cap', h, _, _, h3, _⟩
            · cases h
            · cases h; exact h3
          have hH9 := hH8.row_set [] _ k (by simpa using hkl) (.int .i64 (-1))
          have hB9 := (hBN.trans hB8).setCell (p := ⟨g4, k, none⟩) hgB4 (.int .i64 (-1))
          clear hN hBN hB8 hH8 fx cx HC hH7 hB7 hgB4
          generalize w8.setCell ⟨g4, k, none⟩ (.int .i64 (-1)) = w9 at *
          refine (New_no_row [_, _] [_] hH9 (l.set k frames) (by simp) (by simp [List.map_set]) N1.out L1.out).mono ?_
          rintro e w10 ⟨rfl, hH10, hB10⟩
          have hB10 := hB9.trans hB10
          clear hH9 hB9
          go_wp2_with fail
          refine (New_no_row [_] _ hH10 (l ++ [x]) (by simp) (by simp) N2.out L2.out).mono ?_
          rintro e w11 ⟨rfl, hH11, hB11⟩
          have hB11 := hB10.trans hB11
          clear hH10 hB10
          go_wp2_with fail
          refine (New_no_row [] _ hH11 (l.set k (-1)) (by simp) (by simp [List.map_set]) N3.out L3.out).mono ?_
          rintro e w12 ⟨rfl, hH12, hB12⟩
          have hB12 := hB11.trans hB12
          clear hH11 hB11
          go_wp2_with fail
          go_ret
          exact ⟨rfl, hB12⟩)

end Go.Proofs.Ytljejmembogioaa
