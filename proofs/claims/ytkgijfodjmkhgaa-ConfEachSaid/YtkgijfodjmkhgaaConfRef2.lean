/-
  The document's own answer to layer 13: Image and Foreign.
-/
import Derived.Test.YtkgijfodjmkhgaaConfRef
import Derived.Test.YtkgijfodjmkhgaaConfD
namespace Go.Proofs.Ytkgijfodjmkhgaa
open Go.RowKit
set_option linter.unusedVariables false
set_option linter.unusedSimpArgs false

theorem pool_lit' (c : ConfS) (f : Int) (w : World) (h0 : 0 ≤ c.first) (hf0 : 0 ≤ f) (hf1 : f ≤ 256) :
    Calls Try.prog 24 #[.agg (confC c).toArray, .int .i64 f] w fun e w' => e = .returned (.bool (decide (poolP c.first c.many f))) ∧ Below w.heap.size w w' :=
  pool_lit _ _ _ _ _ _ _ _ _ _ w h0 hf0 hf1

set_option maxHeartbeats 4000000 in
set_option maxRecDepth 100000 in
theorem RImage_calls (c : ConfS) (w : World) (hs : Src w c.a c.l) : Calls Try.prog 14 #[.agg (confC c).toArray] w (AllPost c 1 w) := by
  obtain ⟨i0, hi, hz0, hz1, hz2⟩ := info_parts infoIntC
  have hH0 : Has w w.heap.size [] := Has.nil (Nat.le_refl _)
  have hH1 := hH0.newblk w.heap.size 24 (confC c).toArray rfl
  have hB1 := below_new (Below.refl _ w) hH0 (.cells (confC c).toArray 24)
  have HS := hid hs
  have hH2 := hH1.nilrow 3 1
  clear hs hH0 hH1
  by_cases hok : okC c
  · have hx : allC c 1 = frs c.l c.first c.many 1 c.host.toNat := by unfold allC; rw [if_pos hok]
    unfold AllPost
    rw [hx]
    have hh1 : 1 ≤ c.host := hok.g.2.2.1
    have hh2 : c.host ≤ 256 := hok.g.2.2.2.1
    have hf0 : 0 ≤ c.first := hok.f.1
    obtain ⟨hh, hhh⟩ : ∃ hh : Nat, c.host = hh := ⟨c.host.toNat, by omega⟩
    have hht : c.host.toNat = hh := by omega
    rw [hht]
    have hh3 : hh ≤ 256 := by omega
    have HHH := hid hhh
    have HOK := hid hok
    clear hx hhh hok hht hh1 hh2
    go_enter Try.func14, Try.ntmps14
    go_wp2_with fail
    go_loopw [3, 4] (fun vv i wr => ∃ (k : Nat) (v : Value), k ≤ hh ∧ i = .int .i64 k ∧ v = vv ∧ Has wr w.heap.size [row 3 1 v (frs c.l c.first c.many 1 k).length ((frs c.l c.first c.many 1 k).map (Value.int .i64)), blk w.heap.size 24 (confC c).toArray] ∧ Below w.heap.size w wr) (fun _ i _ => hh - (intOf i).toNat)
    case atStart => exact ⟨0, _, by omega, rfl, rfl, hH2, hB1⟩
    case round =>
      obtain ⟨k, v, hk, rfl, rfl, hHr, hBr⟩ := hrel
      clear hH2 hB1
      have c0 := Has.cell [_] _ hHr 0 (v := .int .i64 c.host) rfl
      rw [HHH.out] at c0
      have hkl := frs_le c.l c.first c.many 1 k
      by_cases hlt : k < hh
      · have c1 := Has.cell [_] _ hHr 1 (v := .slice c.a c.l.length c.cap) rfl
        have CR := hid (keeps (RRight_calls c wr (HS.out.later hBr)) hHr)
        go_wp2_with (refine wpList_load_blk [_] _ hHr 24 (.tmp 1) rfl rfl rfl _ Try.underlying24 rfl (by kernel_rfl) ?_)
        refine CR.out.mono ?_
        rintro e wr2 ⟨rfl, hHr2, hBr2⟩
        rw [decide_eq_true HOK.out]
        have hBr2 := hBr.trans hBr2
        have c1 := Has.cell [_] _ hHr2 1 (v := .slice c.a c.l.length c.cap) rfl
        clear CR hHr hBr c0
        have CI := hid (in_calls c.a c.cap c.l k wr2 (HS.out.later hBr2))
        go_wp2_with fail
        refine CI.out.mono ?_
        rintro e w5 ⟨rfl, rfl⟩
        clear CI
        by_cases hm : (k : Int) ∈ c.l
        · have how : ownI c.l c.first c.many k = 1 := by unfold ownI; rw [if_pos hm]
          rw [decide_eq_true hm]
          clear hm
          have hst : frs c.l c.first c.many 1 (k + 1) = frs c.l c.first c.many 1 k ++ [(k : Int)] := by rw [frs_succ, if_pos how]
          have HST := hid hst
          obtain ⟨ao, cp, rfl, hc1, hc2, hgo⟩ := hHr2.row_form [] _
          clear hst how hgo
          go_wp2_with (at_builtin; refine wpList_append_row [] _ (hHr2.alloc _) rfl (.tmp 19) (.tmp 21) 22 rfl i0 (.int .i64 0) 8 Try.underlying22 hi hz0 hz1 hz2 rfl (by decide) rfl ⟨wr2.heap.size, 0, none⟩ 1 1 [.int .i64 (k : Int)] rfl rfl (cell_one_new _ _ _) (by simp [Value.oneCell']) (by decide) (by unfold maxLen; omega) (by omega) ?_; intro g2 cap2 w6 hH6 hB6)
          go_roundw
          case rel =>
            refine ⟨k + 1, .slice (some ⟨g2, 0, none⟩) ((frs c.l c.first c.many 1 k).length + 1) cap2, by omega, by go_num, rfl, ?_, hBr2.trans ((below_new (Below.refl _ _) hHr2 _).trans hB6)⟩
            rw [HST.out, List.length_append, List.map_append]
            exact hH6
          case measure => simp [intOf] <;> omega
        · have how : ¬ ownI c.l c.first c.many k = 1 := by unfold ownI; rw [if_neg hm]; split <;> decide
          rw [decide_eq_false hm]
          clear hm
          have hst : frs c.l c.first c.many 1 (k + 1) = frs c.l c.first c.many 1 k := by rw [frs_succ, if_neg how, List.append_nil]
          have HST := hid hst
          clear hst how
          go_wp2_with fail
          go_roundw
          case rel => exact ⟨k + 1, v, by omega, by go_num, rfl, by rw [HST.out]; exact hHr2, hBr2⟩
          case measure => simp [intOf] <;> omega
      · obtain rfl : k = hh := by omega
        go_wp2_with fail
        go_ret
        exact ⟨v, rfl, hHr.perm (List.Perm.swap _ _ _) |>.drop, hBr⟩
  · have hx : allC c 1 = [] := by unfold allC; rw [if_neg hok]
    unfold AllPost
    rw [hx]
    have hq := decide_eq_false hok
    have HQ := hid hq
    clear hx hq hok
    go_enter Try.func14, Try.ntmps14
    go_wp2_with fail
    go_loopw [3, 4] (fun vv i wr => vv = .slice none 0 0 ∧ i = .int .i64 0 ∧ wr = w.alloc (.cells (confC c).toArray 24)) (fun _ i _ => 0)
    case atStart => exact ⟨rfl, rfl, rfl⟩
    case round =>
      obtain ⟨rfl, rfl, rfl⟩ := hrel
      have c0 := Has.cell [_] _ hH2 0 (v := .int .i64 c.host) rfl
      by_cases h0 : 0 < c.host
      · have e1 : decide (0 < c.host) = true := decide_eq_true h0
        have CR := hid (keeps (RRight_calls c _ (HS.out.later hB1)) hH2)
        go_wp2_with (refine wpList_load_blk [_] _ hH2 24 (.tmp 1) rfl rfl rfl _ Try.underlying24 rfl (by kernel_rfl) ?_)
        refine CR.out.mono ?_
        rintro e wr2 ⟨rfl, hHr2, hBr2⟩
        rw [HQ.out]
        have hBr2 := hB1.trans hBr2
        have hH3 := hHr2.perm (List.Perm.swap _ _ _)
        clear CR c0 hHr2
        go_wp2_with fail
        go_ret
        exact ⟨_, rfl, hH3.drop, hBr2⟩
      · have e1 : decide (0 < c.host) = false := decide_eq_false h0
        have hH3 := hH2.perm (List.Perm.swap _ _ _)
        go_wp2_with fail
        go_ret
        exact ⟨_, rfl, hH3.drop, hB1⟩

set_option maxHeartbeats 4000000 in
set_option maxRecDepth 100000 in
theorem RForeign_calls (c : ConfS) (w : World) (hs : Src w c.a c.l) : Calls Try.prog 16 #[.agg (confC c).toArray] w (AllPost c 0 w) := by
  obtain ⟨i0, hi, hz0, hz1, hz2⟩ := info_parts infoIntC
  have hH0 : Has w w.heap.size [] := Has.nil (Nat.le_refl _)
  have hH1 := hH0.newblk w.heap.size 24 (confC c).toArray rfl
  have hB1 := below_new (Below.refl _ w) hH0 (.cells (confC c).toArray 24)
  have HS := hid hs
  have hH2 := hH1.nilrow 3 1
  clear hs hH0 hH1
  by_cases hok : okC c
  · have hx : allC c 0 = frs c.l c.first c.many 0 c.host.toNat := by unfold allC; rw [if_pos hok]
    unfold AllPost
    rw [hx]
    have hh1 : 1 ≤ c.host := hok.g.2.2.1
    have hh2 : c.host ≤ 256 := hok.g.2.2.2.1
    have hf0 : 0 ≤ c.first := hok.f.1
    obtain ⟨hh, hhh⟩ : ∃ hh : Nat, c.host = hh := ⟨c.host.toNat, by omega⟩
    have hht : c.host.toNat = hh := by omega
    rw [hht]
    have hh3 : hh ≤ 256 := by omega
    have HHH := hid hhh
    have HOK := hid hok
    clear hx hhh hok hht hh1 hh2
    go_enter Try.func16, Try.ntmps16
    go_wp2_with fail
    go_loopw [3, 4] (fun vv i wr => ∃ (k : Nat) (v : Value), k ≤ hh ∧ i = .int .i64 k ∧ v = vv ∧ Has wr w.heap.size [row 3 1 v (frs c.l c.first c.many 0 k).length ((frs c.l c.first c.many 0 k).map (Value.int .i64)), blk w.heap.size 24 (confC c).toArray] ∧ Below w.heap.size w wr) (fun _ i _ => hh - (intOf i).toNat)
    case atStart => exact ⟨0, _, by omega, rfl, rfl, hH2, hB1⟩
    case round =>
      obtain ⟨k, v, hk, rfl, rfl, hHr, hBr⟩ := hrel
      clear hH2 hB1
      have c0 := Has.cell [_] _ hHr 0 (v := .int .i64 c.host) rfl
      rw [HHH.out] at c0
      have hkl := frs_le c.l c.first c.many 0 k
      by_cases hlt : k < hh
      · have c1 := Has.cell [_] _ hHr 1 (v := .slice c.a c.l.length c.cap) rfl
        have CR := hid (keeps (RRight_calls c wr (HS.out.later hBr)) hHr)
        go_wp2_with (refine wpList_load_blk [_] _ hHr 24 (.tmp 1) rfl rfl rfl _ Try.underlying24 rfl (by kernel_rfl) ?_)
        refine CR.out.mono ?_
        rintro e wr2 ⟨rfl, hHr2, hBr2⟩
        rw [decide_eq_true HOK.out]
        have hBr2 := hBr.trans hBr2
        have c1 := Has.cell [_] _ hHr2 1 (v := .slice c.a c.l.length c.cap) rfl
        clear CR hHr hBr c0
        have CI := hid (in_calls c.a c.cap c.l k wr2 (HS.out.later hBr2))
        go_wp2_with fail
        refine CI.out.mono ?_
        rintro e w5 ⟨rfl, rfl⟩
        clear CI
        by_cases hm : (k : Int) ∈ c.l
        · have how : ¬ ownI c.l c.first c.many k = 0 := by unfold ownI; rw [if_pos hm]; decide
          rw [decide_eq_true hm]
          clear hm
          have hst : frs c.l c.first c.many 0 (k + 1) = frs c.l c.first c.many 0 k := by rw [frs_succ, if_neg how, List.append_nil]
          have HST := hid hst
          clear hst how
          go_wp2_with fail
          go_roundw
          case rel => exact ⟨k + 1, v, by omega, by go_num, rfl, by rw [HST.out]; exact hHr2, hBr2⟩
          case measure => simp [intOf] <;> omega
        · have HM := hid hm
          rw [decide_eq_false hm]
          clear hm
          have CP := hid (keeps (pool_lit' c k wr2 hf0 (by omega) (by omega)) hHr2)
          go_wp2_with (refine wpList_load_blk [_] _ hHr2 24 (.tmp 1) rfl rfl rfl _ Try.underlying24 rfl (by kernel_rfl) ?_)
          refine CP.out.mono ?_
          rintro e wr3 ⟨rfl, hH3, hB3⟩
          have hB3 := hBr2.trans hB3
          clear CP hHr2 hBr2
          have hHr2 := hH3
          have hBr2 := hB3
          obtain ⟨wr2, rfl⟩ : ∃ x, x = wr3 := ⟨_, rfl⟩
          clear hH3 hB3
          by_cases hp : poolP c.first c.many k
          · have how : ¬ ownI c.l c.first c.many k = 0 := by unfold ownI; rw [if_neg HM.out, if_pos hp]; decide
            rw [decide_eq_true hp]
            clear hp
            have hst : frs c.l c.first c.many 0 (k + 1) = frs c.l c.first c.many 0 k := by rw [frs_succ, if_neg how, List.append_nil]
            have HST := hid hst
            clear hst how
            go_wp2_with fail
            go_roundw
            case rel => exact ⟨k + 1, v, by omega, by go_num, rfl, by rw [HST.out]; exact hHr2, hBr2⟩
            case measure => simp [intOf] <;> omega
          · have how : ownI c.l c.first c.many k = 0 := by unfold ownI; rw [if_neg HM.out, if_neg hp]
            rw [decide_eq_false hp]
            clear hp
            have hst : frs c.l c.first c.many 0 (k + 1) = frs c.l c.first c.many 0 k ++ [(k : Int)] := by rw [frs_succ, if_pos how]
            have HST := hid hst
            obtain ⟨ao, cp, rfl, hc1, hc2, hgo⟩ := hHr2.row_form [] _
            clear hst how hgo
            go_wp2_with (at_builtin; refine wpList_append_row [] _ (hHr2.alloc _) rfl (.tmp 26) (.tmp 28) 22 rfl i0 (.int .i64 0) 8 Try.underlying22 hi hz0 hz1 hz2 rfl (by decide) rfl ⟨wr2.heap.size, 0, none⟩ 1 1 [.int .i64 (k : Int)] rfl rfl (cell_one_new _ _ _) (by simp [Value.oneCell']) (by decide) (by unfold maxLen; omega) (by omega) ?_; intro g2 cap2 w6 hH6 hB6)
            go_roundw
            case rel =>
              refine ⟨k + 1, .slice (some ⟨g2, 0, none⟩) ((frs c.l c.first c.many 0 k).length + 1) cap2, by omega, by go_num, rfl, ?_, hBr2.trans ((below_new (Below.refl _ _) hHr2 _).trans hB6)⟩
              rw [HST.out, List.length_append, List.map_append]
              exact hH6
            case measure => simp [intOf] <;> omega
      · obtain rfl : k = hh := by omega
        go_wp2_with fail
        go_ret
        exact ⟨v, rfl, hHr.perm (List.Perm.swap _ _ _) |>.drop, hBr⟩
  · have hx : allC c 0 = [] := by unfold allC; rw [if_neg hok]
    unfold AllPost
    rw [hx]
    have hq := decide_eq_false hok
    have HQ := hid hq
    clear hx hq hok
    go_enter Try.func16, Try.ntmps16
    go_wp2_with fail
    go_loopw [3, 4] (fun vv i wr => vv = .slice none 0 0 ∧ i = .int .i64 0 ∧ wr = w.alloc (.cells (confC c).toArray 24)) (fun _ i _ => 0)
    case atStart => exact ⟨rfl, rfl, rfl⟩
    case round =>
      obtain ⟨rfl, rfl, rfl⟩ := hrel
      have c0 := Has.cell [_] _ hH2 0 (v := .int .i64 c.host) rfl
      by_cases h0 : 0 < c.host
      · have e1 : decide (0 < c.host) = true := decide_eq_true h0
        have CR := hid (keeps (RRight_calls c _ (HS.out.later hB1)) hH2)
        go_wp2_with (refine wpList_load_blk [_] _ hH2 24 (.tmp 1) rfl rfl rfl _ Try.underlying24 rfl (by kernel_rfl) ?_)
        refine CR.out.mono ?_
        rintro e wr2 ⟨rfl, hHr2, hBr2⟩
        rw [HQ.out]
        have hBr2 := hB1.trans hBr2
        have hH3 := hHr2.perm (List.Perm.swap _ _ _)
        clear CR c0 hHr2
        go_wp2_with fail
        go_ret
        exact ⟨_, rfl, hH3.drop, hBr2⟩
      · have e1 : decide (0 < c.host) = false := decide_eq_false h0
        have hH3 := hH2.perm (List.Perm.swap _ _ _)
        go_wp2_with fail
        go_ret
        exact ⟨_, rfl, hH3.drop, hB1⟩

end Go.Proofs.Ytkgijfodjmkhgaa
