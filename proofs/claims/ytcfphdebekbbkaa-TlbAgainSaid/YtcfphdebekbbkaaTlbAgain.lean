/-
  TlbAgain: a hit that is put once more is there once, as the last one; none goes for it.
-/
import Derived.Test.YtcfphdebekbbkaaTlbArgs
import Derived.Test.YtcfphdebekbbkaaRegW
import Derived.Deep.RegionHeld3
namespace Go.Proofs.Ytcfphdebekbbkaa
open Go.RowKit
set_option linter.unusedVariables false
set_option linter.unusedSimpArgs false

theorem putL_again {n : Nat} {L : List HitS} {k : Nat} {h : HitS} (hu : uniq L) (hn : L.length ≤ n) (hk : L[k]? = some h) : putL n L h = L.eraseIdx k ++ [h] := by
  have hq : keyB h.a h.p h = true := keyB_true.2 ⟨rfl, rfl⟩
  have he := dropL_at hu hk hq
  have hkl := (List.getElem?_eq_some_iff.1 hk).1
  unfold putL
  rw [← he, if_neg]
  rw [List.length_eraseIdx_of_lt hkl]
  omega
/-- The first j, without the k-th. -/
def butL (L : List HitS) (k j : Nat) : List HitS := (L.take j).eraseIdx k
theorem butL_succ {L : List HitS} {k j : Nat} {h : HitS} (hj : L[j]? = some h) (hne : j ≠ k) : butL L k (j + 1) = butL L k j ++ [h] := by
  have hl := (List.getElem?_eq_some_iff.1 hj).1
  unfold butL
  rw [List.take_add_one, hj]
  by_cases hlt : k < j
  · rw [Option.toList_some, List.eraseIdx_append_of_lt_length (by simp; omega)]
  · rw [List.eraseIdx_of_length_le (by simp; omega), List.eraseIdx_of_length_le (by simp; omega)]
    rfl
theorem butL_at {L : List HitS} {k : Nat} {h : HitS} (hk : L[k]? = some h) : butL L k (k + 1) = butL L k k := by
  have hl := (List.getElem?_eq_some_iff.1 hk).1
  have hlen : (L.take k).length = k := by simp; omega
  have e1 : (L.take k).eraseIdx k = L.take k := List.eraseIdx_of_length_le (by omega)
  unfold butL
  rw [e1, List.take_add_one, hk, Option.toList_some, List.eraseIdx_append_of_length_le (by omega), hlen, Nat.sub_self]
  simp
theorem butL_le (L : List HitS) (k j : Nat) : (butL L k j).length ≤ L.length := by
  have h1 := (List.eraseIdx_sublist (L.take j) k).length_le
  unfold butL
  have := List.length_take (i := j) (l := L)
  omega

theorem SrcH.cells0 {W : World} {g k : Nat} {L : List HitS} {h : HitS} (hs : SrcH W (some ⟨g, 0, none⟩) L) (hk : L[k]? = some h) : W.cell? ⟨g, k * 7, none⟩ = some (.int .i64 h.a) ∧ W.cell? ⟨g, k * 7 + 1, none⟩ = some (.int .i64 h.p) ∧ W.cell? ⟨g, k * 7 + 2, none⟩ = some (.int .i64 h.f) ∧ W.cell? ⟨g, k * 7 + 3, none⟩ = some (.bool h.w) ∧ W.cell? ⟨g, k * 7 + 4, none⟩ = some (.bool h.u) ∧ W.cell? ⟨g, k * 7 + 5, none⟩ = some (.bool h.x) ∧ W.cell? ⟨g, k * 7 + 6, none⟩ = some (.bool h.d) := by
  have h0 := hs.at rfl hk 0 (u := .int .i64 h.a) rfl
  have h1 := hs.at rfl hk 1 (u := .int .i64 h.p) rfl
  have h2 := hs.at rfl hk 2 (u := .int .i64 h.f) rfl
  have h3 := hs.at rfl hk 3 (u := .bool h.w) rfl
  have h4 := hs.at rfl hk 4 (u := .bool h.u) rfl
  have h5 := hs.at rfl hk 5 (u := .bool h.x) rfl
  have h6 := hs.at rfl hk 6 (u := .bool h.d) rfl
  simp only [Nat.zero_add, Nat.add_zero] at h0 h1 h2 h3 h4 h5 h6
  exact ⟨h0, h1, h2, h3, h4, h5, h6⟩

theorem Same_len (a b : Option Addr) (na nb ca cb : Nat) (l m : List HitS) (w : World) (h1 : SrcH w a l) (h2 : SrcH w b m) (hna : na = l.length) (hnb : nb = m.length) :
    Calls Try.prog 17 #[.slice a na ca, .slice b nb cb] w fun e w' => e = .returned (.bool (decide (l = m))) ∧ Below w.heap.size w w' := by
  subst hna hnb
  exact Same_calls a b ca cb l m w h1 h2

set_option maxHeartbeats 4000000 in
set_option maxRecDepth 100000 in
theorem TlbAgain_walk (most : Int) (aa : Option Addr) (len cap : Nat) (l : List HitS) (at_ : Int) (w : World) (hwm : (Lit.int .u8 most).wf = true) (hA : ArgRow w 7 aa len (hitsC l)) (hl : ∀ x ∈ l, HitOk x) (hwa : (Lit.int .u8 at_).wf = true) :
    Calls Try.prog 5 #[.int .u8 most, .slice aa len cap, .int .u8 at_] w fun e w' => e = .returned (.bool true) ∧ Below w.heap.size w w' := by
  obtain rfl := hits_len hA
  obtain ⟨i0, hi0, hz0, hz1, hz2⟩ := info_parts infoHit
  obtain ⟨t0, t1⟩ := bounds_u8 hwm
  obtain ⟨t2, t3⟩ := bounds_u8 hwa
  have hH0 : Has w w.heap.size [] := Has.nil (Nat.le_refl _)
  have HS := hid hA.srch
  clear hA hl hwm hwa
  have u0 : 0 ≤ most % 64 := Int.emod_nonneg _ (by decide)
  have u1 : most % 64 < 64 := Int.emod_lt_of_pos _ (by decide)
  obtain ⟨n, hn⟩ : ∃ n : Nat, 1 + most % 64 = (n : Int) := ⟨(1 + most % 64).toNat, by omega⟩
  have n1 : 1 ≤ n := by omega
  have n3 : n ≤ 64 := by omega
  go_enter Try.func5, Try.ntmps5
  go_wp2_with fail
  refine (head_true w _ [] hH0).mono ?_
  rintro e w1 ⟨_, rfl, hH1, hB1⟩
  go_wp2_with fail
  refine (TlbNew_yes n n1 (by omega) w1 _ _ hH1).mono ?_
  rintro e w2 ⟨t, rfl, hH2, hB2⟩
  have hB2 := hB1.trans hB2
  clear hH1 hB1 hH0 hn u0 u1
  by_cases hbig : 300 < l.length
  · have e1 : decide (300 < l.length) = true := by rw [decide_eq_true_eq]; omega
    have e2 : decide (300 < (l.length : Int)) = true := by rw [decide_eq_true_eq]; omega
    go_wp2_with fail
    go_ret
    exact ⟨rfl, hB2⟩
  · have e1 : decide (300 < l.length) = false := by rw [decide_eq_false_iff_not]; omega
    have e2 : decide (300 < (l.length : Int)) = false := by rw [decide_eq_false_iff_not]; omega
    go_wp2_with fail
    go_loopw [9] (fun i wr => ∃ (k : Nat) (L : List HitS), k ≤ l.length ∧ i = .int .i64 k ∧ (L.length = 0 → k = 0) ∧ Has wr w.heap.size [TlbA t n L] ∧ Below w.heap.size w wr) (fun i _ => l.length - (intOf i).toNat)
    case atStart => exact ⟨0, [], by omega, rfl, fun _ => rfl, hH2, hB2⟩
    case round =>
      obtain ⟨k, L, hk, rfl, hemp, hHr, hBr⟩ := hrel
      clear hH2 hB2
      by_cases hlt : k < l.length
      · obtain ⟨h, hh⟩ : ∃ h, l[k]? = some h := ⟨_, List.getElem?_eq_getElem hlt⟩
        obtain ⟨b, o, rfl, _, _⟩ := HS.out.mem (by omega)
        have P := hid ((HS.out.later hBr).adds rfl hh)
        clear hh hemp
        go_wp2_with (refine wpList_load_at 30 (.tmp 41) rfl rfl ⟨b, o + k * 7, none⟩ rfl _ (hitC h) P.out Try.underlying30 rfl hit_size ?_)
        refine (Put_calls t n L h wr _ _ hHr).mono ?_
        rintro e w3 ⟨rfl, hH3, hB3⟩
        go_wp2_with fail
        go_roundw
        case rel => exact ⟨k + 1, _, by omega, by go_num, fun h0 => by simp [putL] at h0, hH3, hBr.trans hB3⟩
        case measure => simp [intOf] <;> omega
      · obtain rfl : k = l.length := by omega
        have hI := (TlbA.open hHr).choose_spec.choose_spec.1
        have HI := hid hI
        have hL64 : L.length ≤ 64 := by omega
        clear hI
        go_wp2_with fail
        obtain ⟨wo, rfl⟩ : ∃ wo : World, wo = wr := ⟨_, rfl⟩
        refine (List_calls t n L wo _ _ hHr).mono ?_
        rintro e w4 ⟨v, rfl, hH4, hB4'⟩
        have hB4 := hBr.trans hB4'
        clear hB4' hHr hBr
        obtain ⟨ao, cp, rfl, _, _, hao⟩ := hH4.row_form [] _
        by_cases hL0 : L.length = 0
        · have hl0 := hemp hL0
          have e3 : (L.length == 0) = true := by rw [beq_iff_eq]; exact hL0
          have e4 : ((L.length : Int) == 0) = true := by rw [beq_iff_eq]; omega
          have e5 : (l.length == 0) = true := by rw [beq_iff_eq]; exact hl0
          have e6 : ((l.length : Int) == 0) = true := by rw [beq_iff_eq]; omega
          clear hL0 hl0 hemp hH4
          go_wp2_with fail
          go_ret
          exact ⟨rfl, hB4⟩
        · have e3 : (L.length == 0) = false := by rw [beq_eq_false_iff_ne]; exact hL0
          have e4 : ((L.length : Int) == 0) = false := by rw [beq_eq_false_iff_ne]; omega
          obtain ⟨g, rfl⟩ := hao (by omega)
          have hk0 : 0 ≤ at_ % (L.length : Int) := Int.emod_nonneg _ (by omega)
          have hk1 : at_ % (L.length : Int) < L.length := Int.emod_lt_of_pos _ (by omega)
          obtain ⟨k, hkk⟩ := Int.eq_ofNat_of_zero_le hk0
          rw [hkk] at hk1
          have hkl : k < L.length := by omega
          obtain ⟨h, hh⟩ : ∃ h, L[k]? = some h := ⟨_, List.getElem?_eq_getElem hkl⟩
          have P := hid ((srch_row [] _ hH4 rfl).adds rfl hh)
          have hag := putL_again HI.out.2.2.2 HI.out.2.2.1 hh
          have HAG := hid hag
          have HH := hid hh
          clear hh hag hk0 hemp
          go_wp2_with (refine wpList_load_at 30 (.tmp 63) rfl rfl ⟨g, k * 7, none⟩ rfl _ (hitC h) (by have := P.out; simpa using this) Try.underlying30 rfl hit_size ?_)
          refine (Put_calls t n L h w4 _ _ (hH4.front [_] _)).mono ?_
          rintro e w5 ⟨rfl, hH5, hB5'⟩
          rw [HAG.out] at hH5
          have hB5 := hB4.trans hB5'
          clear hB5' hH4 hB4 hkk
          have hR := hH5.nilrow 30 7
          go_wp2_with fail
          go_loopw [12, 13] (fun want i wr => ∃ (j : Nat) (v : Value), j ≤ L.length ∧ i = .int .i64 j ∧ want = v ∧ Has wr w.heap.size [row 30 7 v (butL L k j).length (hitsC (butL L k j)), TlbA t n (L.eraseIdx k ++ [h]), row 30 7 (.slice (some ⟨g, 0, none⟩) L.length cp) L.length (hitsC L)] ∧ Below w.heap.size w wr) (fun _ i _ => L.length - (intOf i).toNat)
          case atStart => exact ⟨0, _, by omega, rfl, rfl, by simpa [butL, hitsC] using hR, hB5⟩
          case round =>
            obtain ⟨j, v, hj, rfl, rfl, hHr, hBr⟩ := hrel
            clear hR hH5 hB5
            obtain ⟨ao2, cp2, rfl, _, _, _⟩ := hHr.row_form [] _
            have hbl := butL_le L k j
            by_cases hlt2 : j < L.length
            · obtain ⟨x, hx⟩ : ∃ x, L[j]? = some x := ⟨_, List.getElem?_eq_getElem hlt2⟩
              by_cases hjk : j = k
              · subst hjk
                have hb := butL_at hx
                have HB := hid hb
                clear hb hx
                go_wp2_with fail
                go_roundw
                case rel => exact ⟨j + 1, _, by omega, by go_num, rfl, by rw [HB.out]; exact hHr, hBr⟩
                case measure => simp [intOf] <;> omega
              · have hb := butL_succ hx hjk
                have HB := hid hb
                have e5 : (j == k) = false := by rw [beq_eq_false_iff_ne]; exact hjk
                have e6 : ((j : Int) == (k : Int)) = false := by rw [beq_eq_false_iff_ne]; omega
                have P2 := hid ((srch_row [_, _] _ hHr rfl).adds rfl hx)
                have hA := hHr.newblk wr.heap.size 30 (hitC x).toArray rfl
                have hBA := below_new hBr hHr (.cells (hitC x).toArray 30)
                have hl7 : (hitC x).length = 7 := rfl
                clear hb hx hjk
                go_wp2_with (first
                  | (refine wpList_load_at 30 (.tmp 78) rfl rfl ⟨g, j * 7, none⟩ rfl _ (hitC x) (by have := P2.out; simpa using this) Try.underlying30 rfl hit_size ?_)
                  | (at_builtin; refine wpList_append_row [_] _ hA rfl (.tmp 75) (.tmp 80) 22 rfl i0 (.agg hitZ) 32 Try.underlying22 hi0 hz0 hz1 hz2 rfl (by decide) rfl ⟨wr.heap.size, 0, none⟩ 1 1 (hitC x) rfl rfl (blk_adds [] _ hA) (hitC_one x) (by decide) (by unfold maxLen; omega) (by omega) ?_; intro g2 cap2 w5 hH5 hB5))
                go_roundw
                case rel => exact ⟨j + 1, _, by omega, by go_num, rfl, by rw [HB.out]; simpa [hitsC] using hH5.drop, hBA.trans hB5⟩
                case measure => simp [intOf] <;> omega
            · obtain rfl : j = L.length := by omega
              have hbf : butL L k L.length = L.eraseIdx k := by unfold butL; rw [List.take_length]
              rw [hbf] at hHr hbl
              have hsr := srch_row [_, _] _ hHr rfl
              have P3 := hid (hsr.adds rfl HH.out)
              have hD := hHr.drew
              have hBD : Below w.heap.size w wr.drew := hBr.drew
              have hDA := hD.newblk wr.heap.size 30 (hitC h).toArray rfl
              have hBDA := below_new hBD hD (.cells (hitC h).toArray 30)
              have hl7 : (hitC h).length = 7 := rfl
              have hce : hitsC (L.eraseIdx k) ++ hitC h = hitsC (L.eraseIdx k ++ [h]) := by rw [← hitsC_app]; simp [hitsC]
              have HCE := hid hce
              clear hce
              go_wp2_with fail
              have nD := (srch_row [_, _] _ hD rfl).cells0 HH.out
              have nDA := (srch_row [_, _, _] _ hDA rfl).cells0 HH.out
              go_region_held3 (fun W => W.cell? ⟨g, k * 7, none⟩ = some (.int .i64 h.a) ∧ W.cell? ⟨g, k * 7 + 1, none⟩ = some (.int .i64 h.p) ∧ W.cell? ⟨g, k * 7 + 2, none⟩ = some (.int .i64 h.f) ∧ W.cell? ⟨g, k * 7 + 3, none⟩ = some (.bool h.w) ∧ W.cell? ⟨g, k * 7 + 4, none⟩ = some (.bool h.u) ∧ W.cell? ⟨g, k * 7 + 5, none⟩ = some (.bool h.x) ∧ W.cell? ⟨g, k * 7 + 6, none⟩ = some (.bool h.d))
                (first | exact nZ | exact nN | exact nA | exact nLA | exact nD | exact nDA | go_keep)
                (first
                  | (go_at_call 13; refine (List_calls t n _ wA _ _ (hA1.front [_, _] _)).mono ?_; rintro e wN ⟨vN, rfl, hN, kN⟩; obtain ⟨aN, cN, rfl, _, _, _⟩ := hN.row_form [] _; have nN := (srch_row [_, _, _, _] _ hN rfl).cells0 HH.out; have bN := bA.trans kN)
                  | (go_at_call 13; refine (List_calls t n _ wr.drew _ _ (hD.front [_] _)).mono ?_; rintro e wL ⟨vL, rfl, hL, kL⟩; obtain ⟨aL, cL, rfl, _, _, _⟩ := hL.row_form [] _; have nN := (srch_row [_, _, _] _ hL rfl).cells0 HH.out; have hLA := hL.newblk wL.heap.size 30 (hitC h).toArray rfl; have nLA := (srch_row [_, _, _, _] _ hLA rfl).cells0 HH.out; have bL := hBD.trans kL; have bLA := below_new bL hL (.cells (hitC h).toArray 30))
                  | (go_at_call 13; refine (List_calls t n _ _ _ _ (hDA.front [_, _] _)).mono ?_; rintro e wM ⟨vM, rfl, hM, kM⟩; obtain ⟨aM, cM, rfl, _, _, _⟩ := hM.row_form [] _; have nN := (srch_row [_, _, _, _] _ hM rfl).cells0 HH.out; have hMM := hM.front [_, _] _; have bM := hBDA.trans kM)
                  | (refine step_append_wanted [_, _, _] _ hLA rfl (.tmp 86) (.tmp 91) 22 rfl i0 (.agg hitZ) 32 Try.underlying22 hi0 hz0 hz1 hz2 rfl (by decide) rfl ⟨wL.heap.size, 0, none⟩ 1 1 (hitC h) rfl rfl (blk_adds [] _ hLA) (hitC_one h) (by decide) (by unfold maxLen; omega) (by omega) ?_; intro g2 cap2 wA hA2 kA2; rw [HCE.out] at hA2; have bA := bLA.trans kA2; have nA := (srch_row [_, _, _, _] _ hA2 rfl).cells0 HH.out)
                  | (refine step_append_wanted [_, _, _] _ hMM rfl (.tmp 86) (.tmp 91) 22 rfl i0 (.agg hitZ) 32 Try.underlying22 hi0 hz0 hz1 hz2 rfl (by decide) rfl ⟨wr.heap.size, 0, none⟩ 1 1 (hitC h) rfl rfl (blk_adds [] _ hMM) (hitC_one h) (by decide) (by unfold maxLen; omega) (by omega) ?_; intro g2 cap2 wA hA3 kA3; rw [HCE.out] at hA3; have bA := bM.trans kA3; have nA := (srch_row [_, _, _, _] _ hA3 rfl).cells0 HH.out)
                  | (refine step_append_wanted [_] _ hDA rfl (.tmp 86) (.tmp 91) 22 rfl i0 (.agg hitZ) 32 Try.underlying22 hi0 hz0 hz1 hz2 rfl (by decide) rfl ⟨wr.heap.size, 0, none⟩ 1 1 (hitC h) rfl rfl (blk_adds [] _ hDA) (hitC_one h) (by decide) (by unfold maxLen; omega) (by omega) ?_; intro g2 cap2 wA hA1 kA1; rw [HCE.out] at hA1; have bA := hBDA.trans kA1; have nA := (srch_row [_, _, _] _ hA1 rfl).cells0 HH.out)
                  | (go_at_call 17; refine (keeps (Same_len aN (some ⟨g2, 0, none⟩) _ _ cN cap2 (L.eraseIdx k ++ [h]) (L.eraseIdx k ++ [h]) wN (srch_row [] _ hN rfl) (srch_row [_, _, _] _ hN (by simp)) (by simp) (by simp)) hN).mono ?_; rintro e wZ ⟨rfl, hZ, kZ⟩; rw [show decide (L.eraseIdx k ++ [h] = L.eraseIdx k ++ [h]) = true from by simp]; have nZ := (srch_row [_, _, _, _] _ hZ rfl).cells0 HH.out; have bZ := bN.trans kZ)
                  | (go_at_call 17; refine (keeps (Same_len aL (some ⟨g2, 0, none⟩) _ _ cL cap2 (L.eraseIdx k ++ [h]) (L.eraseIdx k ++ [h]) wA (srch_row [_] _ hA2 rfl) (srch_row [_, _, _] _ hA2 (by simp)) (by simp) (by simp)) hA2).mono ?_; rintro e wZ ⟨rfl, hZ, kZ⟩; rw [show decide (L.eraseIdx k ++ [h] = L.eraseIdx k ++ [h]) = true from by simp]; have nZ := (srch_row [_, _, _, _] _ hZ rfl).cells0 HH.out; have bZ := bA.trans kZ)
                  | (go_at_call 17; refine (keeps (Same_len aM (some ⟨g2, 0, none⟩) _ _ cM cap2 (L.eraseIdx k ++ [h]) (L.eraseIdx k ++ [h]) wA (srch_row [_] _ hA3 rfl) (srch_row [_, _, _] _ hA3 (by simp)) (by simp) (by simp)) hA3).mono ?_; rintro e wZ ⟨rfl, hZ, kZ⟩; rw [show decide (L.eraseIdx k ++ [h] = L.eraseIdx k ++ [h]) = true from by simp]; have nZ := (srch_row [_, _, _, _] _ hZ rfl).cells0 HH.out; have bZ := bA.trans kZ))
              all_goals (
                go_wp2_with fail
                go_ret
                exact ⟨rfl, bZ⟩)

end Go.Proofs.Ytcfphdebekbbkaa
