/-
  FreeLast: what was given back last is taken first.
-/
import Derived.Test.YtjbeneiicneidaaFreeHead
namespace Go.Proofs.Ytjbeneiicneidaa
open Go.RowKit
set_option linter.unusedVariables false
set_option linter.unusedSimpArgs false

theorem take_fresh_is (b : Nat) (a n i : Int) (hi : i < n) :
    Does Try.prog 14 #[.pointer (some ⟨b, 0, none⟩)] [FreeA b a n (freshL a n i)] (fun _ : Unit => .tuple #[.int .i64 (a + i), .bool true]) (fun _ => [FreeA b a n (freshL a n (i + 1))]) :=
  take_is b a n _ _ _ _ (by rw [freshL_step a n i hi]; simp [takeV]) (by rw [freshL_step a n i hi]; simp [takeB]) (by rw [freshL_step a n i hi]; simp)

set_option maxHeartbeats 2000000 in
set_option maxRecDepth 100000 in
theorem FreeLast_walk (c : Int) (a : Option Addr) (len cap : Nat) (l : List Int) (w : World) (hc : (Lit.int .u8 c).wf = true) (hA : ArgRow w 1 a len (l.map (Value.int .u8))) (hl : ∀ x ∈ l, (Lit.int .u8 x).wf = true) :
    Calls Try.prog 6 #[.int .u8 c, .slice a len cap] w fun e w' => e = .returned (.bool true) ∧ Below w.heap.size w w' := by
  obtain ⟨c0, c1⟩ := bounds_u8 hc
  obtain ⟨hl1, hl2, hl3⟩ := hA
  have hl4 : l.length = len := by simpa using hl1
  obtain ⟨i0, hi, hz0, hz1, hz2⟩ := info_parts infoInt
  clear hc hl1
  have hH0 : Has w w.heap.size [] := Has.nil (Nat.le_refl _)
  by_cases hbig : 300 < len
  · go_enter Try.func6, Try.ntmps6
    go_wp2_with fail
    refine (head_true w _ [] hH0).mono ?_
    rintro e w1 ⟨_, rfl, hH1, hB1⟩
    go_wp2_with fail
    refine ((FreeNew_ok 7 (1 + c % 100) (by omega) (by omega) (by omega) (by omega)).mk hH1).mono ?_
    rintro e w2 ⟨x, rfl, hH2, hB2⟩
    go_wp2_with fail
    go_ret
    exact ⟨rfl, hB1.trans hB2⟩
  · have HL := hid hl4
    clear hl4
    go_enter Try.func6, Try.ntmps6
    go_wp2_with fail
    refine (head_true w _ [] hH0).mono ?_
    rintro e w1 ⟨_, rfl, hH1, hB1⟩
    go_wp2_with fail
    have n0 : 1 ≤ 1 + c % 100 := by omega
    have n1 : 1 + c % 100 ≤ 100 := by omega
    generalize 1 + c % 100 = n at *
    refine ((FreeNew_ok 7 n (by omega) (by omega) (by omega) (by omega)).mk hH1).mono ?_
    rintro e w2 ⟨x, rfl, hH2, hB2⟩
    have hB := hB1.trans hB2
    clear hH0 hH1 hB1 hB2
    go_wp2_with fail
    go_loopw [8] (fun i wr => ∃ k : Nat, k ≤ n ∧ i = .int .i64 k ∧ Has wr w.heap.size [FreeA x 7 n (freshL 7 n k)] ∧ Below w.heap.size w wr) (fun i _ => n.toNat - (intOf i).toNat)
    case atStart => exact ⟨0, by omega, rfl, hH2, hB⟩
    case round =>
      obtain ⟨k, hk, rfl, hHr, hBr⟩ := hrel
      clear hH2 hB
      by_cases hlt : (k : Int) < n
      · go_wp2_with fail
        refine ((take_fresh_is x 7 n k hlt).at [] [] hHr).mono ?_
        rintro e w3 ⟨_, rfl, hH3, hB3⟩
        go_wp2_with fail
        go_roundw
        case rel => exact ⟨k + 1, by omega, by go_num, hH3, hBr.trans hB3⟩
        case measure => simp [intOf] <;> omega
      · obtain rfl : n = k := by omega
        rw [freshL_end] at hHr
        have hN := hHr.nilrow 3 1
        go_wp2_with fail
        obtain ⟨wo, rfl⟩ : ∃ wo : World, wo = wr := ⟨_, rfl⟩
        go_loopw [9, 10, 11] (fun v i _ wr => ∃ (j : Nat) (F : List Int), j ≤ len ∧ F.length ≤ j ∧ i = .int .i64 j ∧ Has wr w.heap.size [row 3 1 v F.length (F.map (Value.int .i64)), FreeA x 7 k F] ∧ Below w.heap.size w wr) (fun _ i _ _ => len - (intOf i).toNat)
        case atStart => exact ⟨0, [], by omega, by simp, rfl, hN, hBr⟩
        case round =>
          obtain ⟨j, F, hj, hFj, rfl, hHr2, hBr2⟩ := hrel
          clear hHr hN hBr
          by_cases hlt2 : j < len
          · obtain ⟨ba, oa, rfl, hba, hca⟩ := hl3 (by omega)
            have HL2 := HL.out
            obtain ⟨z, hz⟩ : ∃ z, l[j]? = some z := ⟨l[j], by simp [HL2, hlt2]⟩
            have hzw := bounds_u8 (hl z (List.mem_of_getElem? hz))
            have hcell := ArgRow.later hba hca hBr2 j (u := .int .u8 z) (by simp [hz])
            clear HL2 hz hca
            have z0 : 0 ≤ z % k := Int.emod_nonneg _ (by omega)
            have z1 : z % k < k := Int.emod_lt_of_pos _ (by omega)
            have z2 : 0 ≤ z := by omega
            have hw : (Lit.int .i64 (7 + z % k)).wf = true := WalkArith.wf_i64 (by omega)
            have hF := (hHr2.free [_] _)
            by_cases hg : 7 + z % k ∈ F
            · have e1 : givesB 7 k F (7 + z % k) = false := by unfold givesB; rw [decide_eq_false_iff_not]; exact fun h => h.2.2 hg
              have cg := give_is x 7 k (7 + z % k) F F false hw e1 (by unfold given; rw [e1]; rfl)
              clear e1
              go_wp2_with fail
              refine (cg.at [_] _ hHr2).mono ?_
              rintro e w4 ⟨_, rfl, hH4, hB4⟩
              go_wp2_with fail
              go_roundw
              case rel => exact ⟨j + 1, F, by omega, by omega, by go_num, hH4, hBr2.trans hB4⟩
              case measure => simp [intOf] <;> omega
            · have e1 : givesB 7 k F (7 + z % k) = true := by unfold givesB; rw [decide_eq_true_eq]; exact ⟨by omega, by omega, hg⟩
              have cg := give_is x 7 k (7 + z % k) F (F ++ [7 + z % k]) true hw e1 (by unfold given; rw [e1]; rfl)
              clear e1
              go_wp2_with fail
              refine (cg.at [_] _ hHr2).mono ?_
              rintro e w4 ⟨_, rfl, hH4, hB4⟩
              go_wp2_with (at_builtin; refine wpList_append_row [] _ (hH4.alloc _) rfl _ _ 39 rfl i0 (.int .i64 0) 8 Try.underlying39 hi hz0 hz1 hz2 rfl (by decide) rfl ⟨w4.heap.size, 0, none⟩ 1 1 [.int .i64 (7 + z % k)] rfl rfl (cell_one_new _ _ _) (by simp [Value.oneCell']) (by decide) (by unfold maxLen; omega) (by omega) ?_; intro ga cap w5 hH5 hB5)
              go_roundw
              case rel => exact ⟨j + 1, F ++ [7 + z % k], by omega, by simp; omega, by go_num, by simpa using hH5, hBr2.trans (hB4.trans ((below_new (Below.refl _ _) hH4 _).trans hB5))⟩
              case measure => simp [intOf] <;> omega
          · obtain rfl : len = j := by omega
            obtain ⟨ao, cp, rfl, hc1, hc2, hgo⟩ := hHr2.row_form [] _
            go_wp2_with fail
            obtain ⟨wp, rfl⟩ : ∃ wp : World, wp = wr := ⟨_, rfl⟩
            have hT : Has wp w.heap.size [row 3 1 (.slice ao F.length cp) F.length (F.map (Value.int .i64)), FreeA x 7 k (F.take F.length)] := by simpa using hHr2
            go_loopw [12, 13, 14] (fun i _ _ wr => ∃ m : Nat, m ≤ F.length ∧ i = .int .i64 ((m : Int) - 1) ∧ Has wr w.heap.size [row 3 1 (.slice ao F.length cp) F.length (F.map (Value.int .i64)), FreeA x 7 k (F.take m)] ∧ Below w.heap.size w wr) (fun i _ _ _ => (intOf i + 1).toNat)
            case atStart => exact ⟨F.length, Nat.le_refl _, rfl, hT, hBr2⟩
            case round =>
              obtain ⟨m, hm, rfl, hHr3, hBr3⟩ := hrel
              clear hT hHr2 hBr2
              by_cases hm0 : 0 < m
              · obtain ⟨gb, rfl⟩ := hgo (by omega)
                obtain ⟨y, hy⟩ : ∃ y, F[m - 1]? = some y := ⟨F[m - 1], by simp⟩
                obtain ⟨d, rfl⟩ : ∃ d, m = d + 1 := ⟨m - 1, by omega⟩
                simp only [Nat.add_sub_cancel] at hy
                have HX : Hid ((F.map (Value.int .i64))[d]? = some (.int .i64 y)) := by simp [Hid, hy]
                have hs : F.take (d + 1) = F.take d ++ [y] := by
                  rw [List.take_add_one]
                  simp [hy]
                have ct := take_is x 7 k y (F.take (d + 1)) (F.take d) true (by rw [hs]; simp [takeV]) (by rw [hs]; simp [takeB]) (by rw [hs]; simp)
                clear hy hs hgo
                go_wp2_with fail
                refine (ct.at [_] _ hHr3).mono ?_
                rintro e w5 ⟨_, rfl, hH5, hB5⟩
                have hcell2 := hH5.row_cell [] _ d HX.out
                go_wp2_with fail
                go_roundw
                case rel => exact ⟨d, by omega, by go_num, hH5, hBr3.trans hB5⟩
                case measure => simp [intOf] <;> omega
              · obtain rfl : m = 0 := by omega
                go_wp2_with fail
                refine ((take_is x 7 k 0 (F.take 0) [] false rfl rfl rfl).at [_] [] hHr3).mono ?_
                rintro e w5 ⟨_, rfl, hH5, hB5⟩
                go_wp2_with fail
                go_ret
                exact ⟨rfl, hBr3.trans hB5⟩

end Go.Proofs.Ytjbeneiicneidaa
