/-
  FreeBack: what was taken, and all given back, may all be taken again, each once.
-/
import Derived.Test.YtjbeneiicneidaaFreeHead
import Derived.Test.YtjbeneiicneidaaFreeArgs
namespace Go.Proofs.Ytjbeneiicneidaa
open Go.RowKit
set_option linter.unusedVariables false
set_option linter.unusedSimpArgs false

theorem freeBack_full {n : Int} {F : List Int} (h : FreeFits 3 n F) (hall : ∀ z, 3 ≤ z → z < 3 + n → z ∈ F) : (F.length : Int) = n := by
  have h1 := nodup_le (freshL 3 n 0) F (by
    unfold freshL
    exact List.pairwise_map.2 (List.Pairwise.imp (fun h e => h (by omega)) List.nodup_range)) (fun x hx => by
      rw [freshL_mem] at hx
      exact hall x (by omega) (by omega))
  rw [freshL_length] at h1
  have := h.ln
  have := h.a2
  omega

theorem zero70 (w : World) : Sem.run Try.prog (zeroValue 41) w = .ok (.agg (boolsA (falses 70))) w := by kernel_rfl

set_option maxHeartbeats 4000000 in
set_option maxRecDepth 100000 in
theorem FreeBack_walk (c : Int) (a : Option Addr) (len cap : Nat) (l : List (Bool × Int)) (w : World) (hc : (Lit.int .u8 c).wf = true) (hA : ArgRow w 2 a len (l.flatMap opC)) (hl : ∀ x ∈ l, opOk x) :
    Calls Try.prog 7 #[.int .u8 c, .slice a len cap] w fun e w' => e = .returned (.bool true) ∧ Below w.heap.size w w' := by
  obtain ⟨c0, c1⟩ := bounds_u8 hc
  obtain ⟨hl1, hl2, hl3⟩ := hA
  have hl4 : l.length = len := by rw [flat_length opC 2 (fun _ => rfl)] at hl1; omega
  clear hc hl1
  have hH0 : Has w w.heap.size [] := Has.nil (Nat.le_refl _)
  have HL := hid hl4
  clear hl4
  by_cases hbig : 600 < len
  · go_enter Try.func7, Try.ntmps7
    go_wp2_with fail
    refine (head_true w _ [] hH0).mono ?_
    rintro e w1 ⟨_, rfl, hH1, hB1⟩
    go_wp2_with fail
    refine ((FreeNew_ok 3 (c % 60) (by omega) (by omega) (by omega) (by omega)).mk hH1).mono ?_
    rintro e w2 ⟨x, rfl, hH2, hB2⟩
    go_wp2_with fail
    go_ret
    exact ⟨rfl, hB1.trans hB2⟩
  · go_enter Try.func7, Try.ntmps7
    go_wp2_with fail
    refine (head_true w _ [] hH0).mono ?_
    rintro e w1 ⟨_, rfl, hH1, hB1⟩
    go_wp2_with fail
    have n0 : 0 ≤ c % 60 := by omega
    have n1 : c % 60 ≤ 59 := by omega
    generalize c % 60 = n at *
    refine ((FreeNew_ok 3 n (by omega) (by omega) (by omega) (by omega)).mk hH1).mono ?_
    rintro e w2 ⟨x, rfl, hH2, hB2⟩
    have hB := hB1.trans hB2
    clear hH0 hH1 hB1 hB2
    go_wp2_with fail
    go_loopw [8] (fun i wr => ∃ (j : Nat) (F : List Int), j ≤ len ∧ i = .int .i64 j ∧ Has wr w.heap.size [FreeA x 3 n F] ∧ Below w.heap.size w wr) (fun i _ => len - (intOf i).toNat)
    case atStart => exact ⟨0, _, by omega, rfl, hH2, hB⟩
    case round =>
      obtain ⟨j, F, hj, rfl, hHr, hBr⟩ := hrel
      clear hH2 hB
      by_cases hlt : j < len
      · obtain ⟨ba, oa, rfl, hba, hca⟩ := hl3 (by omega)
        have HL2 := HL.out
        obtain ⟨⟨g, f⟩, hz⟩ : ∃ z, l[j]? = some z := ⟨l[j], by simp [HL2, hlt]⟩
        have hw : (Lit.int .i64 f).wf = true := hl _ (List.mem_of_getElem? hz)
        have k0 := ArgRow.elem (f := opC) (size := 2) (fun _ => rfl) hba hca hBr j 0 _ hz (u := .bool g) rfl
        rw [Nat.add_zero] at k0
        clear HL2
        cases g with
        | true =>
          have k1 := ArgRow.elem (f := opC) (size := 2) (fun _ => rfl) hba hca hBr j 1 _ hz (u := .int .i64 f) rfl
          clear hz hca
          go_wp2_with fail
          refine ((FreeGive x 3 n f F hw).at [] [] hHr).mono ?_
          rintro e w4 ⟨_, rfl, hH4, hB4⟩
          go_wp2_with fail
          go_roundw
          case rel => exact ⟨j + 1, _, by omega, by go_num, hH4, hBr.trans hB4⟩
          case measure => simp [intOf] <;> omega
        | false =>
          clear hz hca
          go_wp2_with fail
          refine ((FreeTake x 3 n F).at [] [] hHr).mono ?_
          rintro e w4 ⟨_, rfl, hH4, hB4⟩
          go_wp2_with fail
          go_roundw
          case rel => exact ⟨j + 1, _, by omega, by go_num, hH4, hBr.trans hB4⟩
          case measure => simp [intOf] <;> omega
      · obtain rfl : len = j := by omega
        go_wp2_with fail
        obtain ⟨wo, rfl⟩ : ∃ wo : World, wo = wr := ⟨_, rfl⟩
        go_loopw [9, 10] (fun i _ wr => ∃ (k : Nat) (F : List Int), k ≤ 70 ∧ (∀ z, 3 ≤ z → z < 3 + n → z < k → z ∈ F) ∧ i = .int .i64 k ∧ Has wr w.heap.size [FreeA x 3 n F] ∧ Below w.heap.size w wr) (fun i _ _ => 70 - (intOf i).toNat)
        case atStart => exact ⟨0, F, by omega, by intros; omega, rfl, hHr, hBr⟩
        case round =>
          obtain ⟨k, F, hk, hall, rfl, hHr, hBr⟩ := hrel
          clear hl3 HL
          by_cases hlt2 : k < 70
          · have hw : (Lit.int .i64 (k : Int)).wf = true := WalkArith.wf_i64 (by omega)
            by_cases hin : 3 ≤ (k : Int) ∧ (k : Int) < 3 + n
            · by_cases hm : (k : Int) ∈ F
              · have ch := has_is x 3 n k F true hw (by simpa using hm)
                have e1 : givesB 3 n F k = false := by unfold givesB; rw [decide_eq_false_iff_not]; exact fun h => h.2.2 hm
                have cg := give_is x 3 n k F F false hw e1 (by unfold given; rw [e1]; rfl)
                have HA := hid hall
                clear e1 hall
                go_wp2_with fail
                refine (ch.at [] [] hHr).mono ?_
                rintro e w4 ⟨_, rfl, hH4, hB4⟩
                go_wp2_with fail
                refine (cg.at [] [] hH4).mono ?_
                rintro e w5 ⟨_, rfl, hH5, hB5⟩
                go_wp2_with fail
                go_roundw
                case rel => exact ⟨k + 1, F, by omega, fun z h1 h2 h3 => if h : z = k then h ▸ hm else HA.out z h1 h2 (by omega), by go_num, hH5, hBr.trans (hB4.trans hB5)⟩
                case measure => simp [intOf] <;> omega
              · have ch := has_is x 3 n k F false hw (by simpa using hm)
                have e1 : givesB 3 n F k = true := by unfold givesB; rw [decide_eq_true_eq]; exact ⟨hin.1, hin.2, hm⟩
                have cg := give_is x 3 n k F (F ++ [(k : Int)]) true hw e1 (by unfold given; rw [e1]; rfl)
                have HA := hid hall
                clear e1 hall
                go_wp2_with fail
                refine (ch.at [] [] hHr).mono ?_
                rintro e w4 ⟨_, rfl, hH4, hB4⟩
                go_wp2_with fail
                refine (cg.at [] [] hH4).mono ?_
                rintro e w5 ⟨_, rfl, hH5, hB5⟩
                go_wp2_with fail
                go_roundw
                case rel => exact ⟨k + 1, F ++ [(k : Int)], by omega, fun z h1 h2 h3 => by
                    rw [List.mem_append]
                    by_cases h : z = k
                    · right; simp [h]
                    · left; exact HA.out z h1 h2 (by omega), by go_num, hH5, hBr.trans (hB4.trans hB5)⟩
                case measure => simp [intOf] <;> omega
            · have e1 : givesB 3 n F k = false := by unfold givesB; rw [decide_eq_false_iff_not]; exact fun h => hin ⟨h.1, h.2.1⟩
              have cg := give_is x 3 n k F F false hw e1 (by unfold given; rw [e1]; rfl)
              have HA := hid hall
              clear e1 hall
              by_cases h3 : 3 ≤ (k : Int)
              · have h4 : 3 + n ≤ (k : Int) := by omega
                go_wp2_with fail
                refine (cg.at [] [] hHr).mono ?_
                rintro e w5 ⟨_, rfl, hH5, hB5⟩
                go_wp2_with fail
                go_roundw
                case rel => exact ⟨k + 1, F, by omega, fun z h1 h2 h3 => HA.out z h1 h2 (by omega), by go_num, hH5, hBr.trans hB5⟩
                case measure => simp [intOf] <;> omega
              · go_wp2_with fail
                refine (cg.at [] [] hHr).mono ?_
                rintro e w5 ⟨_, rfl, hH5, hB5⟩
                go_wp2_with fail
                go_roundw
                case rel => exact ⟨k + 1, F, by omega, fun z h1 h2 h3 => HA.out z h1 h2 (by omega), by go_num, hH5, hBr.trans hB5⟩
                case measure => simp [intOf] <;> omega
          · have hfit := hHr.free [] []
            have hfull := freeBack_full hfit (fun z h1 h2 => hall z h1 h2 (by omega))
            have hnd := hfit.nd
            have hrg := hfit.rg
            clear hall hfit
            obtain ⟨N, rfl⟩ : ∃ N : Nat, n = N := ⟨n.toNat, by omega⟩
            have hF : F.length = N := by omega
            have cl := left_is x 3 N N F hfull
            have HND := hid hnd
            have HRG := hid hrg
            have HF := hid hF
            have hzero := zero70
            clear hfull hnd hrg hF
            go_wp2_with fail
            have hN := hHr.newblk wr.heap.size 41 (boolsA (falses 70)) rfl
            have hBN := below_new hBr hHr (.cells (boolsA (falses 70)) 41)
            generalize hsb : wr.heap.size = sb at *
            generalize wr.alloc _ = wa at *
            clear hHr hBr hzero hsb
            refine (cl.at [_] [] hN).mono ?_
            rintro e w5 ⟨_, rfl, hH5, hB5⟩
            go_wp2_with fail
            have hB5 := hBN.trans hB5
            clear hBN hN cl
            go_loopw [12, 13, 14] (fun i _ _ wr => ∃ (m : Nat) (s : List Bool), m ≤ N ∧ s.length = 70 ∧ (∀ z : Nat, (z : Int) ∈ F.take (N - m) → s[z]? = some false) ∧ i = .int .i64 m ∧ Has wr w.heap.size [blk sb 41 (boolsA s), FreeA x 3 N (F.take (N - m))] ∧ Below w.heap.size w wr) (fun i _ _ _ => N - (intOf i).toNat)
            case atStart => exact ⟨0, falses 70, by omega, falses_length 70, fun z hz => by
                have := HRG.out _ (List.mem_of_mem_take hz)
                exact falses_get (by omega), rfl, by simpa [HF.out, List.take_of_length_le] using hH5, hB5⟩
            case round =>
              obtain ⟨m, s, hm, hs, hseen, rfl, hHr, hBr⟩ := hrel
              clear hH5 hB5
              by_cases hlt3 : m < N
              · obtain ⟨d, hd⟩ : ∃ d, N - m = d + 1 := ⟨N - m - 1, by omega⟩
                have hFL := HF.out
                obtain ⟨y, hy⟩ : ∃ y, F[d]? = some y := ⟨F[d], by simp⟩
                have hs1 : F.take (d + 1) = F.take d ++ [y] := by rw [List.take_add_one]; simp [hy]
                have hyr := HRG.out y (List.mem_of_getElem? hy)
                obtain ⟨q, rfl⟩ : ∃ q : Nat, y = q := ⟨y.toNat, by omega⟩
                rw [hd] at hHr hseen
                have hsq := hseen q (by rw [hs1]; simp)
                have hnd1 : ∀ z : Nat, (z : Int) ∈ F.take d → z ≠ q := by
                  intro z hz e
                  subst e
                  have h1 : (F.take (d + 1)).Nodup := List.Nodup.sublist (List.take_sublist _ _) HND.out
                  rw [hs1, List.nodup_append] at h1
                  exact h1.2.2 _ hz _ (by simp) rfl
                have ct := take_is x 3 N q (F.take (d + 1)) (F.take d) true (by rw [hs1]; simp [takeV]) (by rw [hs1]; simp [takeB]) (by rw [hs1]; simp)
                have HS := hid (And.intro hs (And.intro hsq (And.intro hnd1 (And.intro hseen (And.intro hs1 hd)))))
                have q1 : 3 ≤ (q : Int) := hyr.1
                have q2 : (q : Int) < 3 + N := hyr.2
                have q3 : q < 70 := by omega
                clear hFL hy hs1 hyr hsq hnd1 hseen hs hd
                go_wp2_with fail
                refine (ct.at [_] [] hHr).mono ?_
                rintro e w6 ⟨_, rfl, hH6, hB6⟩
                have k1 := hH6.cell [] _ q (boolsA_get HS.out.2.1)
                have k2 := hH6.frozen [] _ q
                go_wp2_with fail
                have hH7 := hH6.set [] _ q (.bool true)
                rw [boolsA_set] at hH7
                go_roundw
                case rel =>
                  obtain ⟨hs, hsq, hnd1, hseen, hs1, hd⟩ := HS.out
                  have e : N - (m + 1) = d := by omega
                  refine ⟨m + 1, s.set q true, by omega, by simpa using hs, fun z hz => ?_, by go_num, by rw [e]; exact hH7, below_set (hBr.trans hB6) [] _ hH6 q _⟩
                  rw [e] at hz
                  rw [List.getElem?_set_ne (fun h => hnd1 z hz h.symm)]
                  exact hseen z (by rw [hs1]; exact List.mem_append_left _ hz)
                case measure => simp [intOf] <;> omega
              · obtain rfl : m = N := by omega
                rw [Nat.sub_self] at hHr
                clear hseen hs
                go_wp2_with fail
                refine ((left_is x 3 m 0 (F.take 0) rfl).at [_] [] hHr).mono ?_
                rintro e w6 ⟨_, rfl, hH6, hB6⟩
                go_wp2_with fail
                go_ret
                exact ⟨rfl, hBr.trans hB6⟩

end Go.Proofs.Ytjbeneiicneidaa
