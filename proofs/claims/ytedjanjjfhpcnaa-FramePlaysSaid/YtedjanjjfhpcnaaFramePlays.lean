/-
  FramePlays: calls of a memory of any size answer as the document says; so do all its frames.
-/
import Derived.Test.YtedjanjjfhpcnaaFrameRef
import Derived.Deep.RegionHeld3
namespace Go.Proofs.Ytedjanjjfhpcnaa
open Go.RowKit
set_option linter.unusedVariables false
set_option linter.unusedSimpArgs false

set_option maxHeartbeats 4000000 in
set_option maxRecDepth 100000 in
theorem FramePlays_walk (frames : Int) (a : Option Addr) (len cap : Nat) (l : List FOp) (w : World) (hfr : (Lit.int .i64 frames).wf = true) (hA : ArgRow w 5 a len (l.flatMap opC)) (hl : ∀ x ∈ l, FOk w x) :
    Calls Try.prog 3 #[.int .i64 frames, .slice a len cap] w fun e w' => e = .returned (.bool true) ∧ Below w.heap.size w w' := by
  obtain rfl := ops_len hA
  have hs := hA.small
  have hH0 : Has w w.heap.size [] := Has.nil (Nat.le_refl _)
  have HA := hid hA
  have HL := hid hl
  clear hA hl hfr
  go_enter Try.func3, Try.ntmps3
  go_wp2_with fail
  refine (head_true w _ [] hH0).mono ?_
  rintro e w1 ⟨_, rfl, hH1, hB1⟩
  go_wp2_with fail
  refine (Great_calls a cap l w1 w HA.out hB1 HL.out).mono ?_
  rintro e w2 ⟨⟨g, rfl⟩, rfl⟩
  cases g with
  | true =>
    go_wp2_with fail
    go_ret
    exact ⟨rfl, hB1⟩
  | false =>
    go_wp2_with fail
    by_cases hfr : 1 ≤ frames ∧ frames ≤ 256
    · obtain ⟨n, rfl⟩ := Int.eq_ofNat_of_zero_le (show 0 ≤ frames by omega)
      have hn1 : 1 ≤ n := by omega
      have hn2 : n ≤ 256 := by omega
      refine (MemNew_yes n hn1 hn2 w1 _ _ hH1).mono ?_
      rintro e w3 ⟨m, rfl, hH3, hB3⟩
      have hB3 := hB1.trans hB3
      clear hH1 hB1 hH0
      go_wp2_with fail
      refine (RMemNew_calls n w3 _ _ hH3).mono ?_
      rintro e w4 (⟨h, _⟩ | ⟨r, n', hnn, _, _, rfl, hH4, hB4⟩)
      · exact absurd hfr h
      · obtain rfl : n = n' := by omega
        have hB4 := hB3.trans hB4
        clear hH3 hB3 hnn hfr
        go_wp2_with fail
        go_loopw [8, 9, 10, 11, 12, 13, 14, 15, 16] (fun i _ _ _ _ _ _ _ _ wr => ∃ (j : Nat) (W : List Int), j ≤ l.length ∧ i = .int .i64 j ∧ Has wr w.heap.size [RMemA r n W, MemA m n W] ∧ Below w.heap.size w wr) (fun i _ _ _ _ _ _ _ _ _ => l.length - (intOf i).toNat)
        case atStart => exact ⟨0, _, by omega, rfl, hH4, hB4⟩
        case round =>
          obtain ⟨j, W, hj, rfl, hHr, hBr⟩ := hrel
          clear hH4 hB4
          by_cases hlt : j < l.length
          · obtain ⟨x, hx⟩ : ∃ x, l[j]? = some x := ⟨l[j], List.getElem?_eq_getElem hlt⟩
            have hok := HL.out x (List.mem_of_getElem? hx)
            obtain ⟨b, o, rfl, _, _⟩ := HA.out.mem (by omega)
            have P1 := hid (ops_adds HA.out hBr rfl hx)
            have HOK := hid hok
            clear hx hok
            obtain ⟨sb, hsb⟩ : ∃ sb, wr.heap.size = sb := ⟨_, rfl⟩
            have tok1 : True := trivial
            have tok2 : True := trivial
            by_cases h3 : x.What = 3
            · have e1 : (x.What == 3) = true := by rw [beq_iff_eq]; exact h3
              clear h3
              go_wp2_with (first
                | (have _t := tok1; refine wpList_load_at 32 (.tmp 48) rfl rfl ⟨b, o + j * 5, none⟩ rfl _ (opC x) P1.out Try.underlying32 rfl op_size ?_; clear _t tok1)
                | (have _t := tok2; refine wpList_store_all [] _ (hHr.newblk sb 32 opZ hsb) 32 (.tmp 9) (.tmp 49) rfl rfl rfl _ rfl op_size' rfl (op_one x) ?_; clear _t tok2; intro w4 hH4 hB4 hz4; clear hz4; have k0 := hH4.cell [] _ 0 (v := .int .i64 x.What) rfl; have k1 := hH4.cell [] _ 1 (v := .int .i64 x.F) rfl; have k2 := hH4.cell [] _ 2 (v := .int .i64 x.I) rfl; have k3 := hH4.cell [] _ 3 (v := .int .u64 x.V) rfl; have k4 := hH4.cell [] _ 4 (v := .slice x.La x.L.length x.Lc) rfl))
              have hB4 := hBr.trans ((below_new (Below.refl _ _) hHr _).trans hB4)
              clear hsb
              have cf := Fill_calls m n W x.F x.La x.Lc x.L w4 (HOK.out.src.later hB4) _ _ (hH4.front [_, _] _)
              obtain ⟨dd, hdd⟩ : ∃ dd, decide (0 ≤ x.F ∧ x.F < (n : Int) ∧ x.L.length = 8) = dd := ⟨_, rfl⟩
              have HDD := hid hdd
              rw [hdd] at cf
              clear hdd
              have CF := hid cf
              clear cf
              refine CF.out.mono ?_
              rintro e w5 ⟨rfl, hH5, hB5⟩
              have hB5 := hB4.trans hB5
              have k1 := hH5.cell [_] _ 1 (v := .int .i64 x.F) rfl
              have k4 := hH5.cell [_] _ 4 (v := .slice x.La x.L.length x.Lc) rfl
              have cg := RFill_calls r n W x.F x.La x.Lc x.L w5 (HOK.out.src.later hB5) _ _ (hH5.front [_, _] _) (fun h0 bb ob hb => by
                obtain ⟨b', o', e', hlt, _⟩ := HOK.out.src.mem h0
                rw [hb] at e'
                injection e' with e'
                injection e' with e1 e2 e3
                omega)
              rw [HDD.out] at cg
              have CG := hid cg
              clear cg CF hH4 hB4 hHr hBr HDD
              generalize fillW W n x.F x.L = V at *
              cases dd
              all_goals (
                go_wp2_with fail
                refine CG.out.mono ?_
                rintro e w6 ⟨rfl, hH6, hB6⟩
                have hB6 := hB5.trans hB6
                have k1 := hH6.cell [_, _] _ 1 (v := .int .i64 x.F) rfl
                clear CG hH5 hB5
                go_wp2_with fail
                go_region_held3 (fun W => W.cell? ⟨sb, 1, none⟩ = some (.int .i64 x.F)) (first | assumption | go_keep) (first
                  | (go_at_call 20; refine (Frame_calls m n V x.F w6.drew _ _ (hH6.drew.front [_] _)).mono ?_; rintro e w7 ⟨v7, rfl, hH7, hB7⟩; obtain ⟨ao7, cp7, rfl, _, _, _⟩ := hH7.row_form [] _; have k1b := hH7.cell [_, _, _] _ 1 (v := .int .i64 x.F) rfl)
                  | (go_at_call 21; refine (RFrame_calls r n V x.F w7 _ _ (hH7.front [_, _] _)).mono ?_; rintro e w8 ⟨v8, rfl, hH8, hB8⟩; obtain ⟨ao8, cp8, rfl, _, _, _⟩ := hH8.row_form [] _; have k1c := hH8.cell [_, _, _, _] _ 1 (v := .int .i64 x.F) rfl)
                  | (go_at_call 19; refine (keeps (SameWords_calls ao7 ao8 cp7 cp8 (frameW V n x.F) (frameW V n x.F) w8 (srcu_row [_, _] _ hH8 rfl) (srcu_row [] _ hH8 rfl)) hH8).mono ?_; rintro e w9 ⟨rfl, hH9, hB9⟩; rw [show (frameW V n x.F == frameW V n x.F) = true from by simp]; have k1d := hH9.cell [_, _, _, _] _ 1 (v := .int .i64 x.F) rfl))
                all_goals (
                  have hB9 := (Below.drew hB6).trans (hB7.trans (hB8.trans hB9))
                  clear hH6 hB6 hH7 hB7 hH8 hB8
                  go_wp2_with fail
                  go_roundw
                  case rel => exact ⟨j + 1, V, by omega, by go_num, ((hH9.drop.front [_] _).drop.front [_, _] _).drop, hB9⟩
                  case measure => simp [intOf] <;> omega))
            · have e1 : (x.What == 3) = false := by rw [beq_eq_false_iff_ne]; exact h3
              by_cases h4 : x.What = 4
              · have e2 : (x.What == 4) = true := by rw [beq_iff_eq]; exact h4
                clear h3 h4
                go_wp2_with (first
                  | (have _t := tok1; refine wpList_load_at 32 (.tmp 48) rfl rfl ⟨b, o + j * 5, none⟩ rfl _ (opC x) P1.out Try.underlying32 rfl op_size ?_; clear _t tok1)
                  | (have _t := tok2; refine wpList_store_all [] _ (hHr.newblk sb 32 opZ hsb) 32 (.tmp 9) (.tmp 49) rfl rfl rfl _ rfl op_size' rfl (op_one x) ?_; clear _t tok2; intro w4 hH4 hB4 hz4; clear hz4; have k0 := hH4.cell [] _ 0 (v := .int .i64 x.What) rfl; have k1 := hH4.cell [] _ 1 (v := .int .i64 x.F) rfl; have k2 := hH4.cell [] _ 2 (v := .int .i64 x.I) rfl; have k3 := hH4.cell [] _ 3 (v := .int .u64 x.V) rfl; have k4 := hH4.cell [] _ 4 (v := .slice x.La x.L.length x.Lc) rfl))
                have hB4 := hBr.trans ((below_new (Below.refl _ _) hHr _).trans hB4)
                clear hsb
                have hH6 := (hH4.front [_, _] _).front [_, _] _
                have hB6 := hB4
                have cf := Get_calls m n W x.F x.I w4 _ _ (hH6.front [_] _)
                have cg := RGet_calls r n W x.F x.I w4 _ _ hH6
                obtain ⟨c1, c2, hgr⟩ : ∃ c1 c2, getR W n x.F x.I = .tuple #[.int .u64 c1, .bool c2] := ⟨_, _, rfl⟩
                rw [hgr] at cf cg
                have CF := hid cf
                have CG := hid cg
                clear cf cg hgr hH4 hB4 hHr hBr
                cases c2
                all_goals (
                refine CF.out.mono ?_
                rintro e w5 ⟨rfl, rfl⟩
                go_wp2_with fail
                refine CG.out.mono ?_
                rintro e w6 ⟨rfl, rfl⟩
                obtain ⟨w6, rfl⟩ : ∃ w6 : World, w6 = w4 := ⟨_, rfl⟩
                clear CF CG
                obtain ⟨V, rfl⟩ : ∃ V : List Int, V = W := ⟨_, rfl⟩
                go_wp2_with fail
                go_region_held3 (fun W => W.cell? ⟨sb, 1, none⟩ = some (.int .i64 x.F)) (first | assumption | go_keep) (first
                  | (go_at_call 20; refine (Frame_calls m n V x.F w6.drew _ _ (hH6.drew.front [_] _)).mono ?_; rintro e w7 ⟨v7, rfl, hH7, hB7⟩; obtain ⟨ao7, cp7, rfl, _, _, _⟩ := hH7.row_form [] _; have k1b := hH7.cell [_, _, _] _ 1 (v := .int .i64 x.F) rfl)
                  | (go_at_call 21; refine (RFrame_calls r n V x.F w7 _ _ (hH7.front [_, _] _)).mono ?_; rintro e w8 ⟨v8, rfl, hH8, hB8⟩; obtain ⟨ao8, cp8, rfl, _, _, _⟩ := hH8.row_form [] _; have k1c := hH8.cell [_, _, _, _] _ 1 (v := .int .i64 x.F) rfl)
                  | (go_at_call 19; refine (keeps (SameWords_calls ao7 ao8 cp7 cp8 (frameW V n x.F) (frameW V n x.F) w8 (srcu_row [_, _] _ hH8 rfl) (srcu_row [] _ hH8 rfl)) hH8).mono ?_; rintro e w9 ⟨rfl, hH9, hB9⟩; rw [show (frameW V n x.F == frameW V n x.F) = true from by simp]; have k1d := hH9.cell [_, _, _, _] _ 1 (v := .int .i64 x.F) rfl))
                all_goals (
                  have hB9 := (Below.drew hB6).trans (hB7.trans (hB8.trans hB9))
                  clear hH6 hB6 hH7 hB7 hH8 hB8
                  go_wp2_with fail
                  go_roundw
                  case rel => exact ⟨j + 1, V, by omega, by go_num, ((hH9.drop.front [_] _).drop.front [_, _] _).drop, hB9⟩
                  case measure => simp [intOf] <;> omega))
              · have e2 : (x.What == 4) = false := by rw [beq_eq_false_iff_ne]; exact h4
                clear h3 h4
                go_wp2_with (first
                  | (have _t := tok1; refine wpList_load_at 32 (.tmp 48) rfl rfl ⟨b, o + j * 5, none⟩ rfl _ (opC x) P1.out Try.underlying32 rfl op_size ?_; clear _t tok1)
                  | (have _t := tok2; refine wpList_store_all [] _ (hHr.newblk sb 32 opZ hsb) 32 (.tmp 9) (.tmp 49) rfl rfl rfl _ rfl op_size' rfl (op_one x) ?_; clear _t tok2; intro w4 hH4 hB4 hz4; clear hz4; have k0 := hH4.cell [] _ 0 (v := .int .i64 x.What) rfl; have k1 := hH4.cell [] _ 1 (v := .int .i64 x.F) rfl; have k2 := hH4.cell [] _ 2 (v := .int .i64 x.I) rfl; have k3 := hH4.cell [] _ 3 (v := .int .u64 x.V) rfl; have k4 := hH4.cell [] _ 4 (v := .slice x.La x.L.length x.Lc) rfl))
                have hB4 := hBr.trans ((below_new (Below.refl _ _) hHr _).trans hB4)
                clear hsb
                have cf := Set_calls m n W x.F x.I x.V w4 _ _ (hH4.front [_, _] _)
                obtain ⟨dd, hdd⟩ : ∃ dd, decide (wok n x.F x.I) = dd := ⟨_, rfl⟩
                have HDD := hid hdd
                rw [hdd] at cf
                clear hdd
                have CF := hid cf
                clear cf
                refine CF.out.mono ?_
                rintro e w5 ⟨rfl, hH5, hB5⟩
                have hB5 := hB4.trans hB5
                have k1 := hH5.cell [_] _ 1 (v := .int .i64 x.F) rfl
                have k2 := hH5.cell [_] _ 2 (v := .int .i64 x.I) rfl
                have k3 := hH5.cell [_] _ 3 (v := .int .u64 x.V) rfl
                have cg := RSet_calls r n W x.F x.I x.V w5 _ _ (hH5.front [_, _] _)
                rw [HDD.out] at cg
                have CG := hid cg
                clear cg CF hH4 hB4 hHr hBr HDD
                generalize setW W n x.F x.I x.V = V at *
                cases dd
                all_goals (
                  go_wp2_with fail
                  refine CG.out.mono ?_
                  rintro e w6 ⟨rfl, hH6, hB6⟩
                  have hB6 := hB5.trans hB6
                  have k1 := hH6.cell [_, _] _ 1 (v := .int .i64 x.F) rfl
                  clear CG hH5 hB5
                  go_wp2_with fail
                  go_region_held3 (fun W => W.cell? ⟨sb, 1, none⟩ = some (.int .i64 x.F)) (first | assumption | go_keep) (first
                    | (go_at_call 20; refine (Frame_calls m n V x.F w6.drew _ _ (hH6.drew.front [_] _)).mono ?_; rintro e w7 ⟨v7, rfl, hH7, hB7⟩; obtain ⟨ao7, cp7, rfl, _, _, _⟩ := hH7.row_form [] _; have k1b := hH7.cell [_, _, _] _ 1 (v := .int .i64 x.F) rfl)
                    | (go_at_call 21; refine (RFrame_calls r n V x.F w7 _ _ (hH7.front [_, _] _)).mono ?_; rintro e w8 ⟨v8, rfl, hH8, hB8⟩; obtain ⟨ao8, cp8, rfl, _, _, _⟩ := hH8.row_form [] _; have k1c := hH8.cell [_, _, _, _] _ 1 (v := .int .i64 x.F) rfl)
                    | (go_at_call 19; refine (keeps (SameWords_calls ao7 ao8 cp7 cp8 (frameW V n x.F) (frameW V n x.F) w8 (srcu_row [_, _] _ hH8 rfl) (srcu_row [] _ hH8 rfl)) hH8).mono ?_; rintro e w9 ⟨rfl, hH9, hB9⟩; rw [show (frameW V n x.F == frameW V n x.F) = true from by simp]; have k1d := hH9.cell [_, _, _, _] _ 1 (v := .int .i64 x.F) rfl))
                  all_goals (
                    have hB9 := (Below.drew hB6).trans (hB7.trans (hB8.trans hB9))
                    clear hH6 hB6 hH7 hB7 hH8 hB8
                    go_wp2_with fail
                    go_roundw
                    case rel => exact ⟨j + 1, V, by omega, by go_num, ((hH9.drop.front [_] _).drop.front [_, _] _).drop, hB9⟩
                    case measure => simp [intOf] <;> omega))
          · obtain rfl : j = l.length := by omega
            go_wp2_with fail
            obtain ⟨wo, rfl⟩ : ∃ wo : World, wo = wr := ⟨_, rfl⟩
            go_loopw [17] (fun i wr => ∃ z : Int, -1 ≤ z ∧ z ≤ n + 1 ∧ i = .int .i64 z ∧ Has wr w.heap.size [RMemA r n W, MemA m n W] ∧ Below w.heap.size w wr) (fun i _ => ((n : Int) + 1 - intOf i).toNat)
            case atStart => exact ⟨-1, by omega, by omega, rfl, hHr, hBr⟩
            case round =>
              clear hHr hBr
              obtain ⟨z, hz1, hz2, rfl, hHr, hBr⟩ := hrel
              have cn := Frames_calls m n W wr _ _ (hHr.front [_] _)
              have CN := hid cn
              clear cn
              go_wp2_with fail
              refine CN.out.mono ?_
              rintro e w6 ⟨rfl, rfl⟩
              obtain ⟨w6, rfl⟩ : ∃ w6 : World, w6 = wr := ⟨_, rfl⟩
              clear CN
              obtain ⟨V, rfl⟩ : ∃ V : List Int, V = W := ⟨_, rfl⟩
              by_cases hzn : z ≤ n
              · have e1 : decide (z ≤ (n : Int)) = true := by rw [decide_eq_true_eq]; exact hzn
                have hH6 := hHr
                have hB6 := hBr
                clear hHr hBr
                have cf := Frame_calls m n V (z) w6 _ _ (hH6.front [_] _)
                have CF := hid cf
                clear cf
                go_wp2_with fail
                refine CF.out.mono ?_
                rintro e w7 ⟨v7, rfl, hH7, hB7⟩
                have hB7 := hB6.trans hB7
                have cg := RFrame_calls r n V (z) w7 _ _ (hH7.front [_, _] _)
                have CG := hid cg
                clear cg CF hH6 hB6
                obtain ⟨ao7, cp7, rfl, _, _, _⟩ := hH7.row_form [] _
                go_wp2_with fail
                refine CG.out.mono ?_
                rintro e w8 ⟨v8, rfl, hH8, hB8⟩
                have hB8 := hB7.trans hB8
                obtain ⟨ao8, cp8, rfl, _, _, _⟩ := hH8.row_form [] _
                have cw := SameWords_calls ao7 ao8 cp7 cp8 (frameW V n (z)) (frameW V n (z)) w8 (srcu_row [_, _] _ hH8 rfl) (srcu_row [] _ hH8 rfl)
                rw [show (frameW V n (z) == frameW V n (z)) = true from by simp] at cw
                have CW := hid cw
                clear cw CG hH7 hB7
                go_wp2_with fail
                refine (keeps CW.out hH8).mono ?_
                rintro e w9 ⟨rfl, hH9, hB9⟩
                have hB9 := hB8.trans hB9
                clear hH8 hB8 CW
                go_wp2_with fail
                go_roundw
                case rel => exact ⟨z + 1, by omega, by omega, by go_num, (hH9.drop.front [_] _).drop, hB9⟩
                case measure => simp [intOf] <;> omega
              · have e1 : decide (z ≤ (n : Int)) = false := by rw [decide_eq_false_iff_not]; exact hzn
                have ca := Frames_calls m n V w6 _ _ (hHr.front [_] _)
                have cb := RFrames_calls r n V w6 _ _ hHr
                have CA := hid ca
                have CB := hid cb
                clear ca cb
                go_wp2_with fail
                refine CA.out.mono ?_
                rintro e w7 ⟨rfl, rfl⟩
                go_wp2_with fail
                refine CB.out.mono ?_
                rintro e w7 ⟨rfl, rfl⟩
                go_wp2_with fail
                go_ret
                exact ⟨rfl, hBr⟩
    · refine (MemNew_no frames hfr w1 _ _ hH1).mono ?_
      rintro e w3 ⟨rfl, hH3, hB3⟩
      have hB3 := hB1.trans hB3
      go_wp2_with fail
      refine (RMemNew_calls frames w3 _ _ hH3).mono ?_
      rintro e w4 (⟨_, rfl, hH4, hB4⟩ | ⟨r, n', hnn, h1, h2, _⟩)
      · go_wp2_with fail
        go_ret
        exact ⟨rfl, hB3.trans hB4⟩
      · exact absurd ⟨by omega, by omega⟩ hfr

end Go.Proofs.Ytedjanjjfhpcnaa
