/-
  FrameApart: a word that is set changes no other one, and no other frame.
-/
import Derived.Test.YtedjanjjfhpcnaaFrameGreat
import Derived.StillTailTactics
namespace Go.Proofs.Ytedjanjjfhpcnaa
open Go.RowKit
set_option linter.unusedVariables false
set_option linter.unusedSimpArgs false

/-- Words that came in, as 'append' reads them. -/
theorem src_addsA {w : World} {a : Option Addr} {l : List Int} (h : SrcU w a l) {b o : Nat} (ha : a = some ⟨b, o, none⟩) : ∀ j u, (u64s l)[j]? = some u → w.cell? ((⟨b, o, none⟩ : Addr).add j) = some u := by
  intro j u hj
  have e : (⟨b, o, none⟩ : Addr).add j = ⟨b, o + j, none⟩ := by unfold Addr.add; split <;> simp_all
  have hl := (List.getElem?_eq_some_iff.1 hj).1
  rw [u64s_length] at hl
  obtain ⟨b', o', e', hlt, hc⟩ := h.mem (by omega)
  rw [ha] at e'
  injection e' with e'
  injection e' with e1 e2 e3
  subst e1 e2
  rw [e]
  exact hc j u hj

theorem take_frame {W : List Int} {k : Nat} (hk : k < 16) : W.take (k * 8) ++ frameW W 16 k = W.take ((k + 1) * 8) := by
  have e : frameW W 16 k = (W.drop (k * 8)).take 8 := by unfold frameW; rw [if_pos ⟨by omega, by omega⟩]; simp
  rw [e, show (k + 1) * 8 = k * 8 + 8 from by omega, List.take_add]

set_option maxHeartbeats 4000000 in
set_option maxRecDepth 100000 in
theorem FrameApart_walk (a : Option Addr) (len cap : Nat) (l : List FOp) (f i v : Int) (w : World) (hA : ArgRow w 5 a len (l.flatMap opC)) (hl : ∀ x ∈ l, FOk w x) (hf : (Lit.int .u8 f).wf = true) (hi : (Lit.int .u8 i).wf = true) (hv : (Lit.int .u64 v).wf = true) :
    Calls Try.prog 7 #[.slice a len cap, .int .u8 f, .int .u8 i, .int .u64 v] w fun e w' => e = .returned (.bool true) ∧ Below w.heap.size w w' := by
  obtain rfl := ops_len hA
  obtain ⟨t0, t1⟩ := bounds_u8 hf
  obtain ⟨t2, t3⟩ := bounds_u8 hi
  obtain ⟨i0, hi0, hz0, hz1, hz2⟩ := info_parts infoU64
  have hs := hA.small
  have hH0 : Has w w.heap.size [] := Has.nil (Nat.le_refl _)
  have HA := hid hA
  have HL := hid hl
  clear hA hl hf hi hv
  go_enter Try.func7, Try.ntmps7
  go_wp2_with fail
  refine (head_true w _ [] hH0).mono ?_
  rintro e w1 ⟨_, rfl, hH1, hB1⟩
  go_wp2_with fail
  refine (MemNew_yes 16 (by decide) (by decide) w1 _ _ hH1).mono ?_
  rintro e w2 ⟨m, rfl, hH2, hB2⟩
  have hB2 := hB1.trans hB2
  clear hH1 hB1 hH0
  go_wp2_with fail
  refine (Great_calls a cap l w2 w HA.out hB2 HL.out).mono ?_
  rintro e w5 ⟨⟨g, rfl⟩, rfl⟩
  cases g with
  | true =>
    go_wp2_with fail
    go_ret
    exact ⟨rfl, hB2⟩
  | false =>
    have hA0 : 0 ≤ f % 16 := Int.emod_nonneg _ (by decide)
    have hA1 : f % 16 < 16 := Int.emod_lt_of_pos _ (by decide)
    have hB0 : 0 ≤ i % 8 := Int.emod_nonneg _ (by decide)
    have hBB : i % 8 < 8 := Int.emod_lt_of_pos _ (by decide)
    go_wp2_with fail
    obtain ⟨A, hA⟩ := Int.eq_ofNat_of_zero_le hA0
    obtain ⟨Bn, hBn⟩ := Int.eq_ofNat_of_zero_le hB0
    rw [hA] at hA1
    rw [hBn] at hBB
    have hA16 : A < 16 := by omega
    have hB8 : Bn < 8 := by omega
    have HAA := hid hA
    have HBB := hid hBn
    clear hA hBn hA0 hB0 hA1 hBB
    go_loopw [11] (fun i wr => ∃ (j : Nat) (W : List Int), j ≤ l.length ∧ i = .int .i64 j ∧ Has wr w.heap.size [MemA m 16 W] ∧ Below w.heap.size w wr) (fun i _ => l.length - (intOf i).toNat)
    case atStart => exact ⟨0, _, by omega, rfl, hH2, hB2⟩
    case round =>
      obtain ⟨j, W, hj, rfl, hHr, hBr⟩ := hrel
      clear hH2 hB2
      by_cases hlt : j < l.length
      · obtain ⟨x, hx⟩ : ∃ x, l[j]? = some x := ⟨l[j], List.getElem?_eq_getElem hlt⟩
        obtain ⟨b, p, rfl, _, _⟩ := HA.out.mem (by omega)
        have k1 := ops_at HA.out hBr rfl hx 1 (u := .int .i64 x.F) rfl
        have k2 := ops_at HA.out hBr rfl hx 2 (u := .int .i64 x.I) rfl
        have k3 := ops_at HA.out hBr rfl hx 3 (u := .int .u64 x.V) rfl
        clear hx
        have hBd : Below w.heap.size w wr.drew := hBr.drew
        have cs := Set_calls m 16 W x.F x.I x.V wr.drew _ _ hHr.drew
        have CS := hid cs
        clear cs
        go_wp2_with fail
        go_still_tail 16, (by kernel_rfl)
        change wpList _ _ _ _ _ (wr.drew)
        go_wp2_with fail
        refine CS.out.mono ?_
        rintro e w5 ⟨rfl, hH5, hB5⟩
        go_wp2_with fail
        go_roundw
        case rel => exact ⟨j + 1, _, by omega, by go_num, hH5, hBd.trans hB5⟩
        case measure => simp [intOf] <;> omega
      · obtain rfl : j = l.length := by omega
        have hWl := (MemA.fits hHr).2.2
        go_wp2_with fail
        obtain ⟨wo, rfl⟩ : ∃ wo : World, wo = wr := ⟨_, rfl⟩
        have hR := hHr.nilrow 29 1
        go_loopw [12, 13] (fun was i wr => ∃ (k : Nat) (v : Value), k ≤ 16 ∧ i = .int .i64 k ∧ was = v ∧ Has wr w.heap.size [MemA m 16 W, row 29 1 v (k * 8) (u64s (W.take (k * 8)))] ∧ Below w.heap.size w wr) (fun _ i _ => 16 - (intOf i).toNat)
        case atStart => exact ⟨0, _, by omega, rfl, rfl, by simpa [u64s] using hR.front [_] _, hBr⟩
        case round =>
          clear hHr hBr hR
          obtain ⟨k, v1, hk, rfl, rfl, hHr, hBr⟩ := hrel
          by_cases hlt : k < 16
          · have hfl := frameW_length hWl (f := (k : Int)) ⟨by omega, by omega⟩
            have HF := hid hfl
            have HT := hid (take_frame (W := W) hlt)
            obtain ⟨ao0, cp0, rfl, _, _, _⟩ := hHr.row_form [_] _
            have cf := Frame_calls m 16 W k wr _ _ hHr
            rw [hfl] at cf
            have CF := hid cf
            clear cf hfl
            go_wp2_with fail
            refine CF.out.mono ?_
            rintro e w5 ⟨v5, rfl, hH5, hB5⟩
            obtain ⟨ao, cp, rfl, _, _, hao⟩ := hH5.row_form [] _
            obtain ⟨g2, rfl⟩ := hao (by omega)
            have HC := hid (src_addsA (srcu_row [] _ hH5 HF.out.symm) rfl)
            go_wp2_with (at_builtin; refine wpList_append_row [_, _] _ hH5 rfl _ _ 30 rfl i0 (.int .u64 0) 8 Try.underlying30 hi0 hz0 hz1 hz2 rfl (by decide) rfl ⟨g2, 0, none⟩ 8 cp (u64s (frameW W 16 k)) rfl (by rw [u64s_length, HF.out]) HC.out (by simp [u64s, Value.oneCell']) (by decide) (by unfold maxLen; omega) (by omega) ?_; intro g3 cap3 w6 hH6 hB6; rw [u64s_app, HT.out] at hH6)
            go_roundw
            case rel => exact ⟨k + 1, _, by omega, by go_num, rfl, by rw [show (k + 1) * 8 = k * 8 + 8 from by omega]; rw [show (k + 1) * 8 = k * 8 + 8 from by omega] at hH6; exact hH6.drop, hBr.trans (hB5.trans hB6)⟩
            case measure => simp [intOf] <;> omega
          · obtain rfl : k = 16 := by omega
            rw [List.take_of_length_le (by omega)] at hHr
            obtain ⟨ao0, cp0, rfl, _, _, hao⟩ := hHr.row_form [_] _
            obtain ⟨g1, rfl⟩ := hao (by omega)
            have hA := HAA.out
            have hBn := HBB.out
            have WL := hid hWl
            obtain ⟨N, hN⟩ : ∃ N : Nat, 8 * (A : Int) + Bn = N := ⟨8 * A + Bn, by omega⟩
            have hN2 : N = A * 8 + Bn := by omega
            have hd : (N : Int) / 8 = A := by omega
            have hd2 : (8 * (A : Int) + Bn) / 8 = A := by omega
            have hm : (N : Int) % 8 = Bn := by omega
            have hm2 : (Bn : Int) % 8 = Bn := by omega
            have hNl : N < 128 := by omega
            have HN2 := hid hN2
            obtain ⟨x, hx⟩ : ∃ x, W[N]? = some x := ⟨_, List.getElem?_eq_getElem (by omega)⟩
            have HX := hid hx
            have hset : setW W 16 A Bn v = W.set N v := by
              have hw : wok 16 A Bn := ⟨by omega, by omega, by omega, by omega⟩
              simp [setW, hw, wat, hN2]
            have cs := Set_calls m 16 W A Bn v wr _ _ hHr
            rw [hset, show decide (wok 16 A Bn) = true from by rw [decide_eq_true_eq]; exact ⟨by omega, by omega, by omega, by omega⟩] at cs
            have CS := hid cs
            clear hWl hN2 hx hset cs
            go_wp2_with fail
            refine CS.out.mono ?_
            rintro e w5 ⟨rfl, hH5, hB5⟩
            have hB5 := hBr.trans hB5
            have cx := hH5.row_cell [_] _ N (u64s_get HX.out)
            have fx := hH5.row_frozen [_] _ N
            have hS := hH5.row_set [_] _ N (by rw [u64s_length, WL.out]; omega) (.int .u64 v)
            rw [u64s_set] at hS
            have hgB : w.heap.size ≤ g1 := by
              rcases hH5.row_shape [_] _ with ⟨h, _⟩ | ⟨g', cap', h, _, _, h3, _⟩
              · cases h
              · cases h; exact h3
            have hBS := hB5.setCell (p := ⟨g1, N, none⟩) hgB (.int .u64 v)
            clear hHr hBr
            go_wp2_with fail
            clear cx fx hH5 hB5 hd hd2 hm hm2 hA hBn hN
            generalize w5.setCell ⟨g1, N, none⟩ (.int .u64 v) = w6 at *
            have hWl2 : (W.set N v).length = 16 * 8 := by rw [List.length_set]; exact WL.out
            generalize W.set N v = V at *
            have WL2 := hid hWl2
            clear hWl2
            obtain ⟨wo, rfl⟩ : ∃ wo : World, wo = wr := ⟨_, rfl⟩
            have hR := hS.nilrow 29 1
            go_loopw [15, 16] (fun now i wr => ∃ (k : Nat) (v : Value), k ≤ 16 ∧ i = .int .i64 k ∧ now = v ∧ Has wr w.heap.size [MemA m 16 V, row 29 1 (.slice (some ⟨g1, 0, none⟩) 128 cp0) 128 (u64s V), row 29 1 v (k * 8) (u64s (V.take (k * 8)))] ∧ Below w.heap.size w wr) (fun _ i _ => 16 - (intOf i).toNat)
            case atStart => exact ⟨0, _, by omega, rfl, rfl, by simpa [u64s] using hR.perm (List.Perm.trans (List.Perm.swap _ _ _) (List.Perm.cons _ (List.Perm.swap _ _ _))), hBS⟩
            case round =>
              clear hR hS hBS
              obtain ⟨k, v1, hk, rfl, rfl, hHr, hBr⟩ := hrel
              by_cases hlt : k < 16
              · have hfl := frameW_length WL2.out (f := (k : Int)) ⟨by omega, by omega⟩
                have HF := hid hfl
                have HT := hid (take_frame (W := V) hlt)
                obtain ⟨ao0, cp1, rfl, _, _, _⟩ := hHr.row_form [_, _] _
                have cf := Frame_calls m 16 V k wr _ _ hHr
                rw [hfl] at cf
                have CF := hid cf
                clear cf hfl
                go_wp2_with fail
                refine CF.out.mono ?_
                rintro e w7 ⟨v5, rfl, hH5, hB5⟩
                obtain ⟨ao, cp, rfl, _, _, hao⟩ := hH5.row_form [] _
                obtain ⟨g2, rfl⟩ := hao (by omega)
                have HC := hid (src_addsA (srcu_row [] _ hH5 HF.out.symm) rfl)
                go_wp2_with (at_builtin; refine wpList_append_row [_, _, _] _ hH5 rfl _ _ 30 rfl i0 (.int .u64 0) 8 Try.underlying30 hi0 hz0 hz1 hz2 rfl (by decide) rfl ⟨g2, 0, none⟩ 8 cp (u64s (frameW V 16 k)) rfl (by rw [u64s_length, HF.out]) HC.out (by simp [u64s, Value.oneCell']) (by decide) (by unfold maxLen; omega) (by omega) ?_; intro g3 cap3 w8 hH6 hB6; rw [u64s_app, HT.out] at hH6)
                go_roundw
                case rel => exact ⟨k + 1, _, by omega, by go_num, rfl, by rw [show (k + 1) * 8 = k * 8 + 8 from by omega]; rw [show (k + 1) * 8 = k * 8 + 8 from by omega] at hH6; exact hH6.drop, hBr.trans (hB5.trans hB6)⟩
                case measure => simp [intOf] <;> omega
              · obtain rfl : k = 16 := by omega
                rw [List.take_of_length_le (by have := WL2.out; omega)] at hHr
                obtain ⟨ao1, cp1, rfl, _, _, _⟩ := hHr.row_form [_, _] _
                have cw := SameWords_calls (some ⟨g1, 0, none⟩) ao1 cp0 cp1 V V wr (srcu_row [_] _ hHr WL2.out.symm) (srcu_row [_, _] _ hHr WL2.out.symm)
                rw [show (V == V) = true from by simp, WL2.out] at cw
                have CW := hid cw
                clear cw
                go_wp2_with fail
                refine (keeps CW.out hHr).mono ?_
                rintro e w9 ⟨rfl, hH9, hB9⟩
                go_wp2_with fail
                go_ret
                exact ⟨rfl, hBr.trans hB9⟩

end Go.Proofs.Ytedjanjjfhpcnaa
