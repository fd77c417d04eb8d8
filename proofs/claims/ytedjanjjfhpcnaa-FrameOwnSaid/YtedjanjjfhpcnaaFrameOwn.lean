/-
  FrameOwn: what is handed out is one's own, and what is handed in is not kept.
-/
import Derived.Test.YtedjanjjfhpcnaaFrameGreat
import Derived.StillTailTactics
namespace Go.Proofs.Ytedjanjjfhpcnaa
open Go.RowKit
set_option linter.unusedVariables false
set_option linter.unusedSimpArgs false

/-- Words that came in, as 'append' reads them. -/
theorem src_adds {w : World} {a : Option Addr} {l : List Int} (h : SrcU w a l) {b o : Nat} (ha : a = some ⟨b, o, none⟩) : ∀ j u, (u64s l)[j]? = some u → w.cell? ((⟨b, o, none⟩ : Addr).add j) = some u := by
  intro j u hj
  have e : (⟨b, o, none⟩ : Addr).add j = ⟨b, o + j, none⟩ := by unfold Addr.add; split <;> simp_all
  have hl := (List.getElem?_eq_some_iff.1 hj).1
  rw [u64s_length] at hl
  obtain ⟨b', o', e', hlt, hc⟩ := h.mem (by omega)
  rw [ha] at e'
  injection e' with e'
  injection e' with e1 e2 e3
  subst e1 e2
  rw [e]
  exact hc j u hj
theorem frame_fill {W : List Int} {n k : Nat} {l : List Int} (hW : W.length = n * 8) (hk : k < n) (hl : l.length = 8) : frameW (fillW W n k l) n k = l := by
  unfold fillW frameW
  rw [if_pos ⟨by omega, by omega⟩, if_pos ⟨by omega, by omega, hl⟩]
  simp only [Int.toNat_natCast]
  have h1 : (W.take (k * 8)).length = k * 8 := by simp; omega
  rw [List.append_assoc, List.drop_append, List.drop_of_length_le (by omega), h1, Nat.sub_self, List.nil_append, List.drop_zero, List.take_append_of_le_length (by omega), List.take_of_length_le (by omega)]

set_option maxHeartbeats 4000000 in
set_option maxRecDepth 100000 in
theorem FrameOwn_walk (a : Option Addr) (len cap : Nat) (l : List Int) (f : Int) (w : World) (hA : ArgRow w 1 a len (u64s l)) (hl : ∀ x ∈ l, (Lit.int .u64 x).wf = true) (hf : (Lit.int .u8 f).wf = true) :
    Calls Try.prog 6 #[.slice a len cap, .int .u8 f] w fun e w' => e = .returned (.bool true) ∧ Below w.heap.size w w' := by
  obtain rfl : l.length = len := by have := hA.lc; rw [u64s_length] at this; omega
  obtain ⟨t0, t1⟩ := bounds_u8 hf
  have hH0 : Has w w.heap.size [] := Has.nil (Nat.le_refl _)
  have HS := hid hA.srcu
  clear hA hl hf
  by_cases h8 : l.length = 8
  · obtain ⟨i0, hi, hz0, hz1, hz2⟩ := info_parts infoU64
    have hA0 : 0 ≤ f % 16 := Int.emod_nonneg _ (by decide)
    have hA1 : f % 16 < 16 := Int.emod_lt_of_pos _ (by decide)
    obtain ⟨A, hA⟩ := Int.eq_ofNat_of_zero_le hA0
    have hA16 : A < 16 := by omega
    have HAA := hid hA
    have H8 := hid h8
    clear hA hA0 hA1
    rw [h8]
    clear h8
    go_enter Try.func6, Try.ntmps6
    go_wp2_with fail
    refine (head_true w _ [] hH0).mono ?_
    rintro e w1 ⟨_, rfl, hH1, hB1⟩
    go_wp2_with fail
    refine (MemNew_yes 16 (by decide) (by decide) w1 _ _ hH1).mono ?_
    rintro e w2 ⟨m, rfl, hH2, hB2⟩
    have hB2 := hB1.trans hB2
    clear hH1 hB1 hH0
    have hA := HAA.out
    have hN := hH2.newrow w2.heap.size 29 1 rfl
    have hBN := hB2.trans (below_new (Below.refl _ w2) hH2 (.cells #[] 29))
    obtain ⟨gb, o, rfl, hgb, hc⟩ := HS.out.mem (by have := H8.out; omega)
    have HC := hid (src_adds (HS.out.later hBN) rfl)
    clear hgb hc
    go_wp2_with (at_builtin; refine wpList_append_rows [] _ hN rfl _ _ 30 rfl i0 (.int .u64 0) 8 Try.underlying30 hi hz0 hz1 hz2 rfl (by decide) rfl (some ⟨gb, o, none⟩) 8 cap (u64s l) rfl (by simp) (by rw [u64s_length, H8.out]) (by intro ad h; cases h; exact HC.out) (by simp [u64s, Value.oneCell']) (by unfold maxLen; omega) (by omega) ?_; intro g1 cap1 w3 hH3 hB3; simp only [Nat.zero_add, List.nil_append] at hH3 ⊢)
    have hB3 := hBN.trans hB3
    clear hN hBN hB2 hH2 HC hA
    have cf := Fill_calls m 16 (List.replicate (16 * 8) 0) A (some ⟨g1, 0, none⟩) cap1 l w3 (srcu_row [] _ hH3 H8.out.symm) _ _ (hH3.front [_] _)
    rw [H8.out, show decide ((0 : Int) ≤ (A : Int) ∧ (A : Int) < (16 : Nat) ∧ (8 : Nat) = 8) = true from by rw [decide_eq_true_eq]; omega] at cf
    have CF := hid cf
    clear cf
    refine CF.out.mono ?_
    rintro e w4 ⟨rfl, hH4, hB4⟩
    have hB4 := hB3.trans hB4
    clear hH3 hB3
    go_wp2_with fail
    go_loopw [9] (fun i wr => ∃ (k : Nat) (X : List Int), k ≤ 8 ∧ X.length = 8 ∧ i = .int .i64 k ∧ Has wr w.heap.size [MemA m 16 (fillW (List.replicate (16 * 8) 0) 16 A l), row 29 1 (.slice (some ⟨g1, 0, none⟩) 8 cap1) 8 (u64s X)] ∧ Below w.heap.size w wr) (fun i _ => 8 - (intOf i).toNat)
    case atStart => exact ⟨0, l, by omega, H8.out, rfl, hH4, hB4⟩
    case round =>
      obtain ⟨k, X, hk, hX, rfl, hHr, hBr⟩ := hrel
      clear hH4 hB4
      by_cases hlt : k < 8
      · obtain ⟨x, hx⟩ : ∃ x, X[k]? = some x := ⟨_, List.getElem?_eq_getElem (by omega)⟩
        have cx := hHr.row_cell [_] _ k (u64s_get hx)
        have fx := hHr.row_frozen [_] _ k
        have hS := fun Z : Int => hHr.row_set [_] _ k (by rw [u64s_length]; omega) (.int .u64 Z)
        have hgB : w.heap.size ≤ g1 := by
          rcases hHr.row_shape [_] _ with ⟨h, _⟩ | ⟨g', cap', h, _, _, h3, _⟩
          · cases h
          · cases h; exact h3
        have SS := hid hS
        clear hx hS
        go_wp2_with fail
        go_roundw
        case rel => exact ⟨k + 1, X.set k _, by omega, by simpa using hX, by go_num, by rw [← u64s_set]; exact SS.out _, hBr.setCell (p := ⟨g1, k, none⟩) hgB _⟩
        case measure => simp [intOf] <;> omega
      · obtain rfl : k = 8 := by omega
        clear hX hk
        have hWl := (MemA.fits hHr).2.2
        have hfr := frame_fill (W := List.replicate (16 * 8) 0) (n := 16) (k := A) (l := l) (by simp) hA16 H8.out
        generalize fillW (List.replicate (16 * 8) 0) 16 A l = W at *
        have cf := Frame_calls m 16 W A wr _ _ hHr
        rw [hfr, H8.out] at cf
        have CF2 := hid cf
        have HFR := hid hfr
        clear cf hfr CF
        go_wp2_with fail
        refine CF2.out.mono ?_
        rintro e w5 ⟨v5, rfl, hH5, hB5⟩
        have hB5 := hBr.trans hB5
        obtain ⟨ao, cp, rfl, _, _, hao⟩ := hH5.row_form [] _
        obtain ⟨g2, rfl⟩ := hao (by omega)
        have cs := SameWords_calls (some ⟨g2, 0, none⟩) (some ⟨gb, o, none⟩) cp cap l l w5 (srcu_row [] _ hH5 H8.out.symm) (HS.out.later hB5)
        rw [show (l == l) = true from by simp, H8.out] at cs
        have CS := hid cs
        clear cs hHr hBr CF2
        go_wp2_with fail
        refine (keeps CS.out hH5).mono ?_
        rintro e w6 ⟨rfl, hH6, hB6⟩
        have hB6 := hB5.trans hB6
        clear hH5 hB5 CS
        go_wp2_with fail
        obtain ⟨wo, rfl⟩ : ∃ wo : World, wo = wr := ⟨_, rfl⟩
        have hH7 := (hH6.front [_] _)
        go_loopw [11] (fun i wr => ∃ (k : Nat) (X : List Int), k ≤ 8 ∧ X.length = 8 ∧ i = .int .i64 k ∧ Has wr w.heap.size [MemA m 16 W, row 29 1 (.slice (some ⟨g2, 0, none⟩) 8 cp) 8 (u64s X)] ∧ Below w.heap.size w wr) (fun i _ => 8 - (intOf i).toNat)
        case atStart => exact ⟨0, l, by omega, H8.out, rfl, ((hH6.front [_, _] _).drop).front [_] _, hB6⟩
        case round =>
          clear hH6 hB6 hH7
          obtain ⟨k, X, hk, hX, rfl, hHr, hBr⟩ := hrel
          by_cases hlt : k < 8
          · obtain ⟨x, hx⟩ : ∃ x, X[k]? = some x := ⟨_, List.getElem?_eq_getElem (by omega)⟩
            have cx := hHr.row_cell [_] _ k (u64s_get hx)
            have fx := hHr.row_frozen [_] _ k
            have hS := fun Z : Int => hHr.row_set [_] _ k (by rw [u64s_length]; omega) (.int .u64 Z)
            have hgB : w.heap.size ≤ g2 := by
              rcases hHr.row_shape [_] _ with ⟨h, _⟩ | ⟨g', cap', h, _, _, h3, _⟩
              · cases h
              · cases h; exact h3
            have SS := hid hS
            clear hx hS
            go_wp2_with fail
            go_roundw
            case rel => exact ⟨k + 1, X.set k _, by omega, by simpa using hX, by go_num, by rw [← u64s_set]; exact SS.out _, hBr.setCell (p := ⟨g2, k, none⟩) hgB _⟩
            case measure => simp [intOf] <;> omega
          · obtain rfl : k = 8 := by omega
            clear hX hk
            have cf := Frame_calls m 16 W A wr _ _ hHr
            rw [HFR.out, H8.out] at cf
            have CF2 := hid cf
            clear cf
            go_wp2_with fail
            refine CF2.out.mono ?_
            rintro e w8 ⟨v5, rfl, hH8, hB8⟩
            have hB8 := hBr.trans hB8
            obtain ⟨ao, cp, rfl, _, _, _⟩ := hH8.row_form [] _
            have cs := SameWords_calls ao (some ⟨gb, o, none⟩) cp cap l l w8 (srcu_row [] _ hH8 H8.out.symm) (HS.out.later hB8)
            rw [show (l == l) = true from by simp, H8.out] at cs
            have CS := hid cs
            clear cs hHr hBr CF2
            go_wp2_with fail
            refine (keeps CS.out hH8).mono ?_
            rintro e w9 ⟨rfl, hH9, hB9⟩
            go_wp2_with fail
            go_ret
            exact ⟨rfl, hB8.trans hB9⟩
  · have e1 : (l.length == 8) = false := by rw [beq_eq_false_iff_ne]; exact h8
    have e2 : ((l.length : Int) == 8) = false := by rw [beq_eq_false_iff_ne]; omega
    go_enter Try.func6, Try.ntmps6
    go_wp2_with fail
    refine (head_true w _ [] hH0).mono ?_
    rintro e w1 ⟨_, rfl, hH1, hB1⟩
    go_wp2_with fail
    refine (MemNew_yes 16 (by decide) (by decide) w1 _ _ hH1).mono ?_
    rintro e w2 ⟨m, rfl, hH2, hB2⟩
    go_wp2_with fail
    go_ret
    exact ⟨rfl, hB1.trans hB2⟩

end Go.Proofs.Ytedjanjjfhpcnaa
