/-
  GmapOwn: what is handed in is not kept.
-/
import Derived.Test.YtljejmembogioaaGmapArgs0
namespace Go.Proofs.Ytljejmembogioaa
open Go.RowKit
set_option linter.unusedVariables false
set_option linter.unusedSimpArgs false

set_option maxHeartbeats 4000000 in
set_option maxRecDepth 100000 in
theorem GmapOwn_walk (a : Option Addr) (len cap : Nat) (l : List Int) (frames : Int) (w : World) (hA0 : IntsArg w a len cap l) (hl : ∀ x ∈ l, (Lit.int .i64 x).wf = true) (hf : (Lit.int .i64 frames).wf = true) :
    Calls Try.prog 6 #[.slice a len cap, .int .i64 frames] w fun e w' => e = .returned (.bool true) ∧ Below w.heap.size w w' := by
  obtain ⟨hA, hnil⟩ := hA0
  obtain rfl : l.length = len := by have := hA.lc; simpa using this
  have HNIL := hid hnil
  clear hnil
  have hH0 : Has w w.heap.size [] := Has.nil (Nat.le_refl _)
  obtain ⟨i0, hi, hz0, hz1, hz2⟩ := info_parts infoInt
  have HA := hid hA
  have HL := hid hl
  clear hA hl
  by_cases hbig : 2000 < l.length
  · have e1 : decide (2000 < l.length) = true := by rw [decide_eq_true_eq]; omega
    go_enter Try.func6, Try.ntmps6
    go_wp2_with fail
    refine (head_true w _ [] hH0).mono ?_
    rintro e w1 ⟨_, rfl, hH1, hB1⟩
    go_wp2_with fail
    go_ret
    exact ⟨rfl, hB1⟩
  · have e1 : decide (2000 < l.length) = false := by rw [decide_eq_false_iff_not]; omega
    go_enter Try.func6, Try.ntmps6
    go_wp2_with fail
    refine (head_true w _ [] hH0).mono ?_
    rintro e w1 ⟨_, rfl, hH1, hB1⟩
    have hN := hH1.newrow w1.heap.size 3 1 rfl
    have hBN := hB1.trans (below_new (Below.refl _ w1) hH1 (.cells #[] 3))
    have HC := hid (HA.out.adds hBN)
    go_wp2_with (at_builtin; refine wpList_append_rows [] _ hN rfl _ _ 22 rfl i0 (.int .i64 0) 8 Try.underlying22 hi hz0 hz1 hz2 rfl (by decide) rfl a l.length cap (l.map (Value.int .i64)) rfl HNIL.out (by simp) HC.out (by simp [Value.oneCell']) (by unfold maxLen; omega) (by omega) ?_; intro g1 cap1 w2 hH2 hB2; simp only [Nat.zero_add, List.nil_append] at hH2 ⊢)
    have hB2 := hBN.trans hB2
    clear hN hBN hB1 hH1 hH0
    refine (New_calls _ cap1 l frames _ (src_row [] [] hH2 (by omega) HL.out) hH2).mono ?_
    rintro e w3 (⟨hn, rfl, hH3, hB3⟩ | ⟨hg, b, rfl, hH3, hB3⟩)
    · clear hn
      go_wp2_with fail
      go_ret
      exact ⟨rfl, hB2.trans hB3⟩
    · obtain ⟨k1, k2, k3, k4, k5, k6⟩ := hg
      have HG5 := hid k5
      have HG6 := hid k6
      have hB3 := hB2.trans hB3
      obtain ⟨gb, o, rfl, hgb, hc⟩ := HA.out.mem (by omega)
      have HCC := hid (fun (W : World) (hb : Below w.heap.size w W) (k : Nat) (x : Int) (hk : l[k]? = some x) => (HA.out.int_at hb rfl hk : W.cell? ⟨gb, o + k, none⟩ = some (.int .i64 x)))
      clear hc hgb k5 k6 HC hB2 hH2 hi hz0 hz1 hz2
      go_wp2_with fail
      go_loopw [8] (fun i wr => ∃ (k : Nat) (xs : List Value), k ≤ l.length ∧ i = .int .i64 k ∧ xs.length = l.length ∧ Has wr w.heap.size [GmapA b l, row 3 1 (.slice (some ⟨g1, 0, none⟩) l.length cap1) l.length xs] ∧ Below w.heap.size w wr) (fun i _ => l.length - (intOf i).toNat)
      case atStart => exact ⟨0, _, by omega, rfl, by simp, hH3, hB3⟩
      case round =>
        obtain ⟨k, xs, hk, rfl, hxs, hHr, hBr⟩ := hrel
        clear hH3 hB3
        by_cases hlt : k < l.length
        · have cx := hHr.row_cell [_] _ k (List.getElem?_eq_getElem (by omega : k < xs.length))
          have fx := hHr.row_frozen [_] _ k
          have hS := hHr.row_set [_] _ k (by omega) (.int .i64 (-1))
          have hgB : w.heap.size ≤ g1 := by
            rcases hHr.row_shape [_] _ with ⟨h, _⟩ | ⟨g', cap', h, _, _, h3, _⟩
            · cases h
            · cases h; exact h3
          go_wp2_with fail
          go_roundw
          case rel => exact ⟨k + 1, _, by omega, by go_num, by simpa using hxs, hS, hBr.setCell (p := ⟨g1, k, none⟩) hgB (.int .i64 (-1))⟩
          case measure => simp [intOf] <;> omega
        · obtain rfl : k = l.length := by omega
          go_wp2_with fail
          obtain ⟨wo, rfl⟩ : ∃ wo : World, wo = wr := ⟨_, rfl⟩
          go_loopw [9] (fun i wr => ∃ (k : Nat), k ≤ l.length ∧ i = .int .i64 k ∧ Has wr w.heap.size [GmapA b l, row 3 1 (.slice (some ⟨g1, 0, none⟩) l.length cap1) l.length xs] ∧ Below w.heap.size w wr) (fun i _ => l.length - (intOf i).toNat)
          case atStart => exact ⟨0, by omega, rfl, hHr, hBr⟩
          case round =>
            clear hHr hBr
            obtain ⟨k, hk2, rfl, hHr, hBr⟩ := hrel
            by_cases hlt2 : k < l.length
            · obtain ⟨x, hx⟩ : ∃ x, l[k]? = some x := ⟨l[k], List.getElem?_eq_getElem hlt2⟩
              have cx := HCC.out _ hBr k x hx
              have er : hostR l k = .tuple #[.int .i64 x, .bool true] := by
                have hn : 0 ≤ (k : Int) ∧ (k : Int) < l.length := by omega
                simp [hostR, hn, List.getD, hx] <;> omega
              have q1 := Host_calls b l k _ _ _ hHr
              rw [er] at q1
              have Q1 := hid q1
              clear q1 er hx
              go_wp2_with fail
              refine Q1.out.mono ?_
              rintro e w6 ⟨rfl, rfl⟩
              go_wp2_with fail
              go_roundw
              case rel => exact ⟨k + 1, by omega, by go_num, hHr, hBr⟩
              case measure => simp [intOf] <;> omega
            · obtain rfl : k = l.length := by omega
              have hno : gmG l l.length (-1) = none := by
                rw [← Option.not_isSome_iff_eq_none, gmG_some l l.length (Nat.le_refl _)]
                rintro ⟨i, _, hi⟩
                have := (HG5.out (-1) (List.mem_of_getElem? hi)).1
                omega
              have q1 := Guest_calls b l (-1) (by decide) _ _ _ hHr
              have er : guestR l (-1) = .tuple #[.int .i64 0, .bool false] := by simp [guestR, hno]
              rw [er] at q1
              have Q1 := hid q1
              clear q1 er hno
              go_wp2_with fail
              refine Q1.out.mono ?_
              rintro e w6 ⟨rfl, rfl⟩
              go_wp2_with fail
              go_ret
              exact ⟨rfl, hBr⟩

end Go.Proofs.Ytljejmembogioaa
