/-
  GmapMore: a map holds in a host of more frames, and in none that ends ahead of its greatest frame.
-/
import Derived.Test.YtljejmembogioaaGmapArgs
namespace Go.Proofs.Ytljejmembogioaa
open Go.RowKit
set_option linter.unusedVariables false
set_option linter.unusedSimpArgs false

/-- The greatest of the first k, and 0. -/
def mostOf (l : List Int) : Nat → Int
  | 0 => 0
  | k + 1 => if mostOf l k < l.getD k 0 then l.getD k 0 else mostOf l k
theorem mostOf_all (l : List Int) : ∀ k, k ≤ l.length → 0 ≤ mostOf l k ∧ (∀ i x, i < k → l[i]? = some x → x ≤ mostOf l k) ∧ (mostOf l k = 0 ∨ mostOf l k ∈ l)
  | 0, _ => ⟨Int.le_refl _, fun i x h => by omega, .inl rfl⟩
  | k + 1, hk => by
    obtain ⟨h1, h2, h3⟩ := mostOf_all l k (by omega)
    have hg : l[k]? = some (l.getD k 0) := by rw [List.getElem?_eq_getElem (by omega)]; simp [List.getD, List.getElem?_eq_getElem (show k < l.length by omega)]
    simp only [mostOf]
    split
    · rename_i hlt
      refine ⟨by omega, fun i x hi hx => ?_, .inr (List.mem_of_getElem? hg)⟩
      by_cases e : i = k
      · subst e
        rw [hg] at hx
        injection hx with hx
        omega
      · have := h2 i x (by omega) hx
        omega
    · refine ⟨h1, fun i x hi hx => ?_, h3⟩
      by_cases e : i = k
      · subst e
        rw [hg] at hx
        injection hx with hx
        omega
      · exact h2 i x (by omega) hx

set_option maxHeartbeats 4000000 in
set_option maxRecDepth 100000 in
theorem GmapMore_walk (a : Option Addr) (len cap : Nat) (l : List Int) (frames more : Int) (w : World) (hA : ArgRow w 1 a len (l.map (Value.int .i64))) (hl : ∀ x ∈ l, (Lit.int .i64 x).wf = true) (hf : (Lit.int .i64 frames).wf = true) (hm : (Lit.int .u8 more).wf = true) :
    Calls Try.prog 8 #[.slice a len cap, .int .i64 frames, .int .u8 more] w fun e w' => e = .returned (.bool true) ∧ Below w.heap.size w w' := by
  obtain ⟨m0, m1⟩ := bounds_u8 hm
  obtain rfl : l.length = len := by have := hA.lc; simpa using this
  have hH0 : Has w w.heap.size [] := Has.nil (Nat.le_refl _)
  have HA := hid hA
  have HL := hid hl
  clear hA hl hm
  go_enter Try.func8, Try.ntmps8
  go_wp2_with fail
  refine (head_true w _ [] hH0).mono ?_
  rintro e w1 ⟨_, rfl, hH1, hB1⟩
  go_wp2_with fail
  refine (New_calls a cap l frames _ (HA.out.src HL.out hB1) hH1).mono ?_
  rintro e w2 (⟨hn, rfl, hH2, hB2⟩ | ⟨hg, b, rfl, hH2, hB2⟩)
  · clear hn
    go_wp2_with fail
    go_ret
    exact ⟨rfl, hB1.trans hB2⟩
  · obtain ⟨g1, g2, g3, g4, g5, g6⟩ := hg
    have HG5 := hid g5
    have HG6 := hid g6
    have hB2 := hB1.trans hB2
    have e1 : decide (2000 < (l.length : Int)) = false := by rw [decide_eq_false_iff_not]; omega
    have e1 : decide (2000 < l.length) = false := by rw [decide_eq_false_iff_not]; omega
    clear g5 g6 hB1 hH1 hH0
    go_wp2_with fail
    obtain ⟨gb, o, rfl, hgb, hc⟩ := HA.out.mem (by omega)
    have HC := hid (fun (W : World) (hb : Below w.heap.size w W) (k : Nat) (x : Int) (hk : l[k]? = some x) => (HA.out.int_at hb rfl hk : W.cell? ⟨gb, o + k, none⟩ = some (.int .i64 x)))
    clear hc hgb
    have hn0 : 1 ≤ frames + more := by omega
    have hn1 : frames + more ≤ 511 := by omega
    have hmn : frames ≤ frames + more := by omega
    generalize frames + more = n at *
    refine (New_calls _ cap l n _ (HA.out.src HL.out hB2) hH2).mono fun e w3 h => ?_
    have h' : ∃ p2 Xo, e = .returned (.pointer p2) ∧ Has w3 w.heap.size Xo ∧ Below w.heap.size w w3 ∧ ((p2 = none ∧ 256 < n ∧ Xo = [GmapA b l]) ∨ ∃ c, p2 = some ⟨c, 0, none⟩ ∧ n ≤ 256 ∧ Xo = [GmapA c l, GmapA b l]) := by
      rcases h with ⟨hn, rfl, hH3, hB3⟩ | ⟨hg, c, rfl, hH3, hB3⟩
      · exact ⟨none, _, rfl, hH3, hB2.trans hB3, .inl ⟨rfl, by
          have : ¬ n ≤ 256 := fun h => hn ⟨g1, g2, hn0, h, fun x hx => by have := HG5.out x hx; omega, HG6.out⟩
          omega, rfl⟩⟩
      · exact ⟨_, _, rfl, hH3, hB2.trans hB3, .inr ⟨c, rfl, hg.2.2.2.1, rfl⟩⟩
    obtain ⟨p2, Xo, rfl, hH3, hB3, hcase⟩ := h'
    have HCASE := hid hcase
    clear h hcase hH2 hB2
    go_wp2_with fail
    go_loopw [11, 12] (fun mo i wr => ∃ k : Nat, k ≤ l.length ∧ i = .int .i64 k ∧ mo = .int .i64 (mostOf l k) ∧ Has wr w.heap.size Xo ∧ Below w.heap.size w wr) (fun _ i _ => l.length - (intOf i).toNat)
    case atStart => exact ⟨0, by omega, rfl, rfl, hH3, hB3⟩
    case round =>
      obtain ⟨k, hk, rfl, rfl, hHr, hBr⟩ := hrel
      clear hH3 hB3
      by_cases hlt : k < l.length
      · obtain ⟨x, hx⟩ : ∃ x, l[k]? = some x := ⟨l[k], List.getElem?_eq_getElem hlt⟩
        have cx := HC.out wr hBr k x hx
        have hgd : mostOf l (k + 1) = if mostOf l k < x then x else mostOf l k := by simp [mostOf, List.getD, hx]
        have HGD := hid hgd
        clear hgd hx
        go_wp2_with fail
        go_roundw
        case rel => exact ⟨k + 1, by omega, by go_num, by rw [HGD.out], hHr, hBr⟩
        case measure => simp [intOf] <;> omega
      · obtain rfl : k = l.length := by omega
        obtain ⟨q1, q2, q3⟩ := mostOf_all l l.length (Nat.le_refl _)
        have hin : ∀ x ∈ l, x ≤ mostOf l l.length := fun x hx => by
          obtain ⟨j, hj⟩ := List.mem_iff_getElem?.1 hx
          exact q2 j x (List.getElem?_eq_some_iff.1 hj).1 hj
        generalize mostOf l l.length = G at *
        have hGf : G < frames := by
          rcases q3 with rfl | hG
          · omega
          · exact (HG5.out G hG).2
        have hno : ¬ gok l G := fun h => by
          rcases q3 with rfl | hG
          · have := h.2.2.1; omega
          · have := h.2.2.2.2.1 G hG; omega
        have hyes : gok l (G + 1) := ⟨g1, g2, by omega, by omega, fun x hx => by have := HG5.out x hx; have := hin x hx; omega, HG6.out⟩
        clear q2 q3 hin
        rcases HCASE.out with ⟨rfl, hn, rfl⟩ | ⟨c, rfl, hn, rfl⟩
        · clear HCASE
          have e6 : decide (n ≤ 256) = false := by rw [decide_eq_false_iff_not]; omega
          go_wp2_with fail
          refine (New_no hno (HA.out.src HL.out hBr) hHr).mono ?_
          rintro e w4 ⟨rfl, hH4, hB4⟩
          have hB4 := hBr.trans hB4
          go_wp2_with fail
          refine (New_yes hyes (HA.out.src HL.out hB4) hH4).mono ?_
          rintro e w5 ⟨d, rfl, hH5, hB5⟩
          have hB5 := hB4.trans hB5
          clear hH4 hB4 hHr hBr
          go_wp2_with fail
          go_ret
          exact ⟨rfl, hB5⟩
        · clear HCASE
          have e6 : decide (n ≤ 256) = true := by rw [decide_eq_true_eq]; omega
          go_wp2_with fail
          refine (New_no hno (HA.out.src HL.out hBr) hHr).mono ?_
          rintro e w4 ⟨rfl, hH4, hB4⟩
          have hB4 := hBr.trans hB4
          go_wp2_with fail
          refine (New_yes hyes (HA.out.src HL.out hB4) hH4).mono ?_
          rintro e w5 ⟨d, rfl, hH5, hB5⟩
          have hB5 := hB4.trans hB5
          clear hH4 hB4 hHr hBr
          go_wp2_with fail
          obtain ⟨wo, rfl⟩ : ∃ wo : World, wo = wr := ⟨_, rfl⟩
          go_loopw [13] (fun i wr => ∃ k : Nat, k ≤ l.length ∧ i = .int .i64 k ∧ Has wr w.heap.size [GmapA d l, GmapA c l, GmapA b l] ∧ Below w.heap.size w wr) (fun i _ => l.length - (intOf i).toNat)
          case atStart => exact ⟨0, by omega, rfl, hH5, hB5⟩
          case round =>
            obtain ⟨k, hk2, rfl, hHr, hBr⟩ := hrel
            clear hH5 hB5
            by_cases hlt2 : k < l.length
            · obtain ⟨x, hx⟩ : ∃ x, l[k]? = some x := ⟨l[k], List.getElem?_eq_getElem hlt2⟩
              have er : hostR l k = .tuple #[.int .i64 x, .bool true] := by
                have hn : 0 ≤ (k : Int) ∧ (k : Int) < l.length := by omega
                simp [hostR, hn, List.getD, hx] <;> omega
              have q1 := Host_calls b l k _ _ _ (hHr.front [_, _] _)
              have q2 := Host_calls c l k _ _ _ (hHr.front [_] _)
              rw [er] at q1 q2
              have Q1 := hid q1
              have Q2 := hid q2
              clear q1 q2 er hx
              go_wp2_with fail
              refine Q1.out.mono ?_
              rintro e w6 ⟨rfl, rfl⟩
              go_wp2_with fail
              refine Q2.out.mono ?_
              rintro e w6 ⟨rfl, rfl⟩
              go_wp2_with fail
              go_roundw
              case rel => exact ⟨k + 1, by omega, by go_num, hHr, hBr⟩
              case measure => simp [intOf] <;> omega
            · obtain rfl : k = l.length := by omega
              go_wp2_with fail
              go_ret
              exact ⟨rfl, hBr⟩

end Go.Proofs.Ytljejmembogioaa
