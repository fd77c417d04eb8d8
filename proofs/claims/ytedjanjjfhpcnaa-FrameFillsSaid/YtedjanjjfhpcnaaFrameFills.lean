/-
  FrameFills: a frame that is filled has just these words; else nothing has changed.
-/
import Derived.Test.YtedjanjjfhpcnaaFrameGreat
import Derived.StillTailTactics
namespace Go.Proofs.Ytedjanjjfhpcnaa
open Go.RowKit
set_option linter.unusedVariables false
set_option linter.unusedSimpArgs false

/-- Slices of words that the law keeps: each a row of its own. -/
def keptRow (p : Value × List Int) : Asr := row 29 1 p.1 p.2.length (u64s p.2)
/-- The cells of the array that holds them. -/
def keptC (ps : List (Value × List Int)) : Array Value := (ps.map (fun p : Value × List Int => p.1) ++ List.replicate (16 - ps.length) (Value.slice none 0 0) : List Value).toArray
theorem keptC_get {ps : List (Value × List Int)} {k : Nat} {p : Value × List Int} (h : ps[k]? = some p) : (keptC ps)[k]? = some p.1 := by
  have hk := (List.getElem?_eq_some_iff.1 h).1
  simp only [keptC, List.getElem?_toArray]
  rw [List.getElem?_append_left (by simpa using hk), List.getElem?_map, h]
  rfl
theorem keptC_next {ps : List (Value × List Int)} (h : ps.length < 16) : (keptC ps)[ps.length]? = some (.slice none 0 0) := by
  simp only [keptC, List.getElem?_toArray]
  rw [List.getElem?_append_right (by simp), List.getElem?_replicate]
  rw [if_pos (by simp; omega)]
theorem keptC_set {ps : List (Value × List Int)} (h : ps.length < 16) (p : Value × List Int) : (keptC ps).setIfInBounds ps.length p.1 = keptC (ps ++ [p]) := by
  simp only [keptC, List.setIfInBounds_toArray]
  congr 1
  rw [List.set_append]
  simp only [List.length_map, Nat.lt_irrefl, if_false, Nat.sub_self, List.map_append, List.map_cons, List.map_nil, List.append_assoc, List.length_append, List.length_cons, List.length_nil]
  congr 1
  rw [show 16 - ps.length = (16 - (ps.length + 1)) + 1 from by omega, List.replicate_succ]
  rfl
theorem keptC_nil : keptC [] = (List.replicate 16 (Value.slice none 0 0)).toArray := rfl
/-- One of them serves as words. -/
theorem kept_src {w : World} {B : Nat} {L1 : List Asr} {ps : List (Value × List Int)} (hH : Has w B (L1 ++ ps.reverse.map keptRow)) {k : Nat} {p : Value × List Int} (h : ps[k]? = some p) : ∃ ao cap, p.1 = .slice ao p.2.length cap ∧ SrcU w ao p.2 := by
  have hm : keptRow p ∈ ps.reverse.map keptRow := List.mem_map.2 ⟨p, by simpa using List.mem_of_getElem? h, rfl⟩
  obtain ⟨s, t, e⟩ := List.append_of_mem hm
  rw [e, ← List.append_assoc] at hH
  have hH2 : Has w B ((L1 ++ s) ++ row 29 1 p.1 p.2.length (u64s p.2) :: t) := hH
  obtain ⟨ao, cap, hp, _, _, _⟩ := hH2.row_form _ _
  rw [hp] at hH2
  exact ⟨ao, cap, hp, srcu_row _ _ hH2 rfl⟩

theorem frame_filled {W : List Int} {n k : Nat} {f : Int} {l : List Int} (hW : W.length = n * 8) (hk : k < n) (h : 0 ≤ f ∧ f < n ∧ l.length = 8) : frameW (fillW W n f l) n k = if (k : Int) = f then l else frameW W n k := by
  obtain ⟨h1, h2, h3⟩ := h
  obtain ⟨q, rfl⟩ := Int.eq_ofNat_of_zero_le h1
  have hkk : 0 ≤ (k : Int) ∧ (k : Int) < n := ⟨by omega, by omega⟩
  unfold fillW frameW
  rw [if_pos hkk, if_pos ⟨h1, h2, h3⟩]
  simp only [Int.toNat_natCast]
  have l1 : (W.take (q * 8)).length = q * 8 := by simp; omega
  refine List.ext_getElem? fun j => ?_
  by_cases hj : j < 8
  · rw [List.getElem?_take_of_lt hj, List.getElem?_drop]
    by_cases e : k = q
    · subst e
      rw [if_pos rfl, List.append_assoc, List.getElem?_append_right (by omega), l1, List.getElem?_append_left (by omega), Nat.add_sub_cancel_left]
    · rw [if_neg (by omega), if_pos hkk, List.getElem?_take_of_lt hj, List.getElem?_drop]
      by_cases hlt : k < q
      · rw [List.append_assoc, List.getElem?_append_left (by omega), List.getElem?_take_of_lt (by omega)]
      · rw [List.getElem?_append_right (by simp; omega), List.getElem?_drop]
        congr 1
        simp
        omega
  · have hn : ∀ L : List Int, (L.take 8)[j]? = none := fun L => List.getElem?_eq_none (by simp; omega)
    rw [hn]
    split
    · rw [List.getElem?_eq_none (by omega)]
    · rw [hn]

theorem filled_at {W : List Int} {k : Nat} {f : Int} {l : List Int} (hW : W.length = 16 * 8) (hk : k < 16) : frameW (fillW W 16 f l) 16 k = if (k : Int) = f ∧ decide (0 ≤ f ∧ f < (16 : Nat) ∧ l.length = 8) = true then l else frameW W 16 k := by
  by_cases h : 0 ≤ f ∧ f < (16 : Nat) ∧ l.length = 8
  · rw [frame_filled hW hk h]
    simp only [decide_eq_true h, and_true]
  · have e : fillW W 16 f l = W := by unfold fillW; rw [if_neg h]
    rw [e, if_neg (fun h2 => h (of_decide_eq_true h2.2))]

theorem zero16 (w : World) : Sem.run Try.prog (zeroValue 45) w = .ok (.agg (keptC [])) w := by kernel_rfl

set_option maxHeartbeats 4000000 in
set_option maxRecDepth 100000 in
theorem FrameFills_walk (a : Option Addr) (len cap : Nat) (l : List FOp) (f : Int) (a2 : Option Addr) (len2 cap2 : Nat) (ws : List Int) (w : World) (hA : ArgRow w 5 a len (l.flatMap opC)) (hl : ∀ x ∈ l, FOk w x) (hf : (Lit.int .i64 f).wf = true)
    (hA2 : ArgRow w 1 a2 len2 (u64s ws)) (hw2 : ∀ x ∈ ws, (Lit.int .u64 x).wf = true) :
    Calls Try.prog 8 #[.slice a len cap, .int .i64 f, .slice a2 len2 cap2] w fun e w' => e = .returned (.bool true) ∧ Below w.heap.size w w' := by
  obtain rfl := ops_len hA
  obtain rfl : ws.length = len2 := by have := hA2.lc; rw [u64s_length] at this; omega
  have hs := hA.small
  have hs2 := hA2.small
  have hH0 : Has w w.heap.size [] := Has.nil (Nat.le_refl _)
  have HA := hid hA
  have HL := hid hl
  have HS2 := hid hA2.srcu
  clear hA hl hf hA2 hw2
  go_enter Try.func8, Try.ntmps8
  go_wp2_with fail
  refine (head_true w _ [] hH0).mono ?_
  rintro e w1 ⟨_, rfl, hH1, hB1⟩
  go_wp2_with fail
  refine (MemNew_yes 16 (by decide) (by decide) w1 _ _ hH1).mono ?_
  rintro e w2 ⟨m, rfl, hH2, hB2⟩
  have hB2 := hB1.trans hB2
  clear hH1 hB1 hH0
  go_wp2_with fail
  refine (Great_calls a cap l w2 w HA.out hB2 HL.out).mono ?_
  rintro e w5 ⟨⟨g, rfl⟩, rfl⟩
  cases g with
  | true =>
    go_wp2_with fail
    go_ret
    exact ⟨rfl, hB2⟩
  | false =>
    by_cases hbig : 900 < ws.length
    · have e1 : decide (900 < ws.length) = true := by rw [decide_eq_true_eq]; omega
      have e2 : decide (900 < (ws.length : Int)) = true := by rw [decide_eq_true_eq]; omega
      go_wp2_with fail
      go_ret
      exact ⟨rfl, hB2⟩
    · have e1 : decide (900 < ws.length) = false := by rw [decide_eq_false_iff_not]; omega
      have e2 : decide (900 < (ws.length : Int)) = false := by rw [decide_eq_false_iff_not]; omega
      go_wp2_with fail
      go_loopw [9] (fun i wr => ∃ (j : Nat) (W : List Int), j ≤ l.length ∧ i = .int .i64 j ∧ Has wr w.heap.size [MemA m 16 W] ∧ Below w.heap.size w wr) (fun i _ => l.length - (intOf i).toNat)
      case atStart => exact ⟨0, _, by omega, rfl, hH2, hB2⟩
      case round =>
        obtain ⟨j, W, hj, rfl, hHr, hBr⟩ := hrel
        clear hH2 hB2
        by_cases hlt : j < l.length
        · obtain ⟨x, hx⟩ : ∃ x, l[j]? = some x := ⟨l[j], List.getElem?_eq_getElem hlt⟩
          obtain ⟨b, p, rfl, _, _⟩ := HA.out.mem (by omega)
          have k1 := ops_at HA.out hBr rfl hx 1 (u := .int .i64 x.F) rfl
          have k2 := ops_at HA.out hBr rfl hx 2 (u := .int .i64 x.I) rfl
          have k3 := ops_at HA.out hBr rfl hx 3 (u := .int .u64 x.V) rfl
          clear hx
          have hBd : Below w.heap.size w wr.drew := hBr.drew
          have cs := Set_calls m 16 W x.F x.I x.V wr.drew _ _ hHr.drew
          have CS := hid cs
          clear cs
          go_wp2_with fail
          go_still_tail 16, (by kernel_rfl)
          change wpList _ _ _ _ _ (wr.drew)
          go_wp2_with fail
          refine CS.out.mono ?_
          rintro e w5 ⟨rfl, hH5, hB5⟩
          go_wp2_with fail
          go_roundw
          case rel => exact ⟨j + 1, _, by omega, by go_num, hH5, hBd.trans hB5⟩
          case measure => simp [intOf] <;> omega
        · obtain rfl : j = l.length := by omega
          have hWl := (MemA.fits hHr).2.2
          have hzero := zero16
          go_wp2_with fail
          have hN := hHr.newblk wr.heap.size 45 (keptC []) rfl
          have hBN := below_new hBr hHr (.cells (keptC []) 45)
          generalize hsb : wr.heap.size = sb at *
          generalize wr.alloc _ = wa at *
          clear hHr hBr hzero hsb
          have WL := hid hWl
          clear hWl
          go_loopw [11] (fun i wr => ∃ ps : List (Value × List Int), ps.length ≤ 16 ∧ i = .int .i64 (ps.length : Nat) ∧ (∀ (j : Nat) p, ps[j]? = some p → p.2 = frameW W 16 j) ∧ Has wr w.heap.size ([MemA m 16 W, blk sb 45 (keptC ps)] ++ ps.reverse.map keptRow) ∧ Below w.heap.size w wr) (fun i _ => 16 - (intOf i).toNat)
          case atStart => exact ⟨[], by simp, rfl, by simp, hN.front [_] _, hBN⟩
          case round =>
            obtain ⟨ps, hps, rfl, hall, hHr, hBr⟩ := hrel
            clear hN hBN
            by_cases hlt : ps.length < 16
            · have c0 := hHr.cell [_] _ ps.length (keptC_next hlt)
              have f0 := hHr.frozen [_] _ ps.length
              have cf := Frame_calls m 16 W ps.length wr _ _ hHr
              have CF := hid cf
              have HALL := hid hall
              have HNX := hid (keptC_next hlt)
              have HST := hid (fun p => keptC_set hlt p)
              clear cf hall c0
              go_wp2_with fail
              refine CF.out.mono ?_
              rintro e w5 ⟨v5, rfl, hH5, hB5⟩
              obtain ⟨ao5, cp5, hv5, _, _, _⟩ := hH5.row_form [] _
              have c0 := hH5.cell [_, _] _ ps.length HNX.out
              have f0 := hH5.frozen [_, _] _ ps.length
              have hS := hH5.set [_, _] _ ps.length v5
              rw [HST.out (v5, frameW W 16 ps.length)] at hS
              have hBS := below_set (hBr.trans hB5) [_, _] _ hH5 ps.length v5
              clear hHr hBr
              have HV := hid hv5
              rw [hv5]
              rw [hv5] at hS hBS
              clear hv5
              go_wp2_with fail
              rw [← HV.out] at hS hBS
              rw [← HV.out]
              go_roundw
              case rel => exact ⟨ps ++ [(v5, frameW W 16 ps.length)], by simp; omega, by simp, fun j p hj => by
                  by_cases hjl : j < ps.length
                  · rw [List.getElem?_append_left hjl] at hj
                    exact HALL.out j p hj
                  · rw [List.getElem?_append_right (by omega)] at hj
                    have h0 : j - ps.length = 0 := by
                      have := (List.getElem?_eq_some_iff.1 hj).1
                      simp at this
                      omega
                    have hj2 : j = ps.length := by omega
                    rw [h0] at hj
                    simp at hj
                    rw [← hj, hj2], by
                  have h1 := (hS.front [_] _).front [_, _] _
                  have h2 : Has _ w.heap.size (blk sb 45 (keptC (ps ++ [(v5, frameW W 16 ps.length)])) :: MemA m 16 W :: keptRow (v5, frameW W 16 ps.length) :: ps.reverse.map keptRow) := h1
                  rw [List.reverse_append]
                  exact h2.front [_] _, hBS⟩
              case measure => simp [intOf] <;> omega
            · have h16 : ps.length = 16 := by omega
              have HALL := hid hall
              have H16 := hid h16
              have e0 : decide (ps.length < 16) = false := by rw [decide_eq_false_iff_not]; omega
              have e0 : decide ((ps.length : Int) < 16) = false := by rw [decide_eq_false_iff_not]; omega
              have cf := Fill_calls m 16 W f a2 cap2 ws wr (HS2.out.later hBr) _ _ hHr
              have HFR := hid (fun (k : Nat) (hk : k < 16) => filled_at (l := ws) (f := f) WL.out hk)
              generalize fillW W 16 f ws = V at *
              by_cases hd : 0 ≤ f ∧ f < (16 : Nat) ∧ ws.length = 8
              · rw [decide_eq_true hd] at cf HFR
                have e5 : decide (0 ≤ f) = true := by rw [decide_eq_true_eq]; omega
                have e6 : decide (f < 16) = true := by rw [decide_eq_true_eq]; omega
                have e7 : (ws.length == 8) = true := by rw [beq_iff_eq]; omega
                have e8 : ((ws.length : Int) == 8) = true := by rw [beq_iff_eq]; omega
                have CF := hid cf
                clear cf hall hd h16 hlt hps
                go_wp2_with fail
                refine CF.out.mono ?_
                rintro e w5 ⟨rfl, hH5, hB5'⟩
                have hB5 := hBr.trans hB5'
                clear CF hHr hBr e0 hB5'
                go_wp2_with fail
                obtain ⟨wo, rfl⟩ : ∃ wo : World, wo = wr := ⟨_, rfl⟩
                go_loopw [13, 14] (fun i _ wr => ∃ k : Nat, k ≤ 16 ∧ i = .int .i64 k ∧ Has wr w.heap.size ([MemA m 16 V, blk sb 45 (keptC ps)] ++ ps.reverse.map keptRow) ∧ Below w.heap.size w wr) (fun i _ _ => 16 - (intOf i).toNat)
                case atStart => exact ⟨0, by omega, rfl, hH5, hB5⟩
                case round =>
                  clear hH5 hB5
                  obtain ⟨k, hk, rfl, hHr, hBr⟩ := hrel
                  by_cases hlt : k < 16
                  · obtain ⟨pk, hpk⟩ : ∃ pk, ps[k]? = some pk := ⟨_, List.getElem?_eq_getElem (by have := H16.out; omega)⟩
                    have hFk := HALL.out k pk hpk
                    have hfr := HFR.out k hlt
                    have cf := Frame_calls m 16 V k wr _ _ hHr
                    obtain ⟨ao0, cp0, hp0, _⟩ := kept_src (L1 := [_, _]) hHr hpk
                    have c0 := hHr.cell [_] _ k (keptC_get hpk)
                    rw [hp0] at c0
                    have HP := hid (And.intro hpk (And.intro hp0 hFk))
                    have CF := hid cf
                    have HF := hid hfr
                    clear cf hpk hp0 hFk hfr
                    by_cases hkf : (k : Int) = f
                    · have e4 : ((k : Int) == f) = true := by rw [beq_iff_eq]; exact hkf
                      have HKF := hid hkf
                      clear hkf
                      go_wp2_with fail
                      refine CF.out.mono ?_
                      rintro e w7 ⟨v7, rfl, hH7, hB7⟩
                      have hB7 := hBr.trans hB7
                      obtain ⟨ao, cp, rfl, _, _, _⟩ := hH7.row_form [] _
                      have cw := SameWords_calls ao a2 cp cap2 (frameW V 16 k) ws w7 (srcu_row [] _ hH7 rfl) (HS2.out.later hB7)
                      rw [show (frameW V 16 k == ws) = true from by rw [beq_iff_eq]; exact (by rw [HF.out, if_pos ⟨HKF.out, by trivial⟩])] at cw
                      have CW := hid cw
                      clear cw CF
                      go_wp2_with fail
                      refine (keeps CW.out hH7).mono ?_
                      rintro e w8 ⟨rfl, hH8, hB8⟩
                      go_wp2_with fail
                      go_roundw
                      case rel => exact ⟨k + 1, by omega, by go_num, hH8.drop, hB7.trans hB8⟩
                      case measure => simp [intOf] <;> omega
                    · have e4 : ((k : Int) == f) = false := by rw [beq_eq_false_iff_ne]; exact hkf
                      have HKF := hid hkf
                      clear hkf
                      go_wp2_with fail
                      refine CF.out.mono ?_
                      rintro e w7 ⟨v7, rfl, hH7, hB7⟩
                      have hB7 := hBr.trans hB7
                      obtain ⟨ao, cp, rfl, _, _, _⟩ := hH7.row_form [] _
                      have cw := SameWords_calls ao ao0 cp cp0 (frameW V 16 k) pk.2 w7 (srcu_row [] _ hH7 rfl) (by obtain ⟨ao1, cp1, hp1, hs1⟩ := kept_src (L1 := [_, _, _]) hH7 HP.out.1; rw [HP.out.2.1] at hp1; cases hp1; exact hs1)
                      rw [show (frameW V 16 k == pk.2) = true from by rw [beq_iff_eq]; exact (by rw [HF.out, if_neg (fun h => HKF.out h.1)]; exact HP.out.2.2.symm)] at cw
                      have CW := hid cw
                      clear cw CF
                      go_wp2_with fail
                      refine (keeps CW.out hH7).mono ?_
                      rintro e w8 ⟨rfl, hH8, hB8⟩
                      go_wp2_with fail
                      go_roundw
                      case rel => exact ⟨k + 1, by omega, by go_num, hH8.drop, hB7.trans hB8⟩
                      case measure => simp [intOf] <;> omega
                  · obtain rfl : k = 16 := by omega
                    go_wp2_with fail
                    go_ret
                    exact ⟨rfl, hBr⟩
              · rw [decide_eq_false hd] at cf HFR
                have HD := hid hd
                have CF := hid cf
                clear cf hall hd h16 hlt hps
                go_wp2_with fail
                refine CF.out.mono ?_
                rintro e w5 ⟨rfl, hH5, hB5'⟩
                have hB5 := hBr.trans hB5'
                clear CF hHr hBr e0 hB5'
                go_wp2_with fail
                obtain ⟨wo, rfl⟩ : ∃ wo : World, wo = wr := ⟨_, rfl⟩
                go_loopw [13, 14] (fun i _ wr => ∃ k : Nat, k ≤ 16 ∧ i = .int .i64 k ∧ Has wr w.heap.size ([MemA m 16 V, blk sb 45 (keptC ps)] ++ ps.reverse.map keptRow) ∧ Below w.heap.size w wr) (fun i _ _ => 16 - (intOf i).toNat)
                case atStart => exact ⟨0, by omega, rfl, hH5, hB5⟩
                case round =>
                  clear hH5 hB5
                  obtain ⟨k, hk, rfl, hHr, hBr⟩ := hrel
                  by_cases hlt : k < 16
                  · obtain ⟨pk, hpk⟩ : ∃ pk, ps[k]? = some pk := ⟨_, List.getElem?_eq_getElem (by have := H16.out; omega)⟩
                    have hFk := HALL.out k pk hpk
                    have hfr := HFR.out k hlt
                    have cf := Frame_calls m 16 V k wr _ _ hHr
                    obtain ⟨ao0, cp0, hp0, _⟩ := kept_src (L1 := [_, _]) hHr hpk
                    have c0 := hHr.cell [_] _ k (keptC_get hpk)
                    rw [hp0] at c0
                    have HP := hid (And.intro hpk (And.intro hp0 hFk))
                    have CF := hid cf
                    have HF := hid hfr
                    clear cf hpk hp0 hFk hfr
                    go_wp2_with fail
                    refine CF.out.mono ?_
                    rintro e w7 ⟨v7, rfl, hH7, hB7⟩
                    have hB7 := hBr.trans hB7
                    obtain ⟨ao, cp, rfl, _, _, _⟩ := hH7.row_form [] _
                    have cw := SameWords_calls ao ao0 cp cp0 (frameW V 16 k) pk.2 w7 (srcu_row [] _ hH7 rfl) (by obtain ⟨ao1, cp1, hp1, hs1⟩ := kept_src (L1 := [_, _, _]) hH7 HP.out.1; rw [HP.out.2.1] at hp1; cases hp1; exact hs1)
                    rw [show (frameW V 16 k == pk.2) = true from by rw [beq_iff_eq]; exact (by rw [HF.out, if_neg (fun h => absurd h.2 (by simp))]; exact HP.out.2.2.symm)] at cw
                    have CW := hid cw
                    clear cw CF
                    go_wp2_with fail
                    refine (keeps CW.out hH7).mono ?_
                    rintro e w8 ⟨rfl, hH8, hB8⟩
                    go_wp2_with fail
                    go_roundw
                    case rel => exact ⟨k + 1, by omega, by go_num, hH8.drop, hB7.trans hB8⟩
                    case measure => simp [intOf] <;> omega
                  · obtain rfl : k = 16 := by omega
                    by_cases h5 : 0 ≤ f
                    · have e5 : decide (0 ≤ f) = true := by rw [decide_eq_true_eq]; omega
                      by_cases h6 : f < 16
                      · have e6 : decide (f < 16) = true := by rw [decide_eq_true_eq]; omega
                        have h7 : ws.length ≠ 8 := fun h => HD.out ⟨h5, h6, h⟩
                        have e7 : (ws.length == 8) = false := by rw [beq_eq_false_iff_ne]; omega
                        have e8 : ((ws.length : Int) == 8) = false := by rw [beq_eq_false_iff_ne]; omega
                        go_wp2_with fail
                        go_ret
                        exact ⟨rfl, hBr⟩
                      · have e6 : decide (f < 16) = false := by rw [decide_eq_false_iff_not]; omega
                        go_wp2_with fail
                        go_ret
                        exact ⟨rfl, hBr⟩
                    · have e5 : decide (0 ≤ f) = false := by rw [decide_eq_false_iff_not]; omega
                      go_wp2_with fail
                      go_ret
                      exact ⟨rfl, hBr⟩

end Go.Proofs.Ytedjanjjfhpcnaa
