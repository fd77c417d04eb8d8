/-
  GuestWithin: no frame of the host but those of the map is changed by a guest.
-/
import Derived.Test.YtlkjccchlmhchaaGuestPlain
import Derived.Test.YtlkjccchlmhchaaWas
import Derived.StillTailTactics
import Derived.Deep.RegionHeld3
namespace Go.Proofs.Ytlkjccchlmhchaa
open Go.RowKit
set_option linter.unusedVariables false
set_option linter.unusedSimpArgs false

theorem SameWords_lenI (a b : Option Addr) (na nb ca cb : Nat) (l m : List Int) (w : World) (h1 : SrcU w a l) (h2 : SrcU w b m) (hna : na = l.length) (hnb : nb = m.length) :
    Calls Try.prog 17 #[.slice a na ca, .slice b nb cb] w fun e w' => e = .returned (.bool (l == m)) ∧ Below w.heap.size w w' := by
  subst hna hnb
  exact SameWords_calls a b ca cb l m w h1 h2
theorem guestR_pair (l : List Int) (h : Int) : ∃ v, guestR l h = .tuple #[.int .i64 v, .bool (decide (h ∈ l))] := by
  refine ⟨(gmG l l.length h).getD 0, ?_⟩
  unfold guestR
  suffices hs : (gmG l l.length h).isSome = decide (h ∈ l) by rw [hs]
  have := gmG_some l l.length (Nat.le_refl _) h
  rw [Bool.eq_iff_iff, this, decide_eq_true_eq]
  constructor
  · rintro ⟨i, _, hi⟩
    exact List.mem_of_getElem? hi
  · intro hm
    obtain ⟨i, hi⟩ := List.mem_iff_getElem?.1 hm
    exact ⟨i, (List.getElem?_eq_some_iff.1 hi).1, hi⟩

set_option maxHeartbeats 4000000 in
set_option maxRecDepth 100000 in
theorem GuestWithin_walk (ma : Option Addr) (mlen mcap : Nat) (m : List Int) (oa : Option Addr) (olen ocap : Nat) (l : List FOp) (v : Int) (w : World)
    (hM : ArgRow w 1 ma mlen (m.map (Value.int .i64))) (hMw : ∀ x ∈ m, (Lit.int .i64 x).wf = true) (hA : ArgRow w 5 oa olen (l.flatMap opC)) (hl : ∀ x ∈ l, GOk w x) (hv : (Lit.int .u64 v).wf = true) :
    Calls Try.prog 8 #[.slice ma mlen mcap, .slice oa olen ocap, .int .u64 v] w fun e w' => e = .returned (.bool true) ∧ Below w.heap.size w w' := by
  obtain rfl : m.length = mlen := by have := hM.lc; simpa using this
  obtain rfl := ops_len hA
  have hH0 : Has w w.heap.size [] := Has.nil (Nat.le_refl _)
  have HM := hid hM
  have HMW := hid hMw
  have HA := hid hA
  have HOK := hid hl
  have hol := hA.small
  clear hM hMw hA hl hv
  go_enter Try.func8, Try.ntmps8
  go_wp2_with fail
  refine (head_true w _ [] hH0).mono ?_
  rintro e w1 ⟨_, rfl, hH1, hB1⟩
  go_wp2_with fail
  refine (MemNew_yes 40 (by decide) (by decide) w1 _ _ hH1).mono ?_
  rintro e w2 ⟨hb, rfl, hH2, hB2⟩
  have hB2 := hB1.trans hB2
  clear hH0 hH1 hB1
  go_wp2_with fail
  have hsrc := HM.out.src HMW.out hB2
  by_cases hgk : gok m (40 : Int)
  · refine (New_yes hgk hsrc hH2).mono ?_
    rintro e w3 ⟨mb, rfl, hH3, hB3⟩
    have hB3 := hB2.trans hB3
    have hm1 := hgk.1
    have hm2 := hgk.2.1
    have HIN : Hid (hosts 40 m) := hid (hosts_of hgk)
    clear hgk hsrc hH2 hB2
    have e1 : decide (900 < m.length) = false := by rw [decide_eq_false_iff_not]; omega
    have e2 : decide (900 < (m.length : Int)) = false := by rw [decide_eq_false_iff_not]; omega
    go_wp2_with fail
    refine (Great_calls oa ocap l w3 w HA.out hB3 HOK.out).mono ?_
    rintro e w4 ⟨⟨gr, rfl⟩, rfl⟩
    cases gr with
    | true =>
      go_wp2_with fail
      go_ret
      exact ⟨rfl, hB3⟩
    | false =>
      go_wp2_with fail
      clear e1 e2
      go_loopw [10] (fun i wr => ∃ (k : Nat) (W : List Int), k ≤ 40 ∧ i = .int .i64 k ∧ Has wr w.heap.size [GmapA mb m, MemA hb 40 W] ∧ Below w.heap.size w wr) (fun i _ => 40 - (intOf i).toNat)
      case atStart => exact ⟨0, _, by omega, rfl, hH3, hB3⟩
      case round =>
        obtain ⟨k, W, hk, rfl, hHr, hBr⟩ := hrel
        clear hH3 hB3
        by_cases hlt : k < 40
        · have HF := hHr.front [_] _
          go_wp2_with fail
          refine (Set_calls hb 40 W _ _ _ wr _ _ HF).mono ?_
          rintro e w4 ⟨rfl, hH4, hB4⟩
          go_wp2_with fail
          go_roundw
          case rel => exact ⟨k + 1, _, by omega, by go_num, Has.front [_] _ hH4, hBr.trans hB4⟩
          case measure => simp [intOf] <;> omega
        · have e1 : decide ((k : Int) < 40) = false := by rw [decide_eq_false_iff_not]; omega
          have HW : Hid (W.length = 40 * 8) := hid (MemA.fits (hHr.front [_] _)).2.2
          obtain ⟨wo, rfl⟩ : ∃ wo : World, wo = wr := ⟨_, rfl⟩
          obtain ⟨k10, rfl⟩ : ∃ k10 : Nat, k10 = k := ⟨_, rfl⟩
          clear hlt hk
          have hWA := WasA.new (hHr.newblk wo.heap.size 55 (List.replicate 40 (Value.slice none 0 0)).toArray rfl)
          have hBA := below_new hBr hHr (.cells (List.replicate 40 (Value.slice none 0 0)).toArray 55)
          go_wp2_with fail
          go_loopw [12] (fun i wr => ∃ (k : Nat) (ps : List (Value × List Int)), k ≤ 40 ∧ ps.length = k ∧ i = .int .i64 k ∧ (∀ (j : Nat) (p : Value × List Int), ps[j]? = some p → p.2 = frameW W 40 j) ∧ Has wr w.heap.size [WasA wo.heap.size 40 55 ps, GmapA mb m, MemA hb 40 W] ∧ Below w.heap.size w wr) (fun i _ => 40 - (intOf i).toNat)
          case atStart => exact ⟨0, [], by omega, rfl, rfl, fun j p h => by simp at h, hWA, hBA⟩
          case round =>
            obtain ⟨k, ps, hk, hpl, rfl, hps, hHs, hBs⟩ := hrel
            have HPS := hid hps
            clear hWA hHr hBr hps
            generalize wo.heap.size = wb at *
            by_cases hlt : k < 40
            · subst hpl
              have CF := hid (Frame_calls hb 40 W ps.length wr _ _ (hHs.pick [2, 0, 1]))
              go_wp2_with fail
              refine CF.out.mono ?_
              rintro e w5 ⟨v5, rfl, hH5, hB5⟩
              have hB5 := hBs.trans hB5
              have hH6 : Has w5 w.heap.size [row 33 1 v5 (frameW W 40 ps.length).length (u64s (frameW W 40 ps.length)), WasA wb 40 55 ps, GmapA mb m, MemA hb 40 W] := hH5.pick [0, 2, 3, 1]
              obtain ⟨c5, f5, b5⟩ := WasA.next [_] _ hH6 hlt
              have hS := WasA.set hH6 hlt
              have hBS := hB5.setCell (p := ⟨wb, ps.length, none⟩) b5 v5
              obtain ⟨a5, cp5, rfl, _, _, _⟩ := hH6.row_form [] _
              clear CF hHs hH5 hH6
              go_wp2_with fail
              go_roundw
              case rel => exact ⟨ps.length + 1, _, by omega, by simp, by go_num, fun j p hj => by
                by_cases e : j < ps.length
                · rw [List.getElem?_append_left e] at hj
                  exact HPS.out j p hj
                · by_cases e2 : j = ps.length
                  · subst e2
                    rw [List.getElem?_append_right (Nat.le_refl _), Nat.sub_self] at hj
                    simp at hj
                    rw [← hj]
                  · rw [List.getElem?_eq_none (by simp; omega)] at hj
                    exact absurd hj (by simp), hS, hBS⟩
              case measure => simp [intOf] <;> omega
            · have e2 : decide ((k : Int) < 40) = false := by rw [decide_eq_false_iff_not]; omega
              obtain ⟨wp, rfl⟩ : ∃ wp : World, wp = wr := ⟨_, rfl⟩
              have HPL : Hid (ps.length = 40) := hid (by omega)
              obtain ⟨k12, rfl⟩ : ∃ k12 : Nat, k12 = k := ⟨_, rfl⟩
              clear hpl hk hlt
              go_wp2_with fail
              refine (GuestNew_calls mb hb wp _ _ hHs).mono ?_
              rintro e w6 ⟨gb, rfl, hH6, hB6⟩
              have hB6 := hBs.trans hB6
              have hH7 : Has w6 w.heap.size [gstB gb mb hb, GmapA mb m, MemA hb 40 W, WasA wb 40 55 ps] := hH6.pick [0, 2, 3, 1]
              clear hHs hBs hH6
              go_wp2_with fail
              go_loopw [14] (fun i wr => ∃ (q : Nat) (V : List Int), q ≤ l.length ∧ i = .int .i64 q ∧ Off 40 m W V ∧ Has wr w.heap.size [gstB gb mb hb, GmapA mb m, MemA hb 40 V, WasA wb 40 55 ps] ∧ Below w.heap.size w wr) (fun i _ => l.length - (intOf i).toNat)
              case atStart => exact ⟨0, W, by omega, rfl, Off.refl .., hH7, hB6⟩
              case round =>
                obtain ⟨q, V, hq, rfl, hoff, hHr, hBr⟩ := hrel
                have HOFF := hid hoff
                have HVL : Hid (V.length = 40 * 8) := hid (hoff.1.trans HW.out)
                clear hH7 hB6 hoff
                by_cases hlt : q < l.length
                · obtain ⟨x, hx⟩ : ∃ x, l[q]? = some x := ⟨_, List.getElem?_eq_getElem hlt⟩
                  obtain ⟨b, o, rfl, _, _⟩ := HA.out.mem (by omega)
                  have hok := HOK.out x (List.mem_of_getElem? hx)
                  have k0 := ops_at HA.out hBr rfl hx 0 (u := .int .i64 x.What) rfl
                  rw [Nat.add_zero] at k0
                  by_cases h3 : x.What = 3
                  · have e3 : (x.What == 3) = true := by rw [beq_iff_eq]; exact h3
                    have k4 := ops_at HA.out hBr rfl hx 4 (u := .slice x.La x.L.length x.Lc) rfl
                    have CL := hid (GLoad_calls gb mb hb 40 m V x.L x.La x.Lc HIN.out hok.cap wr w.heap.size _ (fun w' W' _ hb => hok.ok.src.later (hBr.trans hb)) hHr)
                    have HO2 := hid (HOFF.out.trans (off_gLoad HVL.out HIN.out x.L))
                    clear hx h3 hok
                    go_wp2_with fail
                    refine CL.out.mono ?_
                    rintro e w8 ⟨rfl, hH9, hB9⟩
                    go_wp2_with fail
                    go_roundw
                    case rel => exact ⟨q + 1, _, by omega, by go_num, HO2.out, hH9, hBr.trans hB9⟩
                    case measure => simp [intOf] <;> omega
                  · have e3 : (x.What == 3) = false := by rw [beq_eq_false_iff_ne]; exact h3
                    have k1 := ops_at HA.out hBr rfl hx 1 (u := .int .i64 x.F) rfl
                    have k2 := ops_at HA.out hBr rfl hx 2 (u := .int .i64 x.I) rfl
                    have k3 := ops_at HA.out hBr rfl hx 3 (u := .int .u64 x.V) rfl
                    have hHd := hHr.drew
                    have hBd : Below w.heap.size w wr.drew := hBr.drew
                    have CS := hid (GSet_calls gb mb hb 40 m V x.F x.I x.V wr.drew _ _ hHd)
                    have HO2 := hid (HOFF.out.trans (off_gSet HIN.out x.F x.I x.V))
                    clear hx h3 hok
                    go_wp2_with fail
                    go_still_tail 16, (by kernel_rfl)
                    change wpList _ _ _ _ _ (wr.drew)
                    go_wp2_with (go_at_call 14; refine CS.out.mono ?_; rintro e w5 ⟨rfl, hH5, hB5⟩)
                    go_roundw
                    case rel => exact ⟨q + 1, _, by omega, by go_num, HO2.out, hH5, hBd.trans hB5⟩
                    case measure => simp [intOf] <;> omega
                · obtain rfl : q = l.length := by omega
                  obtain ⟨wq, rfl⟩ : ∃ wq : World, wq = wr := ⟨_, rfl⟩
                  clear hlt hq
                  go_wp2_with fail
                  go_loopw [15] (fun i wr => ∃ (q : Nat), q ≤ 40 ∧ i = .int .i64 q ∧ Has wr w.heap.size [GmapA mb m, MemA hb 40 V, WasA wb 40 55 ps] ∧ Below w.heap.size w wr) (fun i _ => 40 - (intOf i).toNat)
                  case atStart => exact ⟨0, by omega, rfl, hHr.drop, hBr⟩
                  case round =>
                    obtain ⟨q, hq, rfl, hHt, hBt⟩ := hrel
                    clear hHr hBr
                    by_cases hlt : q < 40
                    · obtain ⟨gv, hgv⟩ := guestR_pair m q
                      have cg := Guest_calls mb m q (WalkArith.wf_i64 (by omega)) wr _ _ hHt
                      rw [hgv] at cg
                      by_cases hmem : (q : Int) ∈ m
                      · rw [decide_eq_true hmem] at cg
                        have CG := hid cg
                        clear cg hgv hmem
                        go_wp2_with fail
                        refine CG.out.mono ?_
                        rintro e w' ⟨rfl, rfl⟩
                        go_wp2_with fail
                        go_quiet (fail)
                        have hH8 := hHt.drewN nq
                        have hB8 := below_drewN hBt nq
                        go_wp2_with fail
                        go_roundw
                        case rel => exact ⟨q + 1, by omega, by go_num, hH8, hB8⟩
                        case measure => simp [intOf] <;> omega
                      · rw [decide_eq_false hmem] at cg
                        have CG := hid cg
                        have hfr := HOFF.out.frame hmem
                        obtain ⟨⟨pv, pF⟩, hp⟩ : ∃ p, ps[q]? = some p := ⟨_, List.getElem?_eq_getElem (by rw [HPL.out]; exact hlt)⟩
                        have hpF : pF = frameW W 40 q := HPS.out q _ hp
                        subst hpF
                        have HP := hid hp
                        have HFR := hid hfr
                        obtain ⟨pa, pc, rfl, _⟩ := WasA.src [_, _] _ hHt hp
                        have c0 := WasA.cell [_, _] _ hHt.drew hp
                        have CF := hid (Frame_calls hb 40 V q wr.drew _ _ (hHt.drew.front [_] _))
                        clear cg hgv hmem hfr hp
                        go_wp2_with fail
                        refine CG.out.mono ?_
                        rintro e w' ⟨rfl, rfl⟩
                        go_wp2_with fail
                        go_region_held3 (fun U => U.cell? ⟨wb, q, none⟩ = some (.slice pa (frameW W 40 q).length pc))
                          (with_reducible first | exact c0 | exact c8 | exact c9)
                          (first
                            | (go_at_call 29; (with_reducible refine CF.out.mono ?_); rintro e w8 ⟨v8, rfl, hH8, hB8⟩; rw [HFR.out] at hH8; have c8 := WasA.cell [_, _, _] _ hH8 HP.out; obtain ⟨a8, cp8, rfl, _, _, _⟩ := hH8.row_form [] _)
                            | (go_at_call 17; (with_reducible refine (keeps (SameWords_calls a8 pa cp8 pc _ _ w8 (srcu_row [] _ hH8 rfl) (WasA.srcAt [_, _, _] _ hH8 HP.out)) hH8).mono ?_); rintro e w9 ⟨rfl, hH9, hB9⟩; have c9 := WasA.cell [_, _, _] _ hH9 HP.out))
                        have hBd : Below w.heap.size w wr.drew := hBt.drew
                        go_wp2_with fail
                        go_roundw
                        case rel => exact ⟨q + 1, by omega, by go_num, hH9.pick [2, 1, 3], (hBd.trans hB8).trans hB9⟩
                        case measure => simp [intOf] <;> omega
                    · obtain rfl : q = 40 := by omega
                      go_wp2_with fail
                      go_ret
                      exact ⟨rfl, hBt⟩
  · refine (New_no hgk hsrc hH2).mono ?_
    rintro e w3 ⟨rfl, hH3, hB3⟩
    have hB3 := hB2.trans hB3
    clear hgk hsrc
    go_wp2_with fail
    go_ret
    exact ⟨rfl, hB3⟩

end Go.Proofs.Ytlkjccchlmhchaa
