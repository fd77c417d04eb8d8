/-
  GuestPlays: calls of a guest's memory, of any map, answer as the document says; so do all words of the guest, and the host.
-/
import Derived.Test.YtlkjccchlmhchaaGuestPlain
import Derived.Test.YtlkjccchlmhchaaGuestRef
import Derived.Test.YtlkjccchlmhchaaPick
import Derived.Deep.CutBlock
import Derived.Deep.DeepCutAuto
namespace Go.Proofs.Ytlkjccchlmhchaa
open Go.RowKit
set_option linter.unusedVariables false
set_option linter.unusedSimpArgs false

theorem SameWords_lenP (a b : Option Addr) (na nb ca cb : Nat) (l m : List Int) (w : World) (h1 : SrcU w a l) (h2 : SrcU w b m) (hna : na = l.length) (hnb : nb = m.length) :
    Calls Try.prog 17 #[.slice a na ca, .slice b nb cb] w fun e w' => e = .returned (.bool (l == m)) ∧ Below w.heap.size w w' := by
  subst hna hnb
  exact SameWords_calls a b ca cb l m w h1 h2
theorem gGet_pair (W : List Int) (n : Nat) (l : List Int) (g i : Int) : ∃ v b, gGet W n l g i = .tuple #[.int .u64 v, .bool b] := by
  unfold gGet
  split
  · exact getR_pair ..
  · exact ⟨_, _, rfl⟩
theorem RMemNew_yes (n : Nat) (h1 : 1 ≤ n) (h2 : n ≤ 256) (w : World) (B : Nat) (X : List Asr) (hH : Has w B X) :
    Calls Try.prog 20 #[.int .i64 n] w fun e w' => ∃ b, e = .returned (.pointer (some ⟨b, 0, none⟩)) ∧ Has w' B (RMemA b n (List.replicate (n * 8) 0) :: X) ∧ Below B w w' := by
  refine (RMemNew_calls n w B X hH).mono ?_
  rintro e w' (⟨h, _⟩ | ⟨b, m, hm, _, _, he, hh, hb⟩)
  · exact absurd ⟨by omega, by omega⟩ h
  · obtain rfl : n = m := by omega
    exact ⟨b, he, hh, hb⟩
theorem RMemNew_no (f : Int) (h : ¬ (1 ≤ f ∧ f ≤ 256)) (w : World) (B : Nat) (X : List Asr) (hH : Has w B X) :
    Calls Try.prog 20 #[.int .i64 f] w fun e w' => e = .returned (.pointer none) ∧ Has w' B X ∧ Below B w w' := by
  refine (RMemNew_calls f w B X hH).mono ?_
  rintro e w' (⟨_, he⟩ | ⟨b, m, hm, h1, h2, _⟩)
  · exact he
  · exact absurd ⟨by omega, by omega⟩ h
theorem RNew_yes {a : Option Addr} {cap : Nat} {l : List Int} {frames : Int} {w : World} (hg : gok l frames) (hs : Src w a l) {B : Nat} {X : List Asr} (hH : Has w B X) :
    Calls Try.prog 21 #[.slice a l.length cap, .int .i64 frames] w fun e w' => ∃ b, e = .returned (.pointer (some ⟨b, 0, none⟩)) ∧ Has w' B (RmapA b l :: X) ∧ Below B w w' := by
  refine (RNew_calls a cap l frames w hs hH).mono ?_
  rintro e w' (⟨h, _⟩ | ⟨_, h⟩)
  · exact absurd hg h
  · exact h
theorem RNew_no {a : Option Addr} {cap : Nat} {l : List Int} {frames : Int} {w : World} (hg : ¬ gok l frames) (hs : Src w a l) {B : Nat} {X : List Asr} (hH : Has w B X) :
    Calls Try.prog 21 #[.slice a l.length cap, .int .i64 frames] w fun e w' => e = .returned (.pointer none) ∧ Has w' B X ∧ Below B w w' := by
  refine (RNew_calls a cap l frames w hs hH).mono ?_
  rintro e w' (⟨_, h⟩ | ⟨h, _⟩)
  · exact h
  · exact absurd h hg

set_option maxHeartbeats 4000000 in
set_option maxRecDepth 100000 in
theorem GuestPlays_walk (frames : Int) (ma : Option Addr) (mlen mcap : Nat) (m : List Int) (oa : Option Addr) (olen ocap : Nat) (l : List FOp) (w : World)
    (hfw : (Lit.int .i64 frames).wf = true) (hM : ArgRow w 1 ma mlen (m.map (Value.int .i64))) (hMw : ∀ x ∈ m, (Lit.int .i64 x).wf = true) (hA : ArgRow w 5 oa olen (l.flatMap opC)) (hl : ∀ x ∈ l, GOk w x) :
    Calls Try.prog 7 #[.int .i64 frames, .slice ma mlen mcap, .slice oa olen ocap] w fun e w' => e = .returned (.bool true) ∧ Below w.heap.size w w' := by
  obtain rfl : m.length = mlen := by have := hM.lc; simpa using this
  obtain rfl := ops_len hA
  have hH0 : Has w w.heap.size [] := Has.nil (Nat.le_refl _)
  have HM := hid hM
  have HMW := hid hMw
  have HA := hid hA
  have HOK := hid hl
  have hol := hA.small
  have hml := hM.small
  clear hM hMw hA hl hfw
  go_enter Try.func7, Try.ntmps7
  go_wp2_with fail
  refine (head_true w _ [] hH0).mono ?_
  rintro e w1 ⟨_, rfl, hH1, hB1⟩
  go_wp2_with fail
  refine (Great_calls oa ocap l w1 w HA.out hB1 HOK.out).mono ?_
  rintro e w2 ⟨⟨gr, rfl⟩, rfl⟩
  cases gr with
  | true =>
    go_wp2_with fail
    go_ret
    exact ⟨rfl, hB1⟩
  | false =>
  by_cases hbig : 900 < m.length
  · have e1 : decide (900 < m.length) = true := by rw [decide_eq_true_eq]; omega
    have e2 : decide (900 < (m.length : Int)) = true := by rw [decide_eq_true_eq]; omega
    go_wp2_with fail
    go_ret
    exact ⟨rfl, hB1⟩
  have e1 : decide (900 < m.length) = false := by rw [decide_eq_false_iff_not]; omega
  have e2 : decide (900 < (m.length : Int)) = false := by rw [decide_eq_false_iff_not]; omega
  by_cases hin : 1 ≤ frames ∧ frames ≤ 256
  · obtain ⟨n, rfl⟩ := Int.eq_ofNat_of_zero_le (show 0 ≤ frames by omega)
    have n1 : 1 ≤ n := by omega
    have n2 : n ≤ 256 := by omega
    clear hin
    go_wp2_with fail
    refine (MemNew_yes n n1 n2 w1 _ _ hH1).mono ?_
    rintro e w2 ⟨hb, rfl, hH2, hB2⟩
    have hB2 := hB1.trans hB2
    go_wp2_with fail
    refine (RMemNew_yes n n1 n2 w2 _ _ hH2).mono ?_
    rintro e w3 ⟨rb, rfl, hH3, hB3⟩
    have hB3 := hB2.trans hB3
    clear hH0 hH1 hB1 hH2 hB2
    have hsrc := HM.out.src HMW.out hB3
    by_cases hgk : gok m (n : Int)
    · have hm1 := hgk.1
      have hm2 := hgk.2.1
      have HIN : Hid (hosts n m) := hid (hosts_of hgk)
      have CN := hid (New_yes (cap := mcap) hgk hsrc hH3)
      have HGK := hid hgk
      clear hgk hsrc
      go_wp2_with fail
      refine CN.out.mono ?_
      rintro e w4 ⟨mb, rfl, hH4, hB4⟩
      have hB4 := hB3.trans hB4
      have CN2 := hid (RNew_yes (cap := mcap) HGK.out (HM.out.src HMW.out hB4) hH4)
      clear CN hH3 hB3
      go_wp2_with fail
      refine CN2.out.mono ?_
      rintro e w5 ⟨qb, rfl, hH5, hB5⟩
      have hB5 := hB4.trans hB5
      clear CN2 hH4 hB4
      go_wp2_with fail
      refine (GuestNew_calls mb hb w5 _ _ hH5).mono ?_
      rintro e w6 ⟨gb, rfl, hH6, hB6⟩
      have hB6 := hB5.trans hB6
      go_wp2_with fail
      refine (RGuestNew_calls qb rb w6 _ _ hH6).mono ?_
      rintro e w7 ⟨sb, rfl, hH7, hB7⟩
      have hB7 := hB6.trans hB7
      have hH8 : Has w7 w.heap.size [gstB gb mb hb, GmapA mb m, MemA hb n (List.replicate (n * 8) 0), rstB sb qb rb, RmapA qb m, RMemA rb n (List.replicate (n * 8) 0)] := hH7.pick [1, 3, 5, 0, 2, 4]
      clear hH5 hB5 hH6 hB6 hH7
      go_wp2_with fail
      go_loopg [14] l.length (fun gh i wr => ∃ (k : Nat) (W : List Int), gh + k = l.length ∧ i = .int .i64 k ∧ Has wr w.heap.size [gstB gb mb hb, GmapA mb m, MemA hb n W, rstB sb qb rb, RmapA qb m, RMemA rb n W] ∧ Below w.heap.size w wr)
      case atStart => exact ⟨0, _, by omega, rfl, hH8, hB7⟩
      case round =>
        obtain ⟨k, W, hk, rfl, hHr, hBr⟩ := hrel
        have HK := hid hk
        have HW : Hid (W.length = n * 8) := hid (MemA.fits (hHr.front [_, _] _)).2.2
        clear hH8 hB7
        by_cases hlt : k < l.length
        · obtain ⟨x, hx⟩ : ∃ x, l[k]? = some x := ⟨_, List.getElem?_eq_getElem hlt⟩
          obtain ⟨b, o, rfl, _, _⟩ := HA.out.mem (by omega)
          have P1 := hid (ops_adds HA.out hBr rfl hx)
          have HX := hid (HOK.out x (List.mem_of_getElem? hx))
          obtain ⟨ob, hob⟩ : ∃ ob, wr.heap.size = ob := ⟨_, rfl⟩
          have tok1 : True := trivial
          have tok2 : True := trivial
          clear hx hk e1 e2
          go_upto_block 2 with (first
            | (have _t := tok1; refine wpList_load_at 36 (.tmp 88) rfl rfl ⟨b, o + k * 5, none⟩ rfl _ (opC x) P1.out Try.underlying36 rfl op_size ?_; clear _t tok1)
            | (have _t := tok2; refine wpList_store_all [] _ (hHr.newblk ob 36 opZ hob) 36 (.tmp 15) (.tmp 89) rfl rfl rfl _ rfl op_size' rfl (op_one x) ?_; clear _t tok2; intro w4 hH4 hB4' hz4; clear hz4; have hB4 := hBr.trans ((below_new (Below.refl _ _) hHr _).trans hB4'); clear hB4' hHr hBr; have k0 := hH4.cell [] _ 0 (v := .int .i64 x.What) rfl; have k1 := hH4.cell [] _ 1 (v := .int .i64 x.F) rfl; have k2 := hH4.cell [] _ 2 (v := .int .i64 x.I) rfl; have k3 := hH4.cell [] _ 3 (v := .int .u64 x.V) rfl; have k4 := hH4.cell [] _ 4 (v := .slice x.La x.L.length x.Lc) rfl))
          clear hob
          have hHP : Has w4 w.heap.size [gstB gb mb hb, GmapA mb m, MemA hb n W, blk ob 36 (opC x).toArray, rstB sb qb rb, RmapA qb m, RMemA rb n W] := hH4.pick [1, 2, 3, 0, 4, 5, 6]
          go_cut [16] (fun s16 wx => s16 = .bool true ∧ ∃ W', Has wx w.heap.size [gstB gb mb hb, GmapA mb m, MemA hb n W', rstB sb qb rb, RmapA qb m, RMemA rb n W'] ∧ Below w.heap.size w wx)
          case first =>
            clear hH4
            by_cases h3 : x.What = 3
            · have e3 : (x.What == 3) = true := by rw [beq_iff_eq]; exact h3
              have cl := GLoad_calls gb mb hb n m W x.L x.La x.Lc HIN.out HX.out.cap w4 w.heap.size _ (fun w' W' _ hb => HX.out.ok.src.later (hB4.trans hb)) hHP
              obtain ⟨an, han⟩ : ∃ an, decide (x.L.length = m.length * 8) = an := ⟨_, rfl⟩
              have HAN := hid han
              rw [han] at cl
              have CL := hid cl
              clear h3 cl han
              go_wp2_with fail
              refine CL.out.mono ?_
              rintro e w5 ⟨rfl, hH5, hB5⟩
              have hB5 := hB4.trans hB5
              have hHR : Has w5 w.heap.size [rstB sb qb rb, RmapA qb m, RMemA rb n W, blk ob 36 (opC x).toArray, gstB gb mb hb, GmapA mb m, MemA hb n (gLoad W n m x.L)] := hH5.pick [4, 5, 6, 3, 0, 1, 2]
              have k4 := hHR.cell [_, _, _] _ 4 (v := .slice x.La x.L.length x.Lc) rfl
              have cr := RGLoad_calls sb qb rb n m W x.L x.La x.Lc HIN.out hm1 hm2 w5 w.heap.size _ (fun w' W' _ hb => HX.out.ok.src.later (hB5.trans hb)) hHR HW.out
              rw [HAN.out] at cr
              have CR := hid cr
              clear CL hH5 hHP hB4 cr
              go_wp2_with fail
              refine CR.out.mono ?_
              rintro e w6 ⟨rfl, hH6, hB6⟩
              have hB6 := hB5.trans hB6
              cases an
              all_goals (
                go_wp2_with fail
                go_meet
                exact ⟨rfl, _, hH6.pick [4, 5, 6, 0, 1, 2], hB6⟩)
            · have e3 : (x.What == 3) = false := by rw [beq_eq_false_iff_ne]; exact h3
              by_cases h4 : x.What = 4
              · have e4 : (x.What == 4) = true := by rw [beq_iff_eq]; exact h4
                obtain ⟨v, bb, hvb⟩ := gGet_pair W n m x.F x.I
                have cg := GGet_calls gb mb hb n m W x.F x.I w4 w.heap.size _ hHP
                have hHR : Has w4 w.heap.size [rstB sb qb rb, RmapA qb m, RMemA rb n W, blk ob 36 (opC x).toArray, gstB gb mb hb, GmapA mb m, MemA hb n W] := hHP.pick [4, 5, 6, 3, 0, 1, 2]
                have cr := RGGet_calls sb qb rb n m W x.F x.I w4 w.heap.size _ hm1 hm2 hHR
                rw [hvb] at cg cr
                have CG := hid cg
                have CR := hid cr
                have e5 : (v == v) = true := by simp
                clear h3 h4 cg cr hvb
                go_wp2_with fail
                refine CG.out.mono ?_
                rintro e w5 ⟨rfl, rfl⟩
                go_wp2_with fail
                refine CR.out.mono ?_
                rintro e w5 ⟨rfl, rfl⟩
                cases bb
                all_goals (
                  go_wp2_with fail
                  go_meet
                  exact ⟨rfl, _, hHR.pick [4, 5, 6, 0, 1, 2], hB4⟩)
              · have e4 : (x.What == 4) = false := by rw [beq_eq_false_iff_ne]; exact h4
                by_cases h5 : x.What = 5
                · have e5 : (x.What == 5) = true := by rw [beq_iff_eq]; exact h5
                  have hHS : Has w4 w.heap.size [MemA hb n W, gstB gb mb hb, GmapA mb m, blk ob 36 (opC x).toArray, rstB sb qb rb, RmapA qb m, RMemA rb n W] := hHP.pick [2, 0, 1, 3, 4, 5, 6]
                  have cs := Set_calls hb n W x.F x.I x.V w4 w.heap.size _ hHS
                  obtain ⟨an, han⟩ : ∃ an, decide (wok n x.F x.I) = an := ⟨_, rfl⟩
                  have HAN := hid han
                  rw [han] at cs
                  have CS := hid cs
                  clear h3 h4 h5 cs han
                  go_wp2_with fail
                  refine CS.out.mono ?_
                  rintro e w5 ⟨rfl, hH5, hB5⟩
                  have hB5 := hB4.trans hB5
                  have hHR : Has w5 w.heap.size [RMemA rb n W, blk ob 36 (opC x).toArray, rstB sb qb rb, RmapA qb m, gstB gb mb hb, GmapA mb m, MemA hb n (setW W n x.F x.I x.V)] := hH5.pick [6, 3, 4, 5, 1, 2, 0]
                  have k1 := hHR.cell [_] _ 1 (v := .int .i64 x.F) rfl
                  have k2 := hHR.cell [_] _ 2 (v := .int .i64 x.I) rfl
                  have k3 := hHR.cell [_] _ 3 (v := .int .u64 x.V) rfl
                  have cr := RSet_calls rb n W x.F x.I x.V w5 w.heap.size _ hHR
                  rw [HAN.out] at cr
                  have CR := hid cr
                  clear CS hH5 hHP hHS hB4 cr
                  go_wp2_with fail
                  refine CR.out.mono ?_
                  rintro e w6 ⟨rfl, hH6, hB6⟩
                  have hB6 := hB5.trans hB6
                  cases an
                  all_goals (
                    go_wp2_with fail
                    go_meet
                    exact ⟨rfl, _, hH6.pick [4, 5, 6, 2, 3, 0], hB6⟩)
                · have e5 : (x.What == 5) = false := by rw [beq_eq_false_iff_ne]; exact h5
                  have cs := GSet_calls gb mb hb n m W x.F x.I x.V w4 w.heap.size _ hHP
                  obtain ⟨an, han⟩ : ∃ an, gCan n m x.F x.I = an := ⟨_, rfl⟩
                  have HAN := hid han
                  rw [han] at cs
                  have CS := hid cs
                  clear h3 h4 h5 cs han
                  go_wp2_with fail
                  refine CS.out.mono ?_
                  rintro e w5 ⟨rfl, hH5, hB5⟩
                  have hB5 := hB4.trans hB5
                  have hHR : Has w5 w.heap.size [rstB sb qb rb, RmapA qb m, RMemA rb n W, blk ob 36 (opC x).toArray, gstB gb mb hb, GmapA mb m, MemA hb n (gSet W n m x.F x.I x.V)] := hH5.pick [4, 5, 6, 3, 0, 1, 2]
                  have k1 := hHR.cell [_, _, _] _ 1 (v := .int .i64 x.F) rfl
                  have k2 := hHR.cell [_, _, _] _ 2 (v := .int .i64 x.I) rfl
                  have k3 := hHR.cell [_, _, _] _ 3 (v := .int .u64 x.V) rfl
                  have cr := RGSet_calls sb qb rb n m W x.F x.I x.V w5 w.heap.size _ hm1 hm2 hHR
                  rw [HAN.out] at cr
                  have CR := hid cr
                  clear CS hH5 hHP hB4 cr
                  go_wp2_with fail
                  refine CR.out.mono ?_
                  rintro e w6 ⟨rfl, hH6, hB6⟩
                  have hB6 := hB5.trans hB6
                  cases an
                  all_goals (
                    go_wp2_with fail
                    go_meet
                    exact ⟨rfl, _, hH6.pick [4, 5, 6, 0, 1, 2], hB6⟩)
          case rest =>
            obtain ⟨rfl, W', hH6, hB6⟩ := hcut
            clear hH4 hHP hB4
            have hW' : W'.length = n * 8 := (MemA.fits (hH6.front [_, _] _)).2.2
            have HGL := hid (gAll_length hW' HIN.out)
            clear hW'
            go_wp2_with fail
            refine (GAll_calls gb mb hb n m W' HIN.out wc _ _ hH6).mono ?_
            rintro e w7 ⟨v7, rfl, hH7, hB7⟩
            have hB7 := hB6.trans hB7
            obtain ⟨a7, c7, rfl, _, _, _⟩ := hH7.row_form [] _
            have hH8 : Has w7 w.heap.size [rstB sb qb rb, RmapA qb m, RMemA rb n W', row 33 1 (.slice a7 (m.length * 8) c7) (m.length * 8) (u64s (gAll W' n m)), gstB gb mb hb, GmapA mb m, MemA hb n W'] := hH7.pick [4, 5, 6, 0, 1, 2, 3]
            clear hH6 hB6 hH7
            go_wp2_with fail
            refine (RGAll_calls sb qb rb n m W' HIN.out hm1 hm2 w7 _ _ hH8).mono ?_
            rintro e w8 ⟨v8, rfl, hH9, hB8⟩
            have hB8 := hB7.trans hB8
            obtain ⟨a8, c8, rfl, _, _, _⟩ := hH9.row_form [] _
            have cw := SameWords_lenP a7 a8 (m.length * 8) (m.length * 8) c7 c8 (gAll W' n m) (gAll W' n m) w8 (srcu_row [_, _, _, _] _ hH9 HGL.out.symm) (srcu_row [] _ hH9 HGL.out.symm) HGL.out.symm HGL.out.symm
            rw [show (gAll W' n m == gAll W' n m) = true from by simp] at cw
            have CW := hid cw
            clear cw
            go_wp2_with fail
            refine (keeps CW.out hH9).mono ?_
            rintro e w9 ⟨rfl, hH10, hB9⟩
            go_wp2_with fail
            go_roundg (gk - 1)
            case measure => have := HK.out; omega
            case rel => exact ⟨k + 1, W', by have := HK.out; omega, by go_num, hH10.pick [5, 6, 7, 1, 2, 3], hB8.trans hB9⟩
        · obtain rfl : k = l.length := by omega
          obtain ⟨wp, rfl⟩ : ∃ wp : World, wp = wr := ⟨_, rfl⟩
          clear hk hlt e1 e2
          go_wp2_with fail
          go_loopw [24] (fun i wr => ∃ q : Nat, q ≤ n ∧ i = .int .i64 q ∧ Has wr w.heap.size [gstB gb mb hb, GmapA mb m, MemA hb n W, rstB sb qb rb, RmapA qb m, RMemA rb n W] ∧ Below w.heap.size w wr) (fun i _ => n - (intOf i).toNat)
          case atStart => exact ⟨0, by omega, rfl, hHr, hBr⟩
          case round =>
            obtain ⟨q, hq, rfl, hHs, hBs⟩ := hrel
            clear hHr hBr
            by_cases hlt : q < n
            · have e1 : decide ((q : Int) < (n : Int)) = true := by rw [decide_eq_true_eq]; omega
              go_wp2_with fail
              refine (Frame_calls hb n W q wr _ _ (hHs.front [_, _] _)).mono ?_
              rintro e w7 ⟨v7, rfl, hH7, hB7⟩
              have hB7 := hBs.trans hB7
              have hH8 : Has w7 w.heap.size [RMemA rb n W, row 33 1 v7 (frameW W n q).length (u64s (frameW W n q)), gstB gb mb hb, GmapA mb m, MemA hb n W, rstB sb qb rb, RmapA qb m] := hH7.pick [6, 0, 2, 3, 1, 4, 5]
              obtain ⟨a7, c7, rfl, _, _, _⟩ := hH8.row_form [_] _
              clear hHs hBs hH7
              go_wp2_with fail
              refine (RFrame_calls rb n W q w7 _ _ hH8).mono ?_
              rintro e w8 ⟨v8, rfl, hH9, hB8⟩
              have hB8 := hB7.trans hB8
              obtain ⟨a8, c8, rfl, _, _, _⟩ := hH9.row_form [] _
              have cw := SameWords_calls a7 a8 c7 c8 (frameW W n q) (frameW W n q) w8 (srcu_row [_, _] _ hH9 rfl) (srcu_row [] _ hH9 rfl)
              rw [show (frameW W n q == frameW W n q) = true from by simp] at cw
              have CW := hid cw
              clear cw hH8 hB7
              go_wp2_with fail
              refine (keeps CW.out hH9).mono ?_
              rintro e w9 ⟨rfl, hH10, hB9⟩
              go_wp2_with fail
              go_roundw
              case rel => exact ⟨q + 1, by omega, by go_num, hH10.pick [3, 4, 5, 6, 7, 1], hB8.trans hB9⟩
              case measure => simp [intOf] <;> omega
            · obtain rfl : q = n := by omega
              go_wp2_with fail
              refine (GFrames_calls gb mb hb m wr _ _ hHs).mono ?_
              rintro e w7 ⟨rfl, rfl⟩
              go_wp2_with fail
              refine (RGFrames_calls sb qb rb m wr w.heap.size [gstB gb mb hb] (hHs.pick [3, 4, 0])).mono ?_
              rintro e w7 ⟨rfl, rfl⟩
              go_wp2_with fail
              go_ret
              exact ⟨rfl, hBs⟩
    · have CN := hid (New_no (cap := mcap) hgk hsrc hH3)
      have HGK := hid hgk
      clear hgk hsrc
      go_wp2_with fail
      refine CN.out.mono ?_
      rintro e w4 ⟨rfl, hH4, hB4⟩
      have hB4 := hB3.trans hB4
      have CN2 := hid (RNew_no (cap := mcap) HGK.out (HM.out.src HMW.out hB4) hH4)
      clear CN
      go_wp2_with fail
      refine CN2.out.mono ?_
      rintro e w5 ⟨rfl, hH5, hB5⟩
      have hB5 := hB4.trans hB5
      go_wp2_with fail
      go_ret
      exact ⟨rfl, hB5⟩
  · go_wp2_with fail
    refine (MemNew_no frames hin w1 _ _ hH1).mono ?_
    rintro e w2 ⟨rfl, hH2, hB2⟩
    have hB2 := hB1.trans hB2
    go_wp2_with fail
    refine (RMemNew_no frames hin w2 _ _ hH2).mono ?_
    rintro e w3 ⟨rfl, hH3, hB3⟩
    have hB3 := hB2.trans hB3
    go_wp2_with fail
    go_ret
    exact ⟨rfl, hB3⟩

end Go.Proofs.Ytlkjccchlmhchaa
