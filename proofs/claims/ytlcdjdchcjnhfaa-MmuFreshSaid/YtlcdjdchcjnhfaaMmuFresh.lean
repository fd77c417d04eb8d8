/-
  MmuFresh: with nothing known, an access takes what a walk tells, just if that permits it.
-/
import Derived.Test.YtlcdjdchcjnhfaaMmuHead
import Derived.StillTailTactics
import Derived.Deep.RegionHeld3
import Derived.Test.YtlcdjdchcjnhfaaRightRef
import Derived.Test.YtlcdjdchcjnhfaaWas
namespace Go.Proofs.Ytlcdjdchcjnhfaa
open Go.RowKit
set_option linter.unusedVariables false
set_option linter.unusedSimpArgs false

theorem fr_right (r : RightS) (u : World) : Sem.run Try.prog (binOp .eql 38 (.agg #[.bool r.W, .bool r.U, .bool r.X]) (.agg #[.bool r.W, .bool r.U, .bool r.X])) u = .ok (.bool true) u := by
  rw [right_eq2, decide_eq_true rfl]
theorem SameWords_lenM (a b : Option Addr) (na nb ca cb : Nat) (l m : List Int) (w : World) (h1 : SrcU w a l) (h2 : SrcU w b m) (hna : na = l.length) (hnb : nb = m.length) :
    Calls Try.prog 34 #[.slice a na ca, .slice b nb cb] w fun e w' => e = .returned (.bool (l == m)) ∧ Below w.heap.size w w' := by
  subst hna hnb
  exact SameWords_calls a b ca cb l m w h1 h2

set_option maxHeartbeats 4000000 in
set_option maxRecDepth 100000 in
theorem MmuFresh_walk (la : Option Addr) (llen lcap : Nat) (l : List PutS) (root a page kind : Int) (user : Bool) (w : World) (hAl : ArgRow w 3 la llen (l.flatMap putC)) (hll : ∀ x ∈ l, PutOk x) (hroot : (Lit.int .i64 root).wf = true) (ha : (Lit.int .i64 a).wf = true) (hpage : (Lit.int .u16 page).wf = true) (hkind : (Lit.int .i64 kind).wf = true) :
    Calls Try.prog 8 #[.slice la llen lcap, .int .i64 root, .int .i64 a, .int .u16 page, .int .i64 kind, .bool user] w fun e w' => e = .returned (.bool true) ∧ Below w.heap.size w w' := by
  obtain rfl := puts_len hAl
  have hsl := hAl.small
  have HAl := hid hAl
  have hok := okW_made hll
  obtain ⟨W, hW⟩ : ∃ W, madeW l = W := ⟨_, rfl⟩
  rw [hW] at hok
  have HOK := hid hok
  have HWM := hid hW
  obtain ⟨t2, t3⟩ := bounds_u16 hpage
  have n0 : 0 ≤ page % 512 := Int.emod_nonneg _ (by decide)
  have n1 : page % 512 < 512 := Int.emod_lt_of_pos _ (by decide)
  have hmod : page % 512 % 512 = page % 512 := by omega
  have HM := hid hmod
  obtain ⟨o, ho⟩ : ∃ o, walkS W 16 (page % 512) 3 root rAll = o := ⟨_, rfl⟩
  have HO := hid ho
  obtain ⟨x, on, M, hx⟩ : ∃ (x : Int) (on : Bool) (M : List HitS), accS 8 [] o a (page % 512) kind user = ((x, on), M) := ⟨_, _, _, rfl⟩
  have HX := hid hx
  obtain ⟨wf, hwf⟩ : ∃ f, wF o = f := ⟨_, rfl⟩
  obtain ⟨wr0, hwr⟩ : ∃ r, wR o = r := ⟨_, rfl⟩
  obtain ⟨wi, hwi⟩ : ∃ i, o.isSome = i := ⟨_, rfl⟩
  have HWF := hid hwf
  have HWR := hid hwr
  have HWI := hid hwi
  have hH0 : Has w w.heap.size [] := Has.nil (Nat.le_refl _)
  clear hok hW hAl hll hroot ha hpage hkind hmod ho hx hwf hwr hwi
  go_enter Try.func8, Try.ntmps8
  go_wp2_with fail
  refine (head_true w _ [] hH0).mono ?_
  rintro e w1 ⟨_, rfl, hH1, hB1⟩
  go_wp2_with fail
  refine (Made_calls la lcap l w1 w HAl.out hB1 _ [] hH1).mono ?_
  rintro e w2 ⟨hb, rfl, hH2, hB2⟩
  rw [HWM.out] at hH2
  have hB2 := hB1.trans hB2
  clear hH1 hB1 hH0
  go_wp2_with fail
  refine (TlbNew_yes 8 (by decide) (by decide) w2 _ _ hH2).mono ?_
  rintro e w3 ⟨tb, rfl, hH3, hB3⟩
  have hB3 := hB2.trans hB3
  clear hH2 hB2
  by_cases hbig0 : 600 < l.length
  · have e1 : decide (600 < l.length) = true := decide_eq_true hbig0
    have e2 : decide (600 < (l.length : Int)) = true := decide_eq_true (by omega)
    go_wp2_with fail
    go_ret
    exact ⟨rfl, hB3⟩
  have f0 : decide (600 < l.length) = false := decide_eq_false hbig0
  have g0 : decide (600 < (l.length : Int)) = false := decide_eq_false (by omega)
  go_wp2_with fail
  refine (MmuNew_calls tb hb w3 _ _ hH3).mono ?_
  rintro e w4 ⟨mb, rfl, hH4, hB4⟩
  have hB4 := hB3.trans hB4
  clear hH3 hB3 f0 g0
  obtain ⟨wb, hwb⟩ : ∃ wb, w4.heap.size = wb := ⟨_, rfl⟩
  have hWA := WasA.new (hH4.newblk wb 69 (List.replicate 16 (Value.slice none 0 0)).toArray hwb)
  have hWA : Has _ w.heap.size [WasA wb 16 69 [], MemA hb 16 W, mmuB mb tb hb, TlbA tb 8 []] := hWA.pick [0, 3, 1, 2]
  have hBA := below_new hB4 hH4 (.cells (List.replicate 16 (Value.slice none 0 0)).toArray 69)
  go_wp2_with fail

  go_loopw [18] (fun i wr => ∃ (k : Nat) (ps : List (Value × List Int)), k ≤ 16 ∧ ps.length = k ∧ i = .int .i64 k ∧ (∀ (j : Nat) (p : Value × List Int), ps[j]? = some p → p.2 = frameW W 16 j) ∧ Has wr w.heap.size [WasA wb 16 69 ps, MemA hb 16 W, mmuB mb tb hb, TlbA tb 8 []] ∧ Below w.heap.size w wr) (fun i _ => 16 - (intOf i).toNat)
  case atStart => exact ⟨0, [], by omega, rfl, rfl, fun j p h => by simp at h, hWA, hBA⟩
  case round =>
    obtain ⟨k, ps, hk, hpl, rfl, hps, hHs, hBs⟩ := hrel
    have HPS := hid hps
    clear hWA hBA hH4 hB4 hps hwb
    by_cases hlt : k < 16
    · subst hpl
      have CF := hid (Frame_calls hb 16 W ps.length wr _ _ (hHs.pick [1, 0, 2, 3]))
      go_wp2_with fail
      refine CF.out.mono ?_
      rintro e w5 ⟨v5, rfl, hH5, hB5⟩
      have hB5 := hBs.trans hB5
      have hH6 : Has w5 w.heap.size [row 34 1 v5 (frameW W 16 ps.length).length (u64s (frameW W 16 ps.length)), WasA wb 16 69 ps, MemA hb 16 W, mmuB mb tb hb, TlbA tb 8 []] := hH5.pick [0, 2, 1, 3, 4]
      obtain ⟨c5, f5, b5⟩ := WasA.next [_] _ hH6 hlt
      have hS := WasA.set hH6 hlt
      have hBS := hB5.setCell (p := ⟨wb, ps.length, none⟩) b5 v5
      obtain ⟨a5, cp5, rfl, _, _, _⟩ := hH6.row_form [] _
      clear CF hHs hH5 hH6
      go_wp2_with fail
      go_roundw
      case rel => exact ⟨ps.length + 1, _, by omega, by simp, by go_num, fun j p hj => by
        by_cases e : j < ps.length
        · rw [List.getElem?_append_left e] at hj
          exact HPS.out j p hj
        · by_cases e2 : j = ps.length
          · subst e2
            rw [List.getElem?_append_right (Nat.le_refl _), Nat.sub_self] at hj
            simp at hj
            rw [← hj]
          · rw [List.getElem?_eq_none (by simp; omega)] at hj
            exact absurd hj (by simp), hS, hBS⟩
      case measure => simp [intOf] <;> omega
    · have e2 : decide ((k : Int) < 16) = false := by rw [decide_eq_false_iff_not]; omega
      have HPL : Hid (ps.length = 16) := hid (by omega)
      obtain ⟨k18, rfl⟩ : ∃ k18 : Nat, k18 = k := ⟨_, rfl⟩
      obtain ⟨w20, rfl⟩ : ∃ y : World, y = wr := ⟨_, rfl⟩
      have hH20 := hHs
      have hB20 := hBs
      clear hpl hk hlt hHs hBs
      go_wp2_with fail
      refine (Walk3 (f := wf) (r := wr0) (i := wi) mb tb hb 16 W root (page % 512) HOK.out HO.out HWF.out HWR.out HWI.out w20 _ _ ((hH20.front [_] _).front [_, _] _)).mono ?_
      rintro e w21 ⟨rfl, hH21, hB21⟩
      have hB21 := hB20.trans hB21
      clear hH20 hB20
      obtain ⟨ra, hra⟩ : ∃ ra, w21.heap.size = ra := ⟨_, rfl⟩
      have tok : True := trivial
      go_wp2_with (have _t := tok; refine wpList_store_all [] _ (hH21.newblk ra 38 #[.bool false, .bool false, .bool false] hra) 38 (.tmp 21) (.tmp 74) rfl rfl rfl (rightC wr0).toArray rfl right_size rfl (rightC_one _) ?_; clear _t tok; intro w22 hH22 hB22' hz; clear hz; have hB22 := hB21.trans ((below_new (Below.refl _ _) hH21 _).trans hB22'); clear hB22' hB21 hH21)
      clear hra
      refine (Access2 mb tb hb 16 8 W [] root a (page % 512) kind user HOK.out (show accS 8 [] (walkS W 16 (page % 512 % 512) 3 root rAll) a (page % 512 % 512) kind user = ((x, on), M) from by rw [HM.out, HO.out, HX.out]) w22 _ _ (((hH22.front [_, _, _, _] _).front [_, _, _] _).front [_, _, _] _)).mono ?_
      rintro e w23 ⟨rfl, hH23, hB23⟩
      have hB23 := hB22.trans hB23
      clear hH22 hB22
      go_wp2_with fail
      refine (List_calls tb 8 M w23 _ _ (hH23.front [_, _] _)).mono ?_
      rintro e w24 ⟨v, rfl, hH24', hB24⟩
      have hB24 := hB23.trans hB24
      clear hH23 hB23
      obtain ⟨a5, c5, rfl, _, _, _⟩ := hH24'.row_form [] _
      have hH24 : Has w24 w.heap.size [MemA hb 16 W, WasA wb 16 69 ps, blk ra 38 (rightC wr0).toArray, row 46 7 (.slice a5 M.length c5) M.length (hitsC M)] := hH24'.pick [3, 5, 4, 0]
      clear hH24'
      go_wp2_with fail
      go_loopw [26] (fun i wr => ∃ (q : Nat), q ≤ 16 ∧ i = .int .i64 q ∧ Has wr w.heap.size [MemA hb 16 W, WasA wb 16 69 ps, blk ra 38 (rightC wr0).toArray, row 46 7 (.slice a5 M.length c5) M.length (hitsC M)] ∧ Below w.heap.size w wr) (fun i _ => 16 - (intOf i).toNat)
      case atStart => exact ⟨0, by omega, rfl, hH24, hB24⟩
      case round =>
        obtain ⟨q, hq, rfl, hHt, hBt⟩ := hrel
        clear hH24 hB24
        by_cases hlt : q < 16
        · obtain ⟨⟨pv, pF⟩, hp⟩ : ∃ p, ps[q]? = some p := ⟨_, List.getElem?_eq_getElem (by rw [HPL.out]; exact hlt)⟩
          have hpF : pF = frameW W 16 q := HPS.out q _ hp
          subst hpF
          have HP := hid hp
          obtain ⟨pa, pc, rfl, _⟩ := WasA.src [_] _ hHt hp
          have c0 := WasA.cell [_] _ hHt.drew hp
          have CF := hid (Frame_calls hb 16 W q wr.drew _ _ hHt.drew)
          clear hp
          go_wp2_with fail
          go_region_held3 (fun U => U.cell? ⟨wb, q, none⟩ = some (.slice pa (frameW W 16 q).length pc))
            (with_reducible first | exact c0 | exact c8 | exact c9)
            (first
              | (go_at_call 33; (with_reducible refine CF.out.mono ?_); rintro e w8 ⟨v8, rfl, hH8, hB8⟩; have c8 := WasA.cell [_, _] _ hH8 HP.out; obtain ⟨a8, cp8, rfl, _, _, _⟩ := hH8.row_form [] _)
              | (go_at_call 34; (with_reducible refine (keeps (SameWords_calls a8 pa cp8 pc _ _ w8 (srcu_row [] _ hH8 rfl) (WasA.srcAt [_, _] _ hH8 HP.out)) hH8).mono ?_); rintro e w9 ⟨rfl, hH9, hB9⟩; have c9 := WasA.cell [_, _] _ hH9 HP.out))
          have hBd : Below w.heap.size w wr.drew := hBt.drew
          go_wp2_with fail
          go_roundw
          case rel => exact ⟨q + 1, by omega, by go_num, hH9.drop, (hBd.trans hB8).trans hB9⟩
          case measure => simp [intOf] <;> omega
        · have e3 : decide ((q : Int) < 16) = false := by rw [decide_eq_false_iff_not]; omega
          obtain ⟨k26, rfl⟩ : ∃ k26 : Nat, k26 = q := ⟨_, rfl⟩
          obtain ⟨w40, rfl⟩ : ∃ y : World, y = wr := ⟨_, rfl⟩
          clear hlt hq
          have d0 := Has.cell [_, _] _ hHt 0 (v := .bool wr0.W) rfl
          have d1 := Has.cell [_, _] _ hHt 1 (v := .bool wr0.U) rfl
          have d2 := Has.cell [_, _] _ hHt 2 (v := .bool wr0.X) rfl
          rcases o with _ | ⟨f, r⟩
          · obtain rfl : false = wi := HWI.out
            obtain rfl : (0 : Int) = wf := HWF.out
            obtain rfl : rNone = wr0 := HWR.out
            have hx : ((0, false), []) = ((x, on), M) := HX.out
            injection hx with hx1 hx2
            injection hx1 with hx3 hx4
            subst hx2 hx3 hx4
            have i0x := info_parts infoRight
            obtain ⟨i0, hi0, hz0, hz1, hz2⟩ := i0x
            have req := fr_right rNone
            change ∀ u, Sem.run Try.prog (binOp .eql 38 (.agg #[.bool false, .bool false, .bool false]) (.agg #[.bool false, .bool false, .bool false])) u = .ok (.bool true) u at req
            change w40.cell? _ = some (.bool false) at d0 d1 d2
            go_wp2_with fail
            go_ret
            exact ⟨rfl, hBt⟩
          · obtain rfl : true = wi := HWI.out
            obtain rfl : f = wf := HWF.out
            obtain rfl : r = wr0 := HWR.out
            have hx : (if rMay r kind user = true then ((f, true), [hitOf a (page % 512) (some (f, r))]) else ((0, false), [])) = ((x, on), M) := HX.out
            cases hm : rMay r kind user with
            | false =>
              rw [hm, if_neg (by decide)] at hx
              injection hx with hx1 hx2
              injection hx1 with hx3 hx4
              subst hx2 hx3 hx4
              have HMY := hid hm
              clear hm
              go_wp2_with fail
              refine (keeps (RMay_calls r kind user _) hHt).mono ?_
              rintro e w41 ⟨rfl, hH41, hB41⟩
              rw [HMY.out]
              go_wp2_with fail
              go_ret
              exact ⟨rfl, hBt.trans hB41⟩
            | true =>
              rw [hm, if_pos rfl] at hx
              injection hx with hx1 hx2
              injection hx1 with hx3 hx4
              subst hx2 hx3 hx4
              have HMY := hid hm
              clear hm
              obtain ⟨i0, hi0, hz0, hz1, hz2⟩ := info_parts infoHit
              go_wp2_with fail
              refine (keeps (RMay_calls r kind user _) hHt).mono ?_
              rintro e w41 ⟨rfl, hH41, hB41⟩
              rw [HMY.out]
              clear d0 d1 d2
              have d0 := Has.cell [_, _] _ hH41 0 (v := .bool r.W) rfl
              have d1 := Has.cell [_, _] _ hH41 1 (v := .bool r.U) rfl
              have d2 := Has.cell [_, _] _ hH41 2 (v := .bool r.X) rfl
              have hS := hH41.newblk w41.heap.size 46 (hitsC [hitOf a (page % 512) (some (f, r))]).toArray rfl
              have hBS := below_new (hBt.trans hB41) hH41 (.cells (hitsC [hitOf a (page % 512) (some (f, r))]).toArray 46)
              have cs := keeps (Same_calls a5 (some ⟨w41.heap.size, 0, none⟩) c5 1 [hitOf a (page % 512) (some (f, r))] [hitOf a (page % 512) (some (f, r))] _ (srch_row [_, _, _, _] _ hS rfl) (srch_blk [] _ hS (by simp))) hS
              rw [decide_eq_true rfl] at cs
              have CS := hid cs
              clear cs
              go_wp2_with fail
              refine CS.out.mono ?_
              rintro e w42 ⟨rfl, hH42, hB42⟩
              go_wp2_with fail
              go_ret
              exact ⟨rfl, hBS.trans hB42⟩

end Go.Proofs.Ytlcdjdchcjnhfaa
