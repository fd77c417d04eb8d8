/-
  TlbMost: there are never more than there may be; each pair is there once; the last ones that were put are there.
-/
import Derived.Test.YtcfphdebekbbkaaTlbArgs2
import Derived.Test.YtcfphdebekbbkaaStep
import Derived.Deep.CutBlock
import Derived.StillTailTactics
import Derived.Deep.DeepCutAuto
namespace Go.Proofs.Ytcfphdebekbbkaa
open Go.RowKit
set_option linter.unusedVariables false
set_option linter.unusedSimpArgs false

theorem getV_some' {L : List HitS} {a p : Int} {h : HitS} (hf : L.find? (keyB a p) = some h) : getV L a p = .tuple #[.agg (hitC h).toArray, .bool true] := by simp [getV, hf]
/-- Among the last d. -/
def Near (L : List HitS) (a p : Int) (d : Nat) : Prop := ∃ A g B, L = A ++ g :: B ∧ g.a = a ∧ g.p = p ∧ B.length + 1 ≤ d
theorem near_self (n : Nat) (L : List HitS) (h : HitS) {d : Nat} (hd : 1 ≤ d) : Near (putL n L h) h.a h.p d :=
  ⟨_, h, [], rfl, rfl, rfl, by simpa using hd⟩
theorem near_put {n : Nat} {L : List HitS} {h : HitS} {a p : Int} {d : Nat} (hN : Near L a p d) (hd : d < n) : Near (putL n L h) a p (d + 1) := by
  obtain ⟨A, g, B, rfl, rfl, rfl, hB⟩ := hN
  by_cases hk : keyB h.a h.p g = true
  · obtain ⟨e1, e2⟩ := keyB_true.1 hk
    rw [e1, e2]
    exact near_self n _ h (by omega)
  · have hk2 : keyB h.a h.p g = false := by simpa using hk
    have e : dropL h.a h.p (A ++ g :: B) = dropL h.a h.p A ++ g :: dropL h.a h.p B := by
      unfold dropL
      rw [List.filter_append, List.filter_cons_of_pos (by simp [hk2])]
    have hle := dropL_le h.a h.p B
    unfold putL
    rw [e]
    by_cases hn : (dropL h.a h.p A ++ g :: dropL h.a h.p B).length = n
    · rw [if_pos hn]
      cases hA : dropL h.a h.p A with
      | nil =>
        rw [hA] at hn
        simp at hn
        omega
      | cons x A' => exact ⟨A', g, dropL h.a h.p B ++ [h], by simp, rfl, rfl, by simp; omega⟩
    · rw [if_neg hn]
      exact ⟨dropL h.a h.p A, g, dropL h.a h.p B ++ [h], by simp, rfl, rfl, by simp; omega⟩
theorem near_find {L : List HitS} {a p : Int} {d : Nat} (hN : Near L a p d) : ∃ g, L.find? (keyB a p) = some g := by
  obtain ⟨A, g, B, rfl, h1, h2, _⟩ := hN
  refine Option.isSome_iff_exists.1 ?_
  rw [← any_find, List.any_eq_true]
  exact ⟨g, by simp, keyB_true.2 ⟨h1, h2⟩⟩
/-- The last n that were put are there. -/
def MostI (l : List HitS) (n k : Nat) (L : List HitS) : Prop := ∀ j x, j < k → k ≤ j + n → l[j]? = some x → Near L x.a x.p (k - j)
theorem MostI.put {l : List HitS} {n k : Nat} {L : List HitS} (hI : MostI l n k L) (hn : 1 ≤ n) {h : HitS} (hk : l[k]? = some h) : MostI l n (k + 1) (putL n L h) := by
  intro j x hj hjn hx
  by_cases e : j = k
  · subst e
    rw [hk] at hx
    injection hx with hx
    subst hx
    exact near_self n L _ (by omega)
  · have := near_put (h := h) (hI j x (by omega) (by omega) hx) (show k - j < n by omega)
    rw [show k + 1 - j = k - j + 1 from by omega]
    exact this
theorem putL_last (n : Nat) (L : List HitS) (h : HitS) {m : Nat} (hm : (putL n L h).length = m + 1) : (putL n L h)[m]? = some h := by
  unfold putL at *
  generalize (if (dropL h.a h.p L).length = n then (dropL h.a h.p L).eraseIdx 0 else dropL h.a h.p L) = Z at *
  simp at hm
  rw [List.getElem?_append_right (by omega)]
  simp [hm]
theorem uniq_two {L : List HitS} (hu : uniq L) {a b : Nat} {x y : HitS} (hx : L[a]? = some x) (hy : L[b]? = some y) (hba : b < a) : ¬ (x.a = y.a ∧ x.p = y.p) := by
  obtain ⟨h1, rfl⟩ := List.getElem?_eq_some_iff.1 hx
  obtain ⟨h2, rfl⟩ := List.getElem?_eq_some_iff.1 hy
  have := List.pairwise_iff_getElem.1 hu b a h2 h1 hba
  exact fun h => this ⟨h.1.symm, h.2.symm⟩
theorem SrcH.cells7 {W : World} {b o k : Nat} {L : List HitS} {h : HitS} (hs : SrcH W (some ⟨b, o, none⟩) L) (hk : L[k]? = some h) : W.cell? ⟨b, o + k * 7, none⟩ = some (.int .i64 h.a) ∧ W.cell? ⟨b, o + k * 7 + 1, none⟩ = some (.int .i64 h.p) ∧ W.cell? ⟨b, o + k * 7 + 2, none⟩ = some (.int .i64 h.f) ∧ W.cell? ⟨b, o + k * 7 + 3, none⟩ = some (.bool h.w) ∧ W.cell? ⟨b, o + k * 7 + 4, none⟩ = some (.bool h.u) ∧ W.cell? ⟨b, o + k * 7 + 5, none⟩ = some (.bool h.x) ∧ W.cell? ⟨b, o + k * 7 + 6, none⟩ = some (.bool h.d) := by
  have h0 := hs.at rfl hk 0 (u := .int .i64 h.a) rfl
  have h1 := hs.at rfl hk 1 (u := .int .i64 h.p) rfl
  have h2 := hs.at rfl hk 2 (u := .int .i64 h.f) rfl
  have h3 := hs.at rfl hk 3 (u := .bool h.w) rfl
  have h4 := hs.at rfl hk 4 (u := .bool h.u) rfl
  have h5 := hs.at rfl hk 5 (u := .bool h.x) rfl
  have h6 := hs.at rfl hk 6 (u := .bool h.d) rfl
  rw [Nat.add_zero] at h0
  exact ⟨h0, h1, h2, h3, h4, h5, h6⟩
theorem SrcH.cells70 {W : World} {b k : Nat} {L : List HitS} {h : HitS} (hs : SrcH W (some ⟨b, 0, none⟩) L) (hk : L[k]? = some h) : W.cell? ⟨b, k * 7, none⟩ = some (.int .i64 h.a) ∧ W.cell? ⟨b, k * 7 + 1, none⟩ = some (.int .i64 h.p) ∧ W.cell? ⟨b, k * 7 + 2, none⟩ = some (.int .i64 h.f) ∧ W.cell? ⟨b, k * 7 + 3, none⟩ = some (.bool h.w) ∧ W.cell? ⟨b, k * 7 + 4, none⟩ = some (.bool h.u) ∧ W.cell? ⟨b, k * 7 + 5, none⟩ = some (.bool h.x) ∧ W.cell? ⟨b, k * 7 + 6, none⟩ = some (.bool h.d) := by
  have := hs.cells7 hk
  simpa only [Nat.zero_add] using this

set_option maxHeartbeats 1000000 in
set_option maxRecDepth 100000 in
theorem TlbMost_walk (most : Int) (aa : Option Addr) (len cap : Nat) (l : List HitS) (w : World) (hwm : (Lit.int .u8 most).wf = true) (hA : ArgRow w 7 aa len (hitsC l)) (hl : ∀ x ∈ l, HitOk x) :
    Calls Try.prog 3 #[.int .u8 most, .slice aa len cap] w fun e w' => e = .returned (.bool true) ∧ Below w.heap.size w w' := by
  obtain rfl := hits_len hA
  obtain ⟨t0, t1⟩ := bounds_u8 hwm
  have hH0 : Has w w.heap.size [] := Has.nil (Nat.le_refl _)
  have HS := hid hA.srch
  clear hA hl hwm
  have u0 : 0 ≤ most % 64 := Int.emod_nonneg _ (by decide)
  have u1 : most % 64 < 64 := Int.emod_lt_of_pos _ (by decide)
  obtain ⟨n, hn⟩ : ∃ n : Nat, 1 + most % 64 = (n : Int) := ⟨(1 + most % 64).toNat, by omega⟩
  have n1 : 1 ≤ n := by omega
  have n3 : n ≤ 64 := by omega
  go_enter Try.func3, Try.ntmps3
  go_wp2_with fail
  refine (head_true w _ [] hH0).mono ?_
  rintro e w1 ⟨_, rfl, hH1, hB1⟩
  go_wp2_with fail
  refine (TlbNew_yes n n1 (by omega) w1 _ _ hH1).mono ?_
  rintro e w2 ⟨t, rfl, hH2, hB2⟩
  have hB2 := hB1.trans hB2
  clear hH1 hB1 hH0 hn u0 u1
  by_cases hbig : 300 < l.length
  · have e1 : decide (300 < l.length) = true := by rw [decide_eq_true_eq]; omega
    have e2 : decide (300 < (l.length : Int)) = true := by rw [decide_eq_true_eq]; omega
    go_wp2_with fail
    go_ret
    exact ⟨rfl, hB2⟩
  · have e1 : decide (300 < l.length) = false := by rw [decide_eq_false_iff_not]; omega
    have e2 : decide (300 < (l.length : Int)) = false := by rw [decide_eq_false_iff_not]; omega
    go_wp2_with fail
    go_loopg [8] l.length (fun g i wr => ∃ (k : Nat) (L : List HitS), g + k = l.length ∧ i = .int .i64 k ∧ MostI l n k L ∧ Has wr w.heap.size [TlbA t n L] ∧ Below w.heap.size w wr)
    case atStart => exact ⟨0, [], by omega, rfl, fun j x hj => by omega, hH2, hB2⟩
    case round =>
      obtain ⟨gr, rfl⟩ : ∃ gr, gr = gk := ⟨gk, rfl⟩
      obtain ⟨k, L, hk, rfl, hI, hHr, hBr⟩ := hrel
      clear hH2 hB2
      by_cases hlt : k < l.length
      · obtain ⟨h, hh⟩ : ∃ h, l[k]? = some h := ⟨_, List.getElem?_eq_getElem hlt⟩
        obtain ⟨b, o, rfl, _, _⟩ := HS.out.mem (by omega)
        have P := hid ((HS.out.later hBr).adds rfl hh)
        have HI := hid (hI.put n1 hh)
        have HH := hid hh
        have HK := hid hk
        have hk300 : k < 300 := by omega
        clear hh hI hk
        go_wp2_with (refine wpList_load_at 30 (.tmp 43) rfl rfl ⟨b, o + k * 7, none⟩ rfl _ (hitC h) P.out Try.underlying30 rfl hit_size ?_)
        refine (Put_calls t n L h wr _ _ hHr).mono ?_
        rintro e w3 ⟨rfl, hH3, hB3'⟩
        have hB3 := hBr.trans hB3'
        clear hB3' hHr hBr
        obtain ⟨m, hm⟩ : ∃ m, (putL n L h).length = m + 1 := ⟨(putL n L h).length - 1, by have : 0 < (putL n L h).length := by simp [putL]
                                                                                          omega⟩
        have hlast := putL_last n L h hm
        generalize putL n L h = M at *
        obtain ⟨_, _, hT, _⟩ := TlbA.open hH3
        have hmn : m + 1 ≤ n := by rw [← hm]; exact hT.2.2.1
        have HU := hid hT.2.2.2
        have HM := hid hm
        have HLS := hid hlast
        clear hT hm hlast
        have cl := List_calls t n M w3 _ _ hH3
        rw [HM.out] at cl
        have CL := hid cl
        clear cl
        go_wp2_with fail
        refine CL.out.mono ?_
        rintro e w4 ⟨v, rfl, hH4, hB4'⟩
        have hB4 := hB3.trans hB4'
        clear hB4' hH3 hB3 CL
        obtain ⟨ao, cp, rfl, _, _, hao⟩ := hH4.row_form [] _
        obtain ⟨g, rfl⟩ := hao (by omega)
        clear hao
        have e3 : (m + 1 == 0) = false := by rw [beq_eq_false_iff_ne]; omega
        have e4 : ((m : Int) + 1 == 0) = false := by rw [beq_eq_false_iff_ne]; omega
        have e5 : decide ((n : Int) < (m : Int) + 1) = false := by rw [decide_eq_false_iff_not]; omega
        have e6 : decide (n < m + 1) = false := by rw [decide_eq_false_iff_not]; omega
        have hm64 : m < 64 := by omega
        have hmm : m < m + 1 := by omega
        have cm := fun W (X : List Asr) (hW : Has W w.heap.size (TlbA t n M :: X)) => Many_calls t n M W _ _ hW
        rw [HM.out] at cm
        have CM := hid cm
        clear cm
        have cM := (srch_row [] _ hH4 HM.out.symm).cells70 HLS.out
        have cl := ((HS.out.later hB4)).cells7 HH.out
        obtain ⟨c0, c1, c2, c3, c4, c5, c6⟩ := cM
        obtain ⟨d0, d1, d2, d3, d4, d5, d6⟩ := cl
        have hne : ∀ W, Sem.run Try.prog (binOp .neq 30 (.agg #[.int .i64 h.a, .int .i64 h.p, .int .i64 h.f, .bool h.w, .bool h.u, .bool h.x, .bool h.d]) (.agg #[.int .i64 h.a, .int .i64 h.p, .int .i64 h.f, .bool h.w, .bool h.u, .bool h.x, .bool h.d])) W = .ok (.bool false) W := fun W => by
          have := hit_neq h h W
          rw [show (!decide (h = h)) = false from by simp] at this
          exact this
        go_wp2_with fail
        go_quiet ((go_at_call 14; exact quiet_same (CM.out _ _ ((hH4.drewN _).front [_] _))))
        have hH5 := hH4.drewN nq
        have hB5 := below_drewN hB4 nq
        generalize w4.drewN nq = w5 at *
        clear c0 c1 c2 c3 c4 c5 c6 d0 d1 d2 d3 d4 d5 d6 hne hH4 hB4 CM P e3 e4 e5 e6
        go_wp2_with fail
        go_loopg [10] (m + 1) (fun g2 i wr => ∃ a : Nat, g2 + a = m + 1 ∧ i = .int .i64 a ∧ Has wr w.heap.size [row 30 7 (.slice (some ⟨g, 0, none⟩) (m + 1) cp) (m + 1) (hitsC M), TlbA t n M] ∧ Below w.heap.size w wr)
        case atStart => exact ⟨0, by omega, rfl, hH5, hB5⟩
        case round =>
          obtain ⟨ga, rfl⟩ : ∃ ga, ga = gk := ⟨gk, rfl⟩
          obtain ⟨a, ha, rfl, hHa, hBa⟩ := hrel
          clear hH5 hB5
          have HKA := hid ha
          by_cases hla : a < m + 1
          · have ha64 : a < 64 := by omega
            obtain ⟨x, hx⟩ : ∃ x, M[a]? = some x := ⟨_, List.getElem?_eq_getElem (by have := HM.out; omega)⟩
            have HX := hid hx
            clear hx ha
            go_wp2_with fail
            go_loopg [11] a (fun g2 i wr => ∃ c : Nat, g2 + c = a ∧ i = .int .i64 c ∧ Has wr w.heap.size [row 30 7 (.slice (some ⟨g, 0, none⟩) (m + 1) cp) (m + 1) (hitsC M), TlbA t n M] ∧ Below w.heap.size w wr)
            case atStart => exact ⟨0, by omega, rfl, hHa, hBa⟩
            case round =>
              obtain ⟨gc, rfl⟩ : ∃ gc, gc = gk := ⟨gk, rfl⟩
              obtain ⟨c, hc, rfl, hHc, hBc⟩ := hrel
              clear hHa hBa
              have HKC := hid hc
              by_cases hlc : c < a
              · obtain ⟨y, hy⟩ : ∃ y, M[c]? = some y := ⟨_, List.getElem?_eq_getElem (by have := HM.out; omega)⟩
                have hno := uniq_two HU.out HX.out hy hlc
                obtain ⟨x0, x1, _, _, _, _, _⟩ := (srch_row [] _ hHc HM.out.symm).cells70 HX.out
                obtain ⟨y0, y1, _, _, _, _, _⟩ := (srch_row [] _ hHc HM.out.symm).cells70 hy
                clear hc hy
                by_cases hxy : x.a = y.a
                · have e3 : (x.a == y.a) = true := by rw [beq_iff_eq]; exact hxy
                  have e4 : (x.p == y.p) = false := by rw [beq_eq_false_iff_ne]; exact fun h => hno ⟨hxy, h⟩
                  clear hno hxy
                  go_wp2_with fail
                  go_quiet (fail)
                  have hH6 := hHc.drewN nq
                  have hB6 := below_drewN hBc nq
                  go_wp2_with fail
                  go_roundg (gc - 1)
                  case measure => have := HKC.out; omega
                  case rel => exact ⟨c + 1, by have := HKC.out; omega, by go_num, hH6, hB6⟩
                · have e3 : (x.a == y.a) = false := by rw [beq_eq_false_iff_ne]; exact hxy
                  clear hno hxy
                  go_wp2_with fail
                  go_quiet (fail)
                  have hH6 := hHc.drewN nq
                  have hB6 := below_drewN hBc nq
                  go_wp2_with fail
                  go_roundg (gc - 1)
                  case measure => have := HKC.out; omega
                  case rel => exact ⟨c + 1, by have := HKC.out; omega, by go_num, hH6, hB6⟩
              · obtain rfl : c = a := by omega
                clear hc
                go_wp2_with fail
                go_roundg (ga - 1)
                case measure => have := HKA.out; omega
                case rel => exact ⟨c + 1, by have := HKA.out; omega, by go_num, hHc, hBc⟩
          · obtain rfl : a = m + 1 := by omega
            clear ha
            go_upto_region 21 with fail
            go_cut [12] (fun s12 wx => ∃ z : Nat, s12 = .int .i64 z ∧ k + 1 ≤ z + n ∧ z ≤ k ∧ wr = wx)
            case first =>
              go_wp2_with fail
              · go_meet
                obtain ⟨z, hz⟩ := Int.eq_ofNat_of_zero_le (show 0 ≤ (k : Int) - n + 1 by omega)
                exact ⟨z, by rw [hz], by omega, by omega, rfl⟩
              · go_meet
                exact ⟨0, rfl, by omega, by omega, rfl⟩
            case rest =>
              obtain ⟨z, rfl, hz1, hz2, rfl⟩ := hcut
              obtain ⟨w6, rfl⟩ : ∃ w6, w6 = wr := ⟨wr, rfl⟩
              go_wp2_with fail
              go_loopg [12] (k + 1 - z) (fun g2 i wr => ∃ j : Nat, g2 + j = k + 1 ∧ i = .int .i64 j ∧ k + 1 ≤ j + n ∧ Has wr w.heap.size [TlbA t n M] ∧ Below w.heap.size w wr)
              case atStart => exact ⟨z, by omega, rfl, hz1, hHa.drop, hBa⟩
              case round =>
                clear hHa hBa
                obtain ⟨gc, rfl⟩ : ∃ gc, gc = gk := ⟨gk, rfl⟩
                obtain ⟨j, hj, rfl, hjn, hHc, hBc⟩ := hrel
                have HKC := hid hj
                by_cases hlj : j ≤ k
                · have e3 : decide ((j : Int) ≤ (k : Int)) = true := by rw [decide_eq_true_eq]; omega
                  have e4 : decide (j ≤ k) = true := by rw [decide_eq_true_eq]; omega
                  obtain ⟨x, hx⟩ : ∃ x, l[j]? = some x := ⟨_, List.getElem?_eq_getElem (by omega)⟩
                  have hjl : j < l.length := by omega
                  obtain ⟨f, hf⟩ := near_find (HI.out j x (by omega) hjn hx)
                  have HX := hid hx
                  have nC := (HS.out.later hBc).cells7 hx
                  obtain ⟨x0, x1, _⟩ := nC
                  have hHd := hHc.drew
                  have hBd : Below w.heap.size w wr.drew := hBc.drew
                  have hHe := (hHc.newblk wr.heap.size 30 #[.int .i64 0, .int .i64 0, .int .i64 0, .bool false, .bool false, .bool false, .bool false] rfl).drew
                  have hBe := (below_new hBc hHc (.cells #[.int .i64 0, .int .i64 0, .int .i64 0, .bool false, .bool false, .bool false, .bool false] 30)).drew
                  have cg := Get_calls t n M x.a x.p wr.drew _ _ hHd
                  rw [getV_some' hf] at cg
                  have ce := Get_calls t n M x.a x.p _ _ _ (hHe.front [_] _)
                  rw [getV_some' hf] at ce
                  have CG := hid cg
                  have CE := hid ce
                  have nD := (HS.out.later hBd).cells7 hx
                  have nE := (HS.out.later hBe).cells7 hx
                  clear cg ce hf hx hj hz1 hz2
                  go_wp2_with fail
                  go_region_held3 (fun W => W.cell? ⟨b, o + j * 7, none⟩ = some (.int .i64 x.a) ∧ W.cell? ⟨b, o + j * 7 + 1, none⟩ = some (.int .i64 x.p))
                    (with_reducible first | exact ⟨nD.1, nD.2.1⟩ | exact ⟨nE.1, nE.2.1⟩ | exact ⟨n7'.1, n7'.2.1⟩ | exact ⟨n7.1, n7.2.1⟩ | exact ⟨n8.1, n8.2.1⟩)
                    (first
                      | (go_at_call 15; (with_reducible refine CG.out.mono ?_); rintro e w7 ⟨rfl, hH7, hB7'⟩; have hB7 := hBd.trans hB7'; have n7' := (HS.out.later hB7).cells7 HX.out; have hA7 := hH7.newblk w7.heap.size 30 #[.int .i64 0, .int .i64 0, .int .i64 0, .bool false, .bool false, .bool false, .bool false] rfl; have hB7 := below_new hB7 hH7 (.cells #[.int .i64 0, .int .i64 0, .int .i64 0, .bool false, .bool false, .bool false, .bool false] 30); have n7 := (HS.out.later hB7).cells7 HX.out; obtain ⟨w8, hr8, hH8, hB8', _⟩ := store_run (P := Try.prog) [] _ hA7 (hitC f) rfl (by have := hitC_one f; simpa using this); have hH8 := hH8.drop; have hB8 := hB7.trans hB8'; have n8 := (HS.out.later hB8).cells7 HX.out)
                      | (go_at_call 15; (with_reducible refine CE.out.mono ?_); rintro e w7 ⟨rfl, hH7, hB7'⟩; have hA7 := hH7.front [_] _; have hB7 := hBe.trans hB7'; have n7 := (HS.out.later hB7).cells7 HX.out; obtain ⟨w8, hr8, hH8, hB8', _⟩ := store_run (P := Try.prog) [] _ hA7 (hitC f) rfl (by have := hitC_one f; simpa using this); have hH8 := hH8.drop; have hB8 := hB7.trans hB8'; have n8 := (HS.out.later hB8).cells7 HX.out))
                  all_goals (
                    go_wp2_with fail
                    go_roundg (gc - 1)
                    case measure => have := HKC.out; omega
                    case rel => exact ⟨j + 1, by have := HKC.out; omega, by go_num, by omega, hH8, hB8⟩)
                · have e3 : decide ((j : Int) ≤ (k : Int)) = false := by rw [decide_eq_false_iff_not]; omega
                  have e4 : decide (j ≤ k) = false := by rw [decide_eq_false_iff_not]; omega
                  clear hj
                  go_wp2_with fail
                  go_roundg (gr - 1)
                  case measure => have := HK.out; omega
                  case rel => exact ⟨k + 1, M, by have := HK.out; omega, by go_num, HI.out, hHc, hBc⟩
      · obtain rfl : k = l.length := by omega
        go_wp2_with fail
        go_ret
        exact ⟨rfl, hBr⟩

end Go.Proofs.Ytcfphdebekbbkaa
