/-
  MmuKnown: what is known serves, in its own space alone, until it is dropped.
-/
import Derived.Test.YtlcdjdchcjnhfaaMmuHead
import Derived.StillTailTactics
import Derived.Test.YtlcdjdchcjnhfaaRightRef
namespace Go.Proofs.Ytlcdjdchcjnhfaa
open Go.RowKit
set_option linter.unusedVariables false
set_option linter.unusedSimpArgs false

theorem kn_first {o : Option (Int × RightS)} {a p k f : Int} {u : Bool} {L : List HitS} (h : accS 8 [] o a p k u = ((f, true), L)) : ∃ r, L = [hitOf a p (some (f, r))] ∧ rMay r k u = true := by
  rcases o with _ | ⟨g, r⟩
  · cases h
  · have e : accS 8 [] (some (g, r)) a p k u = if rMay r k u then ((g, true), [hitOf a p (some (g, r))]) else ((0, false), []) := rfl
    rw [e] at h
    cases hm : rMay r k u with
    | false => rw [hm] at h; cases h
    | true =>
      rw [hm, if_pos rfl] at h
      injection h with h1 h2
      injection h1 with h3 _
      subst h3
      exact ⟨r, h2.symm, hm⟩
theorem rH_of (a p f : Int) (r : RightS) : rH (hitOf a p (some (f, r))) = r := rfl
theorem kn_again (o : Option (Int × RightS)) (a p k f : Int) (u : Bool) (r : RightS) (hm : rMay r k u = true) : accS 8 [hitOf a p (some (f, r))] o a p k u = ((f, true), [hitOf a p (some (f, r))]) := by
  have hf : List.find? (keyB a p) [hitOf a p (some (f, r))] = some (hitOf a p (some (f, r))) := by simp [keyB, keyE, hitOf]
  unfold accS
  rw [hf]
  show (if rMay (rH (hitOf a p (some (f, r)))) k u = true then _ else _) = _
  rw [rH_of, if_pos hm]
  rfl
theorem kn_drop (p f : Int) (r : RightS) : dropL 1 p [hitOf 0 p (some (f, r))] = [hitOf 0 p (some (f, r))] := by simp [dropL, keyB, keyE, hitOf]
theorem kn_find (p f : Int) (r : RightS) : List.find? (keyB 1 p) [hitOf 0 p (some (f, r))] = none := by simp [keyB, keyE, hitOf]
theorem kn_find0 (p f : Int) (r : RightS) : List.find? (keyB 0 p) [hitOf 1 p (some (f, r))] = none := by simp [keyB, keyE, hitOf]
/-- What another space gets. -/
theorem kn_other_no {o : Option (Int × RightS)} {p k f : Int} {u : Bool} {r : RightS} (h : ∀ g s, o = some (g, s) → rMay s k u = false) : accS 8 [hitOf 0 p (some (f, r))] o 1 p k u = ((0, false), [hitOf 0 p (some (f, r))]) := by
  unfold accS
  rw [kn_find]
  rcases o with _ | ⟨g, s⟩
  · show ((0, false), dropL 1 p [hitOf 0 p (some (f, r))]) = _
    rw [kn_drop]
  · show (if rMay s k u = true then _ else ((0, false), dropL 1 p [hitOf 0 p (some (f, r))])) = _
    rw [h g s rfl, if_neg (by decide), kn_drop]
theorem kn_other_yes {p k f g : Int} {u : Bool} {r s : RightS} (h : rMay s k u = true) : accS 8 [hitOf 0 p (some (f, r))] (some (g, s)) 1 p k u = ((g, true), [hitOf 0 p (some (f, r)), hitOf 1 p (some (g, s))]) := by
  unfold accS
  rw [kn_find]
  show (if rMay s k u = true then ((g, true), putL 8 (dropL 1 p [hitOf 0 p (some (f, r))]) (hitOf 1 p (some (g, s)))) else _) = _
  rw [h, if_pos rfl, kn_drop]
  unfold putL
  rw [show dropL (hitOf 1 p (some (g, s))).a (hitOf 1 p (some (g, s))).p [hitOf 0 p (some (f, r))] = [hitOf 0 p (some (f, r))] from kn_drop p f r]
  rfl
theorem kn_gone1 (p f : Int) (r : RightS) : dropL 0 p [hitOf 0 p (some (f, r))] = [] := by simp [dropL, keyB, keyE, hitOf]
theorem kn_gone2 (p f g : Int) (r s : RightS) : dropL 0 p [hitOf 0 p (some (f, r)), hitOf 1 p (some (g, s))] = [hitOf 1 p (some (g, s))] := by simp [dropL, keyB, keyE, hitOf]
theorem kn_last_no {o : Option (Int × RightS)} {p k : Int} {u : Bool} (h : ∀ g s, o = some (g, s) → rMay s k u = false) : accS 8 [] o 0 p k u = ((0, false), []) := by
  rcases o with _ | ⟨g, s⟩
  · rfl
  · show (if rMay s k u = true then _ else ((0, false), dropL 0 p [])) = _
    rw [h g s rfl, if_neg (by decide)]
    rfl
theorem kn_last_yes {p k g : Int} {u : Bool} {s : RightS} (h : rMay s k u = true) : ∃ M, accS 8 [hitOf 1 p (some (g, s))] (some (g, s)) 0 p k u = ((g, true), M) := by
  unfold accS
  rw [kn_find0]
  show ∃ M, (if rMay s k u = true then _ else _) = _
  rw [h, if_pos rfl]
  exact ⟨_, rfl⟩

set_option maxHeartbeats 4000000 in
set_option maxRecDepth 100000 in
theorem MmuKnown_walk (la : Option Addr) (llen lcap : Nat) (l : List PutS) (ma : Option Addr) (mlen mcap : Nat) (m : List PutS) (page kind : Int) (user : Bool) (w : World) (hAl : ArgRow w 3 la llen (l.flatMap putC)) (hll : ∀ x ∈ l, PutOk x) (hAm : ArgRow w 3 ma mlen (m.flatMap putC)) (hlm : ∀ x ∈ m, PutOk x) (hpage : (Lit.int .u16 page).wf = true) (hkind : (Lit.int .u8 kind).wf = true) :
    Calls Try.prog 3 #[.slice la llen lcap, .slice ma mlen mcap, .int .u16 page, .int .u8 kind, .bool user] w fun e w' => e = .returned (.bool true) ∧ Below w.heap.size w w' := by
  obtain rfl := puts_len hAl
  have hsl := hAl.small
  have HAl := hid hAl
  obtain rfl := puts_len hAm
  have hsm := hAm.small
  have HAm := hid hAm
  have HLm := hid hlm
  have hok := okW_made hll
  obtain ⟨W, hW⟩ : ∃ W, madeW l = W := ⟨_, rfl⟩
  rw [hW] at hok
  have HOK := hid hok
  have HWM := hid hW
  obtain ⟨t2, t3⟩ := bounds_u16 hpage
  obtain ⟨t4, t5⟩ := bounds_u8 hkind
  have n0 : 0 ≤ page % 512 := Int.emod_nonneg _ (by decide)
  have n1 : page % 512 < 512 := Int.emod_lt_of_pos _ (by decide)
  have n2 : 0 ≤ kind % 3 := Int.emod_nonneg _ (by decide)
  have n3 : kind % 3 < 3 := Int.emod_lt_of_pos _ (by decide)
  have hmod : page % 512 % 512 = page % 512 := by omega
  have HM := hid hmod
  obtain ⟨o, ho⟩ : ∃ o, walkS W 16 (page % 512) 3 1 rAll = o := ⟨_, rfl⟩
  have HO := hid ho
  obtain ⟨a, on, M, hx⟩ : ∃ (a : Int) (on : Bool) (M : List HitS), accS 8 [] o 0 (page % 512) (kind % 3) user = ((a, on), M) := ⟨_, _, _, rfl⟩
  have HX := hid hx
  obtain ⟨V, hV⟩ : ∃ V, putW W m = V := ⟨_, rfl⟩
  have hokV : okW V := by rw [← hV]; exact okW_put hok hlm
  have HOKV := hid hokV
  have HV := hid hV
  have HPS := hid (fun (k : Nat) (x : PutS) (h : m[k]? = some x) => putW_snoc W m k h)
  obtain ⟨o2, ho2⟩ : ∃ o2, walkS V 16 (page % 512) 3 1 rAll = o2 := ⟨_, rfl⟩
  have HO2 := hid ho2
  have hH0 : Has w w.heap.size [] := Has.nil (Nat.le_refl _)
  clear hok hW hAl hll hAm hlm hpage hkind hmod ho hx hokV hV ho2
  go_enter Try.func3, Try.ntmps3
  go_wp2_with fail
  refine (head_true w _ [] hH0).mono ?_
  rintro e w1 ⟨_, rfl, hH1, hB1⟩
  go_wp2_with fail
  refine (Made_calls la lcap l w1 w HAl.out hB1 _ [] hH1).mono ?_
  rintro e w2 ⟨hb, rfl, hH2, hB2⟩
  rw [HWM.out] at hH2
  have hB2 := hB1.trans hB2
  clear hH1 hB1 hH0
  go_wp2_with fail
  refine (TlbNew_yes 8 (by decide) (by decide) w2 _ _ hH2).mono ?_
  rintro e w3 ⟨tb, rfl, hH3, hB3⟩
  have hB3 := hB2.trans hB3
  clear hH2 hB2
  by_cases hbig0 : 600 < l.length
  · have e1 : decide (600 < l.length) = true := decide_eq_true hbig0
    have e2 : decide (600 < (l.length : Int)) = true := decide_eq_true (by omega)
    go_wp2_with fail
    go_ret
    exact ⟨rfl, hB3⟩
  have f0 : decide (600 < l.length) = false := decide_eq_false hbig0
  have g0 : decide (600 < (l.length : Int)) = false := decide_eq_false (by omega)
  by_cases hbig1 : 600 < m.length
  · have e1 : decide (600 < m.length) = true := decide_eq_true hbig1
    have e2 : decide (600 < (m.length : Int)) = true := decide_eq_true (by omega)
    go_wp2_with fail
    go_ret
    exact ⟨rfl, hB3⟩
  have f1 : decide (600 < m.length) = false := decide_eq_false hbig1
  have g1 : decide (600 < (m.length : Int)) = false := decide_eq_false (by omega)
  go_wp2_with fail
  refine (MmuNew_calls tb hb w3 _ _ hH3).mono ?_
  rintro e w4 ⟨mb, rfl, hH4, hB4⟩
  have hB4 := hB3.trans hB4
  clear hH3 hB3 f0 g0 f1 g1
  go_wp2_with fail
  refine (Access2 mb tb hb 16 8 W [] 1 0 (page % 512) (kind % 3) user HOK.out (show accS 8 [] (walkS W 16 (page % 512 % 512) 3 1 rAll) 0 (page % 512 % 512) (kind % 3) user = ((a, on), M) from by rw [HM.out, HO.out, HX.out]) w4 _ _ (((hH4.front [_] _).front [_, _] _).front [_, _] _)).mono ?_
  rintro e w5 ⟨rfl, hH5, hB5⟩
  have hB5 := hB4.trans hB5
  clear hH4 hB4
  go_wp2_with fail
  have hHL := (((hH5.front [_, _] _).front [_] _).front [_, _] _)
  go_loopw [19] (fun i wr => ∃ j : Nat, j ≤ m.length ∧ i = .int .i64 j ∧ Has wr w.heap.size [MemA hb 16 (putW W (m.take j)), mmuB mb tb hb, TlbA tb 8 M] ∧ Below w.heap.size w wr) (fun i _ => m.length - (intOf i).toNat)
  case atStart => exact ⟨0, by omega, rfl, hHL, hB5⟩
  case round =>
    obtain ⟨j, hj, rfl, hHr, hBr⟩ := hrel
    clear hHL hH5 hB5
    by_cases hlt : j < m.length
    · obtain ⟨x, hx⟩ : ∃ x, m[j]? = some x := ⟨m[j], List.getElem?_eq_getElem hlt⟩
      obtain ⟨b, p, rfl, _, _⟩ := HAm.out.mem (by omega)
      have k0 := puts_at HAm.out hBr rfl hx 0 (u := .int .i64 x.G) rfl
      rw [Nat.add_zero] at k0
      have k1 := puts_at HAm.out hBr rfl hx 1 (u := .int .i64 x.I) rfl
      have k2 := puts_at HAm.out hBr rfl hx 2 (u := .int .u64 x.V) rfl
      have HW1 := hid (HPS.out j x hx)
      clear hx
      have hBd : Below w.heap.size w wr.drew := hBr.drew
      have cs := Set_calls hb 16 (putW W (m.take j)) x.G x.I x.V wr.drew _ _ hHr.drew
      have CS := hid cs
      clear cs
      go_wp2_with fail
      go_still_tail 16, (by kernel_rfl)
      change wpList _ _ _ _ _ (wr.drew)
      go_wp2_with fail
      refine CS.out.mono ?_
      rintro e w30 ⟨rfl, hH30, hB30⟩
      rw [← HW1.out] at hH30
      go_wp2_with fail
      go_roundw
      case rel => exact ⟨j + 1, by omega, by go_num, hH30, hBd.trans hB30⟩
      case measure => simp [intOf] <;> omega
    · obtain rfl : j = m.length := by omega
      rw [List.take_length, HV.out] at hHr
      clear hj hlt
      obtain ⟨w20, rfl⟩ : ∃ x : World, x = wr := ⟨_, rfl⟩
      have hH20 := hHr.front [_] _
      have hB20 := hBr
      clear hHr hBr
      cases on with
      | false =>
        go_wp2_with fail
        go_ret
        exact ⟨rfl, hB20⟩
      | true =>
        obtain ⟨r1, hM, hm1⟩ := kn_first HX.out
        subst hM
        have HM1 := hid hm1
        clear hm1
        go_wp2_with fail
        refine (Access2 mb tb hb 16 8 V [(hitOf 0 (page % 512) (some (a, r1)))] 1 0 (page % 512) (kind % 3) user HOKV.out (show accS 8 [(hitOf 0 (page % 512) (some (a, r1)))] (walkS V 16 (page % 512 % 512) 3 1 rAll) 0 (page % 512 % 512) (kind % 3) user = ((a, true), [(hitOf 0 (page % 512) (some (a, r1)))]) from by rw [HM.out]; exact kn_again _ _ _ _ _ _ _ HM1.out) w20 _ _ (((hH20.front [_, _] _).front [_, _] _).front [_, _] _)).mono ?_
        rintro e w21 ⟨rfl, hH21, hB21⟩
        have hB21 := hB20.trans hB21
        clear hH20 hB20
        rcases o2 with _ | ⟨f2, r2⟩
        · go_wp2_with fail
          refine (Walk3 (f := 0) (r := rNone) (i := false) mb tb hb 16 V 1 (page % 512) HOKV.out HO2.out rfl rfl rfl w21 _ _ ((hH21.front [_] _).front [_] _)).mono ?_
          rintro e w22 ⟨rfl, hH22, hB22⟩
          have hB22 := hB21.trans hB22
          clear hH21 hB21
          obtain ⟨ra, hra⟩ : ∃ ra, w22.heap.size = ra := ⟨_, rfl⟩
          have tok : True := trivial
          go_wp2_with (have _t := tok; refine wpList_store_all [] _ (hH22.newblk ra 38 #[.bool false, .bool false, .bool false] hra) 38 (.tmp 23) (.tmp 117) rfl rfl rfl (rightC rNone).toArray rfl right_size rfl (rightC_one _) ?_; clear _t tok; intro w23 hH23 hB23' hz; clear hz; have hB23 := hB22.trans ((below_new (Below.refl _ _) hH22 _).trans hB23'); clear hB23' hB22 hH22)
          clear hra
          refine (Access2 mb tb hb 16 8 V [(hitOf 0 (page % 512) (some (a, r1)))] 1 1 (page % 512) (kind % 3) user HOKV.out (show accS 8 [(hitOf 0 (page % 512) (some (a, r1)))] (walkS V 16 (page % 512 % 512) 3 1 rAll) 1 (page % 512 % 512) (kind % 3) user = ((0, false), [(hitOf 0 (page % 512) (some (a, r1)))]) from by rw [HM.out, HO2.out]; exact kn_other_no (fun g s h => by cases h)) w23 _ _ (((hH23.front [_, _, _] _).front [_, _, _] _).front [_, _, _] _)).mono ?_
          rintro e w24 ⟨rfl, hH24, hB24⟩
          have hB24 := hB23.trans hB24
          clear hH23 hB23
          go_wp2_with fail
          refine (Drop_calls tb 8 [(hitOf 0 (page % 512) (some (a, r1)))] 0 (page % 512) w24 _ _ (hH24.front [_, _] _)).mono ?_
          rintro e w25 ⟨rfl, hH25, hB25⟩
          have hB25 := hB24.trans hB25
          clear hH24 hB24
          rw [kn_gone1] at hH25
          go_wp2_with fail
          refine (Access2 mb tb hb 16 8 V [] 1 0 (page % 512) (kind % 3) user HOKV.out (show accS 8 [] (walkS V 16 (page % 512 % 512) 3 1 rAll) 0 (page % 512 % 512) (kind % 3) user = ((0, false), []) from by rw [HM.out, HO2.out]; exact kn_last_no (fun g s h => by cases h)) w25 _ _ ((hH25.front [_, _] _).front [_, _] _)).mono ?_
          rintro e w26 ⟨rfl, hH26, hB26⟩
          have hB26 := hB25.trans hB26
          clear hH25 hB25
          go_wp2_with fail
          go_ret
          exact ⟨rfl, hB26⟩
        · cases hmy : rMay r2 (kind % 3) user with
          | false =>
            have HMY := hid hmy
            clear hmy
            go_wp2_with fail
            refine (Walk3 (f := f2) (r := r2) (i := true) mb tb hb 16 V 1 (page % 512) HOKV.out HO2.out rfl rfl rfl w21 _ _ ((hH21.front [_] _).front [_] _)).mono ?_
            rintro e w22 ⟨rfl, hH22, hB22⟩
            have hB22 := hB21.trans hB22
            clear hH21 hB21
            obtain ⟨ra, hra⟩ : ∃ ra, w22.heap.size = ra := ⟨_, rfl⟩
            have tok : True := trivial
            go_wp2_with (have _t := tok; refine wpList_store_all [] _ (hH22.newblk ra 38 #[.bool false, .bool false, .bool false] hra) 38 (.tmp 23) (.tmp 117) rfl rfl rfl (rightC r2).toArray rfl right_size rfl (rightC_one _) ?_; clear _t tok; intro w23 hH23 hB23' hz; clear hz; have hB23 := hB22.trans ((below_new (Below.refl _ _) hH22 _).trans hB23'); clear hB23' hB22 hH22)
            clear hra
            refine (Access2 mb tb hb 16 8 V [(hitOf 0 (page % 512) (some (a, r1)))] 1 1 (page % 512) (kind % 3) user HOKV.out (show accS 8 [(hitOf 0 (page % 512) (some (a, r1)))] (walkS V 16 (page % 512 % 512) 3 1 rAll) 1 (page % 512 % 512) (kind % 3) user = ((0, false), [(hitOf 0 (page % 512) (some (a, r1)))]) from by rw [HM.out, HO2.out]; exact kn_other_no (fun g s h => by cases h; exact HMY.out)) w23 _ _ (((hH23.front [_, _, _] _).front [_, _, _] _).front [_, _, _] _)).mono ?_
            rintro e w24 ⟨rfl, hH24, hB24⟩
            have hB24 := hB23.trans hB24
            clear hH23 hB23
            go_wp2_with fail
            refine (Drop_calls tb 8 [(hitOf 0 (page % 512) (some (a, r1)))] 0 (page % 512) w24 _ _ (hH24.front [_, _] _)).mono ?_
            rintro e w25 ⟨rfl, hH25, hB25⟩
            have hB25 := hB24.trans hB25
            clear hH24 hB24
            rw [kn_gone1] at hH25
            go_wp2_with fail
            refine (Access2 mb tb hb 16 8 V [] 1 0 (page % 512) (kind % 3) user HOKV.out (show accS 8 [] (walkS V 16 (page % 512 % 512) 3 1 rAll) 0 (page % 512 % 512) (kind % 3) user = ((0, false), []) from by rw [HM.out, HO2.out]; exact kn_last_no (fun g s h => by cases h; exact HMY.out)) w25 _ _ ((hH25.front [_, _] _).front [_, _] _)).mono ?_
            rintro e w26 ⟨rfl, hH26, hB26⟩
            have hB26 := hB25.trans hB26
            clear hH25 hB25
            have d0 := Has.cell [_, _, _] _ hH26 0 (v := .bool r2.W) rfl
            have d1 := Has.cell [_, _, _] _ hH26 1 (v := .bool r2.U) rfl
            have d2 := Has.cell [_, _, _] _ hH26 2 (v := .bool r2.X) rfl
            go_wp2_with fail
            refine (keeps (RMay_calls r2 (kind % 3) user _) hH26).mono ?_
            rintro e w40 ⟨rfl, hH40, hB40⟩
            rw [HMY.out]
            go_wp2_with fail
            go_ret
            exact ⟨rfl, hB26.trans hB40⟩
          | true =>
            have HMY := hid hmy
            clear hmy
            go_wp2_with fail
            refine (Walk3 (f := f2) (r := r2) (i := true) mb tb hb 16 V 1 (page % 512) HOKV.out HO2.out rfl rfl rfl w21 _ _ ((hH21.front [_] _).front [_] _)).mono ?_
            rintro e w22 ⟨rfl, hH22, hB22⟩
            have hB22 := hB21.trans hB22
            clear hH21 hB21
            obtain ⟨ra, hra⟩ : ∃ ra, w22.heap.size = ra := ⟨_, rfl⟩
            have tok : True := trivial
            go_wp2_with (have _t := tok; refine wpList_store_all [] _ (hH22.newblk ra 38 #[.bool false, .bool false, .bool false] hra) 38 (.tmp 23) (.tmp 117) rfl rfl rfl (rightC r2).toArray rfl right_size rfl (rightC_one _) ?_; clear _t tok; intro w23 hH23 hB23' hz; clear hz; have hB23 := hB22.trans ((below_new (Below.refl _ _) hH22 _).trans hB23'); clear hB23' hB22 hH22)
            clear hra
            refine (Access2 mb tb hb 16 8 V [(hitOf 0 (page % 512) (some (a, r1)))] 1 1 (page % 512) (kind % 3) user HOKV.out (show accS 8 [(hitOf 0 (page % 512) (some (a, r1)))] (walkS V 16 (page % 512 % 512) 3 1 rAll) 1 (page % 512 % 512) (kind % 3) user = ((f2, true), [(hitOf 0 (page % 512) (some (a, r1))), (hitOf 1 (page % 512) (some (f2, r2)))]) from by rw [HM.out, HO2.out]; exact kn_other_yes HMY.out) w23 _ _ (((hH23.front [_, _, _] _).front [_, _, _] _).front [_, _, _] _)).mono ?_
            rintro e w24 ⟨rfl, hH24, hB24⟩
            have hB24 := hB23.trans hB24
            clear hH23 hB23
            go_wp2_with fail
            refine (Drop_calls tb 8 [(hitOf 0 (page % 512) (some (a, r1))), (hitOf 1 (page % 512) (some (f2, r2)))] 0 (page % 512) w24 _ _ (hH24.front [_, _] _)).mono ?_
            rintro e w25 ⟨rfl, hH25, hB25⟩
            have hB25 := hB24.trans hB25
            clear hH24 hB24
            rw [kn_gone2] at hH25
            obtain ⟨M2, hM2⟩ := kn_last_yes (p := page % 512) (g := f2) HMY.out
            have HM2 := hid hM2
            clear hM2
            go_wp2_with fail
            refine (Access2 mb tb hb 16 8 V [(hitOf 1 (page % 512) (some (f2, r2)))] 1 0 (page % 512) (kind % 3) user HOKV.out (show accS 8 [(hitOf 1 (page % 512) (some (f2, r2)))] (walkS V 16 (page % 512 % 512) 3 1 rAll) 0 (page % 512 % 512) (kind % 3) user = ((f2, true), M2) from by rw [HM.out, HO2.out]; exact HM2.out) w25 _ _ ((hH25.front [_, _] _).front [_, _] _)).mono ?_
            rintro e w26 ⟨rfl, hH26, hB26⟩
            have hB26 := hB25.trans hB26
            clear hH25 hB25
            have d0 := Has.cell [_, _, _] _ hH26 0 (v := .bool r2.W) rfl
            have d1 := Has.cell [_, _, _] _ hH26 1 (v := .bool r2.U) rfl
            have d2 := Has.cell [_, _, _] _ hH26 2 (v := .bool r2.X) rfl
            go_wp2_with fail
            refine (keeps (RMay_calls r2 (kind % 3) user _) hH26).mono ?_
            rintro e w40 ⟨rfl, hH40, hB40⟩
            rw [HMY.out]
            go_wp2_with fail
            go_ret
            exact ⟨rfl, hB26.trans hB40⟩

end Go.Proofs.Ytlcdjdchcjnhfaa
