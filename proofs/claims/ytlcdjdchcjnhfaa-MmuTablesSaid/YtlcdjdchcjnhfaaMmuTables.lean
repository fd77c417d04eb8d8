/-
  MmuTables: a page that is found is known as a walk tells it; that changes no walk of a page beside it.
-/
import Derived.Test.YtlcdjdchcjnhfaaMmuHead
import Derived.StillTailTactics
namespace Go.Proofs.Ytlcdjdchcjnhfaa
open Go.RowKit
set_option linter.unusedVariables false
set_option linter.unusedSimpArgs false

theorem right_self (r : RightS) (u : World) : Sem.run Try.prog (binOp .eql 38 (.agg #[.bool r.W, .bool r.U, .bool r.X]) (.agg #[.bool r.W, .bool r.U, .bool r.X])) u = .ok (.bool true) u := by
  rw [right_eq2, decide_eq_true rfl]
theorem tb_find (x : Int × RightS) (a p : Int) : findS 8 [] (some x) a p = (true, [hitOf a p (some x)]) := rfl
theorem tb_get (f : Int) (r : RightS) (a p : Int) : getV [hitOf a p (some (f, r))] a p = .tuple #[.agg (hitC (hitOf a p (some (f, r)))).toArray, .bool true] := by
  simp [getV, keyB, keyE, hitOf]

set_option maxHeartbeats 4000000 in
set_option maxRecDepth 100000 in
theorem MmuTables_walk (la : Option Addr) (llen lcap : Nat) (l : List PutS) (root page other : Int) (w : World) (hAl : ArgRow w 3 la llen (l.flatMap putC)) (hll : ∀ x ∈ l, PutOk x) (hroot : (Lit.int .u8 root).wf = true) (hpage : (Lit.int .u16 page).wf = true) (hother : (Lit.int .u8 other).wf = true) :
    Calls Try.prog 6 #[.slice la llen lcap, .int .u8 root, .int .u16 page, .int .u8 other] w fun e w' => e = .returned (.bool true) ∧ Below w.heap.size w w' := by
  obtain rfl := puts_len hAl
  have hsl := hAl.small
  have HAl := hid hAl
  have hok := okW_made hll
  obtain ⟨W, hW⟩ : ∃ W, madeW l = W := ⟨_, rfl⟩
  rw [hW] at hok
  have HOK := hid hok
  have HWM := hid hW
  obtain ⟨t0, t1⟩ := bounds_u8 hroot
  obtain ⟨t2, t3⟩ := bounds_u16 hpage
  obtain ⟨t4, t5⟩ := bounds_u8 hother
  have n0 : 0 ≤ page % 512 := Int.emod_nonneg _ (by decide)
  have n1 : page % 512 < 512 := Int.emod_lt_of_pos _ (by decide)
  have n2 : 0 ≤ page % 512 / 8 := by omega
  have n3 : page % 512 / 8 < 64 := by omega
  have n4 : 0 ≤ page % 512 / 8 * 8 := by omega
  have n5 : page % 512 / 8 * 8 < 512 := by omega
  have n6 : 0 ≤ other % 8 := Int.emod_nonneg _ (by decide)
  have n7 : other % 8 < 8 := Int.emod_lt_of_pos _ (by decide)
  obtain ⟨i0, hi0, hz0, hz1, hz2⟩ := info_parts infoRight
  have hmod : page % 512 % 512 = page % 512 := by omega
  obtain ⟨o, ho⟩ : ∃ o, walkS W 16 (page % 512) 3 root rAll = o := ⟨_, rfl⟩
  obtain ⟨o2, ho2⟩ : ∃ o2, walkS W 16 (page % 512 / 8 * 8 + other % 8) 3 root rAll = o2 := ⟨_, rfl⟩
  have HSAME := hid fun (h : page % 512 / 8 * 8 + other % 8 = page % 512) => (by rw [← ho, ← ho2, h] : o2 = o)
  have HO := hid ho
  have HO2 := hid ho2
  have HM := hid hmod
  have hH0 : Has w w.heap.size [] := Has.nil (Nat.le_refl _)
  clear hok hW hAl hll hroot hpage hother ho ho2 hmod
  go_enter Try.func6, Try.ntmps6
  go_wp2_with fail
  refine (head_true w _ [] hH0).mono ?_
  rintro e w1 ⟨_, rfl, hH1, hB1⟩
  go_wp2_with fail
  refine (Made_calls la lcap l w1 w HAl.out hB1 _ [] hH1).mono ?_
  rintro e w2 ⟨hb, rfl, hH2, hB2⟩
  rw [HWM.out] at hH2
  have hB2 := hB1.trans hB2
  clear hH1 hB1 hH0
  go_wp2_with fail
  refine (TlbNew_yes 8 (by decide) (by decide) w2 _ _ hH2).mono ?_
  rintro e w3 ⟨tb, rfl, hH3, hB3⟩
  have hB3 := hB2.trans hB3
  clear hH2 hB2
  by_cases hbig0 : 600 < l.length
  · have e1 : decide (600 < l.length) = true := decide_eq_true hbig0
    have e2 : decide (600 < (l.length : Int)) = true := decide_eq_true (by omega)
    go_wp2_with fail
    go_ret
    exact ⟨rfl, hB3⟩
  have f0 : decide (600 < l.length) = false := decide_eq_false hbig0
  have g0 : decide (600 < (l.length : Int)) = false := decide_eq_false (by omega)
  go_wp2_with fail
  refine (MmuNew_calls tb hb w3 _ _ hH3).mono ?_
  rintro e w4 ⟨mb, rfl, hH4, hB4⟩
  have hB4 := hB3.trans hB4
  clear hH3 hB3 f0 g0
  rcases o with _ | ⟨f, r⟩
  · go_wp2_with fail
    refine (Walk3 (f := 0) (r := rNone) (i := false) mb tb hb 16 W root (page % 512) HOK.out HO.out rfl rfl rfl w4 _ _ ((hH4.front [_, _] _).front [_] _)).mono ?_
    rintro e w5 ⟨rfl, hH5, hB5⟩
    have hB5 := hB4.trans hB5
    clear hH4 hB4
    have req := right_self rNone
    change ∀ u, Sem.run Try.prog (binOp .eql 38 (.agg #[.bool false, .bool false, .bool false]) (.agg #[.bool false, .bool false, .bool false])) u = .ok (.bool true) u at req
    obtain ⟨ra, hra⟩ : ∃ ra, w5.heap.size = ra := ⟨_, rfl⟩
    have tok : True := trivial
    go_wp2_with (have _t := tok; refine wpList_store_all [] _ (hH5.newblk ra 38 #[.bool false, .bool false, .bool false] hra) 38 (.tmp 16) (.tmp 72) rfl rfl rfl (rightC rNone).toArray rfl right_size rfl (rightC_one _) ?_; clear _t tok; intro w6 hH6 hB6' hz; clear hz; have hB6 := hB5.trans ((below_new (Below.refl _ _) hH5 _).trans hB6'); clear hB6' hB5 hH5; have d0 := Has.cell [] _ hH6 0 (v := .bool false) rfl; have d1 := Has.cell [] _ hH6 1 (v := .bool false) rfl; have d2 := Has.cell [] _ hH6 2 (v := .bool false) rfl)
    clear hra
    go_ret
    exact ⟨rfl, hB6⟩
  · obtain ⟨fa, hfa⟩ : ∃ fa, wF o2 = fa := ⟨_, rfl⟩
    obtain ⟨rr, hrr⟩ : ∃ rr, wR o2 = rr := ⟨_, rfl⟩
    obtain ⟨ia, hia⟩ : ∃ ia, o2.isSome = ia := ⟨_, rfl⟩
    have HFA := hid hfa
    have HRR := hid hrr
    have HIA := hid hia
    clear hfa hrr hia
    go_wp2_with fail
    refine (Walk3 (f := f) (r := r) (i := true) mb tb hb 16 W root (page % 512) HOK.out HO.out rfl rfl rfl w4 _ _ ((hH4.front [_, _] _).front [_] _)).mono ?_
    rintro e w5 ⟨rfl, hH5, hB5⟩
    have hB5 := hB4.trans hB5
    clear hH4 hB4
    obtain ⟨ra, hra⟩ : ∃ ra, w5.heap.size = ra := ⟨_, rfl⟩
    have tok : True := trivial
    go_wp2_with (have _t := tok; refine wpList_store_all [] _ (hH5.newblk ra 38 #[.bool false, .bool false, .bool false] hra) 38 (.tmp 16) (.tmp 72) rfl rfl rfl (rightC r).toArray rfl right_size rfl (rightC_one _) ?_; clear _t tok; intro w6 hH6 hB6' hz; clear hz; have hB6 := hB5.trans ((below_new (Below.refl _ _) hH5 _).trans hB6'); clear hB6' hB5 hH5)
    clear hra
    go_wp2_with fail
    refine (Find2 mb tb hb 16 8 W [] root 0 (page % 512) HOK.out (show findS 8 [] (walkS W 16 (page % 512 % 512) 3 root rAll) 0 (page % 512 % 512) = (true, [(hitOf 0 (page % 512) (some (f, r)))]) from by rw [HM.out, HO.out]; rfl) w6 _ _ (((hH6.front [_, _, _] _).front [_, _, _] _).front [_, _, _] _)).mono ?_
    rintro e w7 ⟨rfl, hH7, hB7⟩
    have hB7 := hB6.trans hB7
    clear hH6 hB6
    go_wp2_with fail
    refine (Walk3 (f := fa) (r := rr) (i := ia) mb tb hb 16 W root (page % 512 / 8 * 8 + other % 8) HOK.out HO2.out HFA.out HRR.out HIA.out w7 _ _ ((hH7.front [_] _).front [_] _)).mono ?_
    rintro e w8 ⟨rfl, hH8, hB8⟩
    have hB8 := hB7.trans hB8
    clear hH7 hB7
    obtain ⟨rb, hrb⟩ : ∃ rb, w8.heap.size = rb := ⟨_, rfl⟩
    have tok : True := trivial
    go_wp2_with (have _t := tok; refine wpList_store_all [] _ (hH8.newblk rb 38 #[.bool false, .bool false, .bool false] hrb) 38 (.tmp 19) (.tmp 98) rfl rfl rfl (rightC rr).toArray rfl right_size rfl (rightC_one _) ?_; clear _t tok; intro w9 hH9 hB9' hz; clear hz; have hB9 := hB8.trans ((below_new (Below.refl _ _) hH8 _).trans hB9'); clear hB9' hB8 hH8)
    clear hrb
    have cg := TGet_calls tb 8 [(hitOf 0 (page % 512) (some (f, r)))] 0 (page % 512) w9 _ _ (hH9.front [_, _, _] _)
    rw [tb_get] at cg
    have CG := hid cg
    clear cg
    refine CG.out.mono ?_
    rintro e w10 ⟨rfl, hH10, hB10⟩
    have hB10 := hB9.trans hB10
    clear hH9 hB9 CG
    obtain ⟨ha, hha⟩ : ∃ ha, w10.heap.size = ha := ⟨_, rfl⟩
    have tok : True := trivial
    go_wp2_with (have _t := tok; refine wpList_store_all [] _ (hH10.newblk ha 46 hitZ hha) 46 (.tmp 21) (.tmp 104) rfl rfl rfl (hitC (hitOf 0 (page % 512) (some (f, r)))).toArray rfl hit_size' rfl (hitC_one _) ?_; clear _t tok; intro w11 hH11 hB11' hz; clear hz; have hB11 := hB10.trans ((below_new (Below.refl _ _) hH10 _).trans hB11'); clear hB11' hB10 hH10)
    clear hha
    refine (Walk3 (f := fa) (r := rr) (i := ia) mb tb hb 16 W root (page % 512 / 8 * 8 + other % 8) HOK.out HO2.out HFA.out HRR.out HIA.out w11 _ _ ((hH11.front [_, _, _, _] _).front [_, _, _, _] _)).mono ?_
    rintro e w12 ⟨rfl, hH12, hB12⟩
    have hB12 := hB11.trans hB12
    clear hH11 hB11
    have req := right_self r
    by_cases hk : page % 512 / 8 * 8 + other % 8 = page % 512
    · have hoo := HSAME.out hk
      obtain rfl : ia = true := by rw [← HIA.out, hoo]; rfl
      obtain rfl : f = fa := by rw [← HFA.out, hoo]; rfl
      clear hoo
      have g1 : (page % 512 / 8 * 8 + other % 8 == page % 512) = true := by rw [beq_iff_eq]; exact hk
      have g2 : (page % 512 / 8 * 8 + other % 8 != page % 512) = false := by rw [bne, g1]; rfl
      clear hk
      obtain ⟨rc, hrc⟩ : ∃ rc, w12.heap.size = rc := ⟨_, rfl⟩
      have tok : True := trivial
      go_wp2_with (have _t := tok; refine wpList_store_all [] _ (hH12.newblk rc 38 #[.bool false, .bool false, .bool false] hrc) 38 (.tmp 24) (.tmp 113) rfl rfl rfl (rightC rr).toArray rfl right_size rfl (rightC_one _) ?_; clear _t tok; intro w13 hH13 hB13' hz; clear hz; have hB13 := hB12.trans ((below_new (Below.refl _ _) hH12 _).trans hB13'); clear hB13' hB12 hH12; have d0 := Has.cell [_, _, _, _, _, _] _ hH13 0 (v := .bool r.W) rfl; have d1 := Has.cell [_, _, _, _, _, _] _ hH13 1 (v := .bool r.U) rfl; have d2 := Has.cell [_, _, _, _, _, _] _ hH13 2 (v := .bool r.X) rfl; have e0 := Has.cell [_, _, _] _ hH13 0 (v := .int .i64 0) rfl; have e1 := Has.cell [_, _, _] _ hH13 1 (v := .int .i64 (page % 512)) rfl; have e2 := Has.cell [_, _, _] _ hH13 2 (v := .int .i64 f) rfl; have e3 := Has.cell [_, _, _] _ hH13 3 (v := .bool r.W) rfl; have e4 := Has.cell [_, _, _] _ hH13 4 (v := .bool r.U) rfl; have e5 := Has.cell [_, _, _] _ hH13 5 (v := .bool r.X) rfl; have e6 := Has.cell [_, _, _] _ hH13 6 (v := .bool false) rfl)
      clear hrc
      go_ret
      exact ⟨rfl, hB13⟩
    · have g1 : (page % 512 / 8 * 8 + other % 8 == page % 512) = false := by rw [beq_eq_false_iff_ne]; exact hk
      have g2 : (page % 512 / 8 * 8 + other % 8 != page % 512) = true := by rw [bne, g1]; rfl
      clear hk
      obtain ⟨rc, hrc⟩ : ∃ rc, w12.heap.size = rc := ⟨_, rfl⟩
      have tok : True := trivial
      go_wp2_with (have _t := tok; refine wpList_store_all [] _ (hH12.newblk rc 38 #[.bool false, .bool false, .bool false] hrc) 38 (.tmp 24) (.tmp 113) rfl rfl rfl (rightC rr).toArray rfl right_size rfl (rightC_one _) ?_; clear _t tok; intro w13 hH13 hB13' hz; clear hz; have hB13 := hB12.trans ((below_new (Below.refl _ _) hH12 _).trans hB13'); clear hB13' hB12 hH12; have d0 := Has.cell [_, _, _, _, _, _] _ hH13 0 (v := .bool r.W) rfl; have d1 := Has.cell [_, _, _, _, _, _] _ hH13 1 (v := .bool r.U) rfl; have d2 := Has.cell [_, _, _, _, _, _] _ hH13 2 (v := .bool r.X) rfl; have e0 := Has.cell [_, _, _] _ hH13 0 (v := .int .i64 0) rfl; have e1 := Has.cell [_, _, _] _ hH13 1 (v := .int .i64 (page % 512)) rfl; have e2 := Has.cell [_, _, _] _ hH13 2 (v := .int .i64 f) rfl; have e3 := Has.cell [_, _, _] _ hH13 3 (v := .bool r.W) rfl; have e4 := Has.cell [_, _, _] _ hH13 4 (v := .bool r.U) rfl; have e5 := Has.cell [_, _, _] _ hH13 5 (v := .bool r.X) rfl; have e6 := Has.cell [_, _, _] _ hH13 6 (v := .bool false) rfl)
      clear hrc
      go_ret
      exact ⟨rfl, hB13⟩

end Go.Proofs.Ytlcdjdchcjnhfaa
