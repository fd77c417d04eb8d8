/-
  MmuFinds: what is found is what a walk tells; nothing is found twice.
-/
import Derived.Test.YtlcdjdchcjnhfaaMmuHead
import Derived.StillTailTactics
namespace Go.Proofs.Ytlcdjdchcjnhfaa
open Go.RowKit
set_option linter.unusedVariables false
set_option linter.unusedSimpArgs false

theorem finds_some (x : Int × RightS) (a p : Int) : findS 8 [] (some x) a p = (true, [hitOf a p (some x)]) := rfl
theorem finds_none (L : List HitS) (a p : Int) : (findS 8 [] none a p) = (false, []) := rfl
theorem finds_known (f : Int) (r : RightS) (o : Option (Int × RightS)) (a p : Int) : findS 8 [hitOf a p (some (f, r))] o a p = (false, [hitOf a p (some (f, r))]) := by
  simp [findS, keyB, keyE, hitOf]
theorem getV_one (f : Int) (r : RightS) (a p : Int) : getV [hitOf a p (some (f, r))] a p = .tuple #[.agg (hitC (hitOf a p (some (f, r)))).toArray, .bool true] := by
  simp [getV, keyB, keyE, hitOf]
theorem hit_self (a p f : Int) (r : RightS) (u : World) : Sem.run Try.prog (binOp .eql 46 (.agg #[.int .i64 a, .int .i64 p, .int .i64 f, .bool r.W, .bool r.U, .bool r.X, .bool false]) (.agg #[.int .i64 a, .int .i64 p, .int .i64 f, .bool r.W, .bool r.U, .bool r.X, .bool false])) u = .ok (.bool true) u := by
  have h := hit_eql ⟨a, p, f, r.W, r.U, r.X, false⟩ ⟨a, p, f, r.W, r.U, r.X, false⟩ u
  rw [decide_eq_true rfl] at h
  exact h

set_option maxHeartbeats 4000000 in
set_option maxRecDepth 100000 in
theorem MmuFinds_walk (la : Option Addr) (llen lcap : Nat) (l : List PutS) (root a page : Int) (w : World) (hAl : ArgRow w 3 la llen (l.flatMap putC)) (hll : ∀ x ∈ l, PutOk x) (hroot : (Lit.int .u8 root).wf = true) (ha : (Lit.int .i64 a).wf = true) (hpage : (Lit.int .u16 page).wf = true) :
    Calls Try.prog 4 #[.slice la llen lcap, .int .u8 root, .int .i64 a, .int .u16 page] w fun e w' => e = .returned (.bool true) ∧ Below w.heap.size w w' := by
  obtain rfl := puts_len hAl
  have hsl := hAl.small
  have HAl := hid hAl
  have hok := okW_made hll
  obtain ⟨W, hW⟩ : ∃ W, madeW l = W := ⟨_, rfl⟩
  rw [hW] at hok
  have HOK := hid hok
  have HWM := hid hW
  obtain ⟨t0, t1⟩ := bounds_u8 hroot
  obtain ⟨t2, t3⟩ := bounds_u16 hpage
  have n0 : 0 ≤ page % 512 := Int.emod_nonneg _ (by decide)
  have n1 : page % 512 < 512 := Int.emod_lt_of_pos _ (by decide)
  obtain ⟨i0, hi0, hz0, hz1, hz2⟩ := info_parts infoHit
  have hmod : page % 512 % 512 = page % 512 := by omega
  obtain ⟨o, ho⟩ : ∃ o, walkS W 16 (page % 512) 3 root rAll = o := ⟨_, rfl⟩
  have HO := hid ho
  have HM := hid hmod
  have hH0 : Has w w.heap.size [] := Has.nil (Nat.le_refl _)
  clear hok hW hAl hll hroot ha hpage ho hmod
  go_enter Try.func4, Try.ntmps4
  go_wp2_with fail
  refine (head_true w _ [] hH0).mono ?_
  rintro e w1 ⟨_, rfl, hH1, hB1⟩
  go_wp2_with fail
  refine (Made_calls la lcap l w1 w HAl.out hB1 _ [] hH1).mono ?_
  rintro e w2 ⟨hb, rfl, hH2, hB2⟩
  rw [HWM.out] at hH2
  have hB2 := hB1.trans hB2
  clear hH1 hB1 hH0
  go_wp2_with fail
  refine (TlbNew_yes 8 (by decide) (by decide) w2 _ _ hH2).mono ?_
  rintro e w3 ⟨tb, rfl, hH3, hB3⟩
  have hB3 := hB2.trans hB3
  clear hH2 hB2
  by_cases hbig0 : 600 < l.length
  · have e1 : decide (600 < l.length) = true := decide_eq_true hbig0
    have e2 : decide (600 < (l.length : Int)) = true := decide_eq_true (by omega)
    go_wp2_with fail
    go_ret
    exact ⟨rfl, hB3⟩
  have f0 : decide (600 < l.length) = false := decide_eq_false hbig0
  have g0 : decide (600 < (l.length : Int)) = false := decide_eq_false (by omega)
  go_wp2_with fail
  refine (MmuNew_calls tb hb w3 _ _ hH3).mono ?_
  rintro e w4 ⟨mb, rfl, hH4, hB4⟩
  have hB4 := hB3.trans hB4
  clear hH3 hB3 f0 g0
  rcases o with _ | ⟨f, r⟩
  · go_wp2_with fail
    refine (Walk3 (f := 0) (r := rNone) (i := false) mb tb hb 16 W root (page % 512) HOK.out HO.out rfl rfl rfl w4 _ _ ((hH4.front [_, _] _).front [_] _)).mono ?_
    rintro e w5 ⟨rfl, hH5, hB5⟩
    have hB5 := hB4.trans hB5
    clear hH4 hB4
    obtain ⟨ra, hra⟩ : ∃ ra, w5.heap.size = ra := ⟨_, rfl⟩
    have tok : True := trivial
    go_wp2_with (have _t := tok; refine wpList_store_all [] _ (hH5.newblk ra 38 #[.bool false, .bool false, .bool false] hra) 38 (.tmp 15) (.tmp 60) rfl rfl rfl (rightC rNone).toArray rfl right_size rfl (rightC_one _) ?_; clear _t tok; intro w6 hH6 hB6' hz; clear hz; have hB6 := hB5.trans ((below_new (Below.refl _ _) hH5 _).trans hB6'); clear hB6' hB5 hH5)
    clear hra
    refine (Find2 mb tb hb 16 8 W [] root a (page % 512) HOK.out (show findS 8 [] (walkS W 16 (page % 512 % 512) 3 root rAll) a (page % 512 % 512) = (false, []) from by rw [HM.out, HO.out]; rfl) w6 _ _ (((hH6.front [_, _, _] _).front [_, _, _] _).front [_, _, _] _)).mono ?_
    rintro e w7 ⟨rfl, hH7, hB7⟩
    have hB7 := hB6.trans hB7
    clear hH6 hB6
    have cg := TGet_calls tb 8 [] a (page % 512) w7 _ _ (hH7.front [_, _] _)
    rw [show getV [] a (page % 512) = .tuple #[.agg (hitC hit0).toArray, .bool false] from rfl] at cg
    have CG := hid cg
    clear cg
    go_wp2_with fail
    refine CG.out.mono ?_
    rintro e w8 ⟨rfl, hH8, hB8⟩
    have hB8 := hB7.trans hB8
    clear hH7 hB7 CG
    obtain ⟨ha, hha⟩ : ∃ ha, w8.heap.size = ha := ⟨_, rfl⟩
    have tok : True := trivial
    go_wp2_with (have _t := tok; refine wpList_store_all [] _ (hH8.newblk ha 46 hitZ hha) 46 (.tmp 18) (.tmp 73) rfl rfl rfl (hitC hit0).toArray rfl hit_size' rfl (hitC_one _) ?_; clear _t tok; intro w9 hH9 hB9' hz; clear hz; have hB9 := hB8.trans ((below_new (Below.refl _ _) hH8 _).trans hB9'); clear hB9' hB8 hH8)
    clear hha
    refine (Find2 mb tb hb 16 8 W [] root a (page % 512) HOK.out (show findS 8 [] (walkS W 16 (page % 512 % 512) 3 root rAll) a (page % 512 % 512) = (false, []) from by rw [HM.out, HO.out]; rfl) w9 _ _ (((hH9.front [_] _).front [_, _, _] _).front [_, _, _] _)).mono ?_
    rintro e w10 ⟨rfl, hH10, hB10⟩
    have hB10 := hB9.trans hB10
    clear hH9 hB9
    go_wp2_with fail
    go_ret
    exact ⟨rfl, hB10⟩
  · go_wp2_with fail
    refine (Walk3 (f := f) (r := r) (i := true) mb tb hb 16 W root (page % 512) HOK.out HO.out rfl rfl rfl w4 _ _ ((hH4.front [_, _] _).front [_] _)).mono ?_
    rintro e w5 ⟨rfl, hH5, hB5⟩
    have hB5 := hB4.trans hB5
    clear hH4 hB4
    obtain ⟨ra, hra⟩ : ∃ ra, w5.heap.size = ra := ⟨_, rfl⟩
    have tok : True := trivial
    go_wp2_with (have _t := tok; refine wpList_store_all [] _ (hH5.newblk ra 38 #[.bool false, .bool false, .bool false] hra) 38 (.tmp 15) (.tmp 60) rfl rfl rfl (rightC r).toArray rfl right_size rfl (rightC_one _) ?_; clear _t tok; intro w6 hH6 hB6' hz; clear hz; have hB6 := hB5.trans ((below_new (Below.refl _ _) hH5 _).trans hB6'); clear hB6' hB5 hH5)
    clear hra
    refine (Find2 mb tb hb 16 8 W [] root a (page % 512) HOK.out (show findS 8 [] (walkS W 16 (page % 512 % 512) 3 root rAll) a (page % 512 % 512) = (true, [(hitOf a (page % 512) (some (f, r)))]) from by rw [HM.out, HO.out]; rfl) w6 _ _ (((hH6.front [_, _, _] _).front [_, _, _] _).front [_, _, _] _)).mono ?_
    rintro e w7 ⟨rfl, hH7, hB7⟩
    have hB7 := hB6.trans hB7
    clear hH6 hB6
    have cg := TGet_calls tb 8 [(hitOf a (page % 512) (some (f, r)))] a (page % 512) w7 _ _ (hH7.front [_, _] _)
    rw [getV_one] at cg
    have CG := hid cg
    clear cg
    go_wp2_with fail
    refine CG.out.mono ?_
    rintro e w8 ⟨rfl, hH8, hB8⟩
    have hB8 := hB7.trans hB8
    clear hH7 hB7 CG
    obtain ⟨ha, hha⟩ : ∃ ha, w8.heap.size = ha := ⟨_, rfl⟩
    have tok : True := trivial
    go_wp2_with (have _t := tok; refine wpList_store_all [] _ (hH8.newblk ha 46 hitZ hha) 46 (.tmp 18) (.tmp 73) rfl rfl rfl (hitC (hitOf a (page % 512) (some (f, r)))).toArray rfl hit_size' rfl (hitC_one _) ?_; clear _t tok; intro w9 hH9 hB9' hz; clear hz; have hB9 := hB8.trans ((below_new (Below.refl _ _) hH8 _).trans hB9'); clear hB9' hB8 hH8)
    clear hha
    refine (Find2 mb tb hb 16 8 W [(hitOf a (page % 512) (some (f, r)))] root a (page % 512) HOK.out (show findS 8 [(hitOf a (page % 512) (some (f, r)))] (walkS W 16 (page % 512 % 512) 3 root rAll) a (page % 512 % 512) = (false, [(hitOf a (page % 512) (some (f, r)))]) from by rw [HM.out]; exact finds_known _ _ _ _ _) w9 _ _ (((hH9.front [_] _).front [_, _, _] _).front [_, _, _] _)).mono ?_
    rintro e w10 ⟨rfl, hH10, hB10⟩
    have hB10 := hB9.trans hB10
    clear hH9 hB9
    have d0 := Has.cell [_, _, _, _] _ hH10 0 (v := .bool r.W) rfl
    have d1 := Has.cell [_, _, _, _] _ hH10 1 (v := .bool r.U) rfl
    have d2 := Has.cell [_, _, _, _] _ hH10 2 (v := .bool r.X) rfl
    have e0 := Has.cell [_, _, _] _ hH10 0 (v := .int .i64 a) rfl
    have e1 := Has.cell [_, _, _] _ hH10 1 (v := .int .i64 (page % 512)) rfl
    have e2 := Has.cell [_, _, _] _ hH10 2 (v := .int .i64 f) rfl
    have e3 := Has.cell [_, _, _] _ hH10 3 (v := .bool r.W) rfl
    have e4 := Has.cell [_, _, _] _ hH10 4 (v := .bool r.U) rfl
    have e5 := Has.cell [_, _, _] _ hH10 5 (v := .bool r.X) rfl
    have e6 := Has.cell [_, _, _] _ hH10 6 (v := .bool false) rfl
    have heq := hit_self a (page % 512) f r
    go_wp2_with fail
    go_ret
    exact ⟨rfl, hB10⟩

end Go.Proofs.Ytlcdjdchcjnhfaa
