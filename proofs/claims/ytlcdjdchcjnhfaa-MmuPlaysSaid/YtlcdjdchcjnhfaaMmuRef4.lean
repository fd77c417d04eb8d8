/-
  The document's own answer to layer 15: Access and Find.
-/
import Derived.Test.YtlcdjdchcjnhfaaMmuRef3
import Derived.Test.YtlcdjdchcjnhfaaMmuFind
import Derived.Test.YtlcdjdchcjnhfaaTlbRef2
import Derived.Test.YtlcdjdchcjnhfaaRightRef
import Derived.StillTailTactics
namespace Go.Proofs.Ytlcdjdchcjnhfaa
open Go.RowKit
set_option linter.unusedVariables false
set_option linter.unusedSimpArgs false

theorem infoRight4 : (Try.prog.info? 38).map (fun i => (i.zero, i.size, i.bytes)) = some (some (.agg #[.bool false, .bool false, .bool false]), 3, 3) := by kernel_rfl

set_option maxHeartbeats 4000000 in
set_option maxRecDepth 100000 in
theorem RAccess_calls (mb tb hb n N : Nat) (W : List Int) (L : List HitS) (root a page kind : Int) (user : Bool) (hok : okW W) (w : World) (B : Nat) (X : List Asr) (hH : Has w B (rmuB mb tb hb :: RMemA hb n W :: RTlbA tb N L :: X)) :
    Calls Try.prog 28 #[.pointer (some ⟨mb, 0, none⟩), .int .i64 root, .int .i64 a, .int .i64 page, .int .i64 kind, .bool user] w fun e w' => e = .returned (pairV (accS N L (walkS W n (page % 512) 3 root rAll) a (page % 512) kind user).1) ∧ Has w' B (rmuB mb tb hb :: RMemA hb n W :: RTlbA tb N (accS N L (walkS W n (page % 512) 3 root rAll) a (page % 512) kind user).2 :: X) ∧ Below B w w' := by
  have CW := hid (Rmod_calls page w)
  obtain ⟨p, hp⟩ : ∃ p, page % 512 = p := ⟨_, rfl⟩
  rw [hp] at CW ⊢
  clear hp
  have CH := hid fun U B X (h : Has U B (rmuB mb tb hb :: RMemA hb n W :: X)) => RWalk_calls mb tb hb n W root p hok U B X h
  obtain ⟨o, ho⟩ : ∃ o, walkS W n p 3 root rAll = o := ⟨_, rfl⟩
  rw [ho] at CH ⊢
  clear ho hok
  have CG := hid fun U B X (h : Has U B (RTlbA tb N L :: X)) => TRGet_calls tb N L a p U B X h
  obtain ⟨i0, hi0, hz0, hz1, hz2⟩ := info_parts infoHit
  obtain ⟨j0, hj0, jz0, jz1, jz2⟩ := info_parts infoRight4
  have c1 := Has.cell [] _ hH 1 (v := .pointer (some ⟨tb, 0, none⟩)) rfl
  have hFind : ∀ q, L.find? (keyB a p) = q → accS N L o a p kind user = match q with
    | some h => if rMay (rH h) kind user then ((h.f, true), L) else missS N L o a p kind user
    | none => missS N L o a p kind user := by rintro q rfl; rfl
  rcases hq : L.find? (keyB a p) with _ | h
  · have hV : getV L a p = .tuple #[.agg (hitC hit0).toArray, .bool false] := by simp [getV, hq]
    rw [hV] at CG
    have hA : accS N L o a p kind user = missS N L o a p kind user := hFind _ hq
    rw [hA]
    clear hA hFind hq hV
    go_enter Try.func28, Try.ntmps28
    go_wp2_with fail
    refine CW.out.mono ?_
    rintro e w0 ⟨rfl, rfl⟩
    go_wp2_with fail
    refine (CG.out _ B _ (hH.front [_, _] _)).mono ?_
    rintro e w1 ⟨rfl, hH1, hB1⟩
    have hH2 := (hH1.front [_, _] _).front [_, _] _
    clear hH hH1 CG CW c1
    have hB2 := hB1
    clear hB1
    obtain ⟨kb, hkb⟩ : ∃ kb, w1.heap.size = kb := ⟨_, rfl⟩
    have tok : True := trivial
    go_wp2_with (have _t := tok; refine wpList_store_all [] _ (hH2.newblk kb 46 hitZ hkb) 46 (.tmp 15) (.tmp 30) rfl rfl rfl (hitC hit0).toArray rfl hit_size' rfl (hitC_one _) ?_; clear _t tok; intro w3 hH3 hB3' hz; clear hz; have hB3 := hB2.trans ((below_new (Below.refl _ _) hH2 _).trans hB3'); clear hB3' hB2 hH2; have c1 := Has.cell [_] _ hH3 1 (v := .pointer (some ⟨tb, 0, none⟩)) rfl)
    clear hkb
    refine (RDrop_calls tb N L a p _ B _ (hH3.front [_, _, _] _)).mono ?_
    rintro e w4 ⟨rfl, hH4, hB4⟩
    have hB4 := hB3.trans hB4
    clear hH3 hB3
    go_wp2_with fail
    refine (CH.out _ B _ ((hH4.front [_, _, _] _).front [_, _, _] _)).mono ?_
    rintro e w5 ⟨rfl, hH5, hB5⟩
    have hB5 := hB4.trans hB5
    clear CH hH4 hB4
    obtain ⟨qb, hqb⟩ : ∃ qb, w5.heap.size = qb := ⟨_, rfl⟩
    have tok : True := trivial
    rcases o with _ | ⟨f, r⟩
    · rw [show walkV none = Value.tuple #[.int .i64 0, .agg (rightC rNone).toArray, .bool false] from rfl]
      go_wp2_with (have _t := tok; refine wpList_store_all [] _ (hH5.newblk qb 38 #[.bool false, .bool false, .bool false] hqb) 38 (.tmp 18) (.tmp 55) rfl rfl rfl (rightC rNone).toArray rfl right_size rfl (rightC_one _) ?_; clear _t tok; intro w6 hH6 hB6' hz; clear hz; have hB6 := hB5.trans ((below_new (Below.refl _ _) hH5 _).trans hB6'); clear hB6' hB5 hH5)
      go_ret2
      exact ⟨rfl, (hH6.drop.front [_, _, _] _).drop, hB6⟩
    · rw [show walkV (some (f, r)) = Value.tuple #[.int .i64 f, .agg (rightC r).toArray, .bool true] from rfl]
      go_wp2_with (have _t := tok; refine wpList_store_all [] _ (hH5.newblk qb 38 #[.bool false, .bool false, .bool false] hqb) 38 (.tmp 18) (.tmp 55) rfl rfl rfl (rightC r).toArray rfl right_size rfl (rightC_one _) ?_; clear _t tok; intro w6 hH6 hB6' hz; clear hz; have hB6 := hB5.trans ((below_new (Below.refl _ _) hH5 _).trans hB6'); clear hB6' hB5 hH5; have d0 := Has.cell [] _ hH6 0 (v := .bool r.W) rfl; have d1 := Has.cell [] _ hH6 1 (v := .bool r.U) rfl; have d2 := Has.cell [] _ hH6 2 (v := .bool r.X) rfl)
      refine (keeps (RMay_calls r kind user _) hH6).mono ?_
      rintro e w7 ⟨rfl, hH7, hB7⟩
      have hB7 := hB6.trans hB7
      clear hH6 hB6 d0 d1 d2
      cases hmr : rMay r kind user with
      | false =>
        have hms : missS N L (some (f, r)) a p kind user = ((0, false), dropL a p L) := by simp [missS, hmr]
        have HMS := hid hms
        clear hms hmr
        go_wp2_with fail
        go_ret2
        exact ⟨by rw [HMS.out]; rfl, by rw [HMS.out]; exact (hH7.drop.front [_, _, _] _).drop, hB7⟩
      | true =>
        have hms : missS N L (some (f, r)) a p kind user = ((f, true), putL N (dropL a p L) (hitOf a p (some (f, r)))) := by
          simp only [missS, hmr, if_true]
        have HMS := hid hms
        clear hms hmr
        have d0 := Has.cell [] _ hH7 0 (v := .bool r.W) rfl
        have d1 := Has.cell [] _ hH7 1 (v := .bool r.U) rfl
        have d2 := Has.cell [] _ hH7 2 (v := .bool r.X) rfl
        have c1 := Has.cell [_] _ hH7 1 (v := .pointer (some ⟨tb, 0, none⟩)) rfl
        go_wp2_with fail
        refine wp_region_still_tail 9 (by kernel_rfl) (by kernel_rfl) ?_
        simp only [List.take_succ_cons, List.take_zero, List.drop_succ_cons, List.drop_zero]
        iterate 9 ((with_reducible refine wpStill_step (fun K hK => ?_)); go_simp; (with_reducible refine hK _ ?_); clear hK K)
        refine wpStill_nil ?_
        change wpList _ _ _ _ _ (World.drew _)
        go_wp2_with fail
        refine (RPut_calls tb N (dropL a p L) (hitOf a p (some (f, r))) _ B _ (hH7.drew.front [_, _, _] _)).mono ?_
        rintro e w8 ⟨rfl, hH8, hB8⟩
        have hB8 := (hB7.drew).trans hB8
        clear d0 d1 d2 c1 hH7 hB7
        go_wp2_with fail
        go_ret2
        exact ⟨by rw [HMS.out]; rfl, by rw [HMS.out]; exact (((hH8.front [_, _, _, _] _).drop.front [_] _).drop.front [_, _] _).front [_, _] _, hB8⟩

  · have hV : getV L a p = .tuple #[.agg (hitC h).toArray, .bool true] := by simp [getV, hq]
    rw [hV] at CG
    by_cases hm : rMay (rH h) kind user = true
    · have hA : accS N L o a p kind user = ((h.f, true), L) := by
        rw [hFind _ hq]
        show (if rMay (rH h) kind user = true then _ else _) = _
        rw [if_pos hm]
      rw [hA]
      clear hA hFind hq hV
      go_enter Try.func28, Try.ntmps28
      go_wp2_with fail
      refine CW.out.mono ?_
      rintro e w0 ⟨rfl, rfl⟩
      go_wp2_with fail
      refine (CG.out _ B _ (hH.front [_, _] _)).mono ?_
      rintro e w1 ⟨rfl, hH1, hB1⟩
      have hH2 := (hH1.front [_, _] _).front [_, _] _
      clear hH hH1 CG CW c1
      have hB2 := hB1
      clear hB1
      obtain ⟨kb, hkb⟩ : ∃ kb, w1.heap.size = kb := ⟨_, rfl⟩
      have tok : True := trivial
      go_wp2_with (have _t := tok; refine wpList_store_all [] _ (hH2.newblk kb 46 hitZ hkb) 46 (.tmp 15) (.tmp 30) rfl rfl rfl (hitC h).toArray rfl hit_size' rfl (hitC_one _) ?_; clear _t tok; intro w3 hH3 hB3' hz; clear hz; have hB3 := hB2.trans ((below_new (Below.refl _ _) hH2 _).trans hB3'); clear hB3' hB2 hH2; have c1 := Has.cell [_] _ hH3 1 (v := .pointer (some ⟨tb, 0, none⟩)) rfl; have k2 := Has.cell [] _ hH3 2 (v := .int .i64 h.f) rfl; have k3 := Has.cell [] _ hH3 3 (v := .bool h.w) rfl; have k4 := Has.cell [] _ hH3 4 (v := .bool h.u) rfl; have k5 := Has.cell [] _ hH3 5 (v := .bool h.x) rfl)
      clear hkb
      refine (keeps (RMay_calls (rH h) kind user _) hH3).mono ?_
      rintro e w3b ⟨rfl, hH3b, hB3b⟩
      rw [hm]
      have hB3b := hB3.trans hB3b
      clear hH3 hB3 c1 k2 k3 k4 k5
      have hH3 := hH3b
      have hB3 := hB3b
      clear hH3b hB3b
      have c1 := Has.cell [_] _ hH3 1 (v := .pointer (some ⟨tb, 0, none⟩)) rfl
      have k2 := Has.cell [] _ hH3 2 (v := .int .i64 h.f) rfl
      go_wp2_with fail
      go_ret2
      exact ⟨rfl, hH3.drop, hB3⟩

    · have hA : accS N L o a p kind user = missS N L o a p kind user := by
        rw [hFind _ hq]
        show (if rMay (rH h) kind user = true then _ else _) = _
        rw [if_neg hm]
      rw [Bool.not_eq_true] at hm
      rw [hA]
      clear hA hFind hq hV
      go_enter Try.func28, Try.ntmps28
      go_wp2_with fail
      refine CW.out.mono ?_
      rintro e w0 ⟨rfl, rfl⟩
      go_wp2_with fail
      refine (CG.out _ B _ (hH.front [_, _] _)).mono ?_
      rintro e w1 ⟨rfl, hH1, hB1⟩
      have hH2 := (hH1.front [_, _] _).front [_, _] _
      clear hH hH1 CG CW c1
      have hB2 := hB1
      clear hB1
      obtain ⟨kb, hkb⟩ : ∃ kb, w1.heap.size = kb := ⟨_, rfl⟩
      have tok : True := trivial
      go_wp2_with (have _t := tok; refine wpList_store_all [] _ (hH2.newblk kb 46 hitZ hkb) 46 (.tmp 15) (.tmp 30) rfl rfl rfl (hitC h).toArray rfl hit_size' rfl (hitC_one _) ?_; clear _t tok; intro w3 hH3 hB3' hz; clear hz; have hB3 := hB2.trans ((below_new (Below.refl _ _) hH2 _).trans hB3'); clear hB3' hB2 hH2; have c1 := Has.cell [_] _ hH3 1 (v := .pointer (some ⟨tb, 0, none⟩)) rfl; have k2 := Has.cell [] _ hH3 2 (v := .int .i64 h.f) rfl; have k3 := Has.cell [] _ hH3 3 (v := .bool h.w) rfl; have k4 := Has.cell [] _ hH3 4 (v := .bool h.u) rfl; have k5 := Has.cell [] _ hH3 5 (v := .bool h.x) rfl)
      clear hkb
      refine (keeps (RMay_calls (rH h) kind user _) hH3).mono ?_
      rintro e w3b ⟨rfl, hH3b, hB3b⟩
      rw [hm]
      have hB3b := hB3.trans hB3b
      clear hH3 hB3 c1 k2 k3 k4 k5
      have hH3 := hH3b
      have hB3 := hB3b
      clear hH3b hB3b
      have c1 := Has.cell [_] _ hH3 1 (v := .pointer (some ⟨tb, 0, none⟩)) rfl
      have k2 := Has.cell [] _ hH3 2 (v := .int .i64 h.f) rfl
      clear k2
      go_wp2_with fail
      refine (RDrop_calls tb N L a p _ B _ (hH3.front [_, _, _] _)).mono ?_
      rintro e w4 ⟨rfl, hH4, hB4⟩
      have hB4 := hB3.trans hB4
      clear hH3 hB3
      go_wp2_with fail
      refine (CH.out _ B _ ((hH4.front [_, _, _] _).front [_, _, _] _)).mono ?_
      rintro e w5 ⟨rfl, hH5, hB5⟩
      have hB5 := hB4.trans hB5
      clear CH hH4 hB4
      obtain ⟨qb, hqb⟩ : ∃ qb, w5.heap.size = qb := ⟨_, rfl⟩
      have tok : True := trivial
      rcases o with _ | ⟨f, r⟩
      · rw [show walkV none = Value.tuple #[.int .i64 0, .agg (rightC rNone).toArray, .bool false] from rfl]
        go_wp2_with (have _t := tok; refine wpList_store_all [] _ (hH5.newblk qb 38 #[.bool false, .bool false, .bool false] hqb) 38 (.tmp 18) (.tmp 55) rfl rfl rfl (rightC rNone).toArray rfl right_size rfl (rightC_one _) ?_; clear _t tok; intro w6 hH6 hB6' hz; clear hz; have hB6 := hB5.trans ((below_new (Below.refl _ _) hH5 _).trans hB6'); clear hB6' hB5 hH5)
        go_ret2
        exact ⟨rfl, (hH6.drop.front [_, _, _] _).drop, hB6⟩
      · rw [show walkV (some (f, r)) = Value.tuple #[.int .i64 f, .agg (rightC r).toArray, .bool true] from rfl]
        go_wp2_with (have _t := tok; refine wpList_store_all [] _ (hH5.newblk qb 38 #[.bool false, .bool false, .bool false] hqb) 38 (.tmp 18) (.tmp 55) rfl rfl rfl (rightC r).toArray rfl right_size rfl (rightC_one _) ?_; clear _t tok; intro w6 hH6 hB6' hz; clear hz; have hB6 := hB5.trans ((below_new (Below.refl _ _) hH5 _).trans hB6'); clear hB6' hB5 hH5; have d0 := Has.cell [] _ hH6 0 (v := .bool r.W) rfl; have d1 := Has.cell [] _ hH6 1 (v := .bool r.U) rfl; have d2 := Has.cell [] _ hH6 2 (v := .bool r.X) rfl)
        refine (keeps (RMay_calls r kind user _) hH6).mono ?_
        rintro e w7 ⟨rfl, hH7, hB7⟩
        have hB7 := hB6.trans hB7
        clear hH6 hB6 d0 d1 d2
        cases hmr : rMay r kind user with
        | false =>
          have hms : missS N L (some (f, r)) a p kind user = ((0, false), dropL a p L) := by simp [missS, hmr]
          have HMS := hid hms
          clear hms hmr
          go_wp2_with fail
          go_ret2
          exact ⟨by rw [HMS.out]; rfl, by rw [HMS.out]; exact (hH7.drop.front [_, _, _] _).drop, hB7⟩
        | true =>
          have hms : missS N L (some (f, r)) a p kind user = ((f, true), putL N (dropL a p L) (hitOf a p (some (f, r)))) := by
            simp only [missS, hmr, if_true]
          have HMS := hid hms
          clear hms hmr
          have d0 := Has.cell [] _ hH7 0 (v := .bool r.W) rfl
          have d1 := Has.cell [] _ hH7 1 (v := .bool r.U) rfl
          have d2 := Has.cell [] _ hH7 2 (v := .bool r.X) rfl
          have c1 := Has.cell [_] _ hH7 1 (v := .pointer (some ⟨tb, 0, none⟩)) rfl
          go_wp2_with fail
          refine wp_region_still_tail 9 (by kernel_rfl) (by kernel_rfl) ?_
          simp only [List.take_succ_cons, List.take_zero, List.drop_succ_cons, List.drop_zero]
          iterate 9 ((with_reducible refine wpStill_step (fun K hK => ?_)); go_simp; (with_reducible refine hK _ ?_); clear hK K)
          refine wpStill_nil ?_
          change wpList _ _ _ _ _ (World.drew _)
          go_wp2_with fail
          refine (RPut_calls tb N (dropL a p L) (hitOf a p (some (f, r))) _ B _ (hH7.drew.front [_, _, _] _)).mono ?_
          rintro e w8 ⟨rfl, hH8, hB8⟩
          have hB8 := (hB7.drew).trans hB8
          clear d0 d1 d2 c1 hH7 hB7
          go_wp2_with fail
          go_ret2
          exact ⟨by rw [HMS.out]; rfl, by rw [HMS.out]; exact (((hH8.front [_, _, _, _] _).drop.front [_] _).drop.front [_, _] _).front [_, _] _, hB8⟩


set_option maxHeartbeats 4000000 in
set_option maxRecDepth 100000 in
theorem RFind_calls (mb tb hb n N : Nat) (W : List Int) (L : List HitS) (root a page : Int) (hok : okW W) (w : World) (B : Nat) (X : List Asr) (hH : Has w B (rmuB mb tb hb :: RMemA hb n W :: RTlbA tb N L :: X)) :
    Calls Try.prog 27 #[.pointer (some ⟨mb, 0, none⟩), .int .i64 root, .int .i64 a, .int .i64 page] w fun e w' => e = .returned (.bool (findS N L (walkS W n (page % 512) 3 root rAll) a (page % 512)).1) ∧ Has w' B (rmuB mb tb hb :: RMemA hb n W :: RTlbA tb N (findS N L (walkS W n (page % 512) 3 root rAll) a (page % 512)).2 :: X) ∧ Below B w w' := by
  have CW := hid (Rmod_calls page w)
  obtain ⟨p, hp⟩ : ∃ p, page % 512 = p := ⟨_, rfl⟩
  rw [hp] at CW ⊢
  clear hp
  have CH := hid fun U B X (h : Has U B (rmuB mb tb hb :: RMemA hb n W :: X)) => RWalk_calls mb tb hb n W root p hok U B X h
  obtain ⟨o, ho⟩ : ∃ o, walkS W n p 3 root rAll = o := ⟨_, rfl⟩
  rw [ho] at CH ⊢
  clear ho hok
  have CG := hid fun U B X (h : Has U B (RTlbA tb N L :: X)) => TRGet_calls tb N L a p U B X h
  obtain ⟨i0, hi0, hz0, hz1, hz2⟩ := info_parts infoHit
  obtain ⟨j0, hj0, jz0, jz1, jz2⟩ := info_parts infoRight4
  have c1 := Has.cell [] _ hH 1 (v := .pointer (some ⟨tb, 0, none⟩)) rfl
  rcases hq : L.find? (keyB a p) with _ | h
  · have hV : getV L a p = .tuple #[.agg (hitC hit0).toArray, .bool false] := by simp [getV, hq]
    rw [hV] at CG
    have hA : findS N L o a p = if o.isSome then (true, putL N L (hitOf a p o)) else (false, L) := by simp [findS, hq]
    rw [hA]
    clear hA hq hV
    go_enter Try.func27, Try.ntmps27
    go_wp2_with fail
    refine CW.out.mono ?_
    rintro e w0 ⟨rfl, rfl⟩
    go_wp2_with fail
    refine (CG.out _ B _ (hH.front [_, _] _)).mono ?_
    rintro e w1 ⟨rfl, hH1, hB1⟩
    have hH2 := (hH1.front [_, _] _).front [_, _] _
    clear hH hH1 CG CW c1
    have hB2 := hB1
    clear hB1
    obtain ⟨kb, hkb⟩ : ∃ kb, w1.heap.size = kb := ⟨_, rfl⟩
    have tok : True := trivial
    go_wp2_with (have _t := tok; refine wpList_store_all [] _ (hH2.newblk kb 46 hitZ hkb) 46 (.tmp 10) (.tmp 25) rfl rfl rfl (hitC hit0).toArray rfl hit_size' rfl (hitC_one _) ?_; clear _t tok; intro w3 hH3 hB3' hz; clear hz; have hB3 := hB2.trans ((below_new (Below.refl _ _) hH2 _).trans hB3'); clear hB3' hB2 hH2; have c1 := Has.cell [_] _ hH3 1 (v := .pointer (some ⟨tb, 0, none⟩)) rfl)
    clear hkb
    refine (CH.out _ B _ (hH3.drop)).mono ?_
    rintro e w5 ⟨rfl, hH5, hB5⟩
    have hB5 := hB3.trans hB5
    clear CH hH3 hB3
    obtain ⟨qb, hqb⟩ : ∃ qb, w5.heap.size = qb := ⟨_, rfl⟩
    have tok : True := trivial
    rcases o with _ | ⟨f, r⟩
    · rw [show walkV none = Value.tuple #[.int .i64 0, .agg (rightC rNone).toArray, .bool false] from rfl]
      go_wp2_with (have _t := tok; refine wpList_store_all [] _ (hH5.newblk qb 38 #[.bool false, .bool false, .bool false] hqb) 38 (.tmp 13) (.tmp 33) rfl rfl rfl (rightC rNone).toArray rfl right_size rfl (rightC_one _) ?_; clear _t tok; intro w6 hH6 hB6' hz; clear hz; have hB6 := hB5.trans ((below_new (Below.refl _ _) hH5 _).trans hB6'); clear hB6' hB5 hH5)
      go_ret
      exact ⟨rfl, hH6.drop, hB6⟩
    · rw [show walkV (some (f, r)) = Value.tuple #[.int .i64 f, .agg (rightC r).toArray, .bool true] from rfl]
      go_wp2_with (have _t := tok; refine wpList_store_all [] _ (hH5.newblk qb 38 #[.bool false, .bool false, .bool false] hqb) 38 (.tmp 13) (.tmp 33) rfl rfl rfl (rightC r).toArray rfl right_size rfl (rightC_one _) ?_; clear _t tok; intro w6 hH6 hB6' hz; clear hz; have hB6 := hB5.trans ((below_new (Below.refl _ _) hH5 _).trans hB6'); clear hB6' hB5 hH5; have d0 := Has.cell [] _ hH6 0 (v := .bool r.W) rfl; have d1 := Has.cell [] _ hH6 1 (v := .bool r.U) rfl; have d2 := Has.cell [] _ hH6 2 (v := .bool r.X) rfl)
      have c1 := Has.cell [_] _ hH6 1 (v := .pointer (some ⟨tb, 0, none⟩)) rfl
      go_wp2_with fail
      refine wp_region_still_tail 9 (by kernel_rfl) (by kernel_rfl) ?_
      simp only [List.take_succ_cons, List.take_zero, List.drop_succ_cons, List.drop_zero]
      iterate 9 ((with_reducible refine wpStill_step (fun K hK => ?_)); go_simp; (with_reducible refine hK _ ?_); clear hK K)
      refine wpStill_nil ?_
      change wpList _ _ _ _ _ (World.drew _)
      go_wp2_with fail
      refine (RPut_calls tb N L (hitOf a p (some (f, r))) _ B _ (hH6.drew.front [_, _, _] _)).mono ?_
      rintro e w8 ⟨rfl, hH8, hB8⟩
      have hB8 := (hB6.drew).trans hB8
      clear d0 d1 d2 c1 hH6 hB6
      go_wp2_with fail
      go_ret
      exact ⟨rfl, ((hH8.front [_] _).drop.front [_, _] _).front [_, _] _, hB8⟩

  · have hV : getV L a p = .tuple #[.agg (hitC h).toArray, .bool true] := by simp [getV, hq]
    rw [hV] at CG
    have hA : findS N L o a p = (false, L) := by simp [findS, hq]
    rw [hA]
    clear hA hq hV
    go_enter Try.func27, Try.ntmps27
    go_wp2_with fail
    refine CW.out.mono ?_
    rintro e w0 ⟨rfl, rfl⟩
    go_wp2_with fail
    refine (CG.out _ B _ (hH.front [_, _] _)).mono ?_
    rintro e w1 ⟨rfl, hH1, hB1⟩
    have hH2 := (hH1.front [_, _] _).front [_, _] _
    clear hH hH1 CG CW c1
    have hB2 := hB1
    clear hB1
    obtain ⟨kb, hkb⟩ : ∃ kb, w1.heap.size = kb := ⟨_, rfl⟩
    have tok : True := trivial
    go_wp2_with (have _t := tok; refine wpList_store_all [] _ (hH2.newblk kb 46 hitZ hkb) 46 (.tmp 10) (.tmp 25) rfl rfl rfl (hitC h).toArray rfl hit_size' rfl (hitC_one _) ?_; clear _t tok; intro w3 hH3 hB3' hz; clear hz; have hB3 := hB2.trans ((below_new (Below.refl _ _) hH2 _).trans hB3'); clear hB3' hB2 hH2; have c1 := Has.cell [_] _ hH3 1 (v := .pointer (some ⟨tb, 0, none⟩)) rfl)
    clear hkb
    refine (CH.out _ B _ (hH3.drop)).mono ?_
    rintro e w5 ⟨rfl, hH5, hB5⟩
    have hB5 := hB3.trans hB5
    clear CH hH3 hB3
    obtain ⟨qb, hqb⟩ : ∃ qb, w5.heap.size = qb := ⟨_, rfl⟩
    have tok : True := trivial
    rcases o with _ | ⟨f, r⟩
    · rw [show walkV none = Value.tuple #[.int .i64 0, .agg (rightC rNone).toArray, .bool false] from rfl]
      go_wp2_with (have _t := tok; refine wpList_store_all [] _ (hH5.newblk qb 38 #[.bool false, .bool false, .bool false] hqb) 38 (.tmp 13) (.tmp 33) rfl rfl rfl (rightC rNone).toArray rfl right_size rfl (rightC_one _) ?_; clear _t tok; intro w6 hH6 hB6' hz; clear hz; have hB6 := hB5.trans ((below_new (Below.refl _ _) hH5 _).trans hB6'); clear hB6' hB5 hH5)
      go_ret
      exact ⟨rfl, hH6.drop, hB6⟩
    · rw [show walkV (some (f, r)) = Value.tuple #[.int .i64 f, .agg (rightC r).toArray, .bool true] from rfl]
      go_wp2_with (have _t := tok; refine wpList_store_all [] _ (hH5.newblk qb 38 #[.bool false, .bool false, .bool false] hqb) 38 (.tmp 13) (.tmp 33) rfl rfl rfl (rightC r).toArray rfl right_size rfl (rightC_one _) ?_; clear _t tok; intro w6 hH6 hB6' hz; clear hz; have hB6 := hB5.trans ((below_new (Below.refl _ _) hH5 _).trans hB6'); clear hB6' hB5 hH5; have d0 := Has.cell [] _ hH6 0 (v := .bool r.W) rfl; have d1 := Has.cell [] _ hH6 1 (v := .bool r.U) rfl; have d2 := Has.cell [] _ hH6 2 (v := .bool r.X) rfl)
      go_ret
      exact ⟨rfl, hH6.drop, hB6⟩


end Go.Proofs.Ytlcdjdchcjnhfaa
