/-
  hit, Access and Find of package mmu.
-/
import Derived.Test.YtlcdjdchcjnhfaaMmuWalk
namespace Go.Proofs.Ytlcdjdchcjnhfaa
open Go.RowKit
set_option linter.unusedVariables false
set_option linter.unusedSimpArgs false

def rH (h : HitS) : RightS := ⟨h.w, h.u, h.x⟩
/-- The hit of what a walk told. -/
def hitOf (a p : Int) : Option (Int × RightS) → HitS
  | some (f, r) => ⟨a, p, f, r.W, r.U, r.X, false⟩
  | none => ⟨a, p, 0, false, false, false, false⟩
/-- A miss. -/
def missS (N : Nat) (L : List HitS) (o : Option (Int × RightS)) (a p kind : Int) (user : Bool) : (Int × Bool) × List HitS :=
  match o with
  | some (f, r) => if rMay r kind user then ((f, true), putL N (dropL a p L) (hitOf a p (some (f, r)))) else ((0, false), dropL a p L)
  | none => ((0, false), dropL a p L)
def accS (N : Nat) (L : List HitS) (o : Option (Int × RightS)) (a p kind : Int) (user : Bool) : (Int × Bool) × List HitS :=
  match L.find? (keyB a p) with
  | some h => if rMay (rH h) kind user then ((h.f, true), L) else missS N L o a p kind user
  | none => missS N L o a p kind user
def findS (N : Nat) (L : List HitS) (o : Option (Int × RightS)) (a p : Int) : Bool × List HitS :=
  if (L.find? (keyB a p)).isSome then (false, L) else if o.isSome then (true, putL N L (hitOf a p o)) else (false, L)
def pairV (x : Int × Bool) : Value := .tuple #[.int .i64 x.1, .bool x.2]

set_option maxHeartbeats 1000000 in
set_option maxRecDepth 100000 in
theorem hit_calls (mb tb hb n : Nat) (W : List Int) (root a page : Int) (hok : okW W) (w : World) (B : Nat) (X : List Asr) (hH : Has w B (mmuB mb tb hb :: MemA hb n W :: X)) :
    Calls Try.prog 41 #[.pointer (some ⟨mb, 0, none⟩), .int .i64 root, .int .i64 a, .int .i64 page] w fun e w' => e = .returned (.tuple #[.agg (hitC (hitOf a page (walkS W n page 3 root rAll))).toArray, .bool (walkS W n page 3 root rAll).isSome]) ∧ Has w' B (mmuB mb tb hb :: MemA hb n W :: X) ∧ Below B w w' := by
  obtain ⟨i0, hi0, hz0, hz1, hz2⟩ := info_parts infoHit
  have hR := hH.newblk w.heap.size 46 hitZ rfl
  have hBR := below_new (Below.refl B w) hH (.cells hitZ 46)
  have hR2 := (hR.front [_, _] _).front [_, _] _
  have cw := Walk_calls mb tb hb n W root page hok _ B _ hR2
  generalize hrb : w.heap.size = rb at *
  obtain ⟨o, ho⟩ : ∃ o, walkS W n page 3 root rAll = o := ⟨_, rfl⟩
  rw [ho] at cw ⊢
  clear ho hR hR2 hH hok
  have CW := hid cw
  clear cw
  rcases o with _ | ⟨f, r⟩
  · rw [show walkV none = Value.tuple #[.int .i64 0, .agg (rightC rNone).toArray, .bool false] from rfl] at CW
    go_enter Try.func41, Try.ntmps41
    go_wp2_with fail
    refine CW.out.mono ?_
    rintro e w2 ⟨rfl, hH2, hB2⟩
    have hB2 := hBR.trans hB2
    obtain ⟨gb, hgb⟩ : ∃ gb, w2.heap.size = gb := ⟨_, rfl⟩
    have tok : True := trivial
    clear CW hBR
    go_wp2_with (first
      | (have _t := tok; refine wpList_store_all [] _ (hH2.newblk gb 38 #[.bool false, .bool false, .bool false] hgb) 38 (.tmp 11) (.tmp 19) rfl rfl rfl (rightC rNone).toArray rfl right_size rfl (rightC_one _) ?_; clear _t tok; intro w3 hH3 hB3' hz3; clear hz3; have hB3 := hB2.trans ((below_new (Below.refl _ _) hH2 _).trans hB3'); clear hB3' hB2 hH2; have d0 := Has.cell [] _ hH3 0 (v := .bool false) rfl; have d1 := Has.cell [] _ hH3 1 (v := .bool false) rfl; have d2 := Has.cell [] _ hH3 2 (v := .bool false) rfl)
      | (refine wpList_store_all [_, _, _] _ hH3 46 (.tmp 8) (.tmp 25) rfl rfl rfl (hitC (hitOf a page none)).toArray rfl hit_size' rfl (hitC_one _) ?_; intro w4 hH4 hB4 hz4; clear hz4))
    exact bodyPost_ret (results_hit (fn := Try.f41) rfl _ w4 rb 46 _ (0, 0) _ rfl (hH4.blk_at [_, _, _] _).1 Try.underlying46 rfl hit_size') rfl ⟨rfl, (hH4.front [_, _, _] _).drop.drop, hB3.trans hB4⟩
  · rw [show walkV (some (f, r)) = Value.tuple #[.int .i64 f, .agg (rightC r).toArray, .bool true] from rfl] at CW
    go_enter Try.func41, Try.ntmps41
    go_wp2_with fail
    refine CW.out.mono ?_
    rintro e w2 ⟨rfl, hH2, hB2⟩
    have hB2 := hBR.trans hB2
    obtain ⟨gb, hgb⟩ : ∃ gb, w2.heap.size = gb := ⟨_, rfl⟩
    have tok : True := trivial
    clear CW hBR
    go_wp2_with (first
      | (have _t := tok; refine wpList_store_all [] _ (hH2.newblk gb 38 #[.bool false, .bool false, .bool false] hgb) 38 (.tmp 11) (.tmp 19) rfl rfl rfl (rightC r).toArray rfl right_size rfl (rightC_one _) ?_; clear _t tok; intro w3 hH3 hB3' hz3; clear hz3; have hB3 := hB2.trans ((below_new (Below.refl _ _) hH2 _).trans hB3'); clear hB3' hB2 hH2; have d0 := Has.cell [] _ hH3 0 (v := .bool r.W) rfl; have d1 := Has.cell [] _ hH3 1 (v := .bool r.U) rfl; have d2 := Has.cell [] _ hH3 2 (v := .bool r.X) rfl)
      | (refine wpList_store_all [_, _, _] _ hH3 46 (.tmp 8) (.tmp 25) rfl rfl rfl (hitC (hitOf a page (some (f, r)))).toArray rfl hit_size' rfl (hitC_one _) ?_; intro w4 hH4 hB4 hz4; clear hz4))
    exact bodyPost_ret (results_hit (fn := Try.f41) rfl _ w4 rb 46 _ (0, 0) _ rfl (hH4.blk_at [_, _, _] _).1 Try.underlying46 rfl hit_size') rfl ⟨rfl, (hH4.front [_, _, _] _).drop.drop, hB3.trans hB4⟩

set_option maxHeartbeats 4000000 in
set_option maxRecDepth 100000 in
theorem Access_calls (mb tb hb n N : Nat) (W : List Int) (L : List HitS) (root a page kind : Int) (user : Bool) (hok : okW W) (w : World) (B : Nat) (X : List Asr) (hH : Has w B (mmuB mb tb hb :: MemA hb n W :: TlbA tb N L :: X)) :
    Calls Try.prog 14 #[.pointer (some ⟨mb, 0, none⟩), .int .i64 root, .int .i64 a, .int .i64 page, .int .i64 kind, .bool user] w fun e w' => e = .returned (pairV (accS N L (walkS W n (page % 512) 3 root rAll) a (page % 512) kind user).1) ∧ Has w' B (mmuB mb tb hb :: MemA hb n W :: TlbA tb N (accS N L (walkS W n (page % 512) 3 root rAll) a (page % 512) kind user).2 :: X) ∧ Below B w w' := by
  have CW := hid (within_calls page w)
  obtain ⟨p, hp⟩ : ∃ p, page % 512 = p := ⟨_, rfl⟩
  rw [hp] at CW ⊢
  clear hp
  have CH := hid fun U B X (h : Has U B (mmuB mb tb hb :: MemA hb n W :: X)) => hit_calls mb tb hb n W root a p hok U B X h
  obtain ⟨o, ho⟩ : ∃ o, walkS W n p 3 root rAll = o := ⟨_, rfl⟩
  rw [ho] at CH ⊢
  clear ho hok
  have CG := hid fun U B X (h : Has U B (TlbA tb N L :: X)) => TGet_calls tb N L a p U B X h
  have hFind : ∀ q, L.find? (keyB a p) = q → accS N L o a p kind user = match q with
    | some h => if rMay (rH h) kind user then ((h.f, true), L) else missS N L o a p kind user
    | none => missS N L o a p kind user := by rintro q rfl; rfl
  rcases hq : L.find? (keyB a p) with _ | h
  · have hV : getV L a p = .tuple #[.agg (hitC hit0).toArray, .bool false] := by simp [getV, hq]
    rw [hV] at CG
    have hA : accS N L o a p kind user = missS N L o a p kind user := hFind _ hq
    rw [hA]
    clear hA hFind hq hV
    go_enter Try.func14, Try.ntmps14
    go_wp2_with fail
    refine CW.out.mono ?_
    rintro e w0 ⟨rfl, m0, hw0⟩
    have hH0 := hH.drewN m0
    have hB0 := below_drewN (Below.refl B w) m0
    rw [← hw0] at hH0 hB0
    clear hw0 hH CW
    have c0 := Has.cell [] _ hH0 0 (v := .pointer (some ⟨tb, 0, none⟩)) rfl
    go_wp2_with fail
    refine (CG.out _ B _ (hH0.front [_, _] _)).mono ?_
    rintro e w1 ⟨rfl, hH1, hB1⟩
    have hB1 := hB0.trans hB1
    have c0 := Has.cell [_] _ hH1 0 (v := .pointer (some ⟨tb, 0, none⟩)) rfl
    obtain ⟨kb, hkb⟩ : ∃ kb, w1.heap.size = kb := ⟨_, rfl⟩
    have tok : True := trivial
    clear CG hH0 hB0
    go_wp2_with (have _t := tok; refine wpList_store_all [] _ (hH1.newblk kb 46 hitZ hkb) 46 (.tmp 14) (.tmp 28) rfl rfl rfl (hitC hit0).toArray rfl hit_size' rfl (hitC_one _) ?_; clear _t tok; intro w3 hH3 hB3' hz2; clear hz2; have hB3 := hB1.trans ((below_new (Below.refl _ _) hH1 _).trans hB3'); clear hB3' hB1 hH1; have c0 := Has.cell [_, _] _ hH3 0 (v := .pointer (some ⟨tb, 0, none⟩)) rfl)
    clear hkb
    have CD := hid (Drop_calls tb N L a p _ B _ (hH3.front [_] _))
    go_wp2_with fail
    refine CD.out.mono ?_
    rintro e w4 ⟨rfl, hH4, hB4⟩
    have hB4 := hB3.trans hB4
    clear CD hH3 hB3
    have hH5 := ((hH4.front [_, _] _).front [_, _, _] _).front [_] _
    have CH2 := hid (CH.out _ B _ hH5)
    go_wp2_with fail
    refine CH2.out.mono ?_
    rintro e w6 ⟨rfl, hH6, hB6⟩
    have hB6 := hB4.trans hB6
    clear CH2 CH hH4 hH5 hB4
    obtain ⟨jb, hjb⟩ : ∃ jb, w6.heap.size = jb := ⟨_, rfl⟩
    have tok : True := trivial
    obtain ⟨g, hg⟩ : ∃ g, hitOf a p o = g := ⟨_, rfl⟩
    rw [hg]
    have HG := hid hg
    clear hg
    rcases o with _ | ⟨f, r⟩
    · go_wp2_with (have _t := tok; refine wpList_store_all [] _ (hH6.newblk jb 46 hitZ hjb) 46 (.tmp 16) (.tmp 53) rfl rfl rfl (hitC g).toArray rfl hit_size' rfl (hitC_one _) ?_; clear _t tok; intro w7 hH7 hB7' hz7; clear hz7; have hB7 := hB6.trans ((below_new (Below.refl _ _) hH6 _).trans hB7'); clear hB7' hB6 hH6; have c0 := Has.cell [_] _ hH7 0 (v := .pointer (some ⟨tb, 0, none⟩)) rfl; have e0 := Has.cell [] _ hH7 0 (v := .int .i64 g.a) rfl; have e1 := Has.cell [] _ hH7 1 (v := .int .i64 g.p) rfl; have e2 := Has.cell [] _ hH7 2 (v := .int .i64 g.f) rfl; have e3 := Has.cell [] _ hH7 3 (v := .bool g.w) rfl; have e4 := Has.cell [] _ hH7 4 (v := .bool g.u) rfl; have e5 := Has.cell [] _ hH7 5 (v := .bool g.x) rfl; have e6 := Has.cell [] _ hH7 6 (v := .bool g.d) rfl)
      go_ret2
      exact ⟨rfl, (hH7.drop.front [_, _, _] _).drop, hB7⟩
    · go_wp2_with (have _t := tok; refine wpList_store_all [] _ (hH6.newblk jb 46 hitZ hjb) 46 (.tmp 16) (.tmp 53) rfl rfl rfl (hitC g).toArray rfl hit_size' rfl (hitC_one _) ?_; clear _t tok; intro w7 hH7 hB7' hz7; clear hz7; have hB7 := hB6.trans ((below_new (Below.refl _ _) hH6 _).trans hB7'); clear hB7' hB6 hH6; have c0 := Has.cell [_] _ hH7 0 (v := .pointer (some ⟨tb, 0, none⟩)) rfl; have e0 := Has.cell [] _ hH7 0 (v := .int .i64 g.a) rfl; have e1 := Has.cell [] _ hH7 1 (v := .int .i64 g.p) rfl; have e2 := Has.cell [] _ hH7 2 (v := .int .i64 g.f) rfl; have e3 := Has.cell [] _ hH7 3 (v := .bool g.w) rfl; have e4 := Has.cell [] _ hH7 4 (v := .bool g.u) rfl; have e5 := Has.cell [] _ hH7 5 (v := .bool g.x) rfl; have e6 := Has.cell [] _ hH7 6 (v := .bool g.d) rfl)
      refine (keeps (May_calls (rH g) kind user _) hH7).mono ?_
      rintro e w8 ⟨rfl, hH8, hB8⟩
      have hB8 := hB7.trans hB8
      have hrg : rH g = r := by rw [← HG.out]; rfl
      rw [hrg]
      have c0 := Has.cell [_] _ hH8 0 (v := .pointer (some ⟨tb, 0, none⟩)) rfl
      have e0 := Has.cell [] _ hH8 0 (v := .int .i64 g.a) rfl
      have e1 := Has.cell [] _ hH8 1 (v := .int .i64 g.p) rfl
      have e2 := Has.cell [] _ hH8 2 (v := .int .i64 g.f) rfl
      have e3 := Has.cell [] _ hH8 3 (v := .bool g.w) rfl
      have e4 := Has.cell [] _ hH8 4 (v := .bool g.u) rfl
      have e5 := Has.cell [] _ hH8 5 (v := .bool g.x) rfl
      have e6 := Has.cell [] _ hH8 6 (v := .bool g.d) rfl
      clear hH7 hB7 hrg
      cases hmr : rMay r kind user with
      | false =>
        have hms : missS N L (some (f, r)) a p kind user = ((0, false), dropL a p L) := by simp [missS, hmr]
        have HMS := hid hms
        clear hms hmr
        go_wp2_with fail
        go_ret2
        exact ⟨by rw [HMS.out]; rfl, by rw [HMS.out]; exact (hH8.drop.front [_, _, _] _).drop, hB8⟩
      | true =>
        have hms : missS N L (some (f, r)) a p kind user = ((g.f, true), putL N (dropL a p L) g) := by
          rw [← HG.out]
          simp only [missS, hmr, if_true]
          rfl
        have HMS := hid hms
        clear hms hmr
        go_wp2_with fail
        go_still_tail 5, (by kernel_rfl)
        change wpList _ _ _ _ _ (World.drew _)
        go_wp2_with fail
        refine (TPut_calls tb N (dropL a p L) g _ B _ (hH8.drew.front [_, _, _] _)).mono ?_
        rintro e w9 ⟨rfl, hH9, hB9⟩
        have hB9 := (hB8.drew).trans hB9
        have e2 := Has.cell [_] _ hH9 2 (v := .int .i64 g.f) rfl
        go_wp2_with fail
        go_ret2
        exact ⟨by rw [HMS.out]; rfl, by rw [HMS.out]; exact ((((((hH9.front [_, _] _).front [_, _, _] _).front [_] _).front [_, _, _] _).drop).front [_, _, _] _).drop, hB9⟩
  · have hV : getV L a p = .tuple #[.agg (hitC h).toArray, .bool true] := by simp [getV, hq]
    rw [hV] at CG
    by_cases hm : rMay (rH h) kind user = true
    · have hA : accS N L o a p kind user = ((h.f, true), L) := by
        rw [hFind _ hq]
        show (if rMay (rH h) kind user = true then _ else _) = _
        rw [if_pos hm]
      rw [hA]
      clear hA hFind hq hV
      go_enter Try.func14, Try.ntmps14
      go_wp2_with fail
      refine CW.out.mono ?_
      rintro e w0 ⟨rfl, m0, hw0⟩
      have hH0 := hH.drewN m0
      have hB0 := below_drewN (Below.refl B w) m0
      rw [← hw0] at hH0 hB0
      clear hw0 hH CW
      have c0 := Has.cell [] _ hH0 0 (v := .pointer (some ⟨tb, 0, none⟩)) rfl
      go_wp2_with fail
      refine (CG.out _ B _ (hH0.front [_, _] _)).mono ?_
      rintro e w1 ⟨rfl, hH1, hB1⟩
      have hB1 := hB0.trans hB1
      have c0 := Has.cell [_] _ hH1 0 (v := .pointer (some ⟨tb, 0, none⟩)) rfl
      obtain ⟨kb, hkb⟩ : ∃ kb, w1.heap.size = kb := ⟨_, rfl⟩
      have tok : True := trivial
      clear CG hH0 hB0
      go_wp2_with (have _t := tok; refine wpList_store_all [] _ (hH1.newblk kb 46 hitZ hkb) 46 (.tmp 14) (.tmp 28) rfl rfl rfl (hitC h).toArray rfl hit_size' rfl (hitC_one _) ?_; clear _t tok; intro w2 hH2 hB2' hz2; clear hz2; have hB2 := hB1.trans ((below_new (Below.refl _ _) hH1 _).trans hB2'); clear hB2' hB1 hH1; have c0 := Has.cell [_, _] _ hH2 0 (v := .pointer (some ⟨tb, 0, none⟩)) rfl; have k2 := Has.cell [] _ hH2 2 (v := .int .i64 h.f) rfl; have k3 := Has.cell [] _ hH2 3 (v := .bool h.w) rfl; have k4 := Has.cell [] _ hH2 4 (v := .bool h.u) rfl; have k5 := Has.cell [] _ hH2 5 (v := .bool h.x) rfl)
      clear hkb
      refine (keeps (May_calls (rH h) kind user _) hH2).mono ?_
      rintro e w3 ⟨rfl, hH3, hB3⟩
      rw [hm]
      have hB3 := hB2.trans hB3
      have c0 := Has.cell [_, _] _ hH3 0 (v := .pointer (some ⟨tb, 0, none⟩)) rfl
      have k2 := Has.cell [] _ hH3 2 (v := .int .i64 h.f) rfl
      clear hH2 hB2
      go_wp2_with fail
      go_ret2
      exact ⟨rfl, ((hH3.drop.front [_] _).front [_, _] _).front [_] _, hB3⟩
    · have hA : accS N L o a p kind user = missS N L o a p kind user := by
        rw [hFind _ hq]
        show (if rMay (rH h) kind user = true then _ else _) = _
        rw [if_neg hm]
      rw [Bool.not_eq_true] at hm
      rw [hA]
      clear hA hFind hq hV
      go_enter Try.func14, Try.ntmps14
      go_wp2_with fail
      refine CW.out.mono ?_
      rintro e w0 ⟨rfl, m0, hw0⟩
      have hH0 := hH.drewN m0
      have hB0 := below_drewN (Below.refl B w) m0
      rw [← hw0] at hH0 hB0
      clear hw0 hH CW
      have c0 := Has.cell [] _ hH0 0 (v := .pointer (some ⟨tb, 0, none⟩)) rfl
      go_wp2_with fail
      refine (CG.out _ B _ (hH0.front [_, _] _)).mono ?_
      rintro e w1 ⟨rfl, hH1, hB1⟩
      have hB1 := hB0.trans hB1
      have c0 := Has.cell [_] _ hH1 0 (v := .pointer (some ⟨tb, 0, none⟩)) rfl
      obtain ⟨kb, hkb⟩ : ∃ kb, w1.heap.size = kb := ⟨_, rfl⟩
      have tok : True := trivial
      clear CG hH0 hB0
      go_wp2_with (have _t := tok; refine wpList_store_all [] _ (hH1.newblk kb 46 hitZ hkb) 46 (.tmp 14) (.tmp 28) rfl rfl rfl (hitC h).toArray rfl hit_size' rfl (hitC_one _) ?_; clear _t tok; intro w2 hH2 hB2' hz2; clear hz2; have hB2 := hB1.trans ((below_new (Below.refl _ _) hH1 _).trans hB2'); clear hB2' hB1 hH1; have c0 := Has.cell [_, _] _ hH2 0 (v := .pointer (some ⟨tb, 0, none⟩)) rfl; have k2 := Has.cell [] _ hH2 2 (v := .int .i64 h.f) rfl; have k3 := Has.cell [] _ hH2 3 (v := .bool h.w) rfl; have k4 := Has.cell [] _ hH2 4 (v := .bool h.u) rfl; have k5 := Has.cell [] _ hH2 5 (v := .bool h.x) rfl)
      clear hkb
      refine (keeps (May_calls (rH h) kind user _) hH2).mono ?_
      rintro e w3 ⟨rfl, hH3, hB3⟩
      rw [hm]
      have hB3 := hB2.trans hB3
      have c0 := Has.cell [_, _] _ hH3 0 (v := .pointer (some ⟨tb, 0, none⟩)) rfl
      have k2 := Has.cell [] _ hH3 2 (v := .int .i64 h.f) rfl
      clear hH2 hB2
      have CD := hid (Drop_calls tb N L a p _ B _ (hH3.front [_] _))
      go_wp2_with fail
      refine CD.out.mono ?_
      rintro e w4 ⟨rfl, hH4, hB4⟩
      have hB4 := hB3.trans hB4
      clear CD hH3 hB3
      have hH5 := ((hH4.front [_, _] _).front [_, _, _] _).front [_] _
      have CH2 := hid (CH.out _ B _ hH5)
      go_wp2_with fail
      refine CH2.out.mono ?_
      rintro e w6 ⟨rfl, hH6, hB6⟩
      have hB6 := hB4.trans hB6
      clear CH2 CH hH4 hH5 hB4
      obtain ⟨jb, hjb⟩ : ∃ jb, w6.heap.size = jb := ⟨_, rfl⟩
      have tok : True := trivial
      obtain ⟨g, hg⟩ : ∃ g, hitOf a p o = g := ⟨_, rfl⟩
      rw [hg]
      have HG := hid hg
      clear hg
      rcases o with _ | ⟨f, r⟩
      · go_wp2_with (have _t := tok; refine wpList_store_all [] _ (hH6.newblk jb 46 hitZ hjb) 46 (.tmp 16) (.tmp 53) rfl rfl rfl (hitC g).toArray rfl hit_size' rfl (hitC_one _) ?_; clear _t tok; intro w7 hH7 hB7' hz7; clear hz7; have hB7 := hB6.trans ((below_new (Below.refl _ _) hH6 _).trans hB7'); clear hB7' hB6 hH6; have c0 := Has.cell [_] _ hH7 0 (v := .pointer (some ⟨tb, 0, none⟩)) rfl; have e0 := Has.cell [] _ hH7 0 (v := .int .i64 g.a) rfl; have e1 := Has.cell [] _ hH7 1 (v := .int .i64 g.p) rfl; have e2 := Has.cell [] _ hH7 2 (v := .int .i64 g.f) rfl; have e3 := Has.cell [] _ hH7 3 (v := .bool g.w) rfl; have e4 := Has.cell [] _ hH7 4 (v := .bool g.u) rfl; have e5 := Has.cell [] _ hH7 5 (v := .bool g.x) rfl; have e6 := Has.cell [] _ hH7 6 (v := .bool g.d) rfl)
        go_ret2
        exact ⟨rfl, (hH7.drop.front [_, _, _] _).drop, hB7⟩
      · go_wp2_with (have _t := tok; refine wpList_store_all [] _ (hH6.newblk jb 46 hitZ hjb) 46 (.tmp 16) (.tmp 53) rfl rfl rfl (hitC g).toArray rfl hit_size' rfl (hitC_one _) ?_; clear _t tok; intro w7 hH7 hB7' hz7; clear hz7; have hB7 := hB6.trans ((below_new (Below.refl _ _) hH6 _).trans hB7'); clear hB7' hB6 hH6; have c0 := Has.cell [_] _ hH7 0 (v := .pointer (some ⟨tb, 0, none⟩)) rfl; have e0 := Has.cell [] _ hH7 0 (v := .int .i64 g.a) rfl; have e1 := Has.cell [] _ hH7 1 (v := .int .i64 g.p) rfl; have e2 := Has.cell [] _ hH7 2 (v := .int .i64 g.f) rfl; have e3 := Has.cell [] _ hH7 3 (v := .bool g.w) rfl; have e4 := Has.cell [] _ hH7 4 (v := .bool g.u) rfl; have e5 := Has.cell [] _ hH7 5 (v := .bool g.x) rfl; have e6 := Has.cell [] _ hH7 6 (v := .bool g.d) rfl)
        refine (keeps (May_calls (rH g) kind user _) hH7).mono ?_
        rintro e w8 ⟨rfl, hH8, hB8⟩
        have hB8 := hB7.trans hB8
        have hrg : rH g = r := by rw [← HG.out]; rfl
        rw [hrg]
        have c0 := Has.cell [_] _ hH8 0 (v := .pointer (some ⟨tb, 0, none⟩)) rfl
        have e0 := Has.cell [] _ hH8 0 (v := .int .i64 g.a) rfl
        have e1 := Has.cell [] _ hH8 1 (v := .int .i64 g.p) rfl
        have e2 := Has.cell [] _ hH8 2 (v := .int .i64 g.f) rfl
        have e3 := Has.cell [] _ hH8 3 (v := .bool g.w) rfl
        have e4 := Has.cell [] _ hH8 4 (v := .bool g.u) rfl
        have e5 := Has.cell [] _ hH8 5 (v := .bool g.x) rfl
        have e6 := Has.cell [] _ hH8 6 (v := .bool g.d) rfl
        clear hH7 hB7 hrg
        cases hmr : rMay r kind user with
        | false =>
          have hms : missS N L (some (f, r)) a p kind user = ((0, false), dropL a p L) := by simp [missS, hmr]
          have HMS := hid hms
          clear hms hmr
          go_wp2_with fail
          go_ret2
          exact ⟨by rw [HMS.out]; rfl, by rw [HMS.out]; exact (hH8.drop.front [_, _, _] _).drop, hB8⟩
        | true =>
          have hms : missS N L (some (f, r)) a p kind user = ((g.f, true), putL N (dropL a p L) g) := by
            rw [← HG.out]
            simp only [missS, hmr, if_true]
            rfl
          have HMS := hid hms
          clear hms hmr
          go_wp2_with fail
          go_still_tail 5, (by kernel_rfl)
          change wpList _ _ _ _ _ (World.drew _)
          go_wp2_with fail
          refine (TPut_calls tb N (dropL a p L) g _ B _ (hH8.drew.front [_, _, _] _)).mono ?_
          rintro e w9 ⟨rfl, hH9, hB9⟩
          have hB9 := (hB8.drew).trans hB9
          have e2 := Has.cell [_] _ hH9 2 (v := .int .i64 g.f) rfl
          go_wp2_with fail
          go_ret2
          exact ⟨by rw [HMS.out]; rfl, by rw [HMS.out]; exact ((((((hH9.front [_, _] _).front [_, _, _] _).front [_] _).front [_, _, _] _).drop).front [_, _, _] _).drop, hB9⟩

set_option maxHeartbeats 4000000 in
set_option maxRecDepth 100000 in
theorem Find_calls (mb tb hb n N : Nat) (W : List Int) (L : List HitS) (root a page : Int) (hok : okW W) (w : World) (B : Nat) (X : List Asr) (hH : Has w B (mmuB mb tb hb :: MemA hb n W :: TlbA tb N L :: X)) :
    Calls Try.prog 19 #[.pointer (some ⟨mb, 0, none⟩), .int .i64 root, .int .i64 a, .int .i64 page] w fun e w' => e = .returned (.bool (findS N L (walkS W n (page % 512) 3 root rAll) a (page % 512)).1) ∧ Has w' B (mmuB mb tb hb :: MemA hb n W :: TlbA tb N (findS N L (walkS W n (page % 512) 3 root rAll) a (page % 512)).2 :: X) ∧ Below B w w' := by
  have CW := hid (within_calls page w)
  obtain ⟨p, hp⟩ : ∃ p, page % 512 = p := ⟨_, rfl⟩
  rw [hp] at CW ⊢
  clear hp
  have CH := hid fun U B X (h : Has U B (mmuB mb tb hb :: MemA hb n W :: X)) => hit_calls mb tb hb n W root a p hok U B X h
  obtain ⟨o, ho⟩ : ∃ o, walkS W n p 3 root rAll = o := ⟨_, rfl⟩
  rw [ho] at CH ⊢
  clear ho hok
  have CG := hid fun U B X (h : Has U B (TlbA tb N L :: X)) => TGet_calls tb N L a p U B X h
  rcases hq : L.find? (keyB a p) with _ | h
  · have hV : getV L a p = .tuple #[.agg (hitC hit0).toArray, .bool false] := by simp [getV, hq]
    rw [hV] at CG
    have hA : findS N L o a p = if o.isSome then (true, putL N L (hitOf a p o)) else (false, L) := by simp [findS, hq]
    rw [hA]
    clear hA hq hV
    go_enter Try.func19, Try.ntmps19
    go_wp2_with fail
    refine CW.out.mono ?_
    rintro e w0 ⟨rfl, m0, hw0⟩
    have hH0 := hH.drewN m0
    have hB0 := below_drewN (Below.refl B w) m0
    rw [← hw0] at hH0 hB0
    clear hw0 hH CW
    have c0 := Has.cell [] _ hH0 0 (v := .pointer (some ⟨tb, 0, none⟩)) rfl
    go_wp2_with fail
    refine (CG.out _ B _ (hH0.front [_, _] _)).mono ?_
    rintro e w1 ⟨rfl, hH1, hB1⟩
    have hB1 := hB0.trans hB1
    have c0 := Has.cell [_] _ hH1 0 (v := .pointer (some ⟨tb, 0, none⟩)) rfl
    obtain ⟨kb, hkb⟩ : ∃ kb, w1.heap.size = kb := ⟨_, rfl⟩
    have tok : True := trivial
    clear CG hH0 hB0
    go_wp2_with (have _t := tok; refine wpList_store_all [] _ (hH1.newblk kb 46 hitZ hkb) 46 (.tmp 9) (.tmp 23) rfl rfl rfl (hitC hit0).toArray rfl hit_size' rfl (hitC_one _) ?_; clear _t tok; intro w4 hH4 hB4' hz2; clear hz2; have hB4 := hB1.trans ((below_new (Below.refl _ _) hH1 _).trans hB4'); clear hB4' hB1 hH1; skip)
    clear hkb
    have CH2 := hid (CH.out _ B _ (((hH4.front [_, _] _).front [_, _, _] _).front [_] _))
    go_wp2_with fail
    refine CH2.out.mono ?_
    rintro e w6 ⟨rfl, hH6, hB6⟩
    have hB6 := hB4.trans hB6
    clear CH2 CH hH4 hB4
    obtain ⟨jb, hjb⟩ : ∃ jb, w6.heap.size = jb := ⟨_, rfl⟩
    have tok : True := trivial
    obtain ⟨g, hg⟩ : ∃ g, hitOf a p o = g := ⟨_, rfl⟩
    rw [hg]
    have HG := hid hg
    clear hg
    rcases o with _ | ⟨f, r⟩
    · go_wp2_with (have _t := tok; refine wpList_store_all [] _ (hH6.newblk jb 46 hitZ hjb) 46 (.tmp 11) (.tmp 31) rfl rfl rfl (hitC g).toArray rfl hit_size' rfl (hitC_one _) ?_; clear _t tok; intro w7 hH7 hB7' hz7; clear hz7; have hB7 := hB6.trans ((below_new (Below.refl _ _) hH6 _).trans hB7'); clear hB7' hB6 hH6; have c0 := Has.cell [_] _ hH7 0 (v := .pointer (some ⟨tb, 0, none⟩)) rfl; have e0 := Has.cell [] _ hH7 0 (v := .int .i64 g.a) rfl; have e1 := Has.cell [] _ hH7 1 (v := .int .i64 g.p) rfl; have e2 := Has.cell [] _ hH7 2 (v := .int .i64 g.f) rfl; have e3 := Has.cell [] _ hH7 3 (v := .bool g.w) rfl; have e4 := Has.cell [] _ hH7 4 (v := .bool g.u) rfl; have e5 := Has.cell [] _ hH7 5 (v := .bool g.x) rfl; have e6 := Has.cell [] _ hH7 6 (v := .bool g.d) rfl)
      go_ret
      exact ⟨rfl, (hH7.drop.front [_, _] _).drop, hB7⟩
    · go_wp2_with (have _t := tok; refine wpList_store_all [] _ (hH6.newblk jb 46 hitZ hjb) 46 (.tmp 11) (.tmp 31) rfl rfl rfl (hitC g).toArray rfl hit_size' rfl (hitC_one _) ?_; clear _t tok; intro w7 hH7 hB7' hz7; clear hz7; have hB7 := hB6.trans ((below_new (Below.refl _ _) hH6 _).trans hB7'); clear hB7' hB6 hH6; have c0 := Has.cell [_] _ hH7 0 (v := .pointer (some ⟨tb, 0, none⟩)) rfl; have e0 := Has.cell [] _ hH7 0 (v := .int .i64 g.a) rfl; have e1 := Has.cell [] _ hH7 1 (v := .int .i64 g.p) rfl; have e2 := Has.cell [] _ hH7 2 (v := .int .i64 g.f) rfl; have e3 := Has.cell [] _ hH7 3 (v := .bool g.w) rfl; have e4 := Has.cell [] _ hH7 4 (v := .bool g.u) rfl; have e5 := Has.cell [] _ hH7 5 (v := .bool g.x) rfl; have e6 := Has.cell [] _ hH7 6 (v := .bool g.d) rfl)
      have hH8 := hH7
      have hB8 := hB7
      go_still_tail 5, (by kernel_rfl)
      change wpList _ _ _ _ _ (World.drew _)
      go_wp2_with fail
      refine (TPut_calls tb N L g _ B _ (hH8.drew.front [_, _, _, _] _)).mono ?_
      rintro e w9 ⟨rfl, hH9, hB9⟩
      have hB9 := (hB8.drew).trans hB9
      have e2 := Has.cell [_] _ hH9 2 (v := .int .i64 g.f) rfl
      go_wp2_with fail
      go_ret
      rw [HG.out]
      exact ⟨rfl, ((((((hH9.front [_, _] _).front [_, _, _] _).front [_] _).front [_, _, _] _).drop).front [_, _, _] _).drop, hB9⟩
  · have hV : getV L a p = .tuple #[.agg (hitC h).toArray, .bool true] := by simp [getV, hq]
    rw [hV] at CG
    have hA : findS N L o a p = (false, L) := by simp [findS, hq]
    rw [hA]
    clear hA hq hV
    go_enter Try.func19, Try.ntmps19
    go_wp2_with fail
    refine CW.out.mono ?_
    rintro e w0 ⟨rfl, m0, hw0⟩
    have hH0 := hH.drewN m0
    have hB0 := below_drewN (Below.refl B w) m0
    rw [← hw0] at hH0 hB0
    clear hw0 hH CW
    have c0 := Has.cell [] _ hH0 0 (v := .pointer (some ⟨tb, 0, none⟩)) rfl
    go_wp2_with fail
    refine (CG.out _ B _ (hH0.front [_, _] _)).mono ?_
    rintro e w1 ⟨rfl, hH1, hB1⟩
    have hB1 := hB0.trans hB1
    have c0 := Has.cell [_] _ hH1 0 (v := .pointer (some ⟨tb, 0, none⟩)) rfl
    obtain ⟨kb, hkb⟩ : ∃ kb, w1.heap.size = kb := ⟨_, rfl⟩
    have tok : True := trivial
    clear CG hH0 hB0
    go_wp2_with (have _t := tok; refine wpList_store_all [] _ (hH1.newblk kb 46 hitZ hkb) 46 (.tmp 9) (.tmp 23) rfl rfl rfl (hitC h).toArray rfl hit_size' rfl (hitC_one _) ?_; clear _t tok; intro w4 hH4 hB4' hz2; clear hz2; have hB4 := hB1.trans ((below_new (Below.refl _ _) hH1 _).trans hB4'); clear hB4' hB1 hH1; skip)
    clear hkb
    have CH2 := hid (CH.out _ B _ (((hH4.front [_, _] _).front [_, _, _] _).front [_] _))
    go_wp2_with fail
    refine CH2.out.mono ?_
    rintro e w6 ⟨rfl, hH6, hB6⟩
    have hB6 := hB4.trans hB6
    clear CH2 CH hH4 hB4
    obtain ⟨jb, hjb⟩ : ∃ jb, w6.heap.size = jb := ⟨_, rfl⟩
    have tok : True := trivial
    obtain ⟨g, hg⟩ : ∃ g, hitOf a p o = g := ⟨_, rfl⟩
    rw [hg]
    have HG := hid hg
    clear hg
    go_wp2_with (have _t := tok; refine wpList_store_all [] _ (hH6.newblk jb 46 hitZ hjb) 46 (.tmp 11) (.tmp 31) rfl rfl rfl (hitC g).toArray rfl hit_size' rfl (hitC_one _) ?_; clear _t tok; intro w7 hH7 hB7' hz7; clear hz7; have hB7 := hB6.trans ((below_new (Below.refl _ _) hH6 _).trans hB7'); clear hB7' hB6 hH6; have c0 := Has.cell [_] _ hH7 0 (v := .pointer (some ⟨tb, 0, none⟩)) rfl; have e0 := Has.cell [] _ hH7 0 (v := .int .i64 g.a) rfl; have e1 := Has.cell [] _ hH7 1 (v := .int .i64 g.p) rfl; have e2 := Has.cell [] _ hH7 2 (v := .int .i64 g.f) rfl; have e3 := Has.cell [] _ hH7 3 (v := .bool g.w) rfl; have e4 := Has.cell [] _ hH7 4 (v := .bool g.u) rfl; have e5 := Has.cell [] _ hH7 5 (v := .bool g.x) rfl; have e6 := Has.cell [] _ hH7 6 (v := .bool g.d) rfl)
    go_ret
    exact ⟨rfl, (hH7.drop.front [_, _] _).drop, hB7⟩

end Go.Proofs.Ytlcdjdchcjnhfaa
