/-
  Walk of package mmu.
-/
import Derived.Test.YtlcdjdchcjnhfaaMmu
import Derived.WalkMore
import Derived.ScopeJumps
import Derived.Deep.RegionWith
import Derived.Deep.CutBlock
import Derived.Deep.DeepCutAuto
namespace Go.Proofs.Ytlcdjdchcjnhfaa
open Go.RowKit
set_option linter.unusedVariables false
set_option linter.unusedSimpArgs false

def pteZ : Array Value := #[.bool false, .bool false, .bool false, .bool false, .bool false, .bool false, .bool false, .bool false, .int .i64 0]
theorem pteC_one (p : PteS) : ∀ u ∈ (pteC p).toList, u.oneCell' = true := by simp [pteC, Value.oneCell']
theorem pte_cells {U : World} {B pb : Nat} {T : TypeId} {p : PteS} (L1 L2 : List Asr) (hH : Has U B (L1 ++ blk pb T (pteC p) :: L2)) : U.cell? ⟨pb, 0, none⟩ = some (.bool p.P) ∧ U.cell? ⟨pb, 1, none⟩ = some (.bool p.W) ∧ U.cell? ⟨pb, 2, none⟩ = some (.bool p.U) ∧ U.cell? ⟨pb, 3, none⟩ = some (.bool p.A) ∧ U.cell? ⟨pb, 4, none⟩ = some (.bool p.D) ∧ U.cell? ⟨pb, 5, none⟩ = some (.bool p.PS) ∧ U.cell? ⟨pb, 6, none⟩ = some (.bool p.NX) ∧ U.cell? ⟨pb, 7, none⟩ = some (.bool p.Bad) ∧ U.cell? ⟨pb, 8, none⟩ = some (.int .i64 p.Frame) :=
  ⟨hH.cell L1 L2 0 rfl, hH.cell L1 L2 1 rfl, hH.cell L1 L2 2 rfl, hH.cell L1 L2 3 rfl, hH.cell L1 L2 4 rfl, hH.cell L1 L2 5 rfl, hH.cell L1 L2 6 rfl, hH.cell L1 L2 7 rfl, hH.cell L1 L2 8 rfl⟩

set_option maxHeartbeats 4000000 in
set_option maxRecDepth 100000 in
theorem Walk_calls (mb tb hb n : Nat) (W : List Int) (root page : Int) (hok : okW W) (w : World) (B : Nat) (X : List Asr) (hH : Has w B (mmuB mb tb hb :: MemA hb n W :: X)) :
    Calls Try.prog 16 #[.pointer (some ⟨mb, 0, none⟩), .int .i64 root, .int .i64 page] w fun e w' => e = .returned (walkV (walkS W n page 3 root rAll)) ∧ Has w' B (mmuB mb tb hb :: MemA hb n W :: X) ∧ Below B w w' := by
  have HOK := hid hok
  have hH1 := hH.newblk w.heap.size 38 #[.bool false, .bool false, .bool false] rfl
  have hB1 := below_new (Below.refl B w) hH (.cells #[.bool false, .bool false, .bool false] 38)
  have CA := hid (keeps (All_calls _) hH1)
  clear hok hH
  go_enter Try.func16, Try.ntmps16
  go_wp2
  generalize hrb : w.heap.size = rb at *
  have HRB := hid hrb
  clear hrb
  refine wp_scope_jumps 0 (fun a' w' => ∃ (lv : Nat) (at_ : Int) (r : RightS) (ob : Nat) (u12 u13 u14 u15 u16 u17 u18 u19 u20 u21 u22 u23 u24 u25 u26 u27 u28 u29 u30 u31 u32 u33 u34 u35 u36 u37 u38 u39 u40 u41 u42 u43 u44 u45 u46 u47 u48 u49 : Value), a' = { tmps := #[.pointer (some ⟨mb, 0, none⟩), .int .i64 root, .int .i64 page, undef, undef, undef, .int .i64 0, .pointer (some ⟨rb, 0, none⟩), .bool false, .int .i64 (lv : Int), .int .i64 at_, .pointer (some ⟨ob, 0, none⟩), u12, u13, u14, u15, u16, u17, u18, u19, u20, u21, u22, u23, u24, u25, u26, u27, u28, u29, u30, u31, u32, u33, u34, u35, u36, u37, u38, u39, u40, u41, u42, u43, u44, u45, u46, u47, u48, u49], defers := [] } ∧ 1 ≤ lv ∧ lv ≤ 2 ∧ walkS W n page lv at_ r = walkS W n page 3 root rAll ∧ Has w' B (blk ob 38 (rightC r).toArray :: blk rb 38 #[.bool false, .bool false, .bool false] :: mmuB mb tb hb :: MemA hb n W :: X) ∧ Below B w w') (fun a' _ => (intOf (a'.tmps.getD 9 undef)).toNat) rfl ?_ ?_
  · go_wp2_with fail
    refine CA.out.mono ?_
    rintro e w1 ⟨rfl, hH2, hB2⟩
    have hB2 := hB1.trans hB2
    obtain ⟨ob, hob⟩ : ∃ ob, w1.heap.size = ob := ⟨_, rfl⟩
    have tok1 : True := trivial
    clear hH1 hB1 CA
    go_wp2_with (have _t := tok1; refine wpList_store_all [] _ (hH2.newblk ob 38 #[.bool false, .bool false, .bool false] hob) 38 (.tmp 11) (.tmp 16) rfl rfl rfl (rightC rAll).toArray rfl right_size rfl (rightC_one _) ?_; clear _t tok1; intro wr hHr hB3' hz3; clear hz3; have hBr := hB2.trans ((below_new (Below.refl _ _) hH2 _).trans hB3'); clear hB3' hH2 hB2)
    clear hob
    obtain ⟨r, hr⟩ : ∃ r, rAll = r := ⟨_, rfl⟩
    rw [hr] at hHr
    have HR := hid hr
    clear hr
    go_outline
    go_step3
    have c1 := Has.cell [_, _] _ hHr 1 (v := .pointer (some ⟨hb, 0, none⟩)) rfl
    have CI := hid fun U => Idx_calls page 3 (by omega) (by omega) U
    have CG := hid fun U (hU : Has U B (MemA hb n W :: (blk ob 38 (rightC r).toArray :: blk rb 38 #[.bool false, .bool false, .bool false] :: mmuB mb tb hb :: X))) => Get_calls hb n W root (idxI page 3) U B _ hU
    have hHq := fun q => (hHr.front [_, _, _] _).drewN q
    have HHQ := hid hHq
    clear hHq
    by_cases hk : wok n root (idxI page 3)
    · obtain ⟨V, hV, hVV⟩ := okW_at HOK.out (wat root (idxI page 3))
      have hgr : getR W n root (idxI page 3) = .tuple #[.int .u64 (V : Int), .bool true] := by
        have hVV' := hVV
        rw [List.getD_eq_getElem?_getD] at hVV'
        simp [getR, hk, hVV']
      rw [hgr] at CG
      have CE := hid fun U => EGet_calls V hV U
      have hent : entS W n root page 3 = if (getS V).P then some (getS V) else none := by
        unfold entS
        rw [if_pos hk, hVV, Int.toNat_natCast]
      obtain ⟨p, hp⟩ : ∃ p, getS V = p := ⟨_, rfl⟩
      rw [hp] at CE hent
      have HENT := hid hent
      clear hgr hent hp hV hVV hk
      go_wp2_with fail
      go_quiet (first | ((go_at_call 45; exact quiet_drew CI.out)) | ((go_at_call 21; exact quiet_same (CG.out _ (HHQ.out _)))))
      have hH2 := hHr.drewN nq
      have hB2 := below_drewN hBr nq
      generalize wr.drewN nq = w2 at *
      clear hHr hBr HHQ CG CI c1
      go_wp2_with fail
      refine (keeps (CE.out w2) hH2).mono ?_
      rintro e w3 ⟨rfl, hH3, hB3⟩
      have hB3 := hB2.trans hB3
      obtain ⟨pb, hpb⟩ : ∃ pb, w3.heap.size = pb := ⟨_, rfl⟩
      have tok1 : True := trivial
      clear hH2 hB2 CE
      go_upto_region 4 with (have _t := tok1; refine wpList_store_all [] _ (hH3.newblk pb 90 pteZ hpb) 90 (.tmp 14) (.tmp 30) rfl rfl rfl (pteC p) rfl pte_size9 rfl (pteC_one p) ?_; clear _t tok1; intro w4 hH4 hB4' hz4; clear hz4; have hB4 := hB3.trans ((below_new (Below.refl _ _) hH3 _).trans hB4'); clear hB4' hH3 hB3)
      clear hpb
      have p0 := Has.cell [] _ hH4 0 (v := .bool p.P) rfl
      cases hpp : p.P with
      | false =>
        rw [hpp] at p0
        have hnone : walkS W n page 3 root rAll = none := by
          rw [HR.out]
          show (match entS W n root page 3 with | some p => walkS W n page 2 p.Frame (rMeet r (rOf p)) | none => none) = none
          rw [HENT.out, hpp]
          rfl
        have HN := hid hnone
        clear hnone hpp
        go_wp2_with (refine wpList_store_all [_, _] _ hH4 38 (.tmp 7) (.tmp 49) rfl rfl rfl (rightC rNone).toArray rfl right_size rfl (rightC_one _) ?_; intro w9 hH9 hB9 hz9; clear hz9)
        simp only [Exit.jump]
        exact bodyPost_ret (results_walk (fn := Try.f16) rfl _ w9 rb 38 _ (0, 0) _ rfl (hH9.blk_at [_, _] _).1 Try.underlying38 rfl right_size) rfl ⟨by rw [HN.out]; rfl, hH9.drop.drop.drop, hB4.trans hB9⟩
      | true =>
        rw [hpp] at p0
        have hsome : entS W n root page 3 = some p := by rw [HENT.out, hpp]; rfl
        have HS := hid hsome
        obtain ⟨o, ho⟩ : ∃ o, rOf p = o := ⟨_, rfl⟩
        have HO := hid ho
        have CO := hid fun U => Of_lit p o ho U
        have hHd := hH4.drew
        have hBd : Below B w w4.drew := hB4.drew
        have d0 := Has.cell [_] _ hH4 0 (v := .bool r.W) rfl
        have d1 := Has.cell [_] _ hH4 1 (v := .bool r.U) rfl
        have d2 := Has.cell [_] _ hH4 2 (v := .bool r.X) rfl
        clear hsome ho HENT hpp
        go_wp2_with fail
        clear p0
        obtain ⟨q0, q1, q2, q3, q4, q5, q6, q7, q8⟩ := (pte_cells [] _ hH4)
        go_region_with (first
            | (go_at_call 48; (with_reducible refine (keeps (CO.out _) hHd).mono ?_); rintro e w6 ⟨rfl, hH6, hB6⟩; have d0 := Has.cell [_] _ hH6 0 (v := .bool r.W) rfl; have d1 := Has.cell [_] _ hH6 1 (v := .bool r.U) rfl; have d2 := Has.cell [_] _ hH6 2 (v := .bool r.X) rfl; have hA6 := hH6.newblk w6.heap.size 38 #[.bool r.W, .bool r.U, .bool r.X, .bool o.W, .bool o.U, .bool o.X] rfl; have bA6 := below_new (hBd.trans hB6) hH6 (.cells #[.bool r.W, .bool r.U, .bool r.X, .bool o.W, .bool o.U, .bool o.X] 38))
            | (go_at_call 47; (with_reducible refine (Meet_calls r o w6.heap.size _ _ _ hA6).mono ?_); rintro e w7 ⟨rfl, hH7', hB7'⟩; have hH7 := hH7'.drop; have hB7 := bA6.trans hB7'; obtain ⟨w8, hr8, hH8, hB8', _⟩ := store_run (P := Try.prog) [_] _ hH7 (rightC (rMeet r o)) rfl (rightC_one' _); have hB8 := hB7.trans hB8'))
        all_goals (
          have p8 := Has.cell [] _ hH8 8 (v := .int .i64 p.Frame) rfl
          clear d0 d1 d2 q0 q1 q2 q3 q4 q5 q6 q7 q8 hH6 hB6 hA6 bA6 hH7 hH7' hB7 hB7' hr8 hB8' hHd hBd hH4 hB4
          go_wp2_with fail
          go_step3
          refine ⟨rfl, 2, p.Frame, rMeet r o, ob, _, _, _, _, _, _, _, _, _, _, _, _, _, _, _, _, _, _, _, _, _, _, _, _, _, _, _, _, _, _, _, _, _, _, _, _, _, _, rfl, by omega, by omega, ?_, hH8.drop, hB8⟩
          rw [HR.out, ← HO.out]
          show _ = (match entS W n root page 3 with | some p => walkS W n page 2 p.Frame (rMeet r (rOf p)) | none => none)
          rw [HS.out])
    · have hgr : getR W n root (idxI page 3) = .tuple #[.int .u64 0, .bool false] := by simp [getR, hk]
      rw [hgr] at CG
      have CE := hid fun U => EGet_calls 0 (by decide) U
      have hnone : walkS W n page 3 root rAll = none := by
        rw [HR.out]
        show (match entS W n root page 3 with | some p => walkS W n page 2 p.Frame (rMeet r (rOf p)) | none => none) = none
        rw [show entS W n root page 3 = none from by unfold entS; rw [if_neg hk]]
      have HN := hid hnone
      clear hgr hnone hk
      go_wp2_with fail
      go_quiet (first | ((go_at_call 45; exact quiet_drew CI.out)) | ((go_at_call 21; exact quiet_same (CG.out _ (HHQ.out _)))))
      have hH2 := hHr.drewN nq
      have hB2 := below_drewN hBr nq
      generalize wr.drewN nq = w2 at *
      clear hHr hBr HHQ CG CI c1
      go_wp2_with fail
      refine (keeps (CE.out w2) hH2).mono ?_
      rintro e w3 ⟨rfl, hH3, hB3⟩
      have hB3 := hB2.trans hB3
      obtain ⟨pb, hpb⟩ : ∃ pb, w3.heap.size = pb := ⟨_, rfl⟩
      have tok1 : True := trivial
      clear hH2 hB2 CE
      go_wp2_with (first
        | (have _t := tok1; refine wpList_store_all [] _ (hH3.newblk pb 90 pteZ hpb) 90 (.tmp 14) (.tmp 30) rfl rfl rfl (pteC (getS 0)) rfl pte_size9 rfl (pteC_one _) ?_; clear _t tok1; intro w4 hH4 hB4' hz4; clear hz4; have hB4 := hB3.trans ((below_new (Below.refl _ _) hH3 _).trans hB4'); clear hB4' hH3 hB3)
        | (refine wpList_store_all [_, _] _ hH4 38 (.tmp 7) (.tmp 49) rfl rfl rfl (rightC rNone).toArray rfl right_size rfl (rightC_one _) ?_; intro w9 hH9 hB9 hz9; clear hz9))
      simp only [Exit.jump]
      exact bodyPost_ret (results_walk (fn := Try.f16) rfl _ w9 rb 38 _ (0, 0) _ rfl (hH9.blk_at [_, _] _).1 Try.underlying38 rfl right_size) rfl ⟨by rw [HN.out]; rfl, hH9.drop.drop.drop, hB4.trans hB9⟩
  · rintro a' wr ⟨lv, at_, r, ob, u12, u13, u14, u15, u16, u17, u18, u19, u20, u21, u22, u23, u24, u25, u26, u27, u28, u29, u30, u31, u32, u33, u34, u35, u36, u37, u38, u39, u40, u41, u42, u43, u44, u45, u46, u47, u48, u49, rfl, hl1, hl2, hWK, hHr, hBr⟩
    have HWK := hid hWK
    clear hWK
    have c1 := Has.cell [_, _] _ hHr 1 (v := .pointer (some ⟨hb, 0, none⟩)) rfl
    have CI := hid fun U => Idx_calls page lv (by omega) (by omega) U
    have CG := hid fun U (hU : Has U B (MemA hb n W :: (blk ob 38 (rightC r).toArray :: blk rb 38 #[.bool false, .bool false, .bool false] :: mmuB mb tb hb :: X))) => Get_calls hb n W at_ (idxI page lv) U B _ hU
    have hHq := fun q => (hHr.front [_, _, _] _).drewN q
    have HHQ := hid hHq
    clear hHq
    by_cases hk : wok n at_ (idxI page lv)
    · obtain ⟨V, hV, hVV⟩ := okW_at HOK.out (wat at_ (idxI page lv))
      have hgr : getR W n at_ (idxI page lv) = .tuple #[.int .u64 (V : Int), .bool true] := by
        have hVV' := hVV
        rw [List.getD_eq_getElem?_getD] at hVV'
        simp [getR, hk, hVV']
      rw [hgr] at CG
      have CE := hid fun U => EGet_calls V hV U
      have hent : entS W n at_ page lv = if (getS V).P then some (getS V) else none := by
        unfold entS
        rw [if_pos hk, hVV, Int.toNat_natCast]
      obtain ⟨p, hp⟩ : ∃ p, getS V = p := ⟨_, rfl⟩
      rw [hp] at CE hent
      have HENT := hid hent
      clear hgr hent hp hV hVV hk
      go_wp2_with fail
      go_quiet (first | ((go_at_call 45; exact quiet_drew CI.out)) | ((go_at_call 21; exact quiet_same (CG.out _ (HHQ.out _)))))
      have hH2 := hHr.drewN nq
      have hB2 := below_drewN hBr nq
      generalize wr.drewN nq = w2 at *
      clear hHr hBr HHQ CG CI c1
      go_wp2_with fail
      refine (keeps (CE.out w2) hH2).mono ?_
      rintro e w3 ⟨rfl, hH3, hB3⟩
      have hB3 := hB2.trans hB3
      obtain ⟨pb, hpb⟩ : ∃ pb, w3.heap.size = pb := ⟨_, rfl⟩
      have tok1 : True := trivial
      clear hH2 hB2 CE
      go_upto_region 4 with (have _t := tok1; refine wpList_store_all [] _ (hH3.newblk pb 90 pteZ hpb) 90 (.tmp 14) (.tmp 30) rfl rfl rfl (pteC p) rfl pte_size9 rfl (pteC_one p) ?_; clear _t tok1; intro w4 hH4 hB4' hz4; clear hz4; have hB4 := hB3.trans ((below_new (Below.refl _ _) hH3 _).trans hB4'); clear hB4' hH3 hB3)
      clear hpb
      have p0 := Has.cell [] _ hH4 0 (v := .bool p.P) rfl
      cases hpp : p.P with
      | false =>
        rw [hpp] at p0
        have hnone : walkS W n page 3 root rAll = none := by
          rw [← HWK.out]; obtain ⟨lq, rfl⟩ : ∃ lq, lv = lq + 1 := ⟨lv - 1, by omega⟩
          show (match entS W n at_ page (lq + 1) with | some p => walkS W n page lq p.Frame (rMeet r (rOf p)) | none => none) = none
          rw [HENT.out, hpp]
          rfl
        have HN := hid hnone
        clear hnone hpp
        go_wp2_with (refine wpList_store_all [_, _] _ hH4 38 (.tmp 7) (.tmp 49) rfl rfl rfl (rightC rNone).toArray rfl right_size rfl (rightC_one _) ?_; intro w9 hH9 hB9 hz9; clear hz9)
        simp only [Exit.jump]
        exact bodyPost_ret (results_walk (fn := Try.f16) rfl _ w9 rb 38 _ (0, 0) _ rfl (hH9.blk_at [_, _] _).1 Try.underlying38 rfl right_size) rfl ⟨by rw [HN.out]; rfl, hH9.drop.drop.drop, hB4.trans hB9⟩
      | true =>
        rw [hpp] at p0
        have hsome : entS W n at_ page lv = some p := by rw [HENT.out, hpp]; rfl
        have HS := hid hsome
        obtain ⟨o, ho⟩ : ∃ o, rOf p = o := ⟨_, rfl⟩
        have HO := hid ho
        have CO := hid fun U => Of_lit p o ho U
        have hHd := hH4.drew
        have hBd : Below B w w4.drew := hB4.drew
        have d0 := Has.cell [_] _ hH4 0 (v := .bool r.W) rfl
        have d1 := Has.cell [_] _ hH4 1 (v := .bool r.U) rfl
        have d2 := Has.cell [_] _ hH4 2 (v := .bool r.X) rfl
        clear hsome ho HENT hpp
        go_wp2_with fail
        clear p0
        obtain ⟨q0, q1, q2, q3, q4, q5, q6, q7, q8⟩ := (pte_cells [] _ hH4)
        go_region_with (first
            | (go_at_call 48; (with_reducible refine (keeps (CO.out _) hHd).mono ?_); rintro e w6 ⟨rfl, hH6, hB6⟩; have d0 := Has.cell [_] _ hH6 0 (v := .bool r.W) rfl; have d1 := Has.cell [_] _ hH6 1 (v := .bool r.U) rfl; have d2 := Has.cell [_] _ hH6 2 (v := .bool r.X) rfl; have hA6 := hH6.newblk w6.heap.size 38 #[.bool r.W, .bool r.U, .bool r.X, .bool o.W, .bool o.U, .bool o.X] rfl; have bA6 := below_new (hBd.trans hB6) hH6 (.cells #[.bool r.W, .bool r.U, .bool r.X, .bool o.W, .bool o.U, .bool o.X] 38))
            | (go_at_call 47; (with_reducible refine (Meet_calls r o w6.heap.size _ _ _ hA6).mono ?_); rintro e w7 ⟨rfl, hH7', hB7'⟩; have hH7 := hH7'.drop; have hB7 := bA6.trans hB7'; obtain ⟨w8, hr8, hH8, hB8', _⟩ := store_run (P := Try.prog) [_] _ hH7 (rightC (rMeet r o)) rfl (rightC_one' _); have hB8 := hB7.trans hB8'))
        all_goals (
          have p8 := Has.cell [] _ hH8 8 (v := .int .i64 p.Frame) rfl
          clear d0 d1 d2 q0 q1 q2 q3 q4 q5 q6 q7 q8 hH6 hB6 hA6 bA6 hH7 hH7' hB7 hB7' hr8 hB8' hHd hBd hH4 hB4
          rcases (show lv = 1 ∨ lv = 2 by omega) with rfl | rfl
          · obtain ⟨m, hm⟩ : ∃ m, rMeet r o = m := ⟨_, rfl⟩
            rw [hm] at hH8
            have HN : Hid (walkS W n page 3 root rAll = some (p.Frame, m)) := hid (by
              rw [← HWK.out, ← hm, ← HO.out]
              show (match entS W n at_ page 1 with | some p => walkS W n page 0 p.Frame (rMeet r (rOf p)) | none => none) = _
              rw [HS.out]
              rfl)
            clear hm HS HO
            have d0 := Has.cell [_] _ hH8 0 (v := .bool m.W) rfl
            have d1 := Has.cell [_] _ hH8 1 (v := .bool m.U) rfl
            have d2 := Has.cell [_] _ hH8 2 (v := .bool m.X) rfl
            go_wp2_with fail
            go_still_tail 3, (by kernel_rfl)
            change wpList _ _ _ _ _ (World.drew _)
            have hH9 := hH8.drew
            have hB9 : Below B w _ := hB8.drew
            go_wp2_with (refine wpList_store_all [_, _] _ hH9 38 (.tmp 7) (.tmp 48) rfl rfl rfl (rightC m).toArray rfl right_size rfl (rightC_one _) ?_; intro w10 hH10 hB10 hz10; clear hz10)
            simp only [Exit.jump]
            exact bodyPost_ret (results_walk (fn := Try.f16) rfl _ w10 rb 38 _ (0, 0) _ rfl (hH10.blk_at [_, _] _).1 Try.underlying38 rfl right_size) rfl ⟨by rw [HN.out]; rfl, hH10.drop.drop.drop, hB9.trans hB10⟩
          · go_wp2_with fail
            go_step3
            refine ⟨rfl, ⟨1, p.Frame, rMeet r o, ob, _, _, _, _, _, _, _, _, _, _, _, _, _, _, _, _, _, _, _, _, _, _, _, _, _, _, _, _, _, _, _, _, _, _, _, _, _, _, rfl, by omega, by omega, ?_, hH8.drop, hB8⟩, (show ((1 : Int)).toNat < (((2 : Nat) : Int)).toNat by decide)⟩
            rw [← HWK.out, ← HO.out]
            show _ = (match entS W n at_ page 2 with | some p => walkS W n page 1 p.Frame (rMeet r (rOf p)) | none => none)
            rw [HS.out])
    · have hgr : getR W n at_ (idxI page lv) = .tuple #[.int .u64 0, .bool false] := by simp [getR, hk]
      rw [hgr] at CG
      have CE := hid fun U => EGet_calls 0 (by decide) U
      have hnone : walkS W n page 3 root rAll = none := by
        rw [← HWK.out]; obtain ⟨lq, rfl⟩ : ∃ lq, lv = lq + 1 := ⟨lv - 1, by omega⟩
        show (match entS W n at_ page (lq + 1) with | some p => walkS W n page lq p.Frame (rMeet r (rOf p)) | none => none) = none
        rw [show entS W n at_ page (lq + 1) = none from by unfold entS; rw [if_neg hk]]
      have HN := hid hnone
      clear hgr hnone hk
      go_wp2_with fail
      go_quiet (first | ((go_at_call 45; exact quiet_drew CI.out)) | ((go_at_call 21; exact quiet_same (CG.out _ (HHQ.out _)))))
      have hH2 := hHr.drewN nq
      have hB2 := below_drewN hBr nq
      generalize wr.drewN nq = w2 at *
      clear hHr hBr HHQ CG CI c1
      go_wp2_with fail
      refine (keeps (CE.out w2) hH2).mono ?_
      rintro e w3 ⟨rfl, hH3, hB3⟩
      have hB3 := hB2.trans hB3
      obtain ⟨pb, hpb⟩ : ∃ pb, w3.heap.size = pb := ⟨_, rfl⟩
      have tok1 : True := trivial
      clear hH2 hB2 CE
      go_wp2_with (first
        | (have _t := tok1; refine wpList_store_all [] _ (hH3.newblk pb 90 pteZ hpb) 90 (.tmp 14) (.tmp 30) rfl rfl rfl (pteC (getS 0)) rfl pte_size9 rfl (pteC_one _) ?_; clear _t tok1; intro w4 hH4 hB4' hz4; clear hz4; have hB4 := hB3.trans ((below_new (Below.refl _ _) hH3 _).trans hB4'); clear hB4' hH3 hB3)
        | (refine wpList_store_all [_, _] _ hH4 38 (.tmp 7) (.tmp 49) rfl rfl rfl (rightC rNone).toArray rfl right_size rfl (rightC_one _) ?_; intro w9 hH9 hB9 hz9; clear hz9))
      simp only [Exit.jump]
      exact bodyPost_ret (results_walk (fn := Try.f16) rfl _ w9 rb 38 _ (0, 0) _ rfl (hH9.blk_at [_, _] _).1 Try.underlying38 rfl right_size) rfl ⟨by rw [HN.out]; rfl, hH9.drop.drop.drop, hB4.trans hB9⟩

end Go.Proofs.Ytlcdjdchcjnhfaa
