/-
  The document's own answer to layer 15: Walk.
-/
import Derived.Test.YtlcdjdchcjnhfaaMmuRef1
import Derived.Test.YtlcdjdchcjnhfaaMmuRef2
import Derived.Test.YtlcdjdchcjnhfaaPteRefGet
import Derived.Test.YtlcdjdchcjnhfaaFrameRef
import Derived.Test.YtlcdjdchcjnhfaaMmuWalk
namespace Go.Proofs.Ytlcdjdchcjnhfaa
open Go.RowKit
set_option linter.unusedVariables false
set_option linter.unusedSimpArgs false

/-- Its block. -/
def rmuB (mb tb hb : Nat) : Asr := blk mb 103 #[.pointer (some ⟨hb, 0, none⟩), .pointer (some ⟨tb, 0, none⟩)]
theorem RmuNew_calls (tb hb : Nat) (w : World) (B : Nat) (X : List Asr) (hH : Has w B X) :
    Calls Try.prog 26 #[.pointer (some ⟨hb, 0, none⟩), .pointer (some ⟨tb, 0, none⟩)] w fun e w' => ∃ mb, e = .returned (.pointer (some ⟨mb, 0, none⟩)) ∧ Has w' B (rmuB mb tb hb :: X) ∧ Below B w w' := by
  go_enter Try.func26, Try.ntmps26
  go_wp2_with fail
  go_ret
  exact ⟨w.heap.size, rfl, hH.newblk w.heap.size 103 _ rfl, below_new (Below.refl _ _) hH _⟩

set_option maxHeartbeats 4000000 in
set_option maxRecDepth 100000 in
theorem RWalk_calls (mb tb hb n : Nat) (W : List Int) (root page : Int) (hok : okW W) (w : World) (B : Nat) (X : List Asr) (hH : Has w B (rmuB mb tb hb :: RMemA hb n W :: X)) :
    Calls Try.prog 29 #[.pointer (some ⟨mb, 0, none⟩), .int .i64 root, .int .i64 page] w fun e w' => e = .returned (walkV (walkS W n page 3 root rAll)) ∧ Has w' B (rmuB mb tb hb :: RMemA hb n W :: X) ∧ Below B w w' := by
  have HOK := hid hok
  have hH1 := hH.newblk w.heap.size 38 #[.bool false, .bool false, .bool false] rfl
  have hB1 := below_new (Below.refl B w) hH (.cells #[.bool false, .bool false, .bool false] 38)
  have CA := hid (keeps (RAll6_calls _) hH1)
  obtain ⟨i0, hi0, hz0, hz1, hz2⟩ := info_parts (show (Try.prog.info? 38).map (fun i => (i.zero, i.size, i.bytes)) = some (some (.agg #[.bool false, .bool false, .bool false]), 3, 3) from by kernel_rfl)
  clear hok hH
  go_enter Try.func29, Try.ntmps29
  go_wp2_with fail
  generalize w.heap.size = rb at *
  refine CA.out.mono ?_
  rintro e w1 ⟨rfl, hH2, hB2⟩
  have hB2 := hB1.trans hB2
  obtain ⟨ob, hob⟩ : ∃ ob, w1.heap.size = ob := ⟨_, rfl⟩
  have tok1 : True := trivial
  clear hH1 hB1 CA
  go_wp2_with (have _t := tok1; refine wpList_store_all [] _ (hH2.newblk ob 38 #[.bool false, .bool false, .bool false] hob) 38 (.tmp 10) (.tmp 16) rfl rfl rfl (rightC rAll).toArray rfl right_size rfl (rightC_one _) ?_; clear _t tok1; intro wr0 hHr0 hB3' hz3; clear hz3; have hBr0 := hB2.trans ((below_new (Below.refl _ _) hH2 _).trans hB3'); clear hB3' hH2 hB2)
  clear hob
  go_loopw [9, 11] (fun va vl wr => ∃ (lv : Nat) (at_ : Int) (r : RightS), va = .int .i64 at_ ∧ vl = .int .i64 lv ∧ lv ≤ 3 ∧ walkS W n page lv at_ r = walkS W n page 3 root rAll ∧ Has wr B (blk ob 38 (rightC r).toArray :: blk rb 38 #[.bool false, .bool false, .bool false] :: rmuB mb tb hb :: RMemA hb n W :: X) ∧ Below B w wr) (fun _ vl _ => (intOf vl).toNat)
  case atStart => exact ⟨3, root, rAll, rfl, rfl, by omega, rfl, hHr0, hBr0⟩
  case round =>
    obtain ⟨lv, at_, r, rfl, rfl, hl3, hWK, hHr, hBr⟩ := hrel
    have HWK := hid hWK
    clear hWK hHr0 hBr0
    obtain ⟨wr, rfl⟩ : ∃ x : World, x = wr := ⟨_, rfl⟩
    by_cases h0 : lv = 0
    · subst h0
      have HN : Hid (walkS W n page 3 root rAll = some (at_, r)) := hid (by rw [← HWK.out]; rfl)
      have d0 := Has.cell [] _ hHr 0 (v := .bool r.W) rfl
      have d1 := Has.cell [] _ hHr 1 (v := .bool r.U) rfl
      have d2 := Has.cell [] _ hHr 2 (v := .bool r.X) rfl
      go_wp2_with fail
      go_still_tail 3, (by kernel_rfl)
      change wpList _ _ _ _ _ (World.drew _)
      have hH9 := hHr.drew
      have hB9 : Below B w _ := hBr.drew
      go_wp2_with (refine wpList_store_all [_] _ hH9 38 (.tmp 7) (.tmp 51) rfl rfl rfl (rightC r).toArray rfl right_size rfl (rightC_one _) ?_; intro w10 hH10 hB10 hz10; clear hz10)
      exact bodyPost_ret (results_walk (fn := Try.f29) rfl _ w10 rb 38 _ (0, 0) _ rfl (hH10.blk_at [_] _).1 Try.underlying38 rfl right_size) rfl ⟨by rw [HN.out]; rfl, hH10.drop.drop, hB9.trans hB10⟩
    · have h1 : 1 ≤ lv := by omega
      have e1 : decide (1 ≤ lv) = true := decide_eq_true h1
      have e2 : decide (1 ≤ (lv : Int)) = true := decide_eq_true (by omega)
      clear h0
      have c0 := Has.cell [_, _] _ hHr 0 (v := .pointer (some ⟨hb, 0, none⟩)) rfl
      have CI := hid fun U => RIdx_calls page lv (by omega) (by omega) U
      have CG := hid fun U (hU : Has U B (RMemA hb n W :: (blk ob 38 (rightC r).toArray :: blk rb 38 #[.bool false, .bool false, .bool false] :: rmuB mb tb hb :: X))) => RGet_calls hb n W at_ (idxI page lv) U B _ hU
      have hHq := fun q => (hHr.front [_, _, _] _).drewN q
      have HHQ := hid hHq
      clear hHq
      by_cases hk : wok n at_ (idxI page lv)
      · obtain ⟨V, hV, hVV⟩ := okW_at HOK.out (wat at_ (idxI page lv))
        have hgr : getR W n at_ (idxI page lv) = .tuple #[.int .u64 (V : Int), .bool true] := by
          have hVV' := hVV
          rw [List.getD_eq_getElem?_getD] at hVV'
          simp [getR, hk, hVV']
        rw [hgr] at CG
        have CE := hid fun U => ERGet_calls V hV U
        have hent : entS W n at_ page lv = if (getS V).P then some (getS V) else none := by
          unfold entS
          rw [if_pos hk, hVV, Int.toNat_natCast]
        obtain ⟨p, hp⟩ : ∃ p, getS V = p := ⟨_, rfl⟩
        rw [hp] at CE hent
        have HENT := hid hent
        clear hgr hent hp hV hVV hk
        go_wp2_with fail
        go_quiet (first | ((go_at_call 58; exact quiet_same (CI.out _))) | ((go_at_call 57; exact quiet_same (CG.out _ (HHQ.out _)))))
        have hH2 := hHr.drewN nq
        have hB2 := below_drewN hBr nq
        generalize wr.drewN nq = w2 at *
        clear hHr hBr HHQ CG CI c0
        go_wp2_with fail
        refine (keeps (CE.out w2) hH2).mono ?_
        rintro e w3 ⟨rfl, hH3, hB3⟩
        have hB3 := hB2.trans hB3
        obtain ⟨pb, hpb⟩ : ∃ pb, w3.heap.size = pb := ⟨_, rfl⟩
        have tok1 : True := trivial
        clear hH2 hB2 CE
        go_upto_region 8 with (have _t := tok1; refine wpList_store_all [] _ (hH3.newblk pb 90 pteZ hpb) 90 (.tmp 14) (.tmp 34) rfl rfl rfl (pteC p) rfl pte_size9 rfl (pteC_one p) ?_; clear _t tok1; intro w4 hH4 hB4' hz4; clear hz4; have hB4 := hB3.trans ((below_new (Below.refl _ _) hH3 _).trans hB4'); clear hB4' hH3 hB3)
        clear hpb
        have p0 := Has.cell [] _ hH4 0 (v := .bool p.P) rfl
        cases hpp : p.P with
        | false =>
          rw [hpp] at p0
          have hnone : walkS W n page 3 root rAll = none := by
            rw [← HWK.out]
            obtain ⟨lq, rfl⟩ : ∃ lq, lv = lq + 1 := ⟨lv - 1, by omega⟩
            show (match entS W n at_ page (lq + 1) with | some p => walkS W n page lq p.Frame (rMeet r (rOf p)) | none => none) = none
            rw [HENT.out, hpp]
            rfl
          have HN := hid hnone
          clear hnone hpp
          go_wp2_with (refine wpList_store_all [_, _] _ hH4 38 (.tmp 7) (.tmp 42) rfl rfl rfl (rightC rNone).toArray rfl right_size rfl (rightC_one _) ?_; intro w9 hH9 hB9 hz9; clear hz9)
          exact bodyPost_ret (results_walk (fn := Try.f29) rfl _ w9 rb 38 _ (0, 0) _ rfl (hH9.blk_at [_, _] _).1 Try.underlying38 rfl right_size) rfl ⟨by rw [HN.out]; rfl, hH9.drop.drop.drop, hB4.trans hB9⟩
        | true =>
          rw [hpp] at p0
          have hsome : entS W n at_ page lv = some p := by rw [HENT.out, hpp]; rfl
          have HS := hid hsome
          obtain ⟨o, ho⟩ : ∃ o, rOf p = o := ⟨_, rfl⟩
          have HO := hid ho
          have CO := hid fun U => ROf_lit p o ho U
          have hHd := hH4.drew
          have hBd : Below B w w4.drew := hB4.drew
          have d0 := Has.cell [_] _ hH4 0 (v := .bool r.W) rfl
          have d1 := Has.cell [_] _ hH4 1 (v := .bool r.U) rfl
          have d2 := Has.cell [_] _ hH4 2 (v := .bool r.X) rfl
          clear hsome ho HENT hpp
          go_wp2_with fail
          clear p0
          obtain ⟨q0, q1, q2, q3, q4, q5, q6, q7, q8⟩ := (pte_cells [] _ hH4)
          go_region_with (first
              | (go_at_call 61; (with_reducible refine (keeps (CO.out _) hHd).mono ?_); rintro e w6 ⟨rfl, hH6, hB6⟩; have d0 := Has.cell [_] _ hH6 0 (v := .bool r.W) rfl; have d1 := Has.cell [_] _ hH6 1 (v := .bool r.U) rfl; have d2 := Has.cell [_] _ hH6 2 (v := .bool r.X) rfl; have hA6 := hH6.newblk w6.heap.size 38 #[.bool r.W, .bool r.U, .bool r.X, .bool o.W, .bool o.U, .bool o.X] rfl; have bA6 := below_new (hBd.trans hB6) hH6 (.cells #[.bool r.W, .bool r.U, .bool r.X, .bool o.W, .bool o.U, .bool o.X] 38))
              | (go_at_call 60; (with_reducible refine (RMeet_calls r o w6.heap.size _ _ _ hA6).mono ?_); rintro e w7 ⟨rfl, hH7', hB7'⟩; have hH7 := hH7'.drop; have hB7 := bA6.trans hB7'; obtain ⟨w8, hr8, hH8, hB8', _⟩ := store_run (P := Try.prog) [_] _ hH7 (rightC (rMeet r o)) rfl (rightC_one' _); have hB8 := hB7.trans hB8'))
          all_goals (
            have p8 := Has.cell [] _ hH8 8 (v := .int .i64 p.Frame) rfl
            have e3 : (lv : Int) - 1 = ((lv - 1 : Nat) : Int) := by omega
            clear d0 d1 d2 q0 q1 q2 q3 q4 q5 q6 q7 q8 hH6 hB6 hA6 bA6 hH7 hH7' hB7 hB7' hr8 hB8' hHd hBd hH4 hB4
            go_wp2_with fail
            go_roundw
            case rel => exact ⟨lv - 1, p.Frame, rMeet r o, by first | rfl | go_num, by first | rfl | go_num, by omega, by
              rw [← HWK.out, ← HO.out]
              obtain ⟨lq, rfl⟩ : ∃ lq, lv = lq + 1 := ⟨lv - 1, by omega⟩
              show _ = (match entS W n at_ page (lq + 1) with | some p => walkS W n page lq p.Frame (rMeet r (rOf p)) | none => none)
              rw [HS.out]
              rfl, hH8.drop, hB8⟩
            case measure => simp [intOf] <;> omega)
      · have hgr : getR W n at_ (idxI page lv) = .tuple #[.int .u64 0, .bool false] := by simp [getR, hk]
        rw [hgr] at CG
        have CE := hid fun U => ERGet_calls 0 (by decide) U
        have hnone : walkS W n page 3 root rAll = none := by
          rw [← HWK.out]
          obtain ⟨lq, rfl⟩ : ∃ lq, lv = lq + 1 := ⟨lv - 1, by omega⟩
          show (match entS W n at_ page (lq + 1) with | some p => walkS W n page lq p.Frame (rMeet r (rOf p)) | none => none) = none
          rw [show entS W n at_ page (lq + 1) = none from by unfold entS; rw [if_neg hk]]
        have HN := hid hnone
        clear hgr hnone hk
        go_wp2_with fail
        go_quiet (first | ((go_at_call 58; exact quiet_same (CI.out _))) | ((go_at_call 57; exact quiet_same (CG.out _ (HHQ.out _)))))
        have hH2 := hHr.drewN nq
        have hB2 := below_drewN hBr nq
        generalize wr.drewN nq = w2 at *
        clear hHr hBr HHQ CG CI c0
        go_wp2_with fail
        refine (keeps (CE.out w2) hH2).mono ?_
        rintro e w3 ⟨rfl, hH3, hB3⟩
        have hB3 := hB2.trans hB3
        obtain ⟨pb, hpb⟩ : ∃ pb, w3.heap.size = pb := ⟨_, rfl⟩
        have tok1 : True := trivial
        clear hH2 hB2 CE
        go_wp2_with (first
          | (have _t := tok1; refine wpList_store_all [] _ (hH3.newblk pb 90 pteZ hpb) 90 (.tmp 14) (.tmp 34) rfl rfl rfl (pteC (getS 0)) rfl pte_size9 rfl (pteC_one _) ?_; clear _t tok1; intro w4 hH4 hB4' hz4; clear hz4; have hB4 := hB3.trans ((below_new (Below.refl _ _) hH3 _).trans hB4'); clear hB4' hH3 hB3)
          | (refine wpList_store_all [_, _] _ hH4 38 (.tmp 7) (.tmp 42) rfl rfl rfl (rightC rNone).toArray rfl right_size rfl (rightC_one _) ?_; intro w9 hH9 hB9 hz9; clear hz9))
        exact bodyPost_ret (results_walk (fn := Try.f29) rfl _ w9 rb 38 _ (0, 0) _ rfl (hH9.blk_at [_, _] _).1 Try.underlying38 rfl right_size) rfl ⟨by rw [HN.out]; rfl, hH9.drop.drop.drop, hB4.trans hB9⟩

end Go.Proofs.Ytlcdjdchcjnhfaa
