/-
  Package store: a page is given back.
-/
import Derived.Test.YteeapkndappnoaaStoL
import Derived.StillTailTactics
namespace Go.Proofs.Yteeapkndappnoaa
open Go.RowKit Go.Shelf
set_option linter.unusedVariables false
set_option linter.unusedSimpArgs false

theorem clearS_F (n : Nat) (S : StS) (f i : Int) : (clearS n S f i).F = S.F := by unfold clearS putS; split <;> rfl
theorem clearS_f (n : Nat) (S : StS) (f i : Int) : (clearS n S f i).ps.map (·.f) = S.ps.map (·.f) := by
  unfold clearS putS
  split
  · exact setSlot_f _ _ _ _
  · rfl
theorem clearL_snoc (n : Nat) (S : StS) (l : List (Int × Int)) (a : Int × Int) : clearL n S (l ++ [a]) = clearS n (clearL n S l) a.1 a.2 := by simp [clearL]
theorem clearN_succ (n : Nat) (S : StS) (f : Int) (k : Nat) : clearN n S f (k + 1) = clearS n (clearN n S f k) f (k : Nat) := by
  unfold clearN
  rw [List.range_succ, List.foldl_append]
  rfl
theorem clearL_inv {Q : StS → Prop} {n : Nat} (h : ∀ S f i, Q S → Q (clearS n S f i)) : ∀ (l : List (Int × Int)) (S : StS), Q S → Q (clearL n S l)
  | [], _, hS => hS
  | a :: l, S, hS => clearL_inv h l _ (h S a.1 a.2 hS)
theorem clearN_inv {Q : StS → Prop} {n : Nat} (h : ∀ S f i, Q S → Q (clearS n S f i)) (f : Int) : ∀ (k : Nat) (S : StS), Q S → Q (clearN n S f k)
  | 0, _, hS => hS
  | k + 1, S, hS => by
    rw [clearN_succ]
    exact h _ _ _ (clearN_inv h f k S hS)
theorem dropC_inv {Q : StS → Prop} {n : Nat} (h : ∀ S f i, Q S → Q (clearS n S f i)) (S : StS) (f : Int) (hS : Q S) : Q (dropC n S f) := clearN_inv h f 8 _ (clearL_inv h _ S hS)
theorem dropC_F (n : Nat) (S : StS) (f : Int) : (dropC n S f).F = S.F := dropC_inv (Q := fun T => T.F = S.F) (fun T f i h => by rw [clearS_F]; exact h) S f rfl
theorem dropC_f (n : Nat) (S : StS) (f : Int) : (dropC n S f).ps.map (·.f) = S.ps.map (·.f) := dropC_inv (Q := fun T => T.ps.map (·.f) = S.ps.map (·.f)) (fun T f i h => by rw [clearS_f]; exact h) S f rfl
theorem pageAt_some {ps : List PageS} {f : Int} (h : (pageAt ps f).isSome = true) : f ∈ ps.map (·.f) := by
  unfold pageAt at h
  obtain ⟨p, hp⟩ := Option.isSome_iff_exists.1 h
  have := List.find?_some hp
  exact List.mem_map.2 ⟨p, List.mem_of_find?_eq_some hp, by simpa using this⟩
theorem pageAt_iff {ps : List PageS} {f : Int} : (pageAt ps f).isSome = true ↔ f ∈ ps.map (·.f) := by
  refine ⟨pageAt_some, fun h => ?_⟩
  obtain ⟨p, hp, rfl⟩ := List.mem_map.1 h
  unfold pageAt
  rw [List.find?_isSome]
  exact ⟨p, hp, by simp⟩

theorem nodup_at {q : List (Nat × PageS)} (hnd : ((q.map Prod.snd).map (·.f)).Nodup) {k j : Nat} {x y : Nat × PageS} (hx : q[k]? = some x) (hy : q[j]? = some y) (hf : y.2.f = x.2.f) : j = k := by
  obtain ⟨h1, h2⟩ := List.getElem?_eq_some_iff.1 hx
  obtain ⟨h3, h4⟩ := List.getElem?_eq_some_iff.1 hy
  exact (List.getElem_inj (i := j) (j := k) (h₀ := by simpa using h3) (h₁ := by simpa using h1) hnd).1 (by simp [h2, h4, hf])
theorem erase_filter : ∀ {q : List PageS} {k : Nat} {x : PageS}, (q.map (·.f)).Nodup → q[k]? = some x → q.eraseIdx k = q.filter fun p => p.f != x.f
  | [], _, _, _, h => by simp at h
  | p :: q, 0, x, hn, h => by
    simp at h
    subst h
    rw [List.eraseIdx_cons_zero, List.filter_cons_of_neg (by simp)]
    refine (List.filter_eq_self.2 fun y hy => ?_).symm
    simp at hn
    have := hn.1 y hy
    simpa using this
  | p :: q, k + 1, x, hn, h => by
    rw [List.getElem?_cons_succ] at h
    rw [List.map_cons, List.nodup_cons] at hn
    have hm : x ∈ q := List.mem_of_getElem? h
    have hne : p.f ≠ x.f := fun e => hn.1 (List.mem_map.2 ⟨x, hm, e.symm⟩)
    rw [List.eraseIdx_cons_succ, List.filter_cons_of_pos (by simpa using hne), erase_filter hn.2 h]
theorem StoP.drop {n : Nat} {first many : Int} {F : List Int} {ps : List PageS} (h : StoP n first many F ps) {k : Nat} {x : PageS} (hx : ps[k]? = some x) : StoP n first many (F ++ [x.f]) (ps.eraseIdx k) := by
  have hm := List.mem_of_getElem? hx
  have hsub : ∀ p ∈ ps.eraseIdx k, p ∈ ps := fun p hp => List.mem_of_mem_eraseIdx hp
  have hne : ∀ p ∈ ps.eraseIdx k, p.f ≠ x.f := fun p hp => by
    rw [erase_filter h.nd hx] at hp
    simpa using (List.mem_filter.1 hp).2
  have hg : given first many F x.f = F ++ [x.f] := by
    unfold given givesB
    rw [if_pos (by simpa using ⟨(h.rg x hm).1, (h.rg x hm).2, h.df x hm⟩)]
  refine ⟨fun p hp => h.s8 p (hsub p hp), fun p hp => h.ok p (hsub p hp), ?_, ?_, fun p hp => h.rg p (hsub p hp), ?_, h.hn, ?_, ?_⟩
  · exact h.nd.sublist (List.Sublist.map _ (List.eraseIdx_sublist _ _))
  · exact h.kd.sublist (List.Sublist.map _ (List.eraseIdx_sublist _ _))
  · intro p hp hF
    rcases List.mem_append.1 hF with h1 | h1
    · exact h.df p (hsub p hp) h1
    · simp at h1; exact hne p hp h1
  · have := h.ln
    have hk := (List.getElem?_eq_some_iff.1 hx).1
    rw [List.length_eraseIdx, if_pos hk, List.length_append]
    simp
    omega
  · rw [← hg]
    exact h.ff.give x.f
/-- A page that is told no more is let go. -/
theorem pgs_less {q : List (Nat × PageS)} {k : Nat} {x : Nat × PageS} (hx : q[k]? = some x) {w : World} {B : Nat} (L1 X : List Asr) (h : Has w B (L1 ++ (pgs q ++ X))) : Has w B (L1 ++ (pgs (q.eraseIdx k) ++ X)) := by
  rw [pgs_split hx] at h
  have h2 := (h.front _ _).drop
  rw [List.eraseIdx_eq_take_drop_succ]
  simpa [pgs] using h2

theorem perm_in {S R F M K : Asr} {G X : List Asr} : (S :: R :: F :: (G ++ M :: K :: X)).Perm (R :: (G ++ K :: S :: F :: M :: X)) := by
  refine (List.Perm.swap R S _).trans (List.Perm.cons R ?_)
  have h1 : ([S, F] ++ (G ++ (M :: K :: X))).Perm (G ++ ([S, F] ++ (M :: K :: X))) := List.perm_append_comm_assoc _ _ _
  refine h1.trans (List.Perm.append_left G ?_)
  exact List.perm_middle (l₁ := [S, F, M]) (l₂ := X)
theorem given_yes {n : Nat} {first many : Int} {F : List Int} {ps : List PageS} (h : StoP n first many F ps) {x : PageS} (hm : x ∈ ps) : givesB first many F x.f = true ∧ given first many F x.f = F ++ [x.f] := by
  have hg : givesB first many F x.f = true := by
    unfold givesB
    simpa using ⟨(h.rg x hm).1, (h.rg x hm).2, h.df x hm⟩
  exact ⟨hg, by unfold given; rw [if_pos hg]⟩

set_option maxHeartbeats 4000000 in
set_option maxRecDepth 100000 in
theorem Drop_calls (sb hb n : Nat) (first many : Int) (S : StS) (f : Int) (hfw : (Lit.int .i64 f).wf = true) (w : World) (B : Nat) (X : List Asr) (hH : Has w B (staL sb hb n first many S X)) :
    Calls Try.prog 20 #[.pointer (some ⟨sb, 0, none⟩), .int .i64 f] w fun e w' => e = .returned (.bool (dropB S f)) ∧ Has w' B (staL sb hb n first many (dropS n S f) X) ∧ Below B w w' := by
  obtain ⟨bb, hbb⟩ : ∃ b, w.heap.size = b := ⟨_, rfl⟩
  have hN : Has (w.alloc (.cells #[.int .i64 f] 3)) B (staL sb hb n first many S (blk bb 3 #[.int .i64 f] :: X)) := toX (hH.newblk bb 3 #[.int .i64 f] hbb)
  have bN := below_new (Below.refl B w) hH (.cells #[.int .i64 f] 3)
  obtain ⟨hP, fb, v, q, hq, hl, hO⟩ := StoA.openX hN
  obtain ⟨o, ho⟩ : ∃ o, q.find? (fun x => x.2.f == f) = o := ⟨_, rfl⟩
  have CP := hid (page_calls sb hb fb v first many S.F q f o ho hl _ B _ hO)
  have hfp := find_page q f
  rw [ho, hq] at hfp
  have HFP := hid hfp
  have HP := hid hP
  have HQ := hid hq
  have c0 := hN.cell [_, _] _ 0 (v := .int .i64 f) rfl
  obtain ⟨db, hdb⟩ : ∃ b, dropB S f = b := ⟨_, rfl⟩
  rw [hdb]
  have HDB := hid hdb
  clear hP hfp ho hH hN hO hdb hq
  go_enter Try.func20, Try.ntmps20
  go_wp2_with fail
  refine CP.out.mono ?_
  rintro e w2 ⟨rfl, hH2, hB2⟩
  have bN := bN.trans hB2
  have hH2 : Has w2 B (staL sb hb n first many S (blk bb 3 #[.int .i64 f] :: X)) := by
    have h := StoA.shut (n := n) fb v q (by rw [HQ.out]; exact HP.out) hH2
    rw [HQ.out] at h
    exact h
  clear CP c0
  cases o with
  | none =>
    have hd : db = false := by rw [← HDB.out]; unfold dropB; rw [HFP.out]; rfl
    subst hd
    have hs : dropS n S f = S := by unfold dropS; rw [HDB.out]; rfl
    have HS := hid hs
    clear hs
    go_wp2_with fail
    go_ret
    exact ⟨rfl, by rw [HS.out]; exact Has.drop (fromX hH2), bN⟩
  | some x0 =>
    have hd : db = true := by rw [← HDB.out]; unfold dropB; rw [HFP.out]; rfl
    subst hd
    have c0 := hH2.cell [_, _] _ 0 (v := .int .i64 f) rfl
    have CA := hid (Parents_calls sb hb n first many S.F S.ps f w2 B _ hH2)
    clear hH2
    go_wp2_with fail
    refine CA.out.mono ?_
    rintro e w3 ⟨ao, cap, rfl, hH3, hB3⟩
    have bN := bN.trans hB3
    obtain ⟨l, hl'⟩ : ∃ l, toldL 1 f (allS S.ps) = l := ⟨_, rfl⟩
    rw [hl'] at hH3 ⊢
    have HL := hid hl'
    have hll : l.length ≤ 2048 := by
      rw [← hl']
      refine Nat.le_trans (toldL_le _ _ _) ?_
      rw [allS_length HP.out.s8]
      have := HP.out.len
      omega
    have hH3 : Has w3 B (staL sb hb n first many (clearL n S (l.take 0)) (row 46 2 (.slice ao l.length cap) l.length (atsL l) :: blk bb 3 #[.int .i64 f] :: X)) := toX hH3
    have za := zeroAt
    clear CA hl' c0
    go_wp2_with fail
    go_loopg [16] l.length (fun g i wr => ∃ j : Nat, g + j = l.length ∧ i = .int .i64 j ∧ Has wr B (staL sb hb n first many (clearL n S (l.take j)) (row 46 2 (.slice ao l.length cap) l.length (atsL l) :: blk bb 3 #[.int .i64 f] :: X)) ∧ Below B w wr)
    case atStart => exact ⟨0, by omega, rfl, hH3, bN⟩
    case round =>
      obtain ⟨j, hj, rfl, hHr, hBr⟩ := hrel
      clear hH3 bN
      have HJ := hid hj
      by_cases hlt : j < l.length
      · obtain ⟨a, ha⟩ : ∃ a, l[j]? = some a := ⟨_, List.getElem?_eq_getElem hlt⟩
        obtain ⟨ao1, cap1, hv, _, _, hao⟩ := Has.row_form [_, _] _ hHr
        obtain ⟨g, hg⟩ := hao (by omega)
        have hao2 : ao = some ⟨g, 0, none⟩ := by
          injection hv with h1 h2 h3
          rw [h1, hg]
        subst hao2
        have PA := hid (Has.row_part [_, _] _ hHr (j * 2) (atL a) (fun i u hu => by
          have hi : i < 2 := by have := (List.getElem?_eq_some_iff.1 hu).1; simpa [atL] using this
          rw [atsL, flat_get atL 2 (fun _ => rfl) l j i a ha hi]
          exact hu))
        have hA1 := hHr.newblk wr.heap.size 46 #[.int .i64 0, .int .i64 0] rfl
        have bA1 := below_new hBr hHr (.cells #[.int .i64 0, .int .i64 0] 46)
        have hst : clearL n S (l.take (j + 1)) = clearS n (clearL n S (l.take j)) a.1 a.2 := by rw [List.take_add_one, ha]; exact clearL_snoc n S _ a
        have HST := hid hst
        clear hv hao ha hst hj
        go_wp2_with (first
          | (refine wpList_load_at 46 (.tmp 18) rfl rfl ⟨g, j * 2, none⟩ rfl _ (atL a) PA.out Try.underlying46 rfl at_size ?_)
          | (refine wpList_store_all [] _ hA1 46 (.tmp 6) (.tmp 19) rfl rfl rfl (atL a).toArray rfl at_size rfl (at_one _) ?_; intro w4 hH4 hB4 hz4; clear hz4; have d0 := hH4.cell [] _ 0 (v := .int .i64 a.1) rfl; have d1 := hH4.cell [] _ 1 (v := .int .i64 a.2) rfl))
        have bA1 := bA1.trans hB4
        refine (Clear_calls sb hb n first many (clearL n S (l.take j)) a.1 a.2 w4 B _ (toX hH4)).mono ?_
        rintro e w5 ⟨rfl, hH5, hB5⟩
        have hH5 : Has w5 B (staL sb hb n first many (clearS n (clearL n S (l.take j)) a.1 a.2) (row 46 2 (.slice (some ⟨g, 0, none⟩) l.length cap) l.length (atsL l) :: blk bb 3 #[.int .i64 f] :: X)) := Has.drop (fromX hH5)
        clear d0 d1 hA1 PA hHr hH4
        go_wp2_with fail
        go_roundg (gk - 1)
        case measure => have := HJ.out; omega
        case rel => exact ⟨j + 1, by have := HJ.out; omega, by go_num, by rw [HST.out]; exact hH5, bA1.trans hB5⟩
      · obtain rfl : j = l.length := by omega
        rw [List.take_length] at hHr
        have hHr : Has wr B (staL sb hb n first many (clearN n (clearL n S l) f 0) (blk bb 3 #[.int .i64 f] :: X)) := Has.drop (fromX hHr)
        clear hj HJ hlt
        go_wp2_with fail
        go_loopg [27] 8 (fun g i wr => ∃ j : Nat, g + j = 8 ∧ i = .int .i64 j ∧ Has wr B (staL sb hb n first many (clearN n (clearL n S l) f j) (blk bb 3 #[.int .i64 f] :: X)) ∧ Below B w wr)
        case atStart => exact ⟨0, by omega, rfl, hHr, hBr⟩
        case round =>
          clear hHr hBr
          obtain ⟨j, hj, rfl, hHr, hBr⟩ := hrel
          have HJ := hid hj
          by_cases hlt : j < 8
          · have hlt' : (j : Int) < 8 := by omega
            have c0 := hHr.cell [_, _] _ 0 (v := .int .i64 f) rfl
            clear hj
            go_wp2_with fail
            refine (Clear_calls sb hb n first many (clearN n (clearL n S l) f j) f j wr B _ hHr).mono ?_
            rintro e w5 ⟨rfl, hH5, hB5⟩
            go_wp2_with fail
            go_roundg (gk - 1)
            case measure => have := HJ.out; omega
            case rel => exact ⟨j + 1, by have := HJ.out; omega, by go_num, by rw [clearN_succ]; exact hH5, hBr.trans hB5⟩
          · obtain rfl : j = 8 := by omega
            clear hj HJ hlt
            have hHr : Has wr B (staL sb hb n first many (dropC n S f) (blk bb 3 #[.int .i64 f] :: X)) := by
              unfold dropC
              rw [HL.out]
              exact hHr
            have hdf := dropC_F n S f
            have hdp := dropC_f n S f
            have hds : dropS n S f = ⟨(dropC n S f).W, (dropC n S f).F ++ [f], (dropC n S f).ps.filter fun p => p.f != f⟩ := by unfold dropS; rw [if_pos HDB.out]
            have HDS := hid hds
            have hmem : f ∈ (dropC n S f).ps.map (·.f) := by
              rw [hdp]
              exact pageAt_some HDB.out
            generalize dropC n S f = S2 at *
            clear hds
            obtain ⟨hP2, fb2, v2, q2, hq2, hl2, hO2⟩ := StoA.openX hHr
            obtain ⟨k, x, hk, hxf⟩ : ∃ (k : Nat) (x : Nat × PageS), q2[k]? = some x ∧ x.2.f = f := by
              rw [← hq2] at hmem
              obtain ⟨p, hp, hpf⟩ := List.mem_map.1 hmem
              obtain ⟨x, hx, rfl⟩ := List.mem_map.1 hp
              obtain ⟨k, hk⟩ := List.mem_iff_getElem?.1 hx
              exact ⟨k, x, hk, hpf⟩
            have hk2 : S2.ps[k]? = some x.2 := by rw [← hq2, List.getElem?_map, hk]; rfl
            have hu : ∀ (j : Nat) y, j ≠ k → q2[j]? = some y → y.2.f ≠ f := fun j y hj hy e => hj (nodup_at (by rw [hq2]; exact hP2.nd) hk hy (by rw [hxf]; exact e))
            have c0 := hHr.cell [_, _] _ 0 (v := .int .i64 f) rfl
            have c2 := hO2.cell [] _ 2 (v := v2) rfl
            have hI : Has wr B (row 91 1 v2 q2.length (ptrs q2) :: (pgs q2 ++ blk bb 3 #[.int .i64 f] :: blk sb 88 #[ptrV hb, ptrV fb2, v2] :: FreeA fb2 first many S2.F :: MemA hb n S2.W :: X)) := hO2.perm perm_in
            have CD := hid (PDelete_calls bb f v2 q2 hl2 k x hk hxf hu wr B _ hI)
            have HK := hid (And.intro hk hk2)
            have HXF := hid hxf
            have HP2 := hid hP2
            have HQ2 := hid hq2
            have HU := hid (given_yes hP2 (List.mem_of_getElem? hk2))
            clear hHr hO2 hI hP2 hq2 hk hk2 hxf hu hmem hdp hdf
            go_wp2_with fail
            refine CD.out.mono ?_
            rintro e w6 ⟨u, rfl, hH6, hB6⟩
            obtain ⟨ua, uc, hu', _, _, _⟩ := hH6.row_form [] _
            obtain ⟨ul, hul⟩ : ∃ ul, (q2.eraseIdx k).length = ul := ⟨_, rfl⟩
            rw [hul] at hu'
            subst hu'
            have HUL := hid hul
            clear hul
            have bD := hBr.trans hB6
            have h7 : Has w6 B (blk sb 88 #[ptrV hb, ptrV fb2, v2] :: row 91 1 (.slice ua ul uc) (q2.eraseIdx k).length (ptrs (q2.eraseIdx k)) :: FreeA fb2 first many S2.F :: (pgs (q2.eraseIdx k) ++ MemA hb n S2.W :: blk bb 3 #[.int .i64 f] :: X)) := (pgs_less HK.out.1 [_] _ hH6).perm perm_in.symm
            have k4 := h7.frozen [] _ 2
            have k5 := h7.cell [] _ 2 (v := v2) rfl
            have hS := Has.set [] _ h7 2 (.slice ua ul uc)
            have bS := below_set bD [] _ h7 2 (.slice ua ul uc)
            have hS : Has _ B (stoX sb hb fb2 (.slice ua ul uc) first many S2.F (q2.eraseIdx k) (MemA hb n S2.W :: blk bb 3 #[.int .i64 f] :: X)) := hS
            clear CD hH6 hB6 c0 c2 hBr
            go_wp2_with fail
            clear k4 k5 h7 bD
            generalize (w6.setCell ⟨sb, 2, none⟩ (.slice ua ul uc)) = w7 at *
            have hD := hS.drew
            have bD := bS.drew
            have t1 := hS.cell [] _ 1 (v := ptrV fb2) rfl
            unfold ptrV at t1
            have t2 := (fromK hS).cell [] _ 0 (v := .int .i64 f) rfl
            have CG := hid ((FreeGive fb2 first many f S2.F hfw).at [_, _] _ hD)
            rw [← HXF.out, HU.out.1, HU.out.2, HXF.out] at CG
            refine wp_region_still_tail 5 (by kernel_rfl) (by kernel_rfl) ?_
            simp only [List.take_succ_cons, List.take_zero, List.drop_succ_cons, List.drop_zero]
            iterate 5 ((with_reducible refine wpStill_step (fun K hK => ?_)); go_simp; (with_reducible refine hK _ ?_); clear hK K)
            refine wpStill_nil ?_
            change wpList _ _ _ _ _ (World.drew _)
            clear hS bS t1 t2
            go_wp2_with fail
            refine CG.out.mono ?_
            rintro e w8 ⟨_, rfl, hH8, hB8⟩
            go_wp2_with fail
            go_ret
            refine ⟨rfl, ?_, bD.trans hB8⟩
            rw [HDS.out]
            have hp := HP2.out.drop HK.out.2
            rw [HXF.out] at hp
            have e1 : (q2.eraseIdx k).map Prod.snd = S2.ps.eraseIdx k := by rw [← HQ2.out, List.eraseIdx_eq_take_drop_succ, List.eraseIdx_eq_take_drop_succ]; simp [List.map_take, List.map_drop]
            have e2 : S2.ps.eraseIdx k = S2.ps.filter fun p => p.f != f := by
              rw [erase_filter HP2.out.nd HK.out.2, HXF.out]
            rw [← e1] at hp
            have h9 := StoA.shut fb2 (.slice ua ul uc) (q2.eraseIdx k) hp hH8
            rw [e1, e2] at h9
            exact Has.drop (fromX h9)

end Go.Proofs.Yteeapkndappnoaa
