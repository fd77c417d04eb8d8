/-
  MmuSpaces: what is known in one space serves in no other one; a Flush of it takes just that.
-/
import Derived.Test.YtlcdjdchcjnhfaaMmuHead
import Derived.StillTailTactics
namespace Go.Proofs.Ytlcdjdchcjnhfaa
open Go.RowKit
set_option linter.unusedVariables false
set_option linter.unusedSimpArgs false

theorem srcu_blkM {w : World} {B b : Nat} {T : TypeId} {l : List Int} (L1 L2 : List Asr) (hH : Has w B (L1 ++ blk b T (u64s l).toArray :: L2)) (hl : l.length ≤ 1000) : SrcU w (some ⟨b, 0, none⟩) l := by
  refine ⟨by omega, fun _ => ⟨b, 0, rfl, (hH.blk_at L1 L2).2.2, fun j u hj => ?_⟩⟩
  rw [Nat.zero_add]
  exact hH.cell L1 L2 j (by simpa using hj)
/-- With so many frames of zeros. -/
theorem fill_zero {V : List Int} {k : Nat} (hV : V.length = 16 * 8) (hk : k < 16) (h : V.take (k * 8) = List.replicate (k * 8) 0) :
    (fillW V 16 (k : Int) (List.replicate 8 0)).take ((k + 1) * 8) = List.replicate ((k + 1) * 8) 0 := by
  unfold fillW
  rw [if_pos ⟨by omega, by omega, by simp⟩, Int.toNat_natCast, h, List.append_assoc, ← List.append_assoc, List.replicate_append_replicate, show k * 8 + 8 = (k + 1) * 8 from by omega, List.take_append_of_le_length (by simp), List.take_of_length_le (by simp)]
theorem walk_zero (p root : Int) : walkS (List.replicate (16 * 8) 0) 16 p 3 root rAll = none := by
  have hz : ∀ i : Nat, (List.replicate (16 * 8) (0 : Int)).getD i 0 = 0 := fun i => by
    rw [List.getD, List.getElem?_replicate]
    split <;> rfl
  show (match entS (List.replicate (16 * 8) 0) 16 root p 3 with | some p' => walkS (List.replicate (16 * 8) 0) 16 p 2 p'.Frame (rMeet rAll (rOf p')) | none => none) = none
  rw [show entS (List.replicate (16 * 8) 0) 16 root p 3 = none from by
    unfold entS
    rw [hz]
    split
    · rfl
    · rfl]
theorem sp_findB {a b : Int} (hab : ¬ a = b) (p : Int) (x : Int × RightS) : findS 8 [hitOf a p (some x)] (some x) b p = (true, [hitOf a p (some x), hitOf b p (some x)]) := by
  obtain ⟨f, r⟩ := x
  have h1 : List.find? (keyB b p) [hitOf a p (some (f, r))] = none := by simp [keyB, keyE, hitOf, hab]
  have h2 : dropL (hitOf b p (some (f, r))).a (hitOf b p (some (f, r))).p [hitOf a p (some (f, r))] = [hitOf a p (some (f, r))] := by simp [dropL, keyB, keyE, hitOf, hab]
  unfold findS
  rw [h1]
  show (true, putL 8 [hitOf a p (some (f, r))] (hitOf b p (some (f, r)))) = _
  unfold putL
  rw [h2]
  rfl
theorem sp_flush {a b : Int} (hab : ¬ a = b) (p : Int) (x : Int × RightS) : keepF a [hitOf a p (some x), hitOf b p (some x)] = [hitOf b p (some x)] := by
  obtain ⟨f, r⟩ := x
  simp [keepF, asidB, hitOf, Ne.symm hab]
theorem sp_accA {a b : Int} (hab : ¬ a = b) (p : Int) (x : Int × RightS) : accS 8 [hitOf b p (some x)] none a p 0 false = ((0, false), [hitOf b p (some x)]) := by
  obtain ⟨f, r⟩ := x
  have h1 : List.find? (keyB a p) [hitOf b p (some (f, r))] = none := by simp [keyB, keyE, hitOf, Ne.symm hab]
  have h2 : dropL a p [hitOf b p (some (f, r))] = [hitOf b p (some (f, r))] := by simp [dropL, keyB, keyE, hitOf, Ne.symm hab]
  unfold accS
  rw [h1]
  show ((0, false), dropL a p [hitOf b p (some (f, r))]) = _
  rw [h2]
theorem sp_accB (b p f : Int) (r : RightS) : accS 8 [hitOf b p (some (f, r))] none b p 0 false = ((f, true), [hitOf b p (some (f, r))]) := by
  have h1 : List.find? (keyB b p) [hitOf b p (some (f, r))] = some (hitOf b p (some (f, r))) := by simp [keyB, keyE, hitOf]
  unfold accS
  rw [h1]
  show (if rMay (rH (hitOf b p (some (f, r)))) 0 false = true then _ else _) = _
  rw [if_pos (by simp [rMay])]
  rfl

set_option maxHeartbeats 4000000 in
set_option maxRecDepth 100000 in
theorem MmuSpaces_walk (la : Option Addr) (llen lcap : Nat) (l : List PutS) (a b page : Int) (w : World) (hAl : ArgRow w 3 la llen (l.flatMap putC)) (hll : ∀ x ∈ l, PutOk x) (ha : (Lit.int .i64 a).wf = true) (hbb : (Lit.int .i64 b).wf = true) (hpage : (Lit.int .u16 page).wf = true) :
    Calls Try.prog 9 #[.slice la llen lcap, .int .i64 a, .int .i64 b, .int .u16 page] w fun e w' => e = .returned (.bool true) ∧ Below w.heap.size w w' := by
  obtain rfl := puts_len hAl
  have hsl := hAl.small
  have HAl := hid hAl
  have hok := okW_made hll
  obtain ⟨W, hW⟩ : ∃ W, madeW l = W := ⟨_, rfl⟩
  rw [hW] at hok
  have HOK := hid hok
  have HWM := hid hW
  obtain ⟨t2, t3⟩ := bounds_u16 hpage
  have n0 : 0 ≤ page % 512 := Int.emod_nonneg _ (by decide)
  have n1 : page % 512 < 512 := Int.emod_lt_of_pos _ (by decide)
  have hmod : page % 512 % 512 = page % 512 := by omega
  have HM := hid hmod
  obtain ⟨o, ho⟩ : ∃ o, walkS W 16 (page % 512) 3 1 rAll = o := ⟨_, rfl⟩
  have HO := hid ho
  obtain ⟨i0, hi0, hz0, hz1, hz2⟩ := info_parts infoU64
  obtain ⟨Z, hZ⟩ : ∃ Z, List.replicate 8 (0 : Int) = Z := ⟨_, rfl⟩
  have hZl : Z.length = 8 := by rw [← hZ]; rfl
  have hmk : ∀ U : World, (Instr.makeSlice 68 (.int .i64 8) (.int .i64 8)).run Try.prog U = .ok (.slice (some ⟨U.heap.size, 0, none⟩) 8 8) (U.alloc (.cells (u64s Z).toArray 34)) := fun _ => by rw [← hZ]; kernel_rfl
  have HZ := hid hZ
  have HZL := hid hZl
  clear hi0 hz0 hz1 hz2
  have hH0 : Has w w.heap.size [] := Has.nil (Nat.le_refl _)
  clear hok hW hAl hll ha hbb hpage hmod ho hZ hZl
  by_cases hab : a = b
  · subst hab
    have g1 : (a == a) = true := by rw [beq_iff_eq]
    go_enter Try.func9, Try.ntmps9
    go_wp2_with fail
    refine (head_true w _ [] hH0).mono ?_
    rintro e w1 ⟨_, rfl, hH1, hB1⟩
    go_wp2_with fail
    refine (Made_calls la lcap l w1 w HAl.out hB1 _ [] hH1).mono ?_
    rintro e w2 ⟨hb, rfl, hH2, hB2⟩
    have hB2 := hB1.trans hB2
    clear hH1 hB1 hH0
    go_wp2_with fail
    refine (TlbNew_yes 8 (by decide) (by decide) w2 _ _ hH2).mono ?_
    rintro e w3 ⟨tb, rfl, hH3, hB3⟩
    have hB3 := hB2.trans hB3
    clear hH2 hB2
    by_cases hbig0 : 600 < l.length
    · have e1 : decide (600 < l.length) = true := decide_eq_true hbig0
      have e2 : decide (600 < (l.length : Int)) = true := decide_eq_true (by omega)
      go_wp2_with fail
      go_ret
      exact ⟨rfl, hB3⟩
    · have e1 : decide (600 < l.length) = false := decide_eq_false hbig0
      have e2 : decide (600 < (l.length : Int)) = false := decide_eq_false (by omega)
      go_wp2_with fail
      go_ret
      exact ⟨rfl, hB3⟩
  · have g1 : (a == b) = false := by rw [beq_eq_false_iff_ne]; exact hab
    have HAB := hid hab
    clear hab
    go_enter Try.func9, Try.ntmps9
    go_wp2_with fail
    refine (head_true w _ [] hH0).mono ?_
    rintro e w1 ⟨_, rfl, hH1, hB1⟩
    go_wp2_with fail
    refine (Made_calls la lcap l w1 w HAl.out hB1 _ [] hH1).mono ?_
    rintro e w2 ⟨hb, rfl, hH2, hB2⟩
    rw [HWM.out] at hH2
    have hB2 := hB1.trans hB2
    clear hH1 hB1 hH0
    go_wp2_with fail
    refine (TlbNew_yes 8 (by decide) (by decide) w2 _ _ hH2).mono ?_
    rintro e w3 ⟨tb, rfl, hH3, hB3⟩
    have hB3 := hB2.trans hB3
    clear hH2 hB2
    by_cases hbig0 : 600 < l.length
    · have e1 : decide (600 < l.length) = true := decide_eq_true hbig0
      have e2 : decide (600 < (l.length : Int)) = true := decide_eq_true (by omega)
      go_wp2_with fail
      go_ret
      exact ⟨rfl, hB3⟩
    have f0 : decide (600 < l.length) = false := decide_eq_false hbig0
    have g0 : decide (600 < (l.length : Int)) = false := decide_eq_false (by omega)
    go_wp2_with fail
    refine (MmuNew_calls tb hb w3 _ _ hH3).mono ?_
    rintro e w4 ⟨mb, rfl, hH4, hB4⟩
    have hB4 := hB3.trans hB4
    clear hH3 hB3 f0 g0
    clear g1
    obtain ⟨ia, hia⟩ : ∃ i, o.isSome = i := ⟨_, rfl⟩
    obtain ⟨M1, hM1⟩ : ∃ M, findS 8 [] o a (page % 512) = (ia, M) := by rw [← hia]; rcases o with _ | x <;> exact ⟨_, rfl⟩
    obtain ⟨M2, hM2⟩ : ∃ M, findS 8 M1 o b (page % 512) = (ia, M) := by
      rcases o with _ | x
      · have h : (false, ([] : List HitS)) = (ia, M1) := hM1
        injection h with h1 h2
        subst h1 h2
        exact ⟨[], rfl⟩
      · have h : (true, [hitOf a (page % 512) (some x)]) = (ia, M1) := hM1
        injection h with h1 h2
        subst h1 h2
        exact ⟨_, sp_findB HAB.out _ _⟩
    have HIA := hid hia
    have HM1 := hid hM1
    have HM2 := hid hM2
    clear hia hM1 hM2
    go_wp2_with fail
    refine (Find2 mb tb hb 16 8 W [] 1 a (page % 512) HOK.out (show findS 8 [] (walkS W 16 (page % 512 % 512) 3 1 rAll) a (page % 512 % 512) = (ia, M1) from by rw [HM.out, HO.out]; exact HM1.out) w4 _ _ (((hH4.front [_] _).front [_, _] _).front [_, _] _)).mono ?_
    rintro e w5 ⟨rfl, hH5, hB5⟩
    have hB5 := hB4.trans hB5
    clear hH4 hB4
    go_wp2_with fail
    refine (Find2 mb tb hb 16 8 W M1 1 b (page % 512) HOK.out (show findS 8 M1 (walkS W 16 (page % 512 % 512) 3 1 rAll) b (page % 512 % 512) = (ia, M2) from by rw [HM.out, HO.out]; exact HM2.out) w5 _ _ (((hH5.front [_, _] _).front [_, _] _).front [_, _] _)).mono ?_
    rintro e w6 ⟨rfl, hH6, hB6⟩
    have hB6 := hB5.trans hB6
    clear hH5 hB5
    go_wp2_with fail
    have hHL : Has w6 w.heap.size [MemA hb 16 W, mmuB mb tb hb, TlbA tb 8 M2] := (((hH6.front [_, _] _).front [_] _).front [_, _] _)
    go_loopw [16] (fun i wr => ∃ (k : Nat) (V : List Int), k ≤ 16 ∧ i = .int .i64 k ∧ V.take (k * 8) = List.replicate (k * 8) 0 ∧ Has wr w.heap.size [MemA hb 16 V, mmuB mb tb hb, TlbA tb 8 M2] ∧ Below w.heap.size w wr) (fun i _ => 16 - (intOf i).toNat)
    case atStart => exact ⟨0, W, by omega, rfl, by simp, hHL, hB6⟩
    case round =>
      obtain ⟨k, V, hk, rfl, htk, hHr, hBr⟩ := hrel
      have HTK := hid htk
      have HVL : Hid (V.length = 16 * 8) := hid (MemA.fits hHr).2.2
      clear hHL hH6 hB6 htk
      by_cases hlt : k < 16
      · have hN := hHr.newblk wr.heap.size 34 (u64s Z).toArray rfl
        have hBN := hBr.trans (below_new (Below.refl _ _) hHr (.cells (u64s Z).toArray 34))
        have cf := Fill_calls hb 16 V k (some ⟨wr.heap.size, 0, none⟩) 8 Z _ (srcu_blkM [] _ hN (by rw [HZL.out]; decide)) _ _ hN.drop
        rw [HZL.out] at cf
        have CF := hid cf
        have hnx := fill_zero HVL.out hlt HTK.out
        rw [HZ.out] at hnx
        have HNX := hid hnx
        clear cf hnx hN
        go_wp2_with fail
        refine CF.out.mono ?_
        rintro e w30 ⟨rfl, hH30, hB30⟩
        go_wp2_with fail
        go_roundw
        case rel => exact ⟨k + 1, _, by omega, by go_num, HNX.out, hH30, hBN.trans hB30⟩
        case measure => simp [intOf] <;> omega
      · have e3 : decide ((k : Int) < 16) = false := by rw [decide_eq_false_iff_not]; omega
        have hVz : V = List.replicate (16 * 8) 0 := by
          have h := HTK.out
          rw [List.take_of_length_le (by rw [HVL.out]; omega), show k * 8 = 16 * 8 from by omega] at h
          exact h
        subst hVz
        obtain ⟨k16, rfl⟩ : ∃ k16 : Nat, k16 = k := ⟨_, rfl⟩
        obtain ⟨w20, rfl⟩ : ∃ y : World, y = wr := ⟨_, rfl⟩
        have hH20 := hHr
        have hB20 := hBr
        obtain ⟨Y, hY⟩ : ∃ Y, List.replicate (16 * 8) (0 : Int) = Y := ⟨_, rfl⟩
        have hokY : okW Y := by rw [← hY]; exact okW_zero _
        have hwz : walkS Y 16 (page % 512) 3 1 rAll = none := by rw [← hY]; exact walk_zero _ _
        rw [hY] at hH20
        have HOKY := hid hokY
        have HWZ := hid hwz
        clear hlt hk HTK HVL hHr hBr hY hokY hwz
        rcases o with _ | ⟨f, r⟩
        · have h : (false, ([] : List HitS)) = (ia, M1) := HM1.out
          injection h with h1 h2
          subst h1 h2
          have h : (false, ([] : List HitS)) = (false, M2) := HM2.out
          injection h with h1 h2
          subst h2
          go_wp2_with fail
          refine (Flush_calls tb 8 [] a w20 _ _ (hH20.front [_, _] _)).mono ?_
          rintro e w21 ⟨rfl, hH21, hB21⟩
          have hB21 := hB20.trans hB21
          clear hH20 hB20
          rw [show keepF a [] = [] from rfl] at hH21
          go_wp2_with fail
          refine (Access2 mb tb hb 16 8 Y [] 1 a (page % 512) 0 false HOKY.out (show accS 8 [] (walkS Y 16 (page % 512 % 512) 3 1 rAll) a (page % 512 % 512) 0 false = ((0, false), []) from by rw [HM.out, HWZ.out]; rfl) w21 _ _ ((hH21.front [_] _).front [_, _] _)).mono ?_
          rintro e w22 ⟨rfl, hH22, hB22⟩
          have hB22 := hB21.trans hB22
          clear hH21 hB21
          go_wp2_with fail
          refine (Access2 mb tb hb 16 8 Y [] 1 b (page % 512) 0 false HOKY.out (show accS 8 [] (walkS Y 16 (page % 512 % 512) 3 1 rAll) b (page % 512 % 512) 0 false = ((0, false), []) from by rw [HM.out, HWZ.out]; rfl) w22 _ _ (((hH22.front [_, _] _).front [_, _] _).front [_, _] _)).mono ?_
          rintro e w23 ⟨rfl, hH23, hB23⟩
          have hB23 := hB22.trans hB23
          clear hH22 hB22
          go_wp2_with fail
          go_ret
          exact ⟨rfl, hB23⟩
        · have h : (true, [hitOf a (page % 512) (some (f, r))]) = (ia, M1) := HM1.out
          injection h with h1 h2
          subst h1 h2
          have h : findS 8 [hitOf a (page % 512) (some (f, r))] (some (f, r)) b (page % 512) = (true, M2) := HM2.out
          rw [sp_findB HAB.out] at h
          injection h with h1 h2
          subst h2
          go_wp2_with fail
          refine (Flush_calls tb 8 [hitOf a (page % 512) (some (f, r)), hitOf b (page % 512) (some (f, r))] a w20 _ _ (hH20.front [_, _] _)).mono ?_
          rintro e w21 ⟨rfl, hH21, hB21⟩
          have hB21 := hB20.trans hB21
          clear hH20 hB20
          rw [show keepF a [hitOf a (page % 512) (some (f, r)), hitOf b (page % 512) (some (f, r))] = [hitOf b (page % 512) (some (f, r))] from sp_flush HAB.out _ _] at hH21
          go_wp2_with fail
          refine (Access2 mb tb hb 16 8 Y [hitOf b (page % 512) (some (f, r))] 1 a (page % 512) 0 false HOKY.out (show accS 8 [hitOf b (page % 512) (some (f, r))] (walkS Y 16 (page % 512 % 512) 3 1 rAll) a (page % 512 % 512) 0 false = ((0, false), [hitOf b (page % 512) (some (f, r))]) from by rw [HM.out, HWZ.out]; exact sp_accA HAB.out _ _) w21 _ _ ((hH21.front [_] _).front [_, _] _)).mono ?_
          rintro e w22 ⟨rfl, hH22, hB22⟩
          have hB22 := hB21.trans hB22
          clear hH21 hB21
          go_wp2_with fail
          refine (Access2 mb tb hb 16 8 Y [hitOf b (page % 512) (some (f, r))] 1 b (page % 512) 0 false HOKY.out (show accS 8 [hitOf b (page % 512) (some (f, r))] (walkS Y 16 (page % 512 % 512) 3 1 rAll) b (page % 512 % 512) 0 false = ((f, true), [hitOf b (page % 512) (some (f, r))]) from by rw [HM.out, HWZ.out]; exact sp_accB _ _ _ _) w22 _ _ (((hH22.front [_, _] _).front [_, _] _).front [_, _] _)).mono ?_
          rintro e w23 ⟨rfl, hH23, hB23⟩
          have hB23 := hB22.trans hB23
          clear hH22 hB22
          go_wp2_with fail
          go_ret
          exact ⟨rfl, hB23⟩

end Go.Proofs.Ytlcdjdchcjnhfaa
