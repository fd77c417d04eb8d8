/-
  StoreMakes: a page that is made is found, is the last one, and empty; with all frames taken none is made.
-/
import Derived.Test.YteeapkndappnoaaStoHead
import Derived.Deep.LoopGhost
namespace Go.Proofs.Yteeapkndappnoaa
open Go.RowKit
set_option linter.unusedVariables false
set_option linter.unusedSimpArgs false

theorem right_cases (k : KeyS) : (¬ 1 ≤ k.lv ∧ decide (rightK k) = false) ∨ (1 ≤ k.lv ∧ ¬ k.lv ≤ 3 ∧ decide (rightK k) = false) ∨ (1 ≤ k.lv ∧ k.lv ≤ 3 ∧ ¬ 0 ≤ k.ro ∧ decide (rightK k) = false) ∨ (1 ≤ k.lv ∧ k.lv ≤ 3 ∧ 0 ≤ k.ro ∧ ¬ k.ro ≤ 2 ∧ decide (rightK k) = false) ∨
    (1 ≤ k.lv ∧ k.lv ≤ 3 ∧ 0 ≤ k.ro ∧ k.ro ≤ 2 ∧ k.ro = 0 ∧ decide (rightK k) = true) ∨ (1 ≤ k.lv ∧ k.lv ≤ 3 ∧ 0 ≤ k.ro ∧ k.ro ≤ 2 ∧ ¬ k.ro = 0 ∧ k.lv = 1 ∧ decide (rightK k) = true) ∨ (1 ≤ k.lv ∧ k.lv ≤ 3 ∧ 0 ≤ k.ro ∧ k.ro ≤ 2 ∧ ¬ k.ro = 0 ∧ ¬ k.lv = 1 ∧ decide (rightK k) = false) := by
  simp only [decide_eq_true_eq, decide_eq_false_iff_not]
  unfold rightK
  omega
theorem takeB_pos (F : List Int) : takeB F = decide (0 < F.length) := by
  unfold takeB
  cases F <;> simp
theorem find_made {ps : List PageS} {k : KeyS} {p : PageS} (h : findK ps k = none) (hk : p.k = k) : findK (ps ++ [p]) k = some p := by
  unfold findK at h ⊢
  rw [List.find?_append, h]
  simp [hk]
theorem slot_made {ps : List PageS} {f : Int} {k : KeyS} (h : f ∉ ps.map (·.f)) {i : Nat} (hi : i < 8) : slotAt (ps ++ [newPg f k]) f (i : Int) = some slotZ := by
  have hp : pageAt (ps ++ [newPg f k]) f = some (newPg f k) := by
    have h1 : pageAt ps f = none := by
      cases h2 : pageAt ps f with
      | none => rfl
      | some p => exact absurd (pageAt_some (by rw [h2]; rfl)) h
    unfold pageAt at h1 ⊢
    rw [List.find?_append, h1]
    simp [newPg]
  unfold slotAt
  rw [hp]
  dsimp only
  rw [if_pos ⟨by omega, by omega⟩]
  have : (List.replicate 8 slotZ)[i]? = some slotZ := by rw [List.getElem?_replicate, if_pos hi]
  exact this
theorem word_made {W : List Int} {n f i : Nat} (hW : W.length = n * 8) (hf : f < n) (hi : i < 8) : getR (fillW W n (f : Int) (List.replicate 8 0)) n (f : Int) (i : Int) = .tuple #[.int .u64 0, .bool true] := by
  have hw : wok n (f : Int) (i : Int) := ⟨by omega, by omega, by omega, by omega⟩
  unfold getR
  rw [if_pos hw, decide_eq_true hw]
  have hc : 0 ≤ (f : Int) ∧ (f : Int) < n ∧ (List.replicate 8 (0 : Int)).length = 8 := ⟨by omega, by omega, rfl⟩
  have e : (fillW W n (f : Int) (List.replicate 8 0)).getD (wat (f : Int) (i : Int)) 0 = 0 := by
    unfold fillW wat
    rw [if_pos hc]
    simp only [Int.toNat_natCast, List.getD_eq_getElem?_getD]
    rw [List.append_assoc, List.getElem?_append_right (by simp; omega), List.getElem?_append_left (by simp; omega)]
    have hl : f * 8 + i - (W.take (f * 8)).length = i := by simp; omega
    rw [hl, List.getElem?_replicate, if_pos hi]
    rfl
  rw [e]

set_option maxHeartbeats 4000000 in
set_option maxRecDepth 100000 in
theorem StoreMakes_walk (oa : Option Addr) (olen ocap : Nat) (l : List OpS) (k : KeyS) (w : World) (hA : ArgRow w 11 oa olen (l.flatMap opL)) (hl : ∀ x ∈ l, OpOk x) (hk : KeyOk k) :
    Calls Try.prog 5 #[.slice oa olen ocap, .agg (keyC k)] w fun e w' => e = .returned (.bool true) ∧ Below w.heap.size w w' := by
  obtain rfl := sops_len hA
  have HA := hid hA
  have HOK := hid hl
  have hol := hA.small
  have hHz : Has w w.heap.size [] := Has.nil (Nat.le_refl _)
  have hH0 : Has _ w.heap.size [blk w.heap.size 31 (keyC k)] := hHz.newblk w.heap.size 31 (keyC k) rfl
  have hB0 := below_new (Below.refl _ w) hHz (.cells (keyC k) 31)
  clear hA hl hk hHz
  go_enter Try.func5, Try.ntmps5
  go_wp2_with fail
  refine (head_true _ _ _ hH0).mono ?_
  rintro e w1 ⟨_, rfl, hH1, hB1⟩
  have hB1 := hB0.trans hB1
  go_wp2_with fail
  refine (MemNew_yes 24 (by decide) (by decide) w1 _ _ hH1).mono ?_
  rintro e w2 ⟨hb, rfl, hH2, hB2⟩
  have hB2 := hB1.trans hB2
  have hH2 : Has w2 w.heap.size (MemA hb 24 (List.replicate (24 * 8) 0) :: [blk w.heap.size 31 (keyC k)]) := hH2
  clear hH0 hB0 hH1 hB1
  by_cases hbig : 200 < l.length
  · have e1 : decide (200 < l.length) = true := decide_eq_true hbig
    have e2 : decide (200 < (l.length : Int)) = true := decide_eq_true (by omega)
    go_wp2_with fail
    go_ret
    exact ⟨rfl, hB2⟩
  have e1 : decide (200 < l.length) = false := decide_eq_false hbig
  have e2 : decide (200 < (l.length : Int)) = false := decide_eq_false (by omega)
  go_wp2_with fail
  refine (NewIs hb 24 6 9 w2 _ _ _ (by decide) hH2).mono ?_
  rintro e w3 ⟨sb, rfl, hH3, hB3⟩
  have hB3 := hB2.trans hB3
  clear hH2 hB2 e1 e2
  go_wp2_with fail
  go_loopg [8] l.length (fun g i wr => ∃ j : Nat, g + j = l.length ∧ i = .int .i64 j ∧ Has wr w.heap.size (staL sb hb 24 6 9 (runS 24 ⟨List.replicate (24 * 8) 0, freshL 6 9 0, []⟩ (l.take j)) [blk w.heap.size 31 (keyC k)]) ∧ Below w.heap.size w wr)
  case atStart => exact ⟨0, by omega, rfl, hH3, hB3⟩
  case round =>
    obtain ⟨j, hj, rfl, hHr, hBr⟩ := hrel
    clear hH3 hB3
    have HJ := hid hj
    by_cases hlt : j < l.length
    · obtain ⟨x, hx⟩ : ∃ x, l[j]? = some x := ⟨_, List.getElem?_eq_getElem hlt⟩
      obtain ⟨b, of, rfl, hc⟩ := sops_at HA.out hBr hx
      have PA := hid hc
      have hst := runS_succ (n := 24) (S := ⟨List.replicate (24 * 8) 0, freshL 6 9 0, []⟩) hx
      have HST := hid hst
      have HX := hid (HOK.out x (List.mem_of_getElem? hx))
      clear hc hst hx hj
      go_wp2_with (refine wpList_load_at 35 (.tmp 50) rfl rfl ⟨b, of + j * 11, none⟩ rfl _ (opL x) PA.out Try.underlying35 rfl op_size ?_)
      refine (play_calls sb hb 24 6 9 _ x HX.out wr _ _ hHr).mono ?_
      rintro e w4 ⟨rfl, hH4, hB4⟩
      clear PA
      go_wp2_with fail
      go_roundg (gk - 1)
      case measure => have := HJ.out; omega
      case rel => exact ⟨j + 1, by have := HJ.out; omega, by go_num, by rw [HST.out]; exact hH4, hBr.trans hB4⟩
    · obtain rfl : j = l.length := by omega
      rw [List.take_length] at hHr
      obtain ⟨S, hS⟩ : ∃ S, runS 24 ⟨List.replicate (24 * 8) 0, freshL 6 9 0, []⟩ l = S := ⟨_, rfl⟩
      rw [hS] at hHr
      have HRUN := hid hS
      clear hj HJ hlt hS HOK HA
      clear HRUN
      have hP := StoA.fits hHr
      have hW := (MemA.fits (hHr.front [_] _)).2.2
      obtain ⟨fv, hfv⟩ : ∃ v, (match findK S.ps k with | some p => p.f | none => 0) = v := ⟨_, rfl⟩
      obtain ⟨fb, hfb⟩ : ∃ b, (findK S.ps k).isSome = b := ⟨_, rfl⟩
      obtain ⟨tb, htb⟩ : ∃ b, takeB S.F = b := ⟨_, rfl⟩
      have htp := takeB_pos S.F
      rw [htb] at htp
      have hF := hP.ln
      have hlen : S.F.length ≤ 256 := by have := hP.ff.a4; have := hP.ff.a1; omega
      have HP := hid hP
      have HTB := hid htb
      have HFB := hid hfb
      have HW := hid hW
      obtain ⟨FL, hFL⟩ : ∃ n, S.F.length = n := ⟨_, rfl⟩
      rw [hFL] at htp hlen
      have HFL := hid hFL
      obtain ⟨z0, z1, z2⟩ := key_cells [_, _] hHr
      go_wp2_with fail
      refine (FindIs sb hb 24 6 9 S k fv fb hfv hfb wr _ _ hHr).mono ?_
      rintro e v1 ⟨rfl, hV1, b1⟩
      have bA := hBr.trans b1
      clear b1 hHr hBr hfv z0 z1 z2 hP hF hW htb hfb hFL
      have CL := hid (LeftIs sb hb 24 6 9 S v1 _ _ (FL : Int) (by rw [HFL.out]) hV1)
      go_wp2_with fail
      refine CL.out.mono ?_
      rintro e v2 ⟨rfl, hV2, b2⟩
      have bA := bA.trans b2
      obtain ⟨z0, z1, z2⟩ := key_cells [_, _] hV2
      clear CL b2 hV1
      rcases right_cases k with ⟨g0, hr⟩ | ⟨g0, g1, hr⟩ | ⟨g0, g1, g2, hr⟩ | ⟨g0, g1, g2, g3, hr⟩ | ⟨g0, g1, g2, g3, g4, hr⟩ | ⟨g0, g1, g2, g3, g4, g5, hr⟩ | ⟨g0, g1, g2, g3, g4, g5, hr⟩
      · have e0 : decide (1 ≤ k.lv) = false := decide_eq_false g0
        cases fb with
        | true =>
          have hmb : makeB S k = false := by unfold makeB; rw [hr, HTB.out]; have := HFB.out; cases hq : findK S.ps k <;> simp_all
          have hmv : makeV S k = 0 := by unfold makeV; rw [hmb]; rfl
          have hms : makeS 24 S k = S := by unfold makeS; rw [hmb]; rfl
          have CM := hid (MakeIs sb hb 24 6 9 S v2 _ _ k 0 false S hmv hmb hms hV2)
          clear hmb hmv hms hr hV2 g0
          go_wp2_with fail
          refine CM.out.mono ?_
          rintro e v3 ⟨rfl, hV3, b3⟩
          have bA := bA.trans b3
          clear CM b3 z0 z1 z2
          go_wp2_with fail
          refine (AllIs sb hb 24 6 9 S v3 _ _ _ rfl hV3).mono ?_
          rintro e v4 ⟨ao, acap, rfl, hV4, b4⟩
          have bA := bA.trans b4
          clear b4 hV3
          have CL := hid (LeftIs sb hb 24 6 9 S v4 _ _ (FL : Int) (by rw [HFL.out]) hV4)
          go_wp2_with fail
          refine CL.out.mono ?_
          rintro e v5 ⟨rfl, hV5, b5⟩
          go_wp2_with fail
          go_ret
          exact ⟨rfl, bA.trans b5⟩
        | false =>
          have hmb : makeB S k = false := by unfold makeB; rw [hr, HTB.out]; have := HFB.out; cases hq : findK S.ps k <;> simp_all
          have hmv : makeV S k = 0 := by unfold makeV; rw [hmb]; rfl
          have hms : makeS 24 S k = S := by unfold makeS; rw [hmb]; rfl
          have CM := hid (MakeIs sb hb 24 6 9 S v2 _ _ k 0 false S hmv hmb hms hV2)
          clear hmb hmv hms hr hV2 g0
          go_wp2_with fail
          refine CM.out.mono ?_
          rintro e v3 ⟨rfl, hV3, b3⟩
          have bA := bA.trans b3
          clear CM b3 z0 z1 z2
          go_wp2_with fail
          refine (AllIs sb hb 24 6 9 S v3 _ _ _ rfl hV3).mono ?_
          rintro e v4 ⟨ao, acap, rfl, hV4, b4⟩
          have bA := bA.trans b4
          clear b4 hV3
          have CL := hid (LeftIs sb hb 24 6 9 S v4 _ _ (FL : Int) (by rw [HFL.out]) hV4)
          go_wp2_with fail
          refine CL.out.mono ?_
          rintro e v5 ⟨rfl, hV5, b5⟩
          go_wp2_with fail
          go_ret
          exact ⟨rfl, bA.trans b5⟩
      · have e0 : decide (1 ≤ k.lv) = true := decide_eq_true g0
        have e1 : decide (k.lv ≤ 3) = false := decide_eq_false g1
        cases fb with
        | true =>
          have hmb : makeB S k = false := by unfold makeB; rw [hr, HTB.out]; have := HFB.out; cases hq : findK S.ps k <;> simp_all
          have hmv : makeV S k = 0 := by unfold makeV; rw [hmb]; rfl
          have hms : makeS 24 S k = S := by unfold makeS; rw [hmb]; rfl
          have CM := hid (MakeIs sb hb 24 6 9 S v2 _ _ k 0 false S hmv hmb hms hV2)
          clear hmb hmv hms hr hV2 g0 g1
          go_wp2_with fail
          refine CM.out.mono ?_
          rintro e v3 ⟨rfl, hV3, b3⟩
          have bA := bA.trans b3
          clear CM b3 z0 z1 z2
          go_wp2_with fail
          refine (AllIs sb hb 24 6 9 S v3 _ _ _ rfl hV3).mono ?_
          rintro e v4 ⟨ao, acap, rfl, hV4, b4⟩
          have bA := bA.trans b4
          clear b4 hV3
          have CL := hid (LeftIs sb hb 24 6 9 S v4 _ _ (FL : Int) (by rw [HFL.out]) hV4)
          go_wp2_with fail
          refine CL.out.mono ?_
          rintro e v5 ⟨rfl, hV5, b5⟩
          go_wp2_with fail
          go_ret
          exact ⟨rfl, bA.trans b5⟩
        | false =>
          have hmb : makeB S k = false := by unfold makeB; rw [hr, HTB.out]; have := HFB.out; cases hq : findK S.ps k <;> simp_all
          have hmv : makeV S k = 0 := by unfold makeV; rw [hmb]; rfl
          have hms : makeS 24 S k = S := by unfold makeS; rw [hmb]; rfl
          have CM := hid (MakeIs sb hb 24 6 9 S v2 _ _ k 0 false S hmv hmb hms hV2)
          clear hmb hmv hms hr hV2 g0 g1
          go_wp2_with fail
          refine CM.out.mono ?_
          rintro e v3 ⟨rfl, hV3, b3⟩
          have bA := bA.trans b3
          clear CM b3 z0 z1 z2
          go_wp2_with fail
          refine (AllIs sb hb 24 6 9 S v3 _ _ _ rfl hV3).mono ?_
          rintro e v4 ⟨ao, acap, rfl, hV4, b4⟩
          have bA := bA.trans b4
          clear b4 hV3
          have CL := hid (LeftIs sb hb 24 6 9 S v4 _ _ (FL : Int) (by rw [HFL.out]) hV4)
          go_wp2_with fail
          refine CL.out.mono ?_
          rintro e v5 ⟨rfl, hV5, b5⟩
          go_wp2_with fail
          go_ret
          exact ⟨rfl, bA.trans b5⟩
      · have e0 : decide (1 ≤ k.lv) = true := decide_eq_true g0
        have e1 : decide (k.lv ≤ 3) = true := decide_eq_true g1
        have e2 : decide (0 ≤ k.ro) = false := decide_eq_false g2
        cases fb with
        | true =>
          have hmb : makeB S k = false := by unfold makeB; rw [hr, HTB.out]; have := HFB.out; cases hq : findK S.ps k <;> simp_all
          have hmv : makeV S k = 0 := by unfold makeV; rw [hmb]; rfl
          have hms : makeS 24 S k = S := by unfold makeS; rw [hmb]; rfl
          have CM := hid (MakeIs sb hb 24 6 9 S v2 _ _ k 0 false S hmv hmb hms hV2)
          clear hmb hmv hms hr hV2 g0 g1 g2
          go_wp2_with fail
          refine CM.out.mono ?_
          rintro e v3 ⟨rfl, hV3, b3⟩
          have bA := bA.trans b3
          clear CM b3 z0 z1 z2
          go_wp2_with fail
          refine (AllIs sb hb 24 6 9 S v3 _ _ _ rfl hV3).mono ?_
          rintro e v4 ⟨ao, acap, rfl, hV4, b4⟩
          have bA := bA.trans b4
          clear b4 hV3
          have CL := hid (LeftIs sb hb 24 6 9 S v4 _ _ (FL : Int) (by rw [HFL.out]) hV4)
          go_wp2_with fail
          refine CL.out.mono ?_
          rintro e v5 ⟨rfl, hV5, b5⟩
          go_wp2_with fail
          go_ret
          exact ⟨rfl, bA.trans b5⟩
        | false =>
          have hmb : makeB S k = false := by unfold makeB; rw [hr, HTB.out]; have := HFB.out; cases hq : findK S.ps k <;> simp_all
          have hmv : makeV S k = 0 := by unfold makeV; rw [hmb]; rfl
          have hms : makeS 24 S k = S := by unfold makeS; rw [hmb]; rfl
          have CM := hid (MakeIs sb hb 24 6 9 S v2 _ _ k 0 false S hmv hmb hms hV2)
          clear hmb hmv hms hr hV2 g0 g1 g2
          go_wp2_with fail
          refine CM.out.mono ?_
          rintro e v3 ⟨rfl, hV3, b3⟩
          have bA := bA.trans b3
          clear CM b3 z0 z1 z2
          go_wp2_with fail
          refine (AllIs sb hb 24 6 9 S v3 _ _ _ rfl hV3).mono ?_
          rintro e v4 ⟨ao, acap, rfl, hV4, b4⟩
          have bA := bA.trans b4
          clear b4 hV3
          have CL := hid (LeftIs sb hb 24 6 9 S v4 _ _ (FL : Int) (by rw [HFL.out]) hV4)
          go_wp2_with fail
          refine CL.out.mono ?_
          rintro e v5 ⟨rfl, hV5, b5⟩
          go_wp2_with fail
          go_ret
          exact ⟨rfl, bA.trans b5⟩
      · have e0 : decide (1 ≤ k.lv) = true := decide_eq_true g0
        have e1 : decide (k.lv ≤ 3) = true := decide_eq_true g1
        have e2 : decide (0 ≤ k.ro) = true := decide_eq_true g2
        have e3 : decide (k.ro ≤ 2) = false := decide_eq_false g3
        cases fb with
        | true =>
          have hmb : makeB S k = false := by unfold makeB; rw [hr, HTB.out]; have := HFB.out; cases hq : findK S.ps k <;> simp_all
          have hmv : makeV S k = 0 := by unfold makeV; rw [hmb]; rfl
          have hms : makeS 24 S k = S := by unfold makeS; rw [hmb]; rfl
          have CM := hid (MakeIs sb hb 24 6 9 S v2 _ _ k 0 false S hmv hmb hms hV2)
          clear hmb hmv hms hr hV2 g0 g1 g2 g3
          go_wp2_with fail
          refine CM.out.mono ?_
          rintro e v3 ⟨rfl, hV3, b3⟩
          have bA := bA.trans b3
          clear CM b3 z0 z1 z2
          go_wp2_with fail
          refine (AllIs sb hb 24 6 9 S v3 _ _ _ rfl hV3).mono ?_
          rintro e v4 ⟨ao, acap, rfl, hV4, b4⟩
          have bA := bA.trans b4
          clear b4 hV3
          have CL := hid (LeftIs sb hb 24 6 9 S v4 _ _ (FL : Int) (by rw [HFL.out]) hV4)
          go_wp2_with fail
          refine CL.out.mono ?_
          rintro e v5 ⟨rfl, hV5, b5⟩
          go_wp2_with fail
          go_ret
          exact ⟨rfl, bA.trans b5⟩
        | false =>
          have hmb : makeB S k = false := by unfold makeB; rw [hr, HTB.out]; have := HFB.out; cases hq : findK S.ps k <;> simp_all
          have hmv : makeV S k = 0 := by unfold makeV; rw [hmb]; rfl
          have hms : makeS 24 S k = S := by unfold makeS; rw [hmb]; rfl
          have CM := hid (MakeIs sb hb 24 6 9 S v2 _ _ k 0 false S hmv hmb hms hV2)
          clear hmb hmv hms hr hV2 g0 g1 g2 g3
          go_wp2_with fail
          refine CM.out.mono ?_
          rintro e v3 ⟨rfl, hV3, b3⟩
          have bA := bA.trans b3
          clear CM b3 z0 z1 z2
          go_wp2_with fail
          refine (AllIs sb hb 24 6 9 S v3 _ _ _ rfl hV3).mono ?_
          rintro e v4 ⟨ao, acap, rfl, hV4, b4⟩
          have bA := bA.trans b4
          clear b4 hV3
          have CL := hid (LeftIs sb hb 24 6 9 S v4 _ _ (FL : Int) (by rw [HFL.out]) hV4)
          go_wp2_with fail
          refine CL.out.mono ?_
          rintro e v5 ⟨rfl, hV5, b5⟩
          go_wp2_with fail
          go_ret
          exact ⟨rfl, bA.trans b5⟩
      · have e0 : decide (1 ≤ k.lv) = true := decide_eq_true g0
        have e1 : decide (k.lv ≤ 3) = true := decide_eq_true g1
        have e2 : decide (0 ≤ k.ro) = true := decide_eq_true g2
        have e3 : decide (k.ro ≤ 2) = true := decide_eq_true g3
        have e4 : (k.ro == 0) = true := by rw [beq_iff_eq]; exact g4
        cases fb with
        | true =>
          have hmb : makeB S k = false := by unfold makeB; rw [hr, HTB.out]; have := HFB.out; cases hq : findK S.ps k <;> simp_all
          have hmv : makeV S k = 0 := by unfold makeV; rw [hmb]; rfl
          have hms : makeS 24 S k = S := by unfold makeS; rw [hmb]; rfl
          have CM := hid (MakeIs sb hb 24 6 9 S v2 _ _ k 0 false S hmv hmb hms hV2)
          clear hmb hmv hms hr hV2 g0 g1 g2 g3 g4
          go_wp2_with fail
          refine CM.out.mono ?_
          rintro e v3 ⟨rfl, hV3, b3⟩
          have bA := bA.trans b3
          clear CM b3 z0 z1 z2
          go_wp2_with fail
          refine (AllIs sb hb 24 6 9 S v3 _ _ _ rfl hV3).mono ?_
          rintro e v4 ⟨ao, acap, rfl, hV4, b4⟩
          have bA := bA.trans b4
          clear b4 hV3
          have CL := hid (LeftIs sb hb 24 6 9 S v4 _ _ (FL : Int) (by rw [HFL.out]) hV4)
          go_wp2_with fail
          refine CL.out.mono ?_
          rintro e v5 ⟨rfl, hV5, b5⟩
          go_wp2_with fail
          go_ret
          exact ⟨rfl, bA.trans b5⟩
        | false =>
          cases tb with
          | false =>
            have e9 : decide (0 < FL) = false := htp.symm
            have e9' : decide (0 < (FL : Int)) = false := by rw [decide_eq_false_iff_not]; have := of_decide_eq_false e9; omega
            clear htp
            have hmb : makeB S k = false := by unfold makeB; rw [hr, HTB.out]; have := HFB.out; cases hq : findK S.ps k <;> simp_all
            have hmv : makeV S k = 0 := by unfold makeV; rw [hmb]; rfl
            have hms : makeS 24 S k = S := by unfold makeS; rw [hmb]; rfl
            have CM := hid (MakeIs sb hb 24 6 9 S v2 _ _ k 0 false S hmv hmb hms hV2)
            clear hmb hmv hms hr hV2 g0 g1 g2 g3 g4
            go_wp2_with fail
            refine CM.out.mono ?_
            rintro e v3 ⟨rfl, hV3, b3⟩
            have bA := bA.trans b3
            clear CM b3 z0 z1 z2
            go_wp2_with fail
            refine (AllIs sb hb 24 6 9 S v3 _ _ _ rfl hV3).mono ?_
            rintro e v4 ⟨ao, acap, rfl, hV4, b4⟩
            have bA := bA.trans b4
            clear b4 hV3
            have CL := hid (LeftIs sb hb 24 6 9 S v4 _ _ (FL : Int) (by rw [HFL.out]) hV4)
            go_wp2_with fail
            refine CL.out.mono ?_
            rintro e v5 ⟨rfl, hV5, b5⟩
            go_wp2_with fail
            go_ret
            exact ⟨rfl, bA.trans b5⟩
          | true =>
            have hfn : findK S.ps k = none := by simpa using HFB.out
            have hmb : makeB S k = true := by unfold makeB; rw [hr, HTB.out, hfn]; rfl
            obtain ⟨f, hf⟩ : ∃ f, takeV S.F = f := ⟨_, rfl⟩
            have hfm := takeV_mem HTB.out
            rw [hf] at hfm
            have hmv : makeV S k = f := by unfold makeV; rw [hmb]; exact hf
            obtain ⟨T, hT⟩ : ∃ T, makeS 24 S k = T := ⟨_, rfl⟩
            have hTe : T = ⟨fillW S.W 24 f (List.replicate 8 0), S.F.dropLast, S.ps ++ [newPg f k]⟩ := by rw [← hT]; unfold makeS; rw [if_pos hmb, hf]; rfl
            have CM := hid (MakeIs sb hb 24 6 9 S v2 _ _ k f true T hmv hmb hT hV2)
            have hrg := HP.out.ff.rg f hfm
            have hfo : f ∉ S.ps.map (·.f) := fun hm => by obtain ⟨p, hp, e⟩ := List.mem_map.1 hm; exact HP.out.df p hp (by rw [e]; exact hfm)
            obtain ⟨fn, rfl⟩ : ∃ fn : Nat, f = (fn : Int) := ⟨f.toNat, by omega⟩
            have hfn24 : fn < 24 := by omega
            have HSL := hid (fun (i : Nat) (hi : i < 8) => (show slotAt T.ps (fn : Int) (i : Int) = some slotZ from by rw [hTe]; exact slot_made hfo hi))
            have HWD := hid (fun (i : Nat) (hi : i < 8) => (show getR T.W 24 (fn : Int) (i : Int) = .tuple #[.int .u64 0, .bool true] from by rw [hTe]; exact word_made HW.out hfn24 hi))
            have HFI := hid (show findK T.ps k = some (newPg fn k) from by rw [hTe]; exact find_made hfn rfl)
            have HTL := hid (show ((T.F.length : Nat) : Int) = (FL : Int) - 1 from by rw [hTe]; show ((S.F.dropLast.length : Nat) : Int) = _; rw [List.length_dropLast, HFL.out]; have h0 := List.length_pos_of_mem hfm; rw [HFL.out] at h0; omega)
            have HAL := hid (show T.ps.map (·.f) = S.ps.map (·.f) ++ [(fn : Int)] from by rw [hTe, List.map_append]; rfl)
            have hsl := HP.out.len
            have hfl0 : 0 < FL := by rw [← HFL.out]; exact List.length_pos_of_mem hfm
            clear hmb hmv hT hTe hfn hf hfm hrg hfo hr hV2 g0 g1 g2 g3 g4 htp
            go_wp2_with fail
            refine CM.out.mono ?_
            rintro e v3 ⟨rfl, hV3, b3⟩
            have bA := bA.trans b3
            clear CM b3 z0 z1 z2
            go_wp2_with fail
            refine (AllIs sb hb 24 6 9 T v3 _ _ _ HAL.out hV3).mono ?_
            rintro e v4 ⟨ao, acap, rfl, hV4, b4⟩
            have bA := bA.trans b4
            clear b4 hV3
            obtain ⟨pl, hpl⟩ : ∃ pl : List Int, S.ps.map (·.f) = pl := ⟨_, rfl⟩
            have hpl2 : pl.length ≤ 256 := by rw [← hpl]; simpa using hsl
            rw [hpl] at hV4 ⊢
            have e9 : decide (0 < FL) = true := decide_eq_true hfl0
            have e9' : decide (0 < (FL : Int)) = true := decide_eq_true (by omega)
            have hL : (pl ++ [(fn : Int)]).length = pl.length + 1 := by simp
            rw [hL] at hV4 ⊢
            clear hL hpl hsl
            have zs := zeroSlotL
            have hE : ∀ W, Sem.run Try.prog (binOp .neq 42 (.agg #[.int .i64 0, .int .i64 0, .bool false, .bool false, .bool false]) (.agg #[.int .i64 0, .int .i64 0, .bool false, .bool false, .bool false])) W = .ok (.bool false) W := fun W => (slotS_neq slotZ slotZ W).trans (by simp)
            go_wp2_with fail
            go_loopg [16] 8 (fun g i wq => ∃ m : Nat, g + m = 8 ∧ i = .int .i64 m ∧ Has wq w.heap.size (staL sb hb 24 6 9 T (row 3 1 (.slice ao (pl.length + 1) acap) (pl.length + 1) ((pl ++ [(fn : Int)]).map (Value.int .i64)) :: [blk w.heap.size 31 (keyC k)])) ∧ Below w.heap.size w wq)
            case atStart => exact ⟨0, by omega, rfl, hV4, bA⟩
            case round =>
              clear hV4 bA
              obtain ⟨m, hm, rfl, hV4, bA⟩ := hrel
              have HM := hid hm
              by_cases hlt : m < 8
              · have hlt' : (m : Int) < 8 := by omega
                have hsl := HSL.out m hlt
                have CS := hid (SlotIs sb hb 24 6 9 T wr _ _ fn m slotZ true (by rw [hsl]; rfl) (by rw [hsl]; rfl) hV4)
                have HW2 := hid (HWD.out m hlt)
                clear hsl hm
                go_wp2_with fail
                refine CS.out.mono ?_
                rintro e v5 ⟨rfl, hV5, b5⟩
                have bA := bA.trans b5
                have hA5 := hV5.newblk v5.heap.size 42 #[.int .i64 0, .int .i64 0, .bool false, .bool false, .bool false] rfl
                have bA := below_new bA hV5 (.cells #[.int .i64 0, .int .i64 0, .bool false, .bool false, .bool false] 42)
                clear CS b5 hV4 hV5
                have tok1 : True := trivial
                go_wp2_with (have _t := tok1; refine wpList_store_all [] _ hA5 42 (.tmp 17) (.tmp 130) rfl rfl rfl (slotC slotZ) rfl slot_size rfl (slot_one _) ?_; clear _t tok1; intro v6 hV6 b6 hz; clear hz)
                have bA := bA.trans b6
                have hV7 : Has v6 w.heap.size (staL sb hb 24 6 9 T (blk v5.heap.size 42 (slotC slotZ) :: _)) := toX hV6
                have y0 := hV7.cell [_, _] _ 0 (v := .int .i64 0) rfl
                have y1 := hV7.cell [_, _] _ 1 (v := .int .i64 0) rfl
                have y2 := hV7.cell [_, _] _ 2 (v := .bool false) rfl
                have y3 := hV7.cell [_, _] _ 3 (v := .bool false) rfl
                have y4 := hV7.cell [_, _] _ 4 (v := .bool false) rfl
                refine (GetIs sb hb 24 6 9 T v6 _ _ fn m 0 true HW2.out hV7).mono ?_
                rintro e v8 ⟨rfl, rfl⟩
                clear hA5
                go_wp2_with fail
                go_roundg (gk - 1)
                case measure => have := HM.out; omega
                case rel => exact ⟨m + 1, by have := HM.out; omega, by go_num, Has.drop (fromX hV7), bA⟩
              · obtain rfl : m = 8 := by omega
                obtain ⟨z0, z1, z2⟩ := key_cells [_, _, _] hV4
                obtain ⟨g0, rfl⟩ : ∃ g0, ao = some ⟨g0, 0, none⟩ := by obtain ⟨ao1, cap1, hv, _, _, hg⟩ := Has.row_form [_, _] _ hV4; obtain ⟨g, hg⟩ := hg (by omega); injection hv with h1 h2 h3; exact ⟨g, by rw [h1, hg]⟩
                have CF := hid (FindIs sb hb 24 6 9 T k fn true (by rw [HFI.out]; rfl) (by rw [HFI.out]; rfl) wr _ _ hV4)
                clear hm HM hlt zs hE hV4
                go_wp2_with fail
                refine CF.out.mono ?_
                rintro e v9 ⟨rfl, hV9, b9⟩
                have bA := bA.trans b9
                have cl : v9.cell? ⟨g0, pl.length, none⟩ = some (.int .i64 fn) := Has.row_cell [_, _] _ hV9 pl.length (by simp)
                have hw1 : IntKind.i64.wrap ((pl.length : Int) + 1 - 1) = (pl.length : Int) := by rw [Int.add_sub_cancel]; exact IntWalk.i64_in _ (by omega)
                have hw1' : IntKind.i64.wrap (((pl.length + 1 : Nat) : Int) - 1) = (pl.length : Int) := by rw [show (((pl.length + 1 : Nat) : Int) - 1) = (pl.length : Int) by omega]; exact IntWalk.i64_in _ (by omega)
                have hw2 : IntKind.i64.wrap ((FL : Int) - 1) = (FL : Int) - 1 := IntWalk.i64_in _ (by omega)
                have e10 : decide ((0 : Int) < (pl.length : Int) + 1) = true := decide_eq_true (by omega)
                have e11 : (0 : Int) ≤ (pl.length : Int) := by omega
                clear CF b9 z0 z1 z2
                have CL := hid (LeftIs sb hb 24 6 9 T v9 _ _ ((FL : Int) - 1) HTL.out hV9)
                go_wp2_with fail
                refine CL.out.mono ?_
                rintro e v10 ⟨rfl, hV10, b10⟩
                go_wp2_with fail
                go_ret
                exact ⟨rfl, bA.trans b10⟩
      · have e0 : decide (1 ≤ k.lv) = true := decide_eq_true g0
        have e1 : decide (k.lv ≤ 3) = true := decide_eq_true g1
        have e2 : decide (0 ≤ k.ro) = true := decide_eq_true g2
        have e3 : decide (k.ro ≤ 2) = true := decide_eq_true g3
        have e4 : (k.ro == 0) = false := by rw [beq_eq_false_iff_ne]; exact g4
        have e5 : (k.lv == 1) = true := by rw [beq_iff_eq]; exact g5
        cases fb with
        | true =>
          have hmb : makeB S k = false := by unfold makeB; rw [hr, HTB.out]; have := HFB.out; cases hq : findK S.ps k <;> simp_all
          have hmv : makeV S k = 0 := by unfold makeV; rw [hmb]; rfl
          have hms : makeS 24 S k = S := by unfold makeS; rw [hmb]; rfl
          have CM := hid (MakeIs sb hb 24 6 9 S v2 _ _ k 0 false S hmv hmb hms hV2)
          clear hmb hmv hms hr hV2 g0 g1 g2 g3 g4 g5
          go_wp2_with fail
          refine CM.out.mono ?_
          rintro e v3 ⟨rfl, hV3, b3⟩
          have bA := bA.trans b3
          clear CM b3 z0 z1 z2
          go_wp2_with fail
          refine (AllIs sb hb 24 6 9 S v3 _ _ _ rfl hV3).mono ?_
          rintro e v4 ⟨ao, acap, rfl, hV4, b4⟩
          have bA := bA.trans b4
          clear b4 hV3
          have CL := hid (LeftIs sb hb 24 6 9 S v4 _ _ (FL : Int) (by rw [HFL.out]) hV4)
          go_wp2_with fail
          refine CL.out.mono ?_
          rintro e v5 ⟨rfl, hV5, b5⟩
          go_wp2_with fail
          go_ret
          exact ⟨rfl, bA.trans b5⟩
        | false =>
          cases tb with
          | false =>
            have e9 : decide (0 < FL) = false := htp.symm
            have e9' : decide (0 < (FL : Int)) = false := by rw [decide_eq_false_iff_not]; have := of_decide_eq_false e9; omega
            clear htp
            have hmb : makeB S k = false := by unfold makeB; rw [hr, HTB.out]; have := HFB.out; cases hq : findK S.ps k <;> simp_all
            have hmv : makeV S k = 0 := by unfold makeV; rw [hmb]; rfl
            have hms : makeS 24 S k = S := by unfold makeS; rw [hmb]; rfl
            have CM := hid (MakeIs sb hb 24 6 9 S v2 _ _ k 0 false S hmv hmb hms hV2)
            clear hmb hmv hms hr hV2 g0 g1 g2 g3 g4 g5
            go_wp2_with fail
            refine CM.out.mono ?_
            rintro e v3 ⟨rfl, hV3, b3⟩
            have bA := bA.trans b3
            clear CM b3 z0 z1 z2
            go_wp2_with fail
            refine (AllIs sb hb 24 6 9 S v3 _ _ _ rfl hV3).mono ?_
            rintro e v4 ⟨ao, acap, rfl, hV4, b4⟩
            have bA := bA.trans b4
            clear b4 hV3
            have CL := hid (LeftIs sb hb 24 6 9 S v4 _ _ (FL : Int) (by rw [HFL.out]) hV4)
            go_wp2_with fail
            refine CL.out.mono ?_
            rintro e v5 ⟨rfl, hV5, b5⟩
            go_wp2_with fail
            go_ret
            exact ⟨rfl, bA.trans b5⟩
          | true =>
            have hfn : findK S.ps k = none := by simpa using HFB.out
            have hmb : makeB S k = true := by unfold makeB; rw [hr, HTB.out, hfn]; rfl
            obtain ⟨f, hf⟩ : ∃ f, takeV S.F = f := ⟨_, rfl⟩
            have hfm := takeV_mem HTB.out
            rw [hf] at hfm
            have hmv : makeV S k = f := by unfold makeV; rw [hmb]; exact hf
            obtain ⟨T, hT⟩ : ∃ T, makeS 24 S k = T := ⟨_, rfl⟩
            have hTe : T = ⟨fillW S.W 24 f (List.replicate 8 0), S.F.dropLast, S.ps ++ [newPg f k]⟩ := by rw [← hT]; unfold makeS; rw [if_pos hmb, hf]; rfl
            have CM := hid (MakeIs sb hb 24 6 9 S v2 _ _ k f true T hmv hmb hT hV2)
            have hrg := HP.out.ff.rg f hfm
            have hfo : f ∉ S.ps.map (·.f) := fun hm => by obtain ⟨p, hp, e⟩ := List.mem_map.1 hm; exact HP.out.df p hp (by rw [e]; exact hfm)
            obtain ⟨fn, rfl⟩ : ∃ fn : Nat, f = (fn : Int) := ⟨f.toNat, by omega⟩
            have hfn24 : fn < 24 := by omega
            have HSL := hid (fun (i : Nat) (hi : i < 8) => (show slotAt T.ps (fn : Int) (i : Int) = some slotZ from by rw [hTe]; exact slot_made hfo hi))
            have HWD := hid (fun (i : Nat) (hi : i < 8) => (show getR T.W 24 (fn : Int) (i : Int) = .tuple #[.int .u64 0, .bool true] from by rw [hTe]; exact word_made HW.out hfn24 hi))
            have HFI := hid (show findK T.ps k = some (newPg fn k) from by rw [hTe]; exact find_made hfn rfl)
            have HTL := hid (show ((T.F.length : Nat) : Int) = (FL : Int) - 1 from by rw [hTe]; show ((S.F.dropLast.length : Nat) : Int) = _; rw [List.length_dropLast, HFL.out]; have h0 := List.length_pos_of_mem hfm; rw [HFL.out] at h0; omega)
            have HAL := hid (show T.ps.map (·.f) = S.ps.map (·.f) ++ [(fn : Int)] from by rw [hTe, List.map_append]; rfl)
            have hsl := HP.out.len
            have hfl0 : 0 < FL := by rw [← HFL.out]; exact List.length_pos_of_mem hfm
            clear hmb hmv hT hTe hfn hf hfm hrg hfo hr hV2 g0 g1 g2 g3 g4 g5 htp
            go_wp2_with fail
            refine CM.out.mono ?_
            rintro e v3 ⟨rfl, hV3, b3⟩
            have bA := bA.trans b3
            clear CM b3 z0 z1 z2
            go_wp2_with fail
            refine (AllIs sb hb 24 6 9 T v3 _ _ _ HAL.out hV3).mono ?_
            rintro e v4 ⟨ao, acap, rfl, hV4, b4⟩
            have bA := bA.trans b4
            clear b4 hV3
            obtain ⟨pl, hpl⟩ : ∃ pl : List Int, S.ps.map (·.f) = pl := ⟨_, rfl⟩
            have hpl2 : pl.length ≤ 256 := by rw [← hpl]; simpa using hsl
            rw [hpl] at hV4 ⊢
            have e9 : decide (0 < FL) = true := decide_eq_true hfl0
            have e9' : decide (0 < (FL : Int)) = true := decide_eq_true (by omega)
            have hL : (pl ++ [(fn : Int)]).length = pl.length + 1 := by simp
            rw [hL] at hV4 ⊢
            clear hL hpl hsl
            have zs := zeroSlotL
            have hE : ∀ W, Sem.run Try.prog (binOp .neq 42 (.agg #[.int .i64 0, .int .i64 0, .bool false, .bool false, .bool false]) (.agg #[.int .i64 0, .int .i64 0, .bool false, .bool false, .bool false])) W = .ok (.bool false) W := fun W => (slotS_neq slotZ slotZ W).trans (by simp)
            go_wp2_with fail
            go_loopg [16] 8 (fun g i wq => ∃ m : Nat, g + m = 8 ∧ i = .int .i64 m ∧ Has wq w.heap.size (staL sb hb 24 6 9 T (row 3 1 (.slice ao (pl.length + 1) acap) (pl.length + 1) ((pl ++ [(fn : Int)]).map (Value.int .i64)) :: [blk w.heap.size 31 (keyC k)])) ∧ Below w.heap.size w wq)
            case atStart => exact ⟨0, by omega, rfl, hV4, bA⟩
            case round =>
              clear hV4 bA
              obtain ⟨m, hm, rfl, hV4, bA⟩ := hrel
              have HM := hid hm
              by_cases hlt : m < 8
              · have hlt' : (m : Int) < 8 := by omega
                have hsl := HSL.out m hlt
                have CS := hid (SlotIs sb hb 24 6 9 T wr _ _ fn m slotZ true (by rw [hsl]; rfl) (by rw [hsl]; rfl) hV4)
                have HW2 := hid (HWD.out m hlt)
                clear hsl hm
                go_wp2_with fail
                refine CS.out.mono ?_
                rintro e v5 ⟨rfl, hV5, b5⟩
                have bA := bA.trans b5
                have hA5 := hV5.newblk v5.heap.size 42 #[.int .i64 0, .int .i64 0, .bool false, .bool false, .bool false] rfl
                have bA := below_new bA hV5 (.cells #[.int .i64 0, .int .i64 0, .bool false, .bool false, .bool false] 42)
                clear CS b5 hV4 hV5
                have tok1 : True := trivial
                go_wp2_with (have _t := tok1; refine wpList_store_all [] _ hA5 42 (.tmp 17) (.tmp 130) rfl rfl rfl (slotC slotZ) rfl slot_size rfl (slot_one _) ?_; clear _t tok1; intro v6 hV6 b6 hz; clear hz)
                have bA := bA.trans b6
                have hV7 : Has v6 w.heap.size (staL sb hb 24 6 9 T (blk v5.heap.size 42 (slotC slotZ) :: _)) := toX hV6
                have y0 := hV7.cell [_, _] _ 0 (v := .int .i64 0) rfl
                have y1 := hV7.cell [_, _] _ 1 (v := .int .i64 0) rfl
                have y2 := hV7.cell [_, _] _ 2 (v := .bool false) rfl
                have y3 := hV7.cell [_, _] _ 3 (v := .bool false) rfl
                have y4 := hV7.cell [_, _] _ 4 (v := .bool false) rfl
                refine (GetIs sb hb 24 6 9 T v6 _ _ fn m 0 true HW2.out hV7).mono ?_
                rintro e v8 ⟨rfl, rfl⟩
                clear hA5
                go_wp2_with fail
                go_roundg (gk - 1)
                case measure => have := HM.out; omega
                case rel => exact ⟨m + 1, by have := HM.out; omega, by go_num, Has.drop (fromX hV7), bA⟩
              · obtain rfl : m = 8 := by omega
                obtain ⟨z0, z1, z2⟩ := key_cells [_, _, _] hV4
                obtain ⟨g0, rfl⟩ : ∃ g0, ao = some ⟨g0, 0, none⟩ := by obtain ⟨ao1, cap1, hv, _, _, hg⟩ := Has.row_form [_, _] _ hV4; obtain ⟨g, hg⟩ := hg (by omega); injection hv with h1 h2 h3; exact ⟨g, by rw [h1, hg]⟩
                have CF := hid (FindIs sb hb 24 6 9 T k fn true (by rw [HFI.out]; rfl) (by rw [HFI.out]; rfl) wr _ _ hV4)
                clear hm HM hlt zs hE hV4
                go_wp2_with fail
                refine CF.out.mono ?_
                rintro e v9 ⟨rfl, hV9, b9⟩
                have bA := bA.trans b9
                have cl : v9.cell? ⟨g0, pl.length, none⟩ = some (.int .i64 fn) := Has.row_cell [_, _] _ hV9 pl.length (by simp)
                have hw1 : IntKind.i64.wrap ((pl.length : Int) + 1 - 1) = (pl.length : Int) := by rw [Int.add_sub_cancel]; exact IntWalk.i64_in _ (by omega)
                have hw1' : IntKind.i64.wrap (((pl.length + 1 : Nat) : Int) - 1) = (pl.length : Int) := by rw [show (((pl.length + 1 : Nat) : Int) - 1) = (pl.length : Int) by omega]; exact IntWalk.i64_in _ (by omega)
                have hw2 : IntKind.i64.wrap ((FL : Int) - 1) = (FL : Int) - 1 := IntWalk.i64_in _ (by omega)
                have e10 : decide ((0 : Int) < (pl.length : Int) + 1) = true := decide_eq_true (by omega)
                have e11 : (0 : Int) ≤ (pl.length : Int) := by omega
                clear CF b9 z0 z1 z2
                have CL := hid (LeftIs sb hb 24 6 9 T v9 _ _ ((FL : Int) - 1) HTL.out hV9)
                go_wp2_with fail
                refine CL.out.mono ?_
                rintro e v10 ⟨rfl, hV10, b10⟩
                go_wp2_with fail
                go_ret
                exact ⟨rfl, bA.trans b10⟩
      · have e0 : decide (1 ≤ k.lv) = true := decide_eq_true g0
        have e1 : decide (k.lv ≤ 3) = true := decide_eq_true g1
        have e2 : decide (0 ≤ k.ro) = true := decide_eq_true g2
        have e3 : decide (k.ro ≤ 2) = true := decide_eq_true g3
        have e4 : (k.ro == 0) = false := by rw [beq_eq_false_iff_ne]; exact g4
        have e5 : (k.lv == 1) = false := by rw [beq_eq_false_iff_ne]; exact g5
        cases fb with
        | true =>
          have hmb : makeB S k = false := by unfold makeB; rw [hr, HTB.out]; have := HFB.out; cases hq : findK S.ps k <;> simp_all
          have hmv : makeV S k = 0 := by unfold makeV; rw [hmb]; rfl
          have hms : makeS 24 S k = S := by unfold makeS; rw [hmb]; rfl
          have CM := hid (MakeIs sb hb 24 6 9 S v2 _ _ k 0 false S hmv hmb hms hV2)
          clear hmb hmv hms hr hV2 g0 g1 g2 g3 g4 g5
          go_wp2_with fail
          refine CM.out.mono ?_
          rintro e v3 ⟨rfl, hV3, b3⟩
          have bA := bA.trans b3
          clear CM b3 z0 z1 z2
          go_wp2_with fail
          refine (AllIs sb hb 24 6 9 S v3 _ _ _ rfl hV3).mono ?_
          rintro e v4 ⟨ao, acap, rfl, hV4, b4⟩
          have bA := bA.trans b4
          clear b4 hV3
          have CL := hid (LeftIs sb hb 24 6 9 S v4 _ _ (FL : Int) (by rw [HFL.out]) hV4)
          go_wp2_with fail
          refine CL.out.mono ?_
          rintro e v5 ⟨rfl, hV5, b5⟩
          go_wp2_with fail
          go_ret
          exact ⟨rfl, bA.trans b5⟩
        | false =>
          have hmb : makeB S k = false := by unfold makeB; rw [hr, HTB.out]; have := HFB.out; cases hq : findK S.ps k <;> simp_all
          have hmv : makeV S k = 0 := by unfold makeV; rw [hmb]; rfl
          have hms : makeS 24 S k = S := by unfold makeS; rw [hmb]; rfl
          have CM := hid (MakeIs sb hb 24 6 9 S v2 _ _ k 0 false S hmv hmb hms hV2)
          clear hmb hmv hms hr hV2 g0 g1 g2 g3 g4 g5
          go_wp2_with fail
          refine CM.out.mono ?_
          rintro e v3 ⟨rfl, hV3, b3⟩
          have bA := bA.trans b3
          clear CM b3 z0 z1 z2
          go_wp2_with fail
          refine (AllIs sb hb 24 6 9 S v3 _ _ _ rfl hV3).mono ?_
          rintro e v4 ⟨ao, acap, rfl, hV4, b4⟩
          have bA := bA.trans b4
          clear b4 hV3
          have CL := hid (LeftIs sb hb 24 6 9 S v4 _ _ (FL : Int) (by rw [HFL.out]) hV4)
          go_wp2_with fail
          refine CL.out.mono ?_
          rintro e v5 ⟨rfl, hV5, b5⟩
          go_wp2_with fail
          go_ret
          exact ⟨rfl, bA.trans b5⟩

end Go.Proofs.Yteeapkndappnoaa
