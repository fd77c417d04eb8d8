/-
  TlbFlushes: a Flush takes just those of its Asid; all others stay, in their order; All takes all.
-/
import Derived.Test.YtcfphdebekbbkaaTlbArgs
namespace Go.Proofs.Ytcfphdebekbbkaa
open Go.RowKit
set_option linter.unusedVariables false
set_option linter.unusedSimpArgs false

set_option maxHeartbeats 4000000 in
set_option maxRecDepth 100000 in
theorem TlbFlushes_walk (a : Option Addr) (len cap : Nat) (l : List HitS) (asid : Int) (w : World) (hA : ArgRow w 7 a len (hitsC l)) (hl : ∀ x ∈ l, HitOk x) (hs : (Lit.int .i64 asid).wf = true) :
    Calls Try.prog 9 #[.slice a len cap, .int .i64 asid] w fun e w' => e = .returned (.bool true) ∧ Below w.heap.size w w' := by
  obtain rfl := hits_len hA
  obtain ⟨i0, hi0, hz0, hz1, hz2⟩ := info_parts infoHit
  have hH0 : Has w w.heap.size [] := Has.nil (Nat.le_refl _)
  have HS := hid hA.srch
  clear hA hl hs
  go_enter Try.func9, Try.ntmps9
  go_wp2_with fail
  refine (head_true w _ [] hH0).mono ?_
  rintro e w1 ⟨_, rfl, hH1, hB1⟩
  go_wp2_with fail
  refine (TlbNew_yes 512 (by decide) (by decide) w1 _ _ hH1).mono ?_
  rintro e w2 ⟨t, rfl, hH2, hB2⟩
  have hB2 := hB1.trans hB2
  clear hH1 hB1 hH0
  by_cases hbig : 300 < l.length
  · have e1 : decide (300 < l.length) = true := by rw [decide_eq_true_eq]; omega
    have e2 : decide (300 < (l.length : Int)) = true := by rw [decide_eq_true_eq]; omega
    go_wp2_with fail
    go_ret
    exact ⟨rfl, hB2⟩
  · have e1 : decide (300 < l.length) = false := by rw [decide_eq_false_iff_not]; omega
    have e2 : decide (300 < (l.length : Int)) = false := by rw [decide_eq_false_iff_not]; omega
    go_wp2_with fail
    go_loopw [7] (fun i wr => ∃ k : Nat, k ≤ l.length ∧ i = .int .i64 k ∧ Has wr w.heap.size [TlbA t 512 (putsL 512 l k)] ∧ Below w.heap.size w wr) (fun i _ => l.length - (intOf i).toNat)
    case atStart => exact ⟨0, by omega, rfl, hH2, hB2⟩
    case round =>
      obtain ⟨k, hk, rfl, hHr, hBr⟩ := hrel
      clear hH2 hB2
      by_cases hlt : k < l.length
      · obtain ⟨h, hh⟩ : ∃ h, l[k]? = some h := ⟨_, List.getElem?_eq_getElem hlt⟩
        obtain ⟨b, o, rfl, _, _⟩ := HS.out.mem (by omega)
        have P := hid ((HS.out.later hBr).adds rfl hh)
        have HP := hid (putsL_succ (n := 512) hh)
        clear hh
        go_wp2_with (refine wpList_load_at 30 (.tmp 34) rfl rfl ⟨b, o + k * 7, none⟩ rfl _ (hitC h) P.out Try.underlying30 rfl hit_size ?_)
        refine (Put_calls t 512 _ h wr _ _ hHr).mono ?_
        rintro e w3 ⟨rfl, hH3, hB3⟩
        go_wp2_with fail
        go_roundw
        case rel => exact ⟨k + 1, by omega, by go_num, by rw [HP.out]; exact hH3, hBr.trans hB3⟩
        case measure => simp [intOf] <;> omega
      · obtain rfl : k = l.length := by omega
        have hI := (TlbA.open hHr).choose_spec.choose_spec.1
        generalize putsL 512 l l.length = L at *
        go_wp2_with fail
        obtain ⟨wo, rfl⟩ : ∃ wo : World, wo = wr := ⟨_, rfl⟩
        refine (List_calls t 512 L wo _ _ hHr).mono ?_
        rintro e w4 ⟨v, rfl, hH4, hB4'⟩
        have hB4 := hBr.trans hB4'
        clear hB4' hHr hBr
        obtain ⟨ao, cp, rfl, _, _, hao⟩ := hH4.row_form [] _
        have hL512 : L.length ≤ 512 := by omega
        have HI := hid hI
        clear hI
        have hR := hH4.nilrow 30 7
        go_wp2_with fail
        go_loopw [8, 10] (fun want i wr => ∃ (k : Nat) (v : Value), k ≤ L.length ∧ i = .int .i64 k ∧ want = v ∧ Has wr w.heap.size [row 30 7 v (keepF asid (L.take k)).length (hitsC (keepF asid (L.take k))), row 30 7 (.slice ao L.length cp) L.length (hitsC L), TlbA t 512 L] ∧ Below w.heap.size w wr) (fun _ i _ => L.length - (intOf i).toNat)
        case atStart => exact ⟨0, _, by omega, rfl, rfl, by simpa [keepF, hitsC] using hR, hB4⟩
        case round =>
          obtain ⟨k, v, hk2, rfl, rfl, hHr, hBr⟩ := hrel
          clear hR hH4 hB4
          by_cases hlt2 : k < L.length
          · obtain ⟨h, hh⟩ : ∃ h, L[k]? = some h := ⟨_, List.getElem?_eq_getElem hlt2⟩
            obtain ⟨g, rfl⟩ := hao (by omega)
            have hsrc := srch_row [_] _ hHr rfl
            have c0 := hsrc.at rfl hh 0 (u := .int .i64 h.a) rfl
            rw [Nat.zero_add, Nat.add_zero] at c0
            have P := hid (hsrc.adds rfl hh)
            have hsucc := keepF_take_succ (a := asid) hh
            have hkl := keepF_len asid (L.take k)
            have hkl2 : (keepF asid (L.take k)).length ≤ 512 := by simp at hkl; omega
            obtain ⟨ao2, cp2, rfl, _, _, _⟩ := hHr.row_form [] _
            by_cases hq : h.a = asid
            · have e3 : (h.a == asid) = true := by rw [beq_iff_eq]; exact hq
              rw [show asidB asid h = true from by simp [asidB, hq]] at hsucc
              have HS2 := hid hsucc
              clear hh hsucc hsrc hq
              go_wp2_with fail
              go_roundw
              case rel => exact ⟨k + 1, _, by omega, by go_num, rfl, by rw [HS2.out]; simpa using hHr, hBr⟩
              case measure => simp [intOf] <;> omega
            · have e3 : (h.a == asid) = false := by rw [beq_eq_false_iff_ne]; exact hq
              rw [show asidB asid h = false from by simp [asidB, hq]] at hsucc
              have HS2 := hid hsucc
              have hA := hHr.newblk wr.heap.size 30 (hitC h).toArray rfl
              have hBA := below_new hBr hHr (.cells (hitC h).toArray 30)
              have hl7 : (hitC h).length = 7 := rfl
              clear hh hsucc hsrc hq
              go_wp2_with (first
                | (refine wpList_load_at 30 (.tmp 55) rfl rfl ⟨g, k * 7, none⟩ rfl _ (hitC h) (by have := P.out; simpa using this) Try.underlying30 rfl hit_size ?_)
                | (at_builtin; go_loud (refine wpList_append_row [_] _ hA rfl (.tmp 52) (.tmp 57) 22 rfl i0 (.agg hitZ) 32 Try.underlying22 hi0 hz0 hz1 hz2 rfl (by decide) rfl ⟨wr.heap.size, 0, none⟩ 1 1 (hitC h) rfl rfl (blk_adds [] _ hA) (hitC_one h) (by decide) (by unfold maxLen; omega) (by omega) ?_); intro g2 cap2 w5 hH5 hB5))
              go_roundw
              case rel => exact ⟨k + 1, _, by omega, by go_num, rfl, by rw [HS2.out]; simpa [hitsC] using hH5.drop, hBA.trans hB5⟩
              case measure => simp [intOf] <;> omega
          · obtain rfl : k = L.length := by omega
            rw [List.take_length] at hHr
            obtain ⟨ao2, cp2, rfl, _, _, _⟩ := hHr.row_form [] _
            go_wp2_with fail
            refine (Flush_calls t 512 L asid wr _ _ (hHr.front [_, _] _)).mono ?_
            rintro e w6 ⟨rfl, hH6, hB6'⟩
            have hB6 := hBr.trans hB6'
            clear hB6' hHr hBr
            go_wp2_with fail
            refine (List_calls t 512 (keepF asid L) w6 _ _ hH6).mono ?_
            rintro e w7 ⟨v7, rfl, hH7, hB7'⟩
            have hB7 := hB6.trans hB7'
            clear hB7' hH6 hB6
            obtain ⟨ao7, cp7, rfl, _, _, _⟩ := hH7.row_form [] _
            have cs := Same_calls ao7 ao2 cp7 cp2 (keepF asid L) (keepF asid L) w7 (srch_row [] _ hH7 rfl) (srch_row [_, _] _ hH7 rfl)
            rw [show decide (keepF asid L = keepF asid L) = true from by simp] at cs
            have CS := hid cs
            clear cs
            go_wp2_with fail
            refine (keeps CS.out hH7).mono ?_
            rintro e w8 ⟨rfl, hH8, hB8'⟩
            have hB8 := hB7.trans hB8'
            clear hB8' hH7 hB7 CS
            go_wp2_with fail
            refine (All_calls t 512 _ w8 _ _ (hH8.front [_] _)).mono ?_
            rintro e w9 ⟨rfl, hH9, hB9'⟩
            have hB9 := hB8.trans hB9'
            clear hB9' hH8 hB8
            go_wp2_with fail
            refine (Many_calls t 512 [] w9 _ _ hH9).mono ?_
            rintro e w10 ⟨rfl, rfl⟩
            go_wp2_with fail
            refine (List_calls t 512 [] w9 _ _ hH9).mono ?_
            rintro e w10 ⟨v10, rfl, hH10, hB10⟩
            obtain ⟨ao10, cp10, rfl, _, _, _⟩ := hH10.row_form [] _
            go_wp2_with fail
            go_ret
            exact ⟨rfl, hB9.trans hB10⟩

end Go.Proofs.Ytcfphdebekbbkaa
