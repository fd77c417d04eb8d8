/-
  TlbWithin: a larger one knows all that a smaller one does, behind the same hits.
-/
import Derived.Test.YtcfphdebekbbkaaTlbArgs
namespace Go.Proofs.Ytcfphdebekbbkaa
open Go.RowKit
set_option linter.unusedVariables false
set_option linter.unusedSimpArgs false

theorem suffix_app {A B : List HitS} (h : A <:+ B) (x : HitS) : A ++ [x] <:+ B ++ [x] := by
  obtain ⟨t, rfl⟩ := h
  exact ⟨t, by simp⟩
theorem suffix_tail {A B : List HitS} (h : A <:+ B) (hl : A.length < B.length) : A <:+ B.eraseIdx 0 := by
  obtain ⟨t, rfl⟩ := h
  cases t with
  | nil => simp at hl
  | cons x t => exact ⟨t, by simp⟩
theorem tail_suffix (A : List HitS) : A.eraseIdx 0 <:+ A := by
  cases A with
  | nil => simp
  | cons x t => exact ⟨[x], by simp⟩
theorem putL_suffix {n m : Nat} {P Q : List HitS} {h : HitS} (hs : P <:+ Q) (hP : P.length ≤ n) (hQ : Q.length ≤ m) (hnm : n ≤ m) (hn : 1 ≤ n) : putL n P h <:+ putL m Q h := by
  have h1 : dropL h.a h.p P <:+ dropL h.a h.p Q := List.IsSuffix.filter _ hs
  have lP := dropL_le h.a h.p P
  have lQ := dropL_le h.a h.p Q
  have l1 := h1.length_le
  unfold putL
  refine suffix_app ?_ h
  generalize dropL h.a h.p P = A at *
  generalize dropL h.a h.p Q = C at *
  by_cases eP : A.length = n
  · rw [if_pos eP]
    by_cases eQ : C.length = m
    · rw [if_pos eQ]
      by_cases e : A.length = C.length
      · rw [h1.eq_of_length e]
        exact List.suffix_refl _
      · exact (tail_suffix A).trans (suffix_tail h1 (by omega))
    · rw [if_neg eQ]
      exact (tail_suffix A).trans h1
  · rw [if_neg eP]
    by_cases eQ : C.length = m
    · rw [if_pos eQ]
      exact suffix_tail h1 (by omega)
    · rw [if_neg eQ]
      exact h1
theorem suffix_drop {P Q : List HitS} (h : P <:+ Q) : P = Q.drop (Q.length - P.length) := by
  obtain ⟨t, rfl⟩ := h
  simp

set_option maxHeartbeats 4000000 in
set_option maxRecDepth 100000 in
theorem TlbWithin_walk (a more : Int) (aa : Option Addr) (len cap : Nat) (l : List HitS) (w : World) (hwa : (Lit.int .u8 a).wf = true) (hwm : (Lit.int .u8 more).wf = true) (hA : ArgRow w 7 aa len (hitsC l)) (hl : ∀ x ∈ l, HitOk x) :
    Calls Try.prog 6 #[.int .u8 a, .int .u8 more, .slice aa len cap] w fun e w' => e = .returned (.bool true) ∧ Below w.heap.size w w' := by
  obtain rfl := hits_len hA
  obtain ⟨t0, t1⟩ := bounds_u8 hwa
  obtain ⟨t2, t3⟩ := bounds_u8 hwm
  have hH0 : Has w w.heap.size [] := Has.nil (Nat.le_refl _)
  have HS := hid hA.srch
  clear hA hl hwa hwm
  have u0 : 0 ≤ a % 60 := Int.emod_nonneg _ (by decide)
  have u1 : a % 60 < 60 := Int.emod_lt_of_pos _ (by decide)
  have u2 : 0 ≤ more % 60 := Int.emod_nonneg _ (by decide)
  have u3 : more % 60 < 60 := Int.emod_lt_of_pos _ (by decide)
  obtain ⟨n, hn⟩ : ∃ n : Nat, 1 + a % 60 = (n : Int) := ⟨(1 + a % 60).toNat, by omega⟩
  obtain ⟨m, hm⟩ : ∃ m : Nat, (n : Int) + more % 60 = (m : Int) := ⟨((n : Int) + more % 60).toNat, by omega⟩
  have n1 : 1 ≤ n := by omega
  have n2 : n ≤ m := by omega
  have n3 : m ≤ 512 := by omega
  go_enter Try.func6, Try.ntmps6
  go_wp2_with fail
  refine (head_true w _ [] hH0).mono ?_
  rintro e w1 ⟨_, rfl, hH1, hB1⟩
  go_wp2_with fail
  refine (TlbNew_yes n n1 (by omega) w1 _ _ hH1).mono ?_
  rintro e w2 ⟨x, rfl, hH2, hB2⟩
  have hB2 := hB1.trans hB2
  clear hH1 hB1 hH0
  go_wp2_with fail
  refine (TlbNew_yes m (by omega) n3 w2 _ _ hH2).mono ?_
  rintro e w3 ⟨y, rfl, hH3, hB3⟩
  have hB3 := hB2.trans hB3
  clear hH2 hB2 hn hm u0 u1 u2 u3
  by_cases hbig : 300 < l.length
  · have e1 : decide (300 < l.length) = true := by rw [decide_eq_true_eq]; omega
    have e2 : decide (300 < (l.length : Int)) = true := by rw [decide_eq_true_eq]; omega
    go_wp2_with fail
    go_ret
    exact ⟨rfl, hB3⟩
  · have e1 : decide (300 < l.length) = false := by rw [decide_eq_false_iff_not]; omega
    have e2 : decide (300 < (l.length : Int)) = false := by rw [decide_eq_false_iff_not]; omega
    go_wp2_with fail
    go_loopw [11] (fun i wr => ∃ (k : Nat) (P Q : List HitS), k ≤ l.length ∧ i = .int .i64 k ∧ P <:+ Q ∧ Has wr w.heap.size [TlbA y m Q, TlbA x n P] ∧ Below w.heap.size w wr) (fun i _ => l.length - (intOf i).toNat)
    case atStart => exact ⟨0, [], [], by omega, rfl, List.suffix_refl _, hH3, hB3⟩
    case round =>
      obtain ⟨k, P, Q, hk, rfl, hsuf, hHr, hBr⟩ := hrel
      clear hH3 hB3
      have hIQ := (TlbA.open hHr).choose_spec.choose_spec.1
      have hIP := (TlbA.open (hHr.front [_] _)).choose_spec.choose_spec.1
      by_cases hlt : k < l.length
      · obtain ⟨h, hh⟩ : ∃ h, l[k]? = some h := ⟨_, List.getElem?_eq_getElem hlt⟩
        obtain ⟨b, o, rfl, _, _⟩ := HS.out.mem (by omega)
        have P1 := hid ((HS.out.later hBr).adds rfl hh)
        have hput := putL_suffix (h := h) hsuf hIP.2.2.1 hIQ.2.2.1 n2 n1
        have HPUT := hid hput
        have HH := hid hh
        clear hh hput hsuf hIQ hIP
        go_wp2_with (refine wpList_load_at 30 (.tmp 56) rfl rfl ⟨b, o + k * 7, none⟩ rfl _ (hitC h) P1.out Try.underlying30 rfl hit_size ?_)
        refine (Put_calls x n P h wr _ _ (hHr.front [_] _)).mono ?_
        rintro e w4 ⟨rfl, hH4, hB4'⟩
        have hB4 := hBr.trans hB4'
        have P2 := hid ((HS.out.later hB4).adds rfl HH.out)
        clear hB4' hHr hBr
        go_wp2_with (refine wpList_load_at 30 (.tmp 62) rfl rfl ⟨b, o + k * 7, none⟩ rfl _ (hitC h) P2.out Try.underlying30 rfl hit_size ?_)
        refine (Put_calls y m Q h w4 _ _ (hH4.front [_] _)).mono ?_
        rintro e w5 ⟨rfl, hH5, hB5⟩
        go_wp2_with fail
        go_roundw
        case rel => exact ⟨k + 1, _, _, by omega, by go_num, HPUT.out, hH5, hB4.trans hB5⟩
        case measure => simp [intOf] <;> omega
      · obtain rfl : k = l.length := by omega
        have hPQ := hsuf.length_le
        have hdr := suffix_drop hsuf
        obtain ⟨d, hd⟩ : ∃ d : Nat, Q.length - P.length = d := ⟨_, rfl⟩
        rw [hd] at hdr
        have hdi : (Q.length : Int) - (P.length : Int) = (d : Int) := by omega
        have hdQ : d ≤ Q.length := by omega
        have hdz : (d : Int) ≤ (Q.length : Int) := by omega
        have hQ512 : Q.length ≤ 512 := by omega
        have hPle : decide ((P.length : Int) ≤ (Q.length : Int)) = true := by rw [decide_eq_true_eq]; omega
        have hPle : decide (P.length ≤ Q.length) = true := by rw [decide_eq_true_eq]; omega
        have HDR := hid hdr
        clear hdr hsuf hIP hIQ hd
        go_wp2_with fail
        obtain ⟨wo, rfl⟩ : ∃ wo : World, wo = wr := ⟨_, rfl⟩
        refine (List_calls x n P wo _ _ (hHr.front [_] _)).mono ?_
        rintro e w4 ⟨v4, rfl, hH4, hB4'⟩
        have hB4 := hBr.trans hB4'
        clear hB4' hHr hBr
        obtain ⟨ap, cp, rfl, _, _, _⟩ := hH4.row_form [] _
        go_wp2_with fail
        refine (List_calls y m Q w4 _ _ (hH4.front [_, _] _)).mono ?_
        rintro e w5 ⟨v5, rfl, hH5, hB5'⟩
        have hB5 := hB4.trans hB5'
        clear hB5' hH4 hB4
        have hsp := srch_row [_, _] _ hH5 rfl
        rcases hH5.row_shape [] _ with ⟨hv, hq0⟩ | ⟨g, cq, hv, hqc, _, _, _⟩
        · subst hv
          obtain rfl : P = [] := List.eq_nil_of_length_eq_zero (by omega)
          obtain rfl : Q = [] := List.eq_nil_of_length_eq_zero hq0
          have cs := Same_calls ap none cp 0 [] [] w5 hsp ⟨by simp, by simp⟩
          rw [show decide (([] : List HitS) = []) = true from by decide] at cs
          have CS := hid cs
          clear cs hsp hq0 hdi hdz hdQ hPle hQ512 hPQ
          go_wp2_with fail
          refine (keeps CS.out hH5).mono ?_
          rintro e w6 ⟨rfl, hH6, hB6⟩
          go_wp2_with fail
          go_ret
          exact ⟨rfl, hB5.trans hB6⟩
        · subst hv
          by_cases hcd : cq = d
          · have hP0 : P.length = 0 := by omega
            have cs := Same_calls ap (some ⟨g, 0, none⟩) cp 0 P (Q.drop d) w5 hsp ⟨by simp; omega, by intro h; simp at h; omega⟩
            rw [show decide (P = Q.drop d) = true from by rw [decide_eq_true_eq]; exact HDR.out, List.length_drop] at cs
            have CS := hid cs
            clear cs hsp hP0
            go_wp2_with fail
            refine (keeps CS.out hH5).mono ?_
            rintro e w6 ⟨rfl, hH6, hB6⟩
            go_wp2_with fail
            go_ret
            exact ⟨rfl, hB5.trans hB6⟩
          · have hcd2 : ¬ d = cq := fun h => hcd h.symm
            have hsq : SrcH w5 (some ⟨g, d * 7, none⟩) (Q.drop d) := by
              have h0 := srch_row [] _ hH5 rfl
              refine ⟨by simp; omega, fun hpos => ?_⟩
              obtain ⟨b', o', e', hlt', hc'⟩ := h0.mem (by simp at hpos; omega)
              injection e' with e'
              injection e' with q1 q2 q3
              subst q1 q2
              refine ⟨g, d * 7, rfl, hlt', fun j u hj => ?_⟩
              rw [← hitsC_drop, List.getElem?_drop] at hj
              have := hc' _ u hj
              rwa [Nat.zero_add] at this
            have cs := Same_calls ap (some ⟨g, d * 7, none⟩) cp (cq - d) P (Q.drop d) w5 hsp hsq
            rw [show decide (P = Q.drop d) = true from by rw [decide_eq_true_eq]; exact HDR.out, List.length_drop] at cs
            have CS := hid cs
            clear cs hsp hsq
            go_wp2_with fail
            refine (keeps CS.out hH5).mono ?_
            rintro e w6 ⟨rfl, hH6, hB6⟩
            go_wp2_with fail
            go_ret
            exact ⟨rfl, hB5.trans hB6⟩

end Go.Proofs.Ytcfphdebekbbkaa
