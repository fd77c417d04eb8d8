/-
  GuestTwo: what one guest does changes nothing of another one, whose frames are other ones of the same host.
-/
import Derived.Test.YtlkjccchlmhchaaGuestPlain
import Derived.Test.YtlkjccchlmhchaaPick
import Derived.StillTailTactics
namespace Go.Proofs.Ytlkjccchlmhchaa
open Go.RowKit
set_option linter.unusedVariables false
set_option linter.unusedSimpArgs false

theorem swap5T {w : World} {B : Nat} {a b c d e : Asr} {X : List Asr} (h : Has w B (a :: b :: c :: d :: e :: X)) : Has w B (d :: e :: c :: a :: b :: X) := by
  have h1 := Has.front [_, _] _ h
  have h2 := Has.front [_, _, _, _] _ h1
  exact Has.front [_, _, _, _] _ h2
theorem sink3T {w : World} {B : Nat} {A g m M : Asr} {X : List Asr} (h : Has w B (A :: g :: m :: M :: X)) : Has w B (g :: m :: M :: A :: X) :=
  Has.back [_, _, _] _ h
theorem SameWords_lenT (a b : Option Addr) (na nb ca cb : Nat) (l m : List Int) (w : World) (h1 : SrcU w a l) (h2 : SrcU w b m) (hna : na = l.length) (hnb : nb = m.length) :
    Calls Try.prog 17 #[.slice a na ca, .slice b nb cb] w fun e w' => e = .returned (.bool (l == m)) ∧ Below w.heap.size w w' := by
  subst hna hnb
  exact SameWords_calls a b ca cb l m w h1 h2
/-- The even ones, and the odd ones. -/
def evs (c : Int) (k : Nat) : List Int := (List.range k).map fun i : Nat => 2 * (i : Int) + c
theorem evs_length (c : Int) (k : Nat) : (evs c k).length = k := by simp [evs]
theorem evs_succ (c : Int) (k : Nat) : evs c (k + 1) = evs c k ++ [2 * (k : Int) + c] := by simp [evs, List.range_succ]
theorem evs_mem {c x : Int} {k : Nat} (h : x ∈ evs c k) : ∃ i : Nat, i < k ∧ x = 2 * (i : Int) + c := by
  simp only [evs, List.mem_map, List.mem_range] at h
  obtain ⟨i, hi, rfl⟩ := h
  exact ⟨i, hi, rfl⟩
theorem evs_gok {c : Int} {k : Nat} (h1 : 1 ≤ k) (h2 : k ≤ 30) (hc : c = 0 ∨ c = 1) : gok (evs c k) (80 : Int) := by
  refine ⟨by rw [evs_length]; exact h1, by rw [evs_length]; omega, by decide, by decide, fun x hx => ?_, ?_⟩
  · obtain ⟨i, hi, rfl⟩ := evs_mem hx
    omega
  · unfold evs List.Nodup
    rw [List.pairwise_map]
    refine List.Pairwise.imp (fun {a b} h e => h (by omega)) List.nodup_range
theorem evs_wf {c : Int} {k : Nat} (h2 : k ≤ 30) (hc : c = 0 ∨ c = 1) : ∀ x ∈ evs c k, (Lit.int .i64 x).wf = true := by
  intro x hx
  obtain ⟨i, hi, rfl⟩ := evs_mem hx
  exact WalkArith.wf_i64 (by omega)

set_option maxHeartbeats 4000000 in
set_option maxRecDepth 100000 in
theorem GuestTwo_walk (n : Int) (oa : Option Addr) (olen ocap : Nat) (l : List FOp) (pa : Option Addr) (plen pcap : Nat) (ks : List FOp) (w : World)
    (hn : (Lit.int .u8 n).wf = true) (hA : ArgRow w 5 oa olen (l.flatMap opC)) (hl : ∀ x ∈ l, GOk w x) (hK : ArgRow w 5 pa plen (ks.flatMap opC)) (hk : ∀ x ∈ ks, GOk w x) :
    Calls Try.prog 3 #[.int .u8 n, .slice oa olen ocap, .slice pa plen pcap] w fun e w' => e = .returned (.bool true) ∧ Below w.heap.size w w' := by
  obtain rfl := ops_len hA
  obtain rfl := ops_len hK
  obtain ⟨i0, hi, hz0, hz1, hz2⟩ := info_parts infoInt
  obtain ⟨t0, t1⟩ := bounds_u8 hn
  have hH0 : Has w w.heap.size [] := Has.nil (Nat.le_refl _)
  have HA := hid hA
  have HOK := hid hl
  have HKA := hid hK
  have HKO := hid hk
  have hol := hA.small
  have hkl := hK.small
  clear hA hl hK hk hn
  have u0 : 0 ≤ n % 30 := Int.emod_nonneg _ (by decide)
  have u1 : n % 30 < 30 := Int.emod_lt_of_pos _ (by decide)
  obtain ⟨M, hM⟩ : ∃ M : Nat, 1 + n % 30 = (M : Int) := ⟨(1 + n % 30).toNat, by omega⟩
  have M1 : 1 ≤ M := by omega
  have M2 : M ≤ 30 := by omega
  go_enter Try.func3, Try.ntmps3
  go_wp2_with fail
  refine (head_true w _ [] hH0).mono ?_
  rintro e w1 ⟨_, rfl, hH1, hB1⟩
  go_wp2_with fail
  refine (MemNew_yes 80 (by decide) (by decide) w1 _ _ hH1).mono ?_
  rintro e w2 ⟨hb, rfl, hH2, hB2⟩
  have hB2 := hB1.trans hB2
  clear hH0 hH1 hB1
  go_wp2_with fail
  refine (Great_calls oa ocap l w2 w HA.out hB2 HOK.out).mono ?_
  rintro e w3 ⟨⟨gr, rfl⟩, rfl⟩
  cases gr with
  | true =>
    go_wp2_with fail
    go_ret
    exact ⟨rfl, hB2⟩
  | false =>
  go_wp2_with fail
  refine (Great_calls pa pcap ks w2 w HKA.out hB2 HKO.out).mono ?_
  rintro e w3 ⟨⟨gr, rfl⟩, rfl⟩
  cases gr with
  | true =>
    go_wp2_with fail
    go_ret
    exact ⟨rfl, hB2⟩
  | false =>
  have hR := (hH2.nilrow 3 1).nilrow 3 1
  go_wp2_with fail
  clear hM u0 u1
  go_loopw [10, 11, 12] (fun a b i wr => ∃ (k : Nat) (va vb : Value), k ≤ M ∧ i = .int .i64 k ∧ a = va ∧ b = vb ∧ Has wr w.heap.size [row 3 1 va k ((evs 0 k).map (Value.int .i64)), row 3 1 vb k ((evs 1 k).map (Value.int .i64)), MemA hb 80 (List.replicate (80 * 8) 0)] ∧ Below w.heap.size w wr) (fun _ _ i _ => M - (intOf i).toNat)
  case atStart => exact ⟨0, _, _, by omega, rfl, rfl, rfl, hR, hB2⟩
  case round =>
    obtain ⟨k, va, vb, hk, rfl, rfl, rfl, hHr, hBr⟩ := hrel
    clear hR hH2 hB2
    obtain ⟨aa, ca, rfl, _, _, haa⟩ := hHr.row_form [] _
    obtain ⟨ab, cb, rfl, _, _, hab⟩ := hHr.row_form [_] _
    by_cases hlt : k < M
    · have S0 := hid (evs_succ 0 k)
      have S1 := hid (evs_succ 1 k)
      have hk30 : k < 30 := by omega
      have e1 : decide ((k : Int) < (M : Int)) = true := by rw [decide_eq_true_eq]; omega
      clear haa hab
      have tok1 : True := trivial
      have tok2 : True := trivial
      go_wp2_with (first
        | (at_builtin; have _t := tok1; refine wpList_append_row [] _ (hHr.alloc _) rfl (.tmp 46) (.tmp 49) 27 rfl i0 (.int .i64 0) 8 Try.underlying27 hi hz0 hz1 hz2 rfl (by decide) rfl ⟨wr.heap.size, 0, none⟩ 1 1 [.int .i64 (2 * (k : Int))] rfl rfl (cell_one_new _ _ _) (by simp [Value.oneCell']) (by decide) (by unfold maxLen; omega) (by omega) ?_; clear _t tok1; intro g2 cap2 w5 hH5 hB5')
        | (at_builtin; have _t := tok2; refine wpList_append_row [_] _ (hH5.alloc _) rfl (.tmp 51) (.tmp 55) 27 rfl i0 (.int .i64 0) 8 Try.underlying27 hi hz0 hz1 hz2 rfl (by decide) rfl ⟨w5.heap.size, 0, none⟩ 1 1 [.int .i64 (2 * (k : Int) + 1)] rfl rfl (cell_one_new _ _ _) (by simp [Value.oneCell']) (by decide) (by unfold maxLen; omega) (by omega) ?_; clear _t tok2; intro g3 cap3 w6 hH6 hB6'))
      go_roundw
      case rel => exact ⟨k + 1, _, _, by omega, by go_num, rfl, rfl, by rw [S0.out, S1.out]; simpa using hH6, (hBr.trans ((below_new (Below.refl _ _) hHr _).trans hB5')).trans ((below_new (Below.refl _ _) hH5 _).trans hB6')⟩
      case measure => simp [intOf] <;> omega
    · obtain rfl : k = M := by omega
      have e1 : decide ((k : Int) < (k : Int)) = false := by simp
      obtain ⟨ga, rfl⟩ := haa (by omega)
      obtain ⟨gb, rfl⟩ := hab (by omega)
      obtain ⟨wo, rfl⟩ : ∃ wo : World, wo = wr := ⟨_, rfl⟩
      have G0 := hid (evs_gok M1 M2 (.inl rfl) : gok (evs 0 k) (80 : Int))
      have G1 := hid (evs_gok M1 M2 (.inr rfl) : gok (evs 1 k) (80 : Int))
      have F0 := hid (evs_wf M2 (.inl rfl) : ∀ x ∈ evs 0 k, (Lit.int .i64 x).wf = true)
      have F1 := hid (evs_wf M2 (.inr rfl) : ∀ x ∈ evs 1 k, (Lit.int .i64 x).wf = true)
      have DJ : Hid (∀ f ∈ evs 1 k, f ∉ evs 0 k) := hid (fun f hf hf0 => by
        obtain ⟨i, _, rfl⟩ := evs_mem hf
        obtain ⟨j, _, e⟩ := evs_mem hf0
        omega)
      have L0 := hid (evs_length 0 k)
      have L1 := hid (evs_length 1 k)
      generalize evs 0 k = ea at *
      generalize evs 1 k = eb at *
      have cn := New_yes (cap := ca) G0.out (src_row [] _ (by rw [L0.out]; exact hHr) (by rw [L0.out]; omega) F0.out) hHr
      rw [L0.out] at cn
      have CN := hid cn
      clear cn haa hab hk hlt
      go_wp2_with fail
      refine CN.out.mono ?_
      rintro e w3 ⟨mb, rfl, hH3, hB3⟩
      have hB3 := hBr.trans hB3
      have cn := New_yes (cap := cb) G1.out (src_row [_, _] _ (by rw [L1.out]; exact hH3) (by rw [L1.out]; omega) F1.out) hH3
      rw [L1.out] at cn
      have CN2 := hid cn
      clear cn CN hHr hBr
      go_wp2_with fail
      refine CN2.out.mono ?_
      rintro e w4 ⟨qb, rfl, hH4, hB4⟩
      have hB4 := hB3.trans hB4
      clear CN2 hH3 hB3
      go_wp2_with fail
      refine (GuestNew_calls mb hb w4 _ _ hH4).mono ?_
      rintro e w5 ⟨xb, rfl, hH5, hB5⟩
      have hB5 := hB4.trans hB5
      go_wp2_with fail
      refine (GuestNew_calls qb hb w5 _ _ hH5).mono ?_
      rintro e w6 ⟨yb, rfl, hH6, hB6⟩
      have hB6 := hB5.trans hB6
      have hH7 : Has w6 w.heap.size [gstB yb qb hb, GmapA qb eb, MemA hb 80 (List.replicate (80 * 8) 0), gstB xb mb hb, GmapA mb ea] := by
        exact hH6.pick [0, 2, 6, 1, 3]
      clear hH4 hB4 hH5 hB5 hH6
      go_wp2_with fail
      go_loopw [17] (fun i wr => ∃ (k : Nat) (W : List Int), k ≤ ks.length ∧ i = .int .i64 k ∧ Has wr w.heap.size [gstB yb qb hb, GmapA qb eb, MemA hb 80 W, gstB xb mb hb, GmapA mb ea] ∧ Below w.heap.size w wr) (fun i _ => ks.length - (intOf i).toNat)
      case atStart => exact ⟨0, _, by omega, rfl, hH7, hB6⟩
      case round =>
        obtain ⟨j, W, hj, rfl, hHr, hBr⟩ := hrel
        clear hH7 hB6
        by_cases hlt : j < ks.length
        · obtain ⟨x, hx⟩ : ∃ x, ks[j]? = some x := ⟨_, List.getElem?_eq_getElem hlt⟩
          obtain ⟨b, o, rfl, _, _⟩ := HKA.out.mem (by omega)
          have k1 := ops_at HKA.out hBr rfl hx 1 (u := .int .i64 x.F) rfl
          have k2 := ops_at HKA.out hBr rfl hx 2 (u := .int .i64 x.I) rfl
          have k3 := ops_at HKA.out hBr rfl hx 3 (u := .int .u64 x.V) rfl
          have hHd := hHr.drew
          have hBd : Below w.heap.size w wr.drew := hBr.drew
          have CS := hid (GSet_calls yb qb hb 80 eb W x.F x.I x.V wr.drew _ _ hHd)
          clear hx
          go_wp2_with fail
          go_still_tail 16, (by kernel_rfl)
          change wpList _ _ _ _ _ (wr.drew)
          go_wp2_with (go_at_call 14; refine CS.out.mono ?_; rintro e w5 ⟨rfl, hH5, hB5⟩)
          go_roundw
          case rel => exact ⟨j + 1, _, by omega, by go_num, hH5, hBd.trans hB5⟩
          case measure => simp [intOf] <;> omega
        · obtain rfl : j = ks.length := by omega
          have HW : Hid (W.length = 80 * 8) := hid (MemA.fits (hHr.front [_, _] _)).2.2
          have I0 : Hid (hosts 80 ea) := hid (hosts_of G0.out)
          have I1 : Hid (hosts 80 eb) := hid (hosts_of G1.out)
          obtain ⟨wp, rfl⟩ : ∃ wp : World, wp = wr := ⟨_, rfl⟩
          clear hlt hj
          go_wp2_with fail
          refine (GAll_calls yb qb hb 80 eb W I1.out wp _ _ hHr).mono ?_
          rintro e w7 ⟨v7, rfl, hH7, hB7'⟩
          have hB7 := hBr.trans hB7'
          rw [L1.out] at hH7
          obtain ⟨a7, c7, rfl, _, _, _⟩ := hH7.row_form [] _
          have hH8 : Has w7 w.heap.size [gstB xb mb hb, GmapA mb ea, MemA hb 80 W, gstB yb qb hb, GmapA qb eb, row 33 1 (.slice a7 (k * 8) c7) (k * 8) (u64s (gAll W 80 eb))] := hH7.pick [4, 5, 3, 1, 2, 0]
          clear hHr hBr hH7
          go_wp2_with fail
          go_loopw [19] (fun i wr => ∃ (q : Nat) (V : List Int), q ≤ l.length ∧ i = .int .i64 q ∧ Off 80 ea W V ∧ Has wr w.heap.size [gstB xb mb hb, GmapA mb ea, MemA hb 80 V, gstB yb qb hb, GmapA qb eb, row 33 1 (.slice a7 (k * 8) c7) (k * 8) (u64s (gAll W 80 eb))] ∧ Below w.heap.size w wr) (fun i _ => l.length - (intOf i).toNat)
          case atStart => exact ⟨0, W, by omega, rfl, Off.refl .., hH8, hB7⟩
          case round =>
            obtain ⟨q, V, hq, rfl, hoff, hHr, hBr⟩ := hrel
            have HOFF := hid hoff
            have HVL : Hid (V.length = 80 * 8) := hid (hoff.1.trans HW.out)
            clear hH8 hB7 hoff
            by_cases hlt : q < l.length
            · obtain ⟨x, hx⟩ : ∃ x, l[q]? = some x := ⟨_, List.getElem?_eq_getElem hlt⟩
              obtain ⟨b, o, rfl, _, _⟩ := HA.out.mem (by omega)
              have hok := HOK.out x (List.mem_of_getElem? hx)
              have k0 := ops_at HA.out hBr rfl hx 0 (u := .int .i64 x.What) rfl
              rw [Nat.add_zero] at k0
              by_cases h3 : x.What = 3
              · have e3 : (x.What == 3) = true := by rw [beq_iff_eq]; exact h3
                have k4 := ops_at HA.out hBr rfl hx 4 (u := .slice x.La x.L.length x.Lc) rfl
                have CL := hid (GLoad_calls xb mb hb 80 ea V x.L x.La x.Lc I0.out hok.cap wr w.heap.size _ (fun w' W' _ hb => hok.ok.src.later (hBr.trans hb)) hHr)
                have HO2 := hid (HOFF.out.trans (off_gLoad HVL.out I0.out x.L))
                clear hx h3 hok
                go_wp2_with fail
                refine CL.out.mono ?_
                rintro e w8 ⟨rfl, hH9, hB9⟩
                go_wp2_with fail
                go_roundw
                case rel => exact ⟨q + 1, _, by omega, by go_num, HO2.out, hH9, hBr.trans hB9⟩
                case measure => simp [intOf] <;> omega
              · have e3 : (x.What == 3) = false := by rw [beq_eq_false_iff_ne]; exact h3
                have k1 := ops_at HA.out hBr rfl hx 1 (u := .int .i64 x.F) rfl
                have k2 := ops_at HA.out hBr rfl hx 2 (u := .int .i64 x.I) rfl
                have k3 := ops_at HA.out hBr rfl hx 3 (u := .int .u64 x.V) rfl
                have hHd := hHr.drew
                have hBd : Below w.heap.size w wr.drew := hBr.drew
                have CS := hid (GSet_calls xb mb hb 80 ea V x.F x.I x.V wr.drew _ _ hHd)
                have HO2 := hid (HOFF.out.trans (off_gSet I0.out x.F x.I x.V))
                clear hx h3 hok
                go_wp2_with fail
                go_still_tail 16, (by kernel_rfl)
                change wpList _ _ _ _ _ (wr.drew)
                go_wp2_with (go_at_call 14; refine CS.out.mono ?_; rintro e w5 ⟨rfl, hH5, hB5⟩)
                go_roundw
                case rel => exact ⟨q + 1, _, by omega, by go_num, HO2.out, hH5, hBd.trans hB5⟩
                case measure => simp [intOf] <;> omega
            · obtain rfl : q = l.length := by omega
              have HEQ := hid (HOFF.out.all DJ.out)
              have HGL : Hid ((gAll W 80 eb).length = k * 8) := hid (by rw [gAll_length HW.out I1.out, L1.out])
              have hH9 : Has wr w.heap.size [gstB yb qb hb, GmapA qb eb, MemA hb 80 V, gstB xb mb hb, GmapA mb ea, row 33 1 (.slice a7 (k * 8) c7) (k * 8) (u64s (gAll W 80 eb))] := hHr.pick [3, 4, 2, 0, 1, 5]
              have e9 : ((k : Int) * 8 == 8 * (k : Int)) = true := by rw [beq_iff_eq]; omega
              clear hlt hq hHr
              go_wp2_with fail
              refine (GAll_calls yb qb hb 80 eb V I1.out wr _ _ hH9).mono ?_
              rintro e w10 ⟨v10, rfl, hH10, hB10'⟩
              have hB10 := hBr.trans hB10'
              rw [HEQ.out, L1.out] at hH10
              obtain ⟨a10, c10, rfl, _, _, _⟩ := hH10.row_form [] _
              have cw := SameWords_lenT a10 a7 (k * 8) (k * 8) c10 c7 (gAll W 80 eb) (gAll W 80 eb) w10 (srcu_row [] _ hH10 HGL.out.symm) (srcu_row [_, _, _, _, _, _] _ hH10 HGL.out.symm) HGL.out.symm HGL.out.symm
              rw [show (gAll W 80 eb == gAll W 80 eb) = true from by simp] at cw
              have CW := hid cw
              clear cw
              go_wp2_with fail
              refine (keeps CW.out hH10).mono ?_
              rintro e w11 ⟨rfl, _, hB11⟩
              go_wp2_with fail
              go_ret
              exact ⟨rfl, hB10.trans hB11⟩

end Go.Proofs.Ytlkjccchlmhchaa
