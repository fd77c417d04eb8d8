/-
  GuestSets: a word that is set is got, and no other one of the guest's has changed; what is none is refused.
-/
import Derived.Test.YtlkjccchlmhchaaGuestPlain
import Derived.StillTailTactics
namespace Go.Proofs.Ytlkjccchlmhchaa
open Go.RowKit
set_option linter.unusedVariables false
set_option linter.unusedSimpArgs false

theorem Has.sink3 {w : World} {B : Nat} {A g m M : Asr} {X : List Asr} (h : Has w B (A :: g :: m :: M :: X)) : Has w B (g :: m :: M :: A :: X) :=
  Has.back [_, _, _] _ h
theorem SameWords_len (a b : Option Addr) (na nb ca cb : Nat) (l m : List Int) (w : World) (h1 : SrcU w a l) (h2 : SrcU w b m) (hna : na = l.length) (hnb : nb = m.length) :
    Calls Try.prog 17 #[.slice a na ca, .slice b nb cb] w fun e w' => e = .returned (.bool (l == m)) ∧ Below w.heap.size w w' := by
  subst hna hnb
  exact SameWords_calls a b ca cb l m w h1 h2
theorem gCan_no {n : Nat} {l : List Int} {g i : Int} (h : ¬ (0 ≤ g ∧ g < l.length ∧ 0 ≤ i ∧ i < 8)) : gCan n l g i = false := by
  unfold gCan
  rw [decide_eq_false_iff_not]
  rintro ⟨h1, h2, _, _, h3, h4⟩
  exact h ⟨h1, h2, h3, h4⟩
theorem gCan_yes {n : Nat} {l : List Int} (hl : hosts n l) {a b : Nat} (ha : a < l.length) (hb : b < 8) : gCan n l a b = true := by
  unfold gCan
  obtain ⟨f, hf⟩ : ∃ f, l[a]? = some f := ⟨_, List.getElem?_eq_getElem ha⟩
  have := hl f (List.mem_of_getElem? hf)
  rw [decide_eq_true_eq, show l.getD (a : Int).toNat 0 = f from by simp [List.getD, hf]]
  exact ⟨by omega, by omega, this.1, this.2, by omega, by omega⟩
theorem gSet_no {W : List Int} {n : Nat} {l : List Int} {g i v : Int} (h : ¬ (0 ≤ g ∧ g < l.length ∧ 0 ≤ i ∧ i < 8)) : gSet W n l g i v = W := by
  unfold gSet
  by_cases h1 : 0 ≤ g ∧ g < l.length
  · rw [if_pos h1]
    unfold setW
    rw [if_neg]
    rintro ⟨_, _, h3, h4⟩
    exact h ⟨h1.1, h1.2, h3, h4⟩
  · rw [if_neg h1]

set_option maxHeartbeats 2000000 in
set_option maxRecDepth 100000 in
theorem GuestSets_walk (ma : Option Addr) (mlen mcap : Nat) (m : List Int) (oa : Option Addr) (olen ocap : Nat) (l : List FOp) (g i v : Int) (w : World)
    (hM : ArgRow w 1 ma mlen (m.map (Value.int .i64))) (hMw : ∀ x ∈ m, (Lit.int .i64 x).wf = true) (hA : ArgRow w 5 oa olen (l.flatMap opC)) (hl : ∀ x ∈ l, GOk w x) (hg : (Lit.int .u8 g).wf = true) (hi : (Lit.int .u8 i).wf = true) (hv : (Lit.int .u64 v).wf = true) :
    Calls Try.prog 5 #[.slice ma mlen mcap, .slice oa olen ocap, .int .u8 g, .int .u8 i, .int .u64 v] w fun e w' => e = .returned (.bool true) ∧ Below w.heap.size w w' := by
  obtain rfl : m.length = mlen := by have := hM.lc; simpa using this
  obtain rfl := ops_len hA
  obtain ⟨t0, t1⟩ := bounds_u8 hg
  obtain ⟨t2, t3⟩ := bounds_u8 hi
  have hH0 : Has w w.heap.size [] := Has.nil (Nat.le_refl _)
  have HM := hid hM
  have HMW := hid hMw
  have HA := hid hA
  have HOK := hid hl
  have hol := hA.small
  clear hM hMw hA hl hg hi hv
  go_enter Try.func5, Try.ntmps5
  go_wp2_with fail
  refine (head_true w _ [] hH0).mono ?_
  rintro e w1 ⟨_, rfl, hH1, hB1⟩
  go_wp2_with fail
  refine (MemNew_yes 40 (by decide) (by decide) w1 _ _ hH1).mono ?_
  rintro e w2 ⟨hb, rfl, hH2, hB2⟩
  have hB2 := hB1.trans hB2
  clear hH0 hH1 hB1
  go_wp2_with fail
  have hsrc := HM.out.src HMW.out hB2
  by_cases hgk : gok m (40 : Int)
  · refine (New_yes hgk hsrc hH2).mono ?_
    rintro e w3 ⟨mb, rfl, hH3, hB3⟩
    have hB3 := hB2.trans hB3
    have hm1 := hgk.1
    have hm2 := hgk.2.1
    have HIN : Hid (hosts 40 m) := hid (hosts_of hgk)
    have HND := hid hgk.2.2.2.2.2
    clear hgk hsrc hH2 hB2
    have e1 : decide (900 < m.length) = false := by rw [decide_eq_false_iff_not]; omega
    have e2 : decide (900 < (m.length : Int)) = false := by rw [decide_eq_false_iff_not]; omega
    go_wp2_with fail
    refine (Great_calls oa ocap l w3 w HA.out hB3 HOK.out).mono ?_
    rintro e w4 ⟨⟨gr, rfl⟩, rfl⟩
    cases gr with
    | true =>
      go_wp2_with fail
      go_ret
      exact ⟨rfl, hB3⟩
    | false =>
      go_wp2_with fail
      refine (GuestNew_calls mb hb w3 _ _ hH3).mono ?_
      rintro e w4 ⟨gb, rfl, hH4, hB4⟩
      have hB4 := hB3.trans hB4
      clear hH3 hB3 e1 e2
      go_wp2_with fail
      go_loopw [15] (fun i wr => ∃ (k : Nat) (W : List Int), k ≤ l.length ∧ i = .int .i64 k ∧ Has wr w.heap.size [gstB gb mb hb, GmapA mb m, MemA hb 40 W] ∧ Below w.heap.size w wr) (fun i _ => l.length - (intOf i).toNat)
      case atStart => exact ⟨0, _, by omega, rfl, hH4, hB4⟩
      case round =>
        obtain ⟨k, W, hk, rfl, hHr, hBr⟩ := hrel
        clear hH4 hB4
        by_cases hlt : k < l.length
        · obtain ⟨x, hx⟩ : ∃ x, l[k]? = some x := ⟨_, List.getElem?_eq_getElem hlt⟩
          obtain ⟨b, o, rfl, _, _⟩ := HA.out.mem (by omega)
          have k1 := ops_at HA.out hBr rfl hx 1 (u := .int .i64 x.F) rfl
          have k2 := ops_at HA.out hBr rfl hx 2 (u := .int .i64 x.I) rfl
          have k3 := ops_at HA.out hBr rfl hx 3 (u := .int .u64 x.V) rfl
          have hHd := hHr.drew
          have hBd : Below w.heap.size w wr.drew := hBr.drew
          have CS := hid (GSet_calls gb mb hb 40 m W x.F x.I x.V wr.drew _ _ hHd)
          clear hx
          go_wp2_with fail
          go_still_tail 16, (by kernel_rfl)
          change wpList _ _ _ _ _ (wr.drew)
          go_wp2_with (go_at_call 14; refine CS.out.mono ?_; rintro e w5 ⟨rfl, hH5, hB5⟩)
          go_roundw
          case rel => exact ⟨k + 1, _, by omega, by go_num, hH5, hBd.trans hB5⟩
          case measure => simp [intOf] <;> omega
        · obtain rfl : k = l.length := by omega
          have hW : W.length = 40 * 8 := (MemA.fits (hHr.front [_, _] _)).2.2
          have q0 : 0 ≤ g % (m.length : Int) := Int.emod_nonneg _ (by omega)
          have q1 : g % (m.length : Int) < m.length := Int.emod_lt_of_pos _ (by omega)
          have q2 : 0 ≤ i % 8 := Int.emod_nonneg _ (by decide)
          have q3 : i % 8 < 8 := Int.emod_lt_of_pos _ (by decide)
          obtain ⟨a, ha⟩ := Int.eq_ofNat_of_zero_le q0
          obtain ⟨b, hbb⟩ := Int.eq_ofNat_of_zero_le q2
          rw [ha] at q1
          rw [hbb] at q3
          have ham : a < m.length := by omega
          have hb8 : b < 8 := by omega
          have ha64 : a < 64 := by omega
          have HLEN := hid (gAll_length hW HIN.out)
          have HSET := hid (gAll_set hW HIN.out HND.out ham hb8 v)
          have HLEN2 := hid (gAll_length (W := gSet W 40 m a b v) (by rw [gSet_length]; exact hW) HIN.out)
          have HC := hid (gCan_yes HIN.out ham hb8)
          have e3 : ((m.length : Int) * 8 != 8 * (m.length : Int)) = false := by simp; omega
          obtain ⟨wo, rfl⟩ : ∃ wo : World, wo = wr := ⟨_, rfl⟩
          clear q0 q2 hW
          go_wp2_with fail
          refine (GAll_calls gb mb hb 40 m W HIN.out wo _ _ hHr).mono ?_
          rintro e w5 ⟨vv, rfl, hH5, hB5⟩
          have hB5 := hBr.trans hB5
          obtain ⟨ao, cp, rfl, hcp, _, hao⟩ := hH5.row_form [] _
          obtain ⟨g5, rfl⟩ := hao (by omega)
          have cs := GSet_calls gb mb hb 40 m W a b v w5 _ _ hH5.sink3
          rw [HC.out] at cs
          have CS := hid cs
          clear cs hHr hBr hao
          go_wp2_with fail
          refine CS.out.mono ?_
          rintro e w6 ⟨rfl, hH6, hB6⟩
          have hB6 := hB5.trans hB6
          obtain ⟨V, hV⟩ : ∃ V, gSet W 40 m a b v = V := ⟨_, rfl⟩
          rw [hV] at hH6
          have HV := hid hV
          clear hV CS hH5 hB5
          have cs := GSet_calls gb mb hb 40 m V m.length b v w6 _ _ hH6
          rw [gCan_no (by omega), gSet_no (by omega)] at cs
          have CS := hid cs
          clear cs
          go_wp2_with fail
          refine CS.out.mono ?_
          rintro e w7 ⟨rfl, hH7, hB7⟩
          have hB7 := hB6.trans hB7
          clear CS hH6 hB6
          have cs := GSet_calls gb mb hb 40 m V a 8 v w7 _ _ hH7
          rw [gCan_no (by omega), gSet_no (by omega)] at cs
          have CS := hid cs
          clear cs
          go_wp2_with fail
          refine CS.out.mono ?_
          rintro e w8 ⟨rfl, hH8, hB8⟩
          have hB8 := hB7.trans hB8
          clear CS hH7 hB7
          have cs := GSet_calls gb mb hb 40 m V (-1) b v w8 _ _ hH8
          rw [gCan_no (by omega), gSet_no (by omega)] at cs
          have CS := hid cs
          clear cs
          go_wp2_with fail
          refine CS.out.mono ?_
          rintro e w9 ⟨rfl, hH9, hB9⟩
          have hB9 := hB8.trans hB9
          clear CS hH8 hB8
          have hx9 : 8 * a + b < (u64s (gAll W 40 m)).length := by rw [u64s_length, HLEN.out]; omega
          have c9 : w9.cell? ⟨g5, 8 * a + b, none⟩ = some ((u64s (gAll W 40 m))[8 * a + b]'hx9) := hH9.row_cell [_, _, _] _ (8 * a + b) (List.getElem?_eq_getElem hx9)
          have f9 := hH9.row_frozen [_, _, _] _ (8 * a + b)
          have hS := hH9.row_set [_, _, _] _ (8 * a + b) hx9 (.int .u64 v)
          rw [u64s_set, ← HSET.out, HV.out] at hS
          have hgB : w.heap.size ≤ g5 := by
            rcases hH9.row_shape [_, _, _] _ with ⟨h, _⟩ | ⟨g', cap', h, _, _, h3, _⟩
            · cases h
            · cases h; exact h3
          have hBS := hB9.setCell (p := ⟨g5, 8 * a + b, none⟩) hgB (.int .u64 v)
          have b1 : 8 * a + b < m.length * 8 := by omega
          generalize (u64s (gAll W 40 m))[8 * a + b]'hx9 = old at *
          have HGV : Hid ((gAll V 40 m).length = m.length * 8) := hid (by have := HLEN2.out; rw [HV.out] at this; exact this)
          clear hx9 hgB
          go_wp2_with fail
          refine (GAll_calls gb mb hb 40 m V HIN.out _ _ _ hS).mono ?_
          rintro e w10 ⟨v10, rfl, hH10, hB10⟩
          have hB10 := hBS.trans hB10
          obtain ⟨a10, c10, rfl, _, _, _⟩ := hH10.row_form [] _
          have cw := SameWords_len a10 (some ⟨g5, 0, none⟩) (m.length * 8) (m.length * 8) c10 cp (gAll V 40 m) (gAll V 40 m) w10 (srcu_row [] _ hH10 HGV.out.symm) (srcu_row [_, _, _, _] _ hH10 HGV.out.symm) HGV.out.symm HGV.out.symm
          rw [show (gAll V 40 m == gAll V 40 m) = true from by simp] at cw
          have CW := hid cw
          clear cw
          go_wp2_with fail
          refine (keeps CW.out hH10).mono ?_
          rintro e w11 ⟨rfl, _, hB11⟩
          go_wp2_with fail
          go_ret
          exact ⟨rfl, hB10.trans hB11⟩
  · refine (New_no hgk hsrc hH2).mono ?_
    rintro e w3 ⟨rfl, hH3, hB3⟩
    have hB3 := hB2.trans hB3
    clear hgk hsrc
    go_wp2_with fail
    go_ret
    exact ⟨rfl, hB3⟩

end Go.Proofs.Ytlkjccchlmhchaa
