/-
  GuestLoads: what is loaded is all words, and each is got in its place; too few, or too many, change nothing.
-/
import Derived.Test.YtlkjccchlmhchaaGuestPlain
import Derived.StillTailTactics
namespace Go.Proofs.Ytlkjccchlmhchaa
open Go.RowKit
set_option linter.unusedVariables false
set_option linter.unusedSimpArgs false

theorem sink3L {w : World} {B : Nat} {A g m M : Asr} {X : List Asr} (h : Has w B (A :: g :: m :: M :: X)) : Has w B (g :: m :: M :: A :: X) :=
  Has.back [_, _, _] _ h
theorem SameWords_lenL (a b : Option Addr) (na nb ca cb : Nat) (l m : List Int) (w : World) (h1 : SrcU w a l) (h2 : SrcU w b m) (hna : na = l.length) (hnb : nb = m.length) :
    Calls Try.prog 17 #[.slice a na ca, .slice b nb cb] w fun e w' => e = .returned (.bool (l == m)) ∧ Below w.heap.size w w' := by
  subst hna hnb
  exact SameWords_calls a b ca cb l m w h1 h2

set_option maxHeartbeats 2000000 in
set_option maxRecDepth 100000 in
theorem GuestLoads_walk (ma : Option Addr) (mlen mcap : Nat) (m : List Int) (oa : Option Addr) (olen ocap : Nat) (ws : List Int) (w : World)
    (hM : ArgRow w 1 ma mlen (m.map (Value.int .i64))) (hMw : ∀ x ∈ m, (Lit.int .i64 x).wf = true) (hA0 : ArgRow w 1 oa olen (u64s ws) ∧ olen ≤ ocap) (hl : ∀ x ∈ ws, (Lit.int .u64 x).wf = true) :
    Calls Try.prog 4 #[.slice ma mlen mcap, .slice oa olen ocap] w fun e w' => e = .returned (.bool true) ∧ Below w.heap.size w w' := by
  obtain ⟨hA, hcap⟩ := hA0
  obtain rfl : m.length = mlen := by have := hM.lc; simpa using this
  obtain rfl : ws.length = olen := by have := hA.lc; rw [u64s_length] at this; omega
  have hH0 : Has w w.heap.size [] := Has.nil (Nat.le_refl _)
  have HM := hid hM
  have HMW := hid hMw
  have HSU := hid hA.srcu
  have hol := hA.small
  clear hM hMw hA hl
  go_enter Try.func4, Try.ntmps4
  go_wp2_with fail
  refine (head_true w _ [] hH0).mono ?_
  rintro e w1 ⟨_, rfl, hH1, hB1⟩
  go_wp2_with fail
  refine (MemNew_yes 70 (by decide) (by decide) w1 _ _ hH1).mono ?_
  rintro e w2 ⟨hb, rfl, hH2, hB2⟩
  have hB2 := hB1.trans hB2
  clear hH0 hH1 hB1
  go_wp2_with fail
  have hsrc := HM.out.src HMW.out hB2
  by_cases hgk : gok m (70 : Int)
  · refine (New_yes hgk hsrc hH2).mono ?_
    rintro e w3 ⟨mb, rfl, hH3, hB3⟩
    have hB3 := hB2.trans hB3
    have hm1 := hgk.1
    have hm2 := hgk.2.1
    have HIN : Hid (hosts 70 m) := hid (hosts_of hgk)
    have HND := hid hgk.2.2.2.2.2
    clear hgk hsrc hH2 hB2
    have e1 : decide (900 < m.length) = false := by rw [decide_eq_false_iff_not]; omega
    have e2 : decide (900 < (m.length : Int)) = false := by rw [decide_eq_false_iff_not]; omega
    by_cases hbig : 9000 < ws.length
    · have e3 : decide (9000 < ws.length) = true := by rw [decide_eq_true_eq]; omega
      have e4 : decide (9000 < (ws.length : Int)) = true := by rw [decide_eq_true_eq]; omega
      go_wp2_with fail
      go_ret
      exact ⟨rfl, hB3⟩
    have e3 : decide (9000 < ws.length) = false := by rw [decide_eq_false_iff_not]; omega
    have e4 : decide (9000 < (ws.length : Int)) = false := by rw [decide_eq_false_iff_not]; omega
    go_wp2_with fail
    refine (GuestNew_calls mb hb w3 _ _ hH3).mono ?_
    rintro e w4 ⟨gb, rfl, hH4, hB4⟩
    have hB4 := hB3.trans hB4
    clear hH3 hB3 e1 e2 e3 e4
    obtain ⟨W, hWW⟩ : ∃ W, List.replicate (70 * 8) (0 : Int) = W := ⟨_, rfl⟩
    rw [hWW] at hH4
    have hW : W.length = 70 * 8 := (MemA.fits (hH4.front [_, _] _)).2.2
    have HW := hid hW
    clear hWW hW
    go_wp2_with fail
    refine (GAll_calls gb mb hb 70 m W HIN.out w4 _ _ hH4).mono ?_
    rintro e w5 ⟨v5, rfl, hH5, hB5⟩
    have hB5 := hB4.trans hB5
    obtain ⟨a5, c5, rfl, _, _, _⟩ := hH5.row_form [] _
    have cl := GLoad_calls gb mb hb 70 m W ws oa ocap HIN.out hcap w5 w.heap.size _ (fun w' W' _ hb => by
      obtain ⟨h1, h2⟩ := HSU.out
      refine ⟨h1, fun h0 => ?_⟩
      obtain ⟨b, o, ha, hlt, hc⟩ := h2 h0
      have hbb := hB5.trans hb
      exact ⟨b, o, ha, Nat.lt_of_lt_of_le hlt hbb.size, fun j u hj => ArgRow.later hlt hc hbb j hj⟩) (sink3L hH5)
    have CL := hid cl
    clear cl hH4 hB4
    by_cases hlen : ws.length = m.length * 8
    · have hd : decide (ws.length = m.length * 8) = true := decide_eq_true hlen
      rw [hd] at CL
      have e5 : ((m.length : Int) * 8 == 8 * (m.length : Int)) = true := by rw [beq_iff_eq]; omega
      have e6 : ((m.length : Int) * 8 != 8 * (m.length : Int)) = false := by simp; omega
      have e7 : ((ws.length : Int) == 8 * (m.length : Int)) = true := by rw [beq_iff_eq]; omega
      have e8 : ((ws.length : Int) != 8 * (m.length : Int)) = false := by simp; omega
      have HLEN := hid hlen
      have HALL := hid (gAll_load HW.out HIN.out HND.out ws hlen)
      have hVl : (gLoad W 70 m ws).length = 70 * 8 := by rw [gLoad_length HW.out]; exact HW.out
      obtain ⟨V, hV⟩ : ∃ V, gLoad W 70 m ws = V := ⟨_, rfl⟩
      rw [hV] at CL HALL hVl
      have HVL := hid hVl
      clear hd hlen hV hVl
      go_wp2_with fail
      refine CL.out.mono ?_
      rintro e w6 ⟨rfl, hH6, hB6⟩
      have hB6 := hB5.trans hB6
      clear CL hH5 hB5
      go_wp2_with fail
      go_loopw [10] (fun i wr => ∃ k : Nat, k ≤ ws.length ∧ i = .int .i64 k ∧ w6 = wr) (fun i _ => ws.length - (intOf i).toNat)
      case atStart => exact ⟨0, by omega, rfl, rfl⟩
      case round =>
        obtain ⟨k, hk, rfl, rfl⟩ := hrel
        by_cases hlt : k < ws.length
        · obtain ⟨x, hx⟩ : ∃ x, ws[k]? = some x := ⟨_, List.getElem?_eq_getElem hlt⟩
          obtain ⟨f, y, hf, _, _, hy, hgy⟩ := gGet_at (k := k / 8) (j := k % 8) HVL.out HIN.out (by have := HLEN.out; omega) (by omega)
          have hxy : y = x := by
            have h1 := gAll_get HVL.out HIN.out hf (j := k % 8) (by omega)
            rw [HALL.out, show k / 8 * 8 + k % 8 = k from by omega, hx, hy] at h1
            injection h1 with h1
            exact h1.symm
          subst hxy
          have cg := GGet_calls gb mb hb 70 m V ((k / 8 : Nat) : Int) ((k % 8 : Nat) : Int) w6 _ _ hH6
          rw [hgy] at cg
          rw [Int.natCast_ediv, Int.natCast_emod] at cg
          have CG := hid cg
          obtain ⟨b, o, rfl, hbl, hc⟩ := HSU.out.mem (by omega)
          have cx := ArgRow.later hbl hc hB6 k (u64s_get hx)
          clear cg hx hf hy hgy hc
          have e9 : (y != y) = false := by simp
          go_wp2_with fail
          refine CG.out.mono ?_
          rintro e w' ⟨rfl, rfl⟩
          go_wp2_with fail
          go_roundw
          case rel => exact ⟨k + 1, by omega, by go_num, trivial⟩
          case measure => simp [intOf] <;> omega
        · obtain rfl : k = ws.length := by omega
          have HSW : Hid (SrcU w6 oa ws) := hid (by
            obtain ⟨h1, h2⟩ := HSU.out
            refine ⟨h1, fun h0 => ?_⟩
            obtain ⟨b, o, ha, hlt, hc⟩ := h2 h0
            exact ⟨b, o, ha, Nat.lt_of_lt_of_le hlt hB6.size, fun j u hj => ArgRow.later hlt hc hB6 j hj⟩)
          clear hk hlt
          go_wp2_with fail
          refine (GAll_calls gb mb hb 70 m V HIN.out w6 _ _ hH6).mono ?_
          rintro e w7 ⟨v7, rfl, hH7, hB7'⟩
          have hB7 := hB6.trans hB7'
          obtain ⟨a7, c7, rfl, _, _, _⟩ := hH7.row_form [] _
          rw [HALL.out] at hH7
          have cw := SameWords_lenL a7 oa (m.length * 8) ws.length c7 ocap ws ws w7 (srcu_row [] _ hH7 HLEN.out.symm) (by
            obtain ⟨h1, h2⟩ := HSU.out
            refine ⟨h1, fun h0 => ?_⟩
            obtain ⟨b, o, ha, hlt, hc⟩ := h2 h0
            exact ⟨b, o, ha, Nat.lt_of_lt_of_le hlt hB7.size, fun j u hj => ArgRow.later hlt hc hB7 j hj⟩) HLEN.out.symm rfl
          rw [show (ws == ws) = true from by simp] at cw
          have CW := hid cw
          clear cw
          go_wp2_with fail
          refine (keeps CW.out hH7).mono ?_
          rintro e w8 ⟨rfl, _, hB8⟩
          go_wp2_with fail
          go_ret
          exact ⟨rfl, hB7.trans hB8⟩
    · have hd : decide (ws.length = m.length * 8) = false := decide_eq_false hlen
      rw [hd] at CL
      have e7 : ((ws.length : Int) == 8 * (m.length : Int)) = false := by rw [beq_eq_false_iff_ne]; omega
      have e8 : ((ws.length : Int) != 8 * (m.length : Int)) = true := by simp; omega
      have hg : gLoad W 70 m ws = W := by unfold gLoad; rw [if_neg hlen]
      rw [hg] at CL
      have HGL := hid (gAll_length HW.out HIN.out)
      clear hd hlen hg
      go_wp2_with fail
      refine CL.out.mono ?_
      rintro e w6 ⟨rfl, hH6, hB6⟩
      have hB6 := hB5.trans hB6
      clear CL hH5 hB5
      go_wp2_with fail
      refine (GAll_calls gb mb hb 70 m W HIN.out w6 _ _ hH6).mono ?_
      rintro e w7 ⟨v7, rfl, hH7, hB7⟩
      have hB7 := hB6.trans hB7
      obtain ⟨a7, c7, rfl, _, _, _⟩ := hH7.row_form [] _
      have cw := SameWords_lenL a7 a5 (m.length * 8) (m.length * 8) c7 c5 (gAll W 70 m) (gAll W 70 m) w7 (srcu_row [] _ hH7 HGL.out.symm) (srcu_row [_, _, _, _] _ hH7 HGL.out.symm) HGL.out.symm HGL.out.symm
      rw [show (gAll W 70 m == gAll W 70 m) = true from by simp] at cw
      have CW := hid cw
      clear cw
      go_wp2_with fail
      refine (keeps CW.out hH7).mono ?_
      rintro e w8 ⟨rfl, _, hB8⟩
      go_wp2_with fail
      go_ret
      exact ⟨rfl, hB7.trans hB8⟩
  · refine (New_no hgk hsrc hH2).mono ?_
    rintro e w3 ⟨rfl, hH3, hB3⟩
    have hB3 := hB2.trans hB3
    clear hgk hsrc
    go_wp2_with fail
    go_ret
    exact ⟨rfl, hB3⟩

end Go.Proofs.Ytlkjccchlmhchaa
