/-
  GuestMaps: two guests of one host, the second one's map that of the first one turned around, have the same frames, in the other order.
-/
import Derived.Test.YtlkjccchlmhchaaGuestPlain
import Derived.StillTailTactics
namespace Go.Proofs.Ytlkjccchlmhchaa
open Go.RowKit
set_option linter.unusedVariables false
set_option linter.unusedSimpArgs false

/-- The last k, turned around. -/
def turned (l : List Int) : Nat → List Int
  | 0 => []
  | k + 1 => turned l k ++ [l.getD (l.length - 1 - k) 0]
theorem turned_eq (l : List Int) : ∀ k, k ≤ l.length → turned l k = l.reverse.take k
  | 0, _ => by simp [turned]
  | k + 1, hk => by
    rw [turned, turned_eq l k (by omega), List.take_add_one]
    congr 1
    have e : l.reverse[k]? = some (l.getD (l.length - 1 - k) 0) := by
      rw [List.getElem?_reverse (by omega)]
      have h : l.length - 1 - k < l.length := by omega
      simp [List.getD, List.getElem?_eq_getElem h]
    rw [e]
    rfl
theorem gok_reverse (l : List Int) (frames : Int) : gok l.reverse frames ↔ gok l frames := by
  have h : ∀ l : List Int, l.Nodup → l.reverse.Nodup := fun l h => by
    refine List.pairwise_reverse.2 (List.Pairwise.imp (fun h e => h e.symm) h)
  have h2 : l.reverse.Nodup ↔ l.Nodup := ⟨fun hr => by have := h _ hr; rwa [List.reverse_reverse] at this, h l⟩
  unfold gok
  rw [h2]
  simp
theorem Has.swap5 {w : World} {B : Nat} {a b c d e : Asr} {X : List Asr} (h : Has w B (a :: b :: c :: d :: e :: X)) : Has w B (d :: e :: c :: a :: b :: X) := by
  have h1 := Has.front [_, _] _ h
  have h2 := Has.front [_, _, _, _] _ h1
  exact Has.front [_, _, _, _] _ h2

set_option maxHeartbeats 2000000 in
set_option maxRecDepth 100000 in
theorem GuestMaps_walk (ma : Option Addr) (mlen mcap : Nat) (m : List Int) (oa : Option Addr) (olen ocap : Nat) (l : List FOp) (w : World)
    (hM : ArgRow w 1 ma mlen (m.map (Value.int .i64))) (hMw : ∀ x ∈ m, (Lit.int .i64 x).wf = true) (hA : ArgRow w 5 oa olen (l.flatMap opC)) (hl : ∀ x ∈ l, GOk w x) :
    Calls Try.prog 6 #[.slice ma mlen mcap, .slice oa olen ocap] w fun e w' => e = .returned (.bool true) ∧ Below w.heap.size w w' := by
  obtain rfl : m.length = mlen := by have := hM.lc; simpa using this
  obtain rfl := ops_len hA
  obtain ⟨i0, hi, hz0, hz1, hz2⟩ := info_parts infoInt
  have hH0 : Has w w.heap.size [] := Has.nil (Nat.le_refl _)
  have HM := hid hM
  have HMW := hid hMw
  have HA := hid hA
  have HOK := hid hl
  have hol := hA.small
  have hml := hM.small
  clear hM hMw hA hl
  go_enter Try.func6, Try.ntmps6
  go_wp2_with fail
  refine (head_true w _ [] hH0).mono ?_
  rintro e w1 ⟨_, rfl, hH1, hB1⟩
  go_wp2_with fail
  refine (MemNew_yes 40 (by decide) (by decide) w1 _ _ hH1).mono ?_
  rintro e w2 ⟨hb, rfl, hH2, hB2⟩
  have hB2 := hB1.trans hB2
  clear hH0 hH1 hB1
  by_cases hbig : 900 ≤ m.length
  · have e1 : decide (m.length < 900) = false := by rw [decide_eq_false_iff_not]; omega
    have e2 : decide ((m.length : Int) < 900) = false := by rw [decide_eq_false_iff_not]; omega
    have hno : ¬ gok m (40 : Int) := fun h => by have := h.2.1; omega
    go_wp2_with fail
    go_loopw [7, 8] (fun bk i wr => bk = .slice none 0 0 ∧ i = .int .i64 ((m.length : Int) - 1) ∧ w2 = wr) (fun _ _ _ => 0)
    case atStart => exact ⟨rfl, rfl, rfl⟩
    case round =>
      obtain ⟨rfl, rfl, rfl⟩ := hrel
      have CN := hid (New_no (cap := mcap) hno (HM.out.src HMW.out hB2) hH2)
      clear hno
      go_wp2_with fail
      refine CN.out.mono ?_
      rintro e w3 ⟨rfl, hH3, hB3⟩
      have hB3 := hB2.trans hB3
      have CN2 := hid (New_no (l := []) (cap := 0) (frames := 40) (fun h => by have := h.1; simp at this) (src_nil w3) hH3)
      go_wp2_with fail
      refine CN2.out.mono ?_
      rintro e w4 ⟨rfl, hH4, hB4⟩
      have hB4 := hB3.trans hB4
      go_wp2_with fail
      go_ret
      exact ⟨rfl, hB4⟩
  have e1 : decide (m.length < 900) = true := by rw [decide_eq_true_eq]; omega
  have e2 : decide ((m.length : Int) < 900) = true := by rw [decide_eq_true_eq]; omega
  have hR := hH2.nilrow 3 1
  go_wp2_with fail
  go_loopw [7, 8] (fun bk i wr => ∃ (k : Nat) (z : Int) (v : Value), k ≤ m.length ∧ z = (m.length : Int) - 1 - k ∧ i = .int .i64 z ∧ bk = v ∧ Has wr w.heap.size [row 3 1 v k ((turned m k).map (Value.int .i64)), MemA hb 40 (List.replicate (40 * 8) 0)] ∧ Below w.heap.size w wr) (fun _ i _ => (intOf i + 1).toNat)
  case atStart => exact ⟨0, _, .slice none 0 0, by omega, by omega, rfl, rfl, hR, hB2⟩
  case round =>
    obtain ⟨k, z, v, hk, hz, rfl, rfl, hHr, hBr⟩ := hrel
    clear hR hH2 hB2
    by_cases hlt : k < m.length
    · obtain ⟨j, hj⟩ : ∃ j, j = m.length - 1 - k := ⟨_, rfl⟩
      obtain rfl : z = (j : Int) := by omega
      obtain ⟨x, hx⟩ : ∃ x, m[j]? = some x := ⟨m[j], List.getElem?_eq_getElem (by omega)⟩
      have hjm : j < m.length := by omega
      obtain ⟨gb, o, rfl, _, _⟩ := HM.out.mem (by omega)
      have cx := HM.out.int_at hBr rfl hx
      have HT : Hid (turned m (k + 1) = turned m k ++ [x]) := hid (by rw [turned, ← hj]; simp [List.getD, hx])
      obtain ⟨ao, cp, rfl, _, _, _⟩ := hHr.row_form [] _
      have e3 : decide (0 ≤ (j : Int)) = true := by rw [decide_eq_true_eq]; omega
      have HJ := hid hj
      clear hx hj hz
      go_wp2_with (at_builtin; refine wpList_append_row [] _ (hHr.alloc _) rfl _ _ 27 rfl i0 (.int .i64 0) 8 Try.underlying27 hi hz0 hz1 hz2 rfl (by decide) rfl ⟨wr.heap.size, 0, none⟩ 1 1 [.int .i64 x] rfl rfl (cell_one_new _ _ _) (by simp [Value.oneCell']) (by decide) (by unfold maxLen; omega) (by omega) ?_; intro g2 cap2 w5 hH5 hB5)
      go_roundw
      case rel => exact ⟨k + 1, (j : Int) - 1, _, by omega, by have := HJ.out; omega, rfl, rfl, by rw [HT.out]; simpa using hH5, hBr.trans ((below_new (Below.refl _ _) hHr _).trans hB5)⟩
      case measure => simp [intOf] <;> omega
    · obtain rfl : k = m.length := by omega
      have e3 : decide (0 ≤ z) = false := by rw [decide_eq_false_iff_not]; omega
      obtain ⟨ao, cp, rfl, _, _, hao⟩ := hHr.row_form [] _
      have hturn : turned m m.length = m.reverse := by rw [turned_eq m _ (Nat.le_refl _), List.take_of_length_le (by simp)]
      rw [hturn] at hHr
      obtain ⟨wo, rfl⟩ : ∃ wo : World, wo = wr := ⟨_, rfl⟩
      have hsrc := HM.out.src HMW.out hBr
      by_cases hgk : gok m (40 : Int)
      · have hm1 := hgk.1
        have hm2 := hgk.2.1
        obtain ⟨gbk, rfl⟩ := hao (by omega)
        have HIN : Hid (hosts 40 m) := hid (hosts_of hgk)
        have HIR : Hid (hosts 40 m.reverse) := hid (fun h hh => hosts_of hgk h (by simpa using hh))
        have HGR := hid ((gok_reverse m 40).2 hgk)
        have CN := hid (New_yes (cap := mcap) hgk hsrc hHr)
        obtain ⟨mr, hmr⟩ : ∃ mr, m.reverse = mr := ⟨_, rfl⟩
        have hmrl : mr.length = m.length := by rw [← hmr]; simp
        have HMR := hid hmr
        have HML := hid hmrl
        have HWR : Hid (∀ x ∈ mr, (Lit.int .i64 x).wf = true) := hid (fun x hx => HMW.out x (by rw [← hmr] at hx; simpa using hx))
        clear hgk hsrc hturn hz hk hlt hbig hmr hmrl hao
        go_wp2_with fail
        refine CN.out.mono ?_
        rintro e w3 ⟨mb, rfl, hH3, hB3⟩
        have hB3 := hBr.trans hB3
        rw [HMR.out, ← HML.out] at hH3
        rw [HMR.out] at HIR HGR
        have cn := New_yes (cap := cp) HGR.out (src_row [_] _ hH3 (by rw [HML.out]; omega) HWR.out) hH3
        rw [HML.out] at cn
        have CN2 := hid cn
        clear CN hHr hBr cn
        go_wp2_with fail
        refine CN2.out.mono ?_
        rintro e w4 ⟨qb, rfl, hH4, hB4⟩
        have hB4 := hB3.trans hB4
        clear CN2 hB3
        go_wp2_with fail
        refine (Great_calls oa ocap l w4 w HA.out hB4 HOK.out).mono ?_
        rintro e w5 ⟨⟨gr, rfl⟩, rfl⟩
        cases gr with
        | true =>
          go_wp2_with fail
          go_ret
          exact ⟨rfl, hB4⟩
        | false =>
          go_wp2_with fail
          refine (GuestNew_calls mb hb w4 _ _ hH4).mono ?_
          rintro e w5 ⟨xb, rfl, hH5, hB5⟩
          have hB5 := hB4.trans hB5
          go_wp2_with fail
          refine (GuestNew_calls qb hb w5 _ _ hH5).mono ?_
          rintro e w6 ⟨yb, rfl, hH6, hB6⟩
          have hB6 := hB5.trans hB6
          have hH7 : Has w6 w.heap.size [gstB xb mb hb, GmapA mb m, MemA hb 40 (List.replicate (40 * 8) 0), gstB yb qb hb, GmapA qb mr] := by
            have h1 := (hH6.front [_, _, _, _] _).drop
            have h2 := h1.front [_, _, _, _] _
            have h3 := h2.front [_, _, _, _] _
            exact h3.front [_, _, _] _
          clear hH4 hB4 hH5 hB5 hH6 hH3
          go_wp2_with fail
          go_loopw [13] (fun i wr => ∃ (k : Nat) (W : List Int), k ≤ l.length ∧ i = .int .i64 k ∧ Has wr w.heap.size [gstB xb mb hb, GmapA mb m, MemA hb 40 W, gstB yb qb hb, GmapA qb mr] ∧ Below w.heap.size w wr) (fun i _ => l.length - (intOf i).toNat)
          case atStart => exact ⟨0, _, by omega, rfl, hH7, hB6⟩
          case round =>
            obtain ⟨k, W, hk, rfl, hHr, hBr⟩ := hrel
            clear hH7 hB6
            by_cases hlt : k < l.length
            · obtain ⟨x, hx⟩ : ∃ x, l[k]? = some x := ⟨_, List.getElem?_eq_getElem hlt⟩
              obtain ⟨b, o, rfl, _, _⟩ := HA.out.mem (by omega)
              have k1 := ops_at HA.out hBr rfl hx 1 (u := .int .i64 x.F) rfl
              have k2 := ops_at HA.out hBr rfl hx 2 (u := .int .i64 x.I) rfl
              have k3 := ops_at HA.out hBr rfl hx 3 (u := .int .u64 x.V) rfl
              have hHd := hHr.drew
              have hBd : Below w.heap.size w wr.drew := hBr.drew
              have CS := hid (GSet_calls xb mb hb 40 m W x.F x.I x.V wr.drew _ _ hHd)
              clear hx
              go_wp2_with fail
              go_still_tail 16, (by kernel_rfl)
              change wpList _ _ _ _ _ (wr.drew)
              go_wp2_with (go_at_call 14; refine CS.out.mono ?_; rintro e w5 ⟨rfl, hH5, hB5⟩)
              go_roundw
              case rel => exact ⟨k + 1, _, by omega, by go_num, hH5, hBd.trans hB5⟩
              case measure => simp [intOf] <;> omega
            · obtain rfl : k = l.length := by omega
              have HW : Hid (W.length = 40 * 8) := hid (MemA.fits (hHr.front [_, _] _)).2.2
              obtain ⟨wp, rfl⟩ : ∃ wp : World, wp = wr := ⟨_, rfl⟩
              clear hlt hk
              go_wp2_with fail
              go_loopg [14] m.length (fun gh i wr => ∃ g : Nat, gh + g = m.length ∧ i = .int .i64 g ∧ wp = wr)
              case atStart => exact ⟨0, by omega, rfl, rfl⟩
              case round =>
                obtain ⟨gr, rfl⟩ : ∃ gr, gr = gk := ⟨gk, rfl⟩
                obtain ⟨g, hg, rfl, rfl⟩ := hrel
                have HG := hid hg
                by_cases hgm : g < m.length
                · clear hg
                  go_wp2_with fail
                  go_loopg [15] 8 (fun gh i wr => ∃ j : Nat, gh + j = 8 ∧ i = .int .i64 j ∧ wp = wr)
                  case atStart => exact ⟨0, by omega, rfl, rfl⟩
                  case round =>
                    obtain ⟨gj, rfl⟩ : ∃ gj, gj = gk := ⟨gk, rfl⟩
                    obtain ⟨j, hj, rfl, rfl⟩ := hrel
                    have HJ := hid hj
                    clear hj
                    by_cases hj8 : j < 8
                    · obtain ⟨f, x, _, _, _, _, hgx⟩ := gGet_at HW.out HIN.out hgm hj8
                      have cg := GGet_calls xb mb hb 40 m W g j wp _ _ hHr
                      rw [hgx] at cg
                      have cy := GGet_calls yb qb hb 40 mr W ((m.length : Int) - 1 - g) j wp _ _ hHr.swap5
                      rw [← HMR.out, gGet_reverse W 40 m hgm, hgx] at cy
                      have CG := hid cg
                      have CY := hid cy
                      have e5 : (x != x) = false := by simp
                      clear cg cy hgx
                      go_wp2_with fail
                      refine CG.out.mono ?_
                      rintro e w' ⟨rfl, rfl⟩
                      go_wp2_with fail
                      refine CY.out.mono ?_
                      rintro e w' ⟨rfl, rfl⟩
                      go_wp2_with fail
                      go_roundg (gj - 1)
                      case measure => have := HJ.out; omega
                      case rel => exact ⟨j + 1, by have := HJ.out; omega, by go_num, rfl⟩
                    · obtain rfl : j = 8 := by have := HJ.out; omega
                      go_wp2_with fail
                      go_roundg (gr - 1)
                      case measure => have := HG.out; omega
                      case rel => exact ⟨g + 1, by have := HG.out; omega, by go_num, rfl⟩
                · obtain rfl : g = m.length := by omega
                  clear hg
                  go_wp2_with fail
                  refine (GFrames_calls xb mb hb m wp _ _ (hHr.perm (List.Perm.refl _))).mono ?_
                  rintro e w' ⟨rfl, rfl⟩
                  have cf := GFrames_calls yb qb hb mr wp _ _ hHr.swap5
                  rw [HML.out] at cf
                  have CF := hid cf
                  clear cf
                  go_wp2_with fail
                  refine CF.out.mono ?_
                  rintro e w' ⟨rfl, rfl⟩
                  go_wp2_with fail
                  go_ret
                  exact ⟨rfl, hBr⟩
      · have CN := hid (New_no (cap := mcap) hgk hsrc hHr)
        obtain ⟨mr, hmr⟩ : ∃ mr, m.reverse = mr := ⟨_, rfl⟩
        have HNO : Hid (¬ gok mr (40 : Int)) := hid (fun h => hgk ((gok_reverse m 40).1 (by rw [hmr]; exact h)))
        have hmrl : mr.length = m.length := by rw [← hmr]; simp
        have HML := hid hmrl
        have HWR : Hid (∀ x ∈ mr, (Lit.int .i64 x).wf = true) := hid (fun x hx => HMW.out x (by rw [← hmr] at hx; simpa using hx))
        have HMR := hid hmr
        have HAO := hid hao
        clear hgk hsrc hturn hz hk hlt hbig hmr hmrl hao
        go_wp2_with fail
        refine CN.out.mono ?_
        rintro e w3 ⟨rfl, hH3, hB3⟩
        have hB3 := hBr.trans hB3
        rw [HMR.out, ← HML.out] at hH3
        have hs2 : Src w3 ao mr := by
          by_cases h0 : 0 < mr.length
          · obtain ⟨gg, rfl⟩ := HAO.out (by have := HML.out; omega)
            exact src_row [] _ hH3 (by rw [HML.out]; omega) HWR.out
          · exact ⟨by omega, HWR.out, fun h => absurd h h0⟩
        have cn := New_no (cap := cp) HNO.out hs2 hH3
        rw [HML.out] at cn
        have CN2 := hid cn
        clear CN hHr hBr cn
        go_wp2_with fail
        refine CN2.out.mono ?_
        rintro e w4 ⟨rfl, hH4, hB4⟩
        have hB4 := hB3.trans hB4
        go_wp2_with fail
        go_ret
        exact ⟨rfl, hB4⟩

end Go.Proofs.Ytlkjccchlmhchaa
