/-
  GmapTurned: a list that is turned around tells each frame of the host in the other place.
-/
import Derived.Test.YtljejmembogioaaGmapArgs0
namespace Go.Proofs.Ytljejmembogioaa
open Go.RowKit
set_option linter.unusedVariables false
set_option linter.unusedSimpArgs false

/-- The last k, turned around. -/
def turned (l : List Int) : Nat → List Int
  | 0 => []
  | k + 1 => turned l k ++ [l.getD (l.length - 1 - k) 0]
theorem turned_eq (l : List Int) : ∀ k, k ≤ l.length → turned l k = l.reverse.take k
  | 0, _ => by simp [turned]
  | k + 1, hk => by
    rw [turned, turned_eq l k (by omega), List.take_add_one]
    congr 1
    have e : l.reverse[k]? = some (l.getD (l.length - 1 - k) 0) := by
      rw [List.getElem?_reverse (by omega)]
      have h : l.length - 1 - k < l.length := by omega
      simp [List.getD, List.getElem?_eq_getElem h]
    rw [e]
    rfl
theorem gok_reverse (l : List Int) (frames : Int) : gok l.reverse frames ↔ gok l frames := by
  have h : ∀ l : List Int, l.Nodup → l.reverse.Nodup := fun l h => by
    refine List.pairwise_reverse.2 (List.Pairwise.imp (fun h e => h e.symm) h)
  have h2 : l.reverse.Nodup ↔ l.Nodup := ⟨fun hr => by have := h _ hr; rwa [List.reverse_reverse] at this, h l⟩
  unfold gok
  rw [h2]
  simp

set_option maxHeartbeats 4000000 in
set_option maxRecDepth 100000 in
theorem GmapTurned_walk (a : Option Addr) (len cap : Nat) (l : List Int) (frames : Int) (w : World) (hA0 : IntsArg w a len cap l) (hl : ∀ x ∈ l, (Lit.int .i64 x).wf = true) (hf : (Lit.int .i64 frames).wf = true) :
    Calls Try.prog 7 #[.slice a len cap, .int .i64 frames] w fun e w' => e = .returned (.bool true) ∧ Below w.heap.size w w' := by
  obtain ⟨hA, hnil⟩ := hA0
  obtain rfl : l.length = len := by have := hA.lc; simpa using this
  clear hnil
  have hH0 : Has w w.heap.size [] := Has.nil (Nat.le_refl _)
  obtain ⟨i0, hi, hz0, hz1, hz2⟩ := info_parts infoInt
  have HA := hid hA
  have HL := hid hl
  clear hA hl
  by_cases hbig : 2000 < l.length
  · have e1 : decide (2000 < l.length) = true := by rw [decide_eq_true_eq]; omega
    go_enter Try.func7, Try.ntmps7
    go_wp2_with fail
    refine (head_true w _ [] hH0).mono ?_
    rintro e w1 ⟨_, rfl, hH1, hB1⟩
    go_wp2_with fail
    go_ret
    exact ⟨rfl, hB1⟩
  · have e1 : decide (2000 < l.length) = false := by rw [decide_eq_false_iff_not]; omega
    go_enter Try.func7, Try.ntmps7
    go_wp2_with fail
    refine (head_true w _ [] hH0).mono ?_
    rintro e w1 ⟨_, rfl, hH1, hB1⟩
    go_wp2_with fail
    have hR := hH1.nilrow 3 1
    go_loopw [6, 7] (fun bk i wr => ∃ (k : Nat) (z : Int) (v : Value), k ≤ l.length ∧ z = (l.length : Int) - 1 - k ∧ i = .int .i64 z ∧ bk = v ∧ Has wr w.heap.size [row 3 1 v k ((turned l k).map (Value.int .i64))] ∧ Below w.heap.size w wr) (fun _ i _ => (intOf i + 1).toNat)
    case atStart => exact ⟨0, _, .slice none 0 0, by omega, by omega, rfl, rfl, hR, hB1⟩
    case round =>
      obtain ⟨k, z, v, hk, hz, rfl, rfl, hHr, hBr⟩ := hrel
      clear hH1 hB1 hR hH0
      by_cases hlt : k < l.length
      · obtain ⟨j, hj⟩ : ∃ j, j = l.length - 1 - k := ⟨_, rfl⟩
        obtain rfl : z = (j : Int) := by omega
        obtain ⟨x, hx⟩ : ∃ x, l[j]? = some x := ⟨l[j], List.getElem?_eq_getElem (by omega)⟩
        obtain ⟨gb, o, rfl, hgb, hc⟩ := HA.out.mem (by omega)
        have cx : wr.cell? ⟨gb, o + j, none⟩ = some (.int .i64 x) := HA.out.int_at hBr rfl hx
        have ht : turned l (k + 1) = turned l k ++ [x] := by simp [turned, List.getD, ← hj, hx]
        have HT := hid ht
        have hjl : j < l.length := by omega
        have hxs : (turned l k).length ≤ 2000 := by rw [turned_eq l k hk]; simp; omega
        have HJ := hid (show k + j + 1 = l.length by omega)
        have hk1 : k < 2000 := by omega
        clear ht hx hc hj hz hlt
        obtain ⟨ao, cp, rfl, _, _, _⟩ := hHr.row_form [] _
        go_wp2_with (at_builtin; refine wpList_append_row [] _ (hHr.alloc _) rfl _ _ 22 rfl i0 (.int .i64 0) 8 Try.underlying22 hi hz0 hz1 hz2 rfl (by decide) rfl ⟨wr.heap.size, 0, none⟩ 1 1 [.int .i64 x] rfl rfl (cell_one_new _ _ _) (by simp [Value.oneCell']) (by decide) (by unfold maxLen; omega) (by omega) ?_; intro g2 cap2 w2 hH2 hB2)
        go_roundw
        case rel => exact ⟨k + 1, (j : Int) - 1, _, by have := HJ.out; omega, by have := HJ.out; omega, by go_num, rfl, by rw [HT.out]; simpa using hH2, hBr.trans ((below_new (Below.refl _ _) hHr _).trans hB2)⟩
        case measure => simp [intOf] <;> omega
      · obtain rfl : k = l.length := by omega
        obtain rfl : z = -1 := by omega
        have hRl : (turned l l.length).length = l.length := by rw [turned_eq l _ (Nat.le_refl _)]; simp
        have hRr : turned l l.length = l.reverse := by rw [turned_eq l _ (Nat.le_refl _), ← List.length_reverse, List.take_length]
        have HRR := hid hRr
        have hRw : ∀ x ∈ turned l l.length, (Lit.int .i64 x).wf = true := fun x hx => HL.out x (by rw [HRR.out] at hx; simpa using hx)
        clear hRr
        generalize turned l l.length = R at *
        obtain ⟨ao, cp, rfl, hsr⟩ : ∃ ao cp, u6 = .slice ao l.length cp ∧ ∀ (W : World) (L1 L2 : List Asr), Has W w.heap.size (L1 ++ row 3 1 u6 l.length (R.map (Value.int .i64)) :: L2) → Src W ao R := by
          rcases hHr.row_shape [] _ with ⟨e, h0⟩ | ⟨g, cp, e, _, _, _, _⟩
          · refine ⟨none, 0, by rw [e, h0], fun W L1 L2 h => ?_⟩
            obtain rfl : R = [] := List.eq_nil_of_length_eq_zero (by omega)
            exact src_nil W
          · refine ⟨some ⟨g, 0, none⟩, cp, e, fun W L1 L2 h => ?_⟩
            rw [e, ← hRl] at h
            exact src_row L1 L2 h (by omega) hRw
        have HSR := hid hsr
        clear hsr hi hz0 hz1 hz2
        go_wp2_with fail
        refine (New_calls a cap l frames _ (HA.out.src HL.out hBr) hHr).mono ?_
        rintro e w3 (⟨hn, rfl, hH3, hB3⟩ | ⟨hg, b, rfl, hH3, hB3⟩)
        · have HNO := hid hn
          have hB3 := hBr.trans hB3
          clear hn
          go_wp2_with fail
          rw [← hRl]
          have hno2 : ¬ gok R frames := fun h => HNO.out (by rw [HRR.out] at h; exact (gok_reverse l frames).1 h)
          refine (New_no hno2 (HSR.out _ [] _ hH3) hH3).mono ?_
          rintro e w4 ⟨rfl, hH4, hB4⟩
          go_wp2_with fail
          go_ret
          exact ⟨rfl, hB3.trans hB4⟩
        · have HG := hid hg
          have hB3 := hBr.trans hB3
          clear hg
          go_wp2_with fail
          have hyes : gok R frames := by rw [HRR.out]; exact (gok_reverse l frames).2 HG.out
          have hnew := New_yes (cap := cp) hyes (HSR.out _ [_] _ hH3) hH3
          rw [hRl] at hnew
          refine hnew.mono ?_
          rintro e w4 ⟨d, rfl, hH4, hB4⟩
          have hB4 := hB3.trans hB4
          have hnd := HG.out.2.2.2.2.2
          have hndR : R.Nodup := hyes.2.2.2.2.2
          have hl64 := HG.out.2.1
          have HRL := hid hRl
          have HND := hid hnd
          have HNDR := hid hndR
          clear hnew hyes hRw hRl hnd hndR hHr hBr hH3 hB3
          go_wp2_with fail
          obtain ⟨wo, rfl⟩ : ∃ wo : World, wo = wr := ⟨_, rfl⟩
          go_loopw [10] (fun i wr => ∃ (k : Nat), k ≤ l.length ∧ i = .int .i64 k ∧ Has wr w.heap.size (GmapA d R :: GmapA b l :: [row 3 1 (.slice ao l.length cp) l.length (R.map (Value.int .i64))]) ∧ Below w.heap.size w wr) (fun i _ => l.length - (intOf i).toNat)
          case atStart => exact ⟨0, by omega, rfl, hH4, hB4⟩
          case round =>
            clear hH4 hB4
            obtain ⟨k, hk2, rfl, hHr, hBr⟩ := hrel
            by_cases hlt2 : k < l.length
            · obtain ⟨x, hx⟩ : ∃ x, l[k]? = some x := ⟨l[k], List.getElem?_eq_getElem hlt2⟩
              obtain ⟨gb, o, rfl, hgb, hc⟩ := HA.out.mem (by omega)
              have cx : wr.cell? ⟨gb, o + k, none⟩ = some (.int .i64 x) := HA.out.int_at hBr rfl hx
              have hw := HL.out x (List.mem_of_getElem? hx)
              have r1 : guestR l x = .tuple #[.int .i64 (k : Int), .bool true] := by
                have h := (gmG_at HND.out l.length (Nat.le_refl _) x k).2 ⟨k, hlt2, rfl, hx⟩
                simp [guestR, h]
              have r2 : guestR R x = .tuple #[.int .i64 ((l.length : Int) - 1 - k), .bool true] := by
                have h := (gmG_at HNDR.out R.length (Nat.le_refl _) x ((l.length : Int) - 1 - k)).2 ⟨l.length - 1 - k, by have := HRL.out; omega, by omega, by
                  rw [HRR.out, List.getElem?_reverse (by omega), show l.length - 1 - (l.length - 1 - k) = k from by omega]
                  exact hx⟩
                simp [guestR, h]
              have q1 := Guest_calls b l x hw _ _ _ (hHr.front [_] _)
              have q2 := Guest_calls d R x hw _ _ _ hHr
              rw [r1] at q1
              rw [r2] at q2
              have Q1 := hid q1
              have Q2 := hid q2
              have es : (k : Int) + ((l.length : Int) - 1 - k) = (l.length : Int) - 1 := by omega
              generalize hz2 : (l.length : Int) - 1 - (k : Int) = z2 at *
              clear q1 q2 r1 r2 hx hc hz hz2
              go_wp2_with fail
              refine Q1.out.mono ?_
              rintro e w6 ⟨rfl, rfl⟩
              go_wp2_with fail
              refine Q2.out.mono ?_
              rintro e w6 ⟨rfl, rfl⟩
              go_wp2_with fail
              go_roundw
              case rel => exact ⟨k + 1, by omega, by go_num, hHr, hBr⟩
              case measure => simp [intOf] <;> omega
            · obtain rfl : k = l.length := by omega
              go_wp2_with fail
              go_ret
              exact ⟨rfl, hBr⟩

end Go.Proofs.Ytljejmembogioaa
