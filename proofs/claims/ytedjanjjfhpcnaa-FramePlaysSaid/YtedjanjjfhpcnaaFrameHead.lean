/-
  The live question of layer 1; SameWords of the document's answer.
-/
import Derived.Test.YtedjanjjfhpcnaaFrameS
namespace Go.Proofs.Ytedjanjjfhpcnaa
open Go.RowKit
set_option linter.unusedVariables false
set_option linter.unusedSimpArgs false

theorem MemNew_yes (n : Nat) (h1 : 1 ≤ n) (h2 : n ≤ 256) (w : World) (B : Nat) (X : List Asr) (hH : Has w B X) :
    Calls Try.prog 11 #[.int .i64 n] w fun e w' => ∃ b, e = .returned (.pointer (some ⟨b, 0, none⟩)) ∧ Has w' B (MemA b n (List.replicate (n * 8) 0) :: X) ∧ Below B w w' := by
  refine (MemNew_calls n w B X hH).mono ?_
  rintro e w' (⟨h, _⟩ | ⟨b, m, hm, _, _, he, hh, hb⟩)
  · exact absurd ⟨by omega, by omega⟩ h
  · obtain rfl : n = m := by omega
    exact ⟨b, he, hh, hb⟩
theorem MemNew_no (f : Int) (h : ¬ (1 ≤ f ∧ f ≤ 256)) (w : World) (B : Nat) (X : List Asr) (hH : Has w B X) :
    Calls Try.prog 11 #[.int .i64 f] w fun e w' => e = .returned (.pointer none) ∧ Has w' B X ∧ Below B w w' := by
  refine (MemNew_calls f w B X hH).mono ?_
  rintro e w' (⟨_, he⟩ | ⟨b, m, hm, h1, h2, _⟩)
  · exact he
  · exact absurd ⟨by omega, by omega⟩ h

theorem srcu_nil (w : World) : SrcU w none [] := ⟨by simp, by simp⟩
/-- A row of the call's own serves as words. -/
theorem srcu_row {w : World} {B cap n : Nat} {ao : Option Addr} {T : TypeId} {l : List Int} (L1 L2 : List Asr) (hH : Has w B (L1 ++ row T 1 (.slice ao n cap) n (u64s l) :: L2)) (hn : n = l.length) : SrcU w ao l := by
  subst hn
  rcases hH.row_shape L1 L2 with ⟨h, h0⟩ | ⟨g', cap', h, h1, h2, _, hg⟩
  · exact ⟨by omega, by omega⟩
  · cases h
    refine ⟨by unfold maxLen at h2; omega, fun _ => ⟨g', 0, rfl, hg, fun j u hj => ?_⟩⟩
    rw [Nat.zero_add]
    exact hH.row_cell L1 L2 j hj
theorem SrcU.later {w w' : World} {a : Option Addr} {l : List Int} (h : SrcU w a l) (hb : Below w.heap.size w w') : SrcU w' a l :=
  ⟨h.small, fun h0 => by
    obtain ⟨b, o, ha, hlt, hc⟩ := h.mem h0
    exact ⟨b, o, ha, Nat.lt_of_lt_of_le hlt hb.size, fun j u hj => ArgRow.later hlt hc hb j hj⟩⟩
theorem SrcU.at {w : World} {a : Option Addr} {l : List Int} (h : SrcU w a l) {b o : Nat} (ha : a = some ⟨b, o, none⟩) {k : Nat} {x : Int} (hk : l[k]? = some x) : w.cell? ⟨b, o + k, none⟩ = some (.int .u64 x) := by
  have := (List.getElem?_eq_some_iff.1 hk).1
  obtain ⟨b', o', e, hlt, hc⟩ := h.mem (by omega)
  rw [ha] at e
  injection e with e
  injection e with e1 e2 e3
  subst e1 e2
  exact hc k _ (u64s_get hk)

set_option maxHeartbeats 1000000 in
set_option maxRecDepth 100000 in
/-- SameWords. -/
theorem SameWords_calls (a b : Option Addr) (ca cb : Nat) (l m : List Int) (w : World) (h1 : SrcU w a l) (h2 : SrcU w b m) :
    Calls Try.prog 19 #[.slice a l.length ca, .slice b m.length cb] w fun e w' => e = .returned (.bool (l == m)) ∧ Below w.heap.size w w' := by
  have s1 := h1.small
  have s2 := h2.small
  by_cases hn : l.length = m.length
  · have e1 : (l.length == m.length) = true := by rw [beq_iff_eq]; exact hn
    have H1 := hid h1
    have H2 := hid h2
    rw [← hn]
    have HN := hid hn
    clear h1 h2 hn e1 s2
    go_enter Try.func19, Try.ntmps19
    go_wp2_with fail
    go_loopw [5] (fun i wr => ∃ k : Nat, k ≤ l.length ∧ i = .int .i64 k ∧ Below w.heap.size w wr ∧ ∀ j, j < k → l[j]? = m[j]?) (fun i _ => l.length - (intOf i).toNat)
    case atStart => exact ⟨0, by omega, rfl, Below.refl _ _, fun j h => by omega⟩
    case round =>
      obtain ⟨k, hk, rfl, hBr, hall⟩ := hrel
      have HALL := hid hall
      clear hall
      by_cases hlt : k < l.length
      · obtain ⟨x, hx⟩ : ∃ x, l[k]? = some x := ⟨l[k], List.getElem?_eq_getElem hlt⟩
        obtain ⟨y, hy⟩ : ∃ y, m[k]? = some y := ⟨_, List.getElem?_eq_getElem (by have := HN.out; omega)⟩
        obtain ⟨ba, oa, rfl, _, _⟩ := H1.out.mem (by omega)
        obtain ⟨bb, ob, rfl, _, _⟩ := H2.out.mem (by have := HN.out; omega)
        have c1 := (H1.out.later hBr).at rfl hx
        have c2 := (H2.out.later hBr).at rfl hy
        by_cases hxy : x = y
        · subst hxy
          have HX := hid (And.intro hx hy)
          clear hx hy
          go_wp2_with fail
          go_quiet (fail)
          have hBq := below_drewN hBr nq
          go_wp2_with fail
          go_roundw
          case rel => exact ⟨k + 1, by omega, by go_num, hBq, fun j hj => by
            by_cases e : j = k
            · subst e; rw [HX.out.1, HX.out.2]
            · exact HALL.out j (by omega)⟩
          case measure => simp [intOf] <;> omega
        · have e1 : (x == y) = false := by rw [beq_eq_false_iff_ne]; exact hxy
          have hr : (l == m) = false := by
            rw [beq_eq_false_iff_ne]
            intro e
            rw [e, hy] at hx
            injection hx with hx
            exact hxy hx.symm
          have HR := hid hr
          clear hx hy hxy hr
          go_wp2_with fail
          go_quiet (fail)
          have hBq := below_drewN hBr nq
          go_wp2_with fail
          go_ret
          exact ⟨by rw [HR.out]; rfl, hBq⟩
      · obtain rfl : k = l.length := by omega
        have hr : (l == m) = true := by
          rw [beq_iff_eq]
          refine List.ext_getElem? fun i => ?_
          by_cases hi : i < l.length
          · exact HALL.out i hi
          · rw [List.getElem?_eq_none (by omega), List.getElem?_eq_none (by have := HN.out; omega)]
        have HR := hid hr
        clear hr
        go_wp2_with fail
        go_ret
        exact ⟨by rw [HR.out]; rfl, hBr⟩
  · have e1 : (l.length == m.length) = false := by rw [beq_eq_false_iff_ne]; exact hn
    have e2 : ((l.length : Int) == (m.length : Int)) = false := by rw [beq_eq_false_iff_ne]; omega
    have hr : (l == m) = false := by
      rw [beq_eq_false_iff_ne]
      intro e
      exact hn (by rw [e])
    rw [hr]
    clear hr h1 h2
    go_enter Try.func19, Try.ntmps19
    go_wp2_with fail
    go_ret
    exact ⟨rfl, Below.refl _ _⟩

/-- The two memories of the live question. -/
def hW0 : List Int := List.replicate (3 * 8) 0
def hW1 : List Int := setW (setW (setW hW0 3 1 7 5) 3 1 8 5) 3 3 0 5

set_option maxHeartbeats 2000000 in
set_option maxRecDepth 100000 in
theorem head_true : Does Try.prog 9 #[] [] (fun _ : Unit => .bool true) (fun _ => []) := by
  intro w B X hH
  have hH0 : Has w B X := hH
  clear hH
  go_enter Try.func9, Try.ntmps9
  go_wp2_with fail
  refine (MemNew_yes 3 (by decide) (by decide) w B X hH0).mono ?_
  rintro e w1 ⟨b, rfl, hH1, hB1⟩
  go_wp2_with fail
  refine (MemNew_yes 3 (by decide) (by decide) w1 B _ hH1).mono ?_
  rintro e w2 ⟨d, rfl, hH2, hB2⟩
  have hB2 := hB1.trans hB2
  clear hH1 hB1 hH0
  go_wp2_with fail
  refine (MemNew_no 0 (by decide) w2 B _ hH2).mono ?_
  rintro e w3 ⟨rfl, hH3, hB3⟩
  have hB3 := hB2.trans hB3
  clear hH2 hB2
  go_wp2_with fail
  refine (MemNew_no 257 (by decide) w3 B _ hH3).mono ?_
  rintro e w4 ⟨rfl, hH4, hB4⟩
  have hB4 := hB3.trans hB4
  clear hH3 hB3
  go_wp2_with fail
  refine (Set_calls b 3 _ 1 7 5 w4 B _ (hH4.front [_] _)).mono ?_
  rintro e w5 ⟨rfl, hH5, hB5⟩
  have hB5 := hB4.trans hB5
  clear hH4 hB4
  rw [show decide (wok 3 1 7) = true from by kernel_rfl]
  go_wp2_with fail
  refine (Set_calls b 3 _ 1 8 5 w5 B _ hH5).mono ?_
  rintro e w6 ⟨rfl, hH6, hB6⟩
  have hB6 := hB5.trans hB6
  clear hH5 hB5
  rw [show decide (wok 3 1 8) = false from by kernel_rfl]
  go_wp2_with fail
  refine (Set_calls b 3 _ 3 0 5 w6 B _ hH6).mono ?_
  rintro e w7 ⟨rfl, hH7, hB7⟩
  have hB7 := hB6.trans hB7
  clear hH6 hB6
  rw [show decide (wok 3 3 0) = false from by kernel_rfl]
  have hH7 : Has w7 B (MemA b 3 hW1 :: MemA d 3 hW0 :: X) := hH7
  have q1 := Get_calls b 3 hW1 1 7 w7 B _ hH7
  rw [show getR hW1 3 1 7 = .tuple #[.int .u64 5, .bool true] from by kernel_rfl] at q1
  have q2 := Get_calls b 3 hW1 (-1) 0 w7 B _ hH7
  rw [show getR hW1 3 (-1) 0 = .tuple #[.int .u64 0, .bool false] from by kernel_rfl] at q2
  have Q1 := hid q1
  have Q2 := hid q2
  clear q1 q2
  go_wp2_with fail
  refine Q1.out.mono ?_
  rintro e w8 ⟨rfl, rfl⟩
  go_wp2_with fail
  refine Q2.out.mono ?_
  rintro e w8 ⟨rfl, rfl⟩
  go_wp2_with fail
  refine (Same_calls b d 3 3 hW1 hW0 w7 B _ hH7).mono ?_
  rintro e w8 ⟨rfl, hH8, hB8⟩
  rw [show (hW1 == hW0) = false from by kernel_rfl]
  have hB8 := hB7.trans hB8
  clear hH7 hB7 Q1 Q2
  go_wp2_with fail
  refine (Frame_calls b 3 hW1 1 w8 B _ hH8).mono ?_
  rintro e w9 ⟨v, rfl, hH9, hB9⟩
  have hB9 := hB8.trans hB9
  clear hH8 hB8
  have hF1 : frameW hW1 3 1 = [0, 0, 0, 0, 0, 0, 0, 5] := by kernel_rfl
  rw [hF1] at hH9
  obtain ⟨ao, cp, rfl, _, _, _⟩ := hH9.row_form [] _
  have hs := srcu_row [] _ hH9 rfl
  go_wp2_with fail
  refine (Fill_calls d 3 hW0 1 ao cp _ w9 hs B _ (hH9.front [_, _] _)).mono ?_
  rintro e w10 ⟨rfl, hH10, hB10⟩
  have hB10 := hB9.trans hB10
  clear hH9 hB9 hs hF1
  have hF2 : fillW hW0 3 1 [0, 0, 0, 0, 0, 0, 0, 5] = hW1 := by kernel_rfl
  rw [hF2] at hH10
  have hH11 : Has w10 B (MemA b 3 hW1 :: MemA d 3 hW1 :: X) := ((hH10.front [_] _).drop).front [_] _
  clear hH10 hF2
  rw [show decide ((0 : Int) ≤ 1 ∧ (1 : Int) < (3 : Nat) ∧ [0, 0, 0, 0, 0, 0, 0, (5 : Int)].length = 8) = true from by kernel_rfl]
  go_wp2_with fail
  refine (Same_calls b d 3 3 hW1 hW1 w10 B _ hH11).mono ?_
  rintro e w12 ⟨rfl, hH12, hB12⟩
  rw [show (hW1 == hW1) = true from by kernel_rfl]
  have hB12 := hB10.trans hB12
  clear hH11 hB10
  go_wp2_with fail
  refine (Fill_calls d 3 hW1 1 none 0 [] w12 (srcu_nil _) B _ (hH12.front [_] _)).mono ?_
  rintro e w13 ⟨rfl, hH13, hB13⟩
  rw [show decide ((0 : Int) ≤ 1 ∧ (1 : Int) < (3 : Nat) ∧ ([] : List Int).length = 8) = false from by kernel_rfl]
  rw [show fillW hW1 3 1 [] = hW1 from by kernel_rfl] at hH13
  have hB13 := hB12.trans hB13
  clear hH12 hB12
  go_wp2_with fail
  refine (Frame_calls b 3 hW1 3 w13 B _ (hH13.front [_] _)).mono ?_
  rintro e w14 ⟨v, rfl, hH14, hB14⟩
  have hB14 := hB13.trans hB14
  clear hH13 hB13
  rw [show frameW hW1 3 3 = [] from by kernel_rfl] at hH14
  obtain ⟨ao, cp, rfl, _, _, _⟩ := hH14.row_form [] _
  go_wp2_with fail
  refine (Frames_calls b 3 hW1 w14 B _ (hH14.front [_] _)).mono ?_
  rintro e w15 ⟨rfl, rfl⟩
  go_wp2_with fail
  go_ret
  exact ⟨(), rfl, hH14.drop.drop.drop, hB14⟩

end Go.Proofs.Ytedjanjjfhpcnaa
