/-
  Package store: all pages, and those of a table.
-/
import Derived.Test.YteeapkndappnoaaStoD
import Derived.Test.YteeapkndappnoaaReg
namespace Go.Proofs.Yteeapkndappnoaa
open Go.RowKit Go.Shelf
set_option linter.unusedVariables false
set_option linter.unusedSimpArgs false

theorem stoX_tl {sb hb fb : Nat} {v : Value} {first many : Int} {F : List Int} {q : List (Nat × PageS)} {w : World} {B : Nat} {X : List Asr} (h : Has w B (stoX sb hb fb v first many F q X)) : Has w B X := h.drop.drop.drop.tl
theorem stoX_skip {sb hb fb : Nat} {v : Value} {first many : Int} {F : List Int} {q : List (Nat × PageS)} {w : World} {B : Nat} {A C : Asr} {X : List Asr} (h : Has w B (C :: stoX sb hb fb v first many F q (A :: X))) : Has w B (C :: stoX sb hb fb v first many F q X) :=
  (h.perm (List.perm_middle (l₁ := C :: blk sb 88 #[ptrV hb, ptrV fb, v] :: row 91 1 v q.length (ptrs q) :: FreeA fb first many F :: pgs q) (l₂ := X))).drop
theorem framesOf_succ {is : KeyS → Bool} {ps : List PageS} {j : Nat} {p : PageS} (h : ps[j]? = some p) : framesOf is (ps.take (j + 1)) = framesOf is (ps.take j) ++ if is p.k then [p.f] else [] := by
  unfold framesOf
  rw [List.take_add_one, h, List.filter_append, List.map_append]
  by_cases hk : is p.k = true <;> simp [hk]
theorem framesOf_le (is : KeyS → Bool) (ps : List PageS) : (framesOf is ps).length ≤ ps.length := by
  unfold framesOf
  simp [List.length_filter_le]

theorem infoIntS : (Try.prog.info? 3).map (fun i => (i.zero, i.size, i.bytes)) = some (some (.int .i64 0), 1, 8) := by kernel_rfl

set_option maxHeartbeats 1000000 in
theorem frames_calls (cf : Nat) (eg : ∀ args w, (callFunc cf args).run Try.prog w = .ok (.enter cf args) w) (lb : Array Value) (is : KeyS → Bool) (sb hb fb : Nat) (v : Value) (first many : Int) (F : List Int) (q : List (Nat × PageS)) (hq : q.length ≤ 256) (w : World) (B : Nat) (X : List Asr) (hH : Has w B (stoX sb hb fb v first many F q X))
    (hc : ∀ (k : KeyS) (W : World), Has W B X → Calls Try.prog cf (#[.agg (keyC k)] ++ lb) W fun e w' => e = .returned (.bool (is k)) ∧ Below W.heap.size W w') :
    Calls Try.prog 48 #[.pointer (some ⟨sb, 0, none⟩), .func (.func cf) #[] lb] w fun e w' => ∃ u, e = .returned u ∧ Has w' B (row 3 1 u (framesOf is (q.map Prod.snd)).length ((framesOf is (q.map Prod.snd)).map (Value.int .i64)) :: stoX sb hb fb v first many F q X) ∧ Below B w w' := by
  obtain ⟨i0, hi, hz0, hz1, hz2⟩ := info_parts infoIntS
  have c2 := hH.cell [] _ 2 (v := v) rfl
  obtain ⟨ao, cap, rfl, hg⟩ := (stoX_R hH).prow
  have HC := hid hc
  have hN := hH.nilrow 3 1
  clear hg hc
  go_enter Try.func48, Try.ntmps48
  go_wp2_with fail
  go_loopg [5, 13] q.length (fun g o i wr => ∃ (j : Nat) (u : Value), g + j = q.length ∧ o = u ∧ i = .int .i64 j ∧ Has wr B (row 3 1 u (framesOf is ((q.map Prod.snd).take j)).length ((framesOf is ((q.map Prod.snd).take j)).map (Value.int .i64)) :: stoX sb hb fb (.slice ao q.length cap) first many F q X) ∧ Below B w wr)
  case atStart => exact ⟨0, .slice none 0 0, by omega, rfl, rfl, hN, Below.refl _ _⟩
  case round =>
    obtain ⟨j, u, hj, rfl, rfl, hHr, hBr⟩ := hrel
    clear hN hH c2
    obtain ⟨uo, ucap, rfl, _, _, _⟩ := hHr.row_form [] _
    have HJ := hid hj
    by_cases hlt : j < q.length
    · obtain ⟨x, hx⟩ : ∃ x, q[j]? = some x := ⟨_, List.getElem?_eq_getElem hlt⟩
      have hR := stoX_R hHr.drop
      obtain ⟨ao2, cap2, he, hg⟩ := hR.prow
      obtain ⟨g, rfl, hrow⟩ := hg (by omega)
      have ea : ao = some ⟨g, 0, none⟩ := by injection he
      subst ea
      have cr : wr.cell? ⟨g, j, none⟩ = some (.pointer (some ⟨x.1, 0, none⟩)) := hrow j x hx
      have KC := hid (pg_key hR hx)
      have hx2 : (q.map Prod.snd)[j]? = some x.2 := by simp [hx]
      have hst := framesOf_succ (is := is) hx2
      have hlen : (framesOf is ((q.map Prod.snd).take j)).length ≤ 256 := Nat.le_trans (framesOf_le _ _) (by simp; omega)
      have HX := hid hx
      have CC := hid (keeps (HC.out x.2.k wr (stoX_tl hHr.drop)) hHr)
      have HST := hid hst
      clear hst hx hx2 hrow he hg hR hj
      obtain ⟨qb, hqb⟩ : ∃ qb, is x.2.k = qb := ⟨_, rfl⟩
      rw [hqb] at CC HST
      clear hqb
      go_wp2_with (refine wpList_load_at 31 (.tmp 20) rfl rfl ⟨x.1, 1, none⟩ rfl _ (keyL x.2.k) KC.out Try.underlying31 rfl key_size ?_)
      refine CC.out.mono ?_
      rintro e w2 ⟨rfl, hH2, hB2⟩
      have hB2 := hBr.trans hB2
      clear CC KC hHr hBr cr
      cases qb with
      | true =>
        have p0 : w2.cell? ⟨x.1, 0, none⟩ = some (.int .i64 x.2.f) := (stoX_R hH2.drop).page HX.out (i := 0) rfl
        go_wp2_with (at_builtin; refine wpList_append_row [] _ (hH2.alloc _) rfl (.tmp 23) (.tmp 28) 36 rfl i0 (.int .i64 0) 8 Try.underlying36 hi hz0 hz1 hz2 rfl (by decide) rfl ⟨w2.heap.size, 0, none⟩ 1 1 [.int .i64 x.2.f] rfl rfl (cell_one_new _ _ _) (by simp [Value.oneCell']) (by decide) (by unfold maxLen; omega) (by omega) ?_; intro g2 cap2 w3 hH3 hB3)
        go_roundg (gk - 1)
        case measure => have := HJ.out; omega
        case rel => exact ⟨j + 1, .slice (some ⟨g2, 0, none⟩) ((framesOf is ((q.map Prod.snd).take j)).length + 1) cap2, by have := HJ.out; omega, rfl, by go_num, by rw [HST.out]; simpa using hH3, hB2.trans ((below_new (Below.refl _ _) hH2 _).trans hB3)⟩
      | false =>
        go_wp2_with fail
        go_roundg (gk - 1)
        case measure => have := HJ.out; omega
        case rel => exact ⟨j + 1, _, by have := HJ.out; omega, rfl, by go_num, by rw [HST.out]; simpa using hH2, hB2⟩
    · obtain rfl : j = q.length := by omega
      rw [List.take_of_length_le (by simp)] at hHr
      clear hj HJ
      go_wp2_with fail
      go_ret
      exact ⟨_, rfl, by rw [List.take_of_length_le (by simp)]; exact hHr, hBr⟩

theorem allK (k : KeyS) (W : World) : Calls Try.prog 49 #[.agg (keyC k)] W fun e w' => e = .returned (.bool true) ∧ Below W.heap.size W w' := by
  go_enter Try.func49, Try.ntmps49
  go_wp2_with fail
  go_ret
  exact ⟨rfl, (Below.refl _ W).alloc (Nat.le_refl _) _⟩
theorem ofK (k : KeyS) (bb : Nat) (g : Int) (W : World) (B : Nat) (X : List Asr) (hH : Has W B (blk bb 3 #[.int .i64 g] :: X)) : Calls Try.prog 61 #[.agg (keyC k), .pointer (some ⟨bb, 0, none⟩)] W fun e w' => e = .returned (.bool (ofP g k)) ∧ Below W.heap.size W w' := by
  have hN := hH.newblk W.heap.size 31 (keyC k) rfl
  have c0 := hN.cell [] _ 0 (v := .int .i64 k.g) rfl
  have c2 := hN.cell [] _ 2 (v := .int .i64 k.ro) rfl
  have cb := hN.cell [_] _ 0 (v := .int .i64 g) rfl
  by_cases h : k.ro = 0
  · have e1 : (k.ro == 0) = true := by rw [beq_iff_eq]; exact h
    have e2 : ofP g k = (k.g == g) := by unfold ofP; rw [e1]; rfl
    rw [e2]
    clear e2 h
    go_enter Try.func61, Try.ntmps61
    go_wp2_with fail
    go_ret
    exact ⟨rfl, (Below.refl _ W).alloc (Nat.le_refl _) _⟩
  · have e1 : (k.ro == 0) = false := by rw [beq_eq_false_iff_ne]; exact h
    have e2 : ofP g k = false := by unfold ofP; rw [e1]; rfl
    rw [e2]
    clear e2 h
    go_enter Try.func61, Try.ntmps61
    go_wp2_with fail
    go_ret
    exact ⟨rfl, (Below.refl _ W).alloc (Nat.le_refl _) _⟩

/-- Frames told, as a slice of the call's own. -/
def FrPost (l : List Int) (X : List Asr) (B : Nat) (w : World) (e : Ending) (w' : World) : Prop :=
  ∃ ao cap, e = .returned (.slice ao l.length cap) ∧ Has w' B (row 3 1 (.slice ao l.length cap) l.length (l.map (Value.int .i64)) :: X) ∧ Below B w w'
theorem frames_all (ps : List PageS) : framesOf (fun _ => true) ps = ps.map (·.f) := by
  unfold framesOf
  rw [List.filter_eq_self.2 (by simp)]

theorem All_calls (sb hb n : Nat) (first many : Int) (F : List Int) (ps : List PageS) (w : World) (B : Nat) (X : List Asr) (hH : Has w B (StoA sb hb n first many F ps :: X)) :
    Calls Try.prog 14 #[.pointer (some ⟨sb, 0, none⟩)] w (FrPost (ps.map (·.f)) (StoA sb hb n first many F ps :: X) B w) := by
  obtain ⟨hP, fb, v, q, rfl, hl, hO⟩ := StoA.openX hH
  have CF := hid (frames_calls 49 (enters_of Try.func49 (by kernel_rfl) rfl) #[] (fun _ => true) sb hb fb v first many F q hl w B X hO (fun k W _ => allK k W))
  have HP := hid hP
  rw [← frames_all]
  unfold FrPost
  clear hP hH
  go_enter Try.func14, Try.ntmps14
  go_wp2_with fail
  refine CF.out.mono ?_
  rintro e w2 ⟨u, rfl, hH2, hB2⟩
  clear CF
  obtain ⟨ao, cap, rfl, _, _, _⟩ := hH2.row_form [] _
  go_wp2_with fail
  go_ret
  have h3 : Has w2 B (StoA sb hb n first many F (q.map Prod.snd) :: row 3 1 (.slice ao (framesOf (fun _ => true) (q.map Prod.snd)).length cap) (framesOf (fun _ => true) (q.map Prod.snd)).length ((framesOf (fun _ => true) (q.map Prod.snd)).map (Value.int .i64)) :: X) := StoA.shut fb v q HP.out (stoX_in hH2)
  exact ⟨ao, cap, rfl, h3.perm (List.Perm.swap _ _ _), hB2⟩

theorem Of_calls (sb hb n : Nat) (first many : Int) (F : List Int) (ps : List PageS) (g : Int) (w : World) (B : Nat) (X : List Asr) (hH : Has w B (StoA sb hb n first many F ps :: X)) :
    Calls Try.prog 25 #[.pointer (some ⟨sb, 0, none⟩), .int .i64 g] w (FrPost (framesOf (ofP g) ps) (StoA sb hb n first many F ps :: X) B w) := by
  obtain ⟨hP, fb, v, q, rfl, hl, hO⟩ := StoA.openX hH
  have hN := stoX_in (hO.newblk w.heap.size 3 #[.int .i64 g] rfl)
  have bN := below_new (Below.refl B w) hO (.cells #[.int .i64 g] 3)
  have CF := hid (frames_calls 61 (enters_of Try.func61 (by kernel_rfl) rfl) #[.pointer (some ⟨w.heap.size, 0, none⟩)] (ofP g) sb hb fb v first many F q hl _ B _ hN (fun k W h => ofK k w.heap.size g W B X h))
  have HP := hid hP
  unfold FrPost
  clear hP hH
  go_enter Try.func25, Try.ntmps25
  go_wp2_with fail
  refine CF.out.mono ?_
  rintro e w2 ⟨u, rfl, hH2, hB2⟩
  have hB2 := bN.trans hB2
  clear CF bN hN hO
  obtain ⟨ao, cap, rfl, _, _, _⟩ := hH2.row_form [] _
  go_wp2_with fail
  go_ret
  have h3 : Has w2 B (StoA sb hb n first many F (q.map Prod.snd) :: row 3 1 (.slice ao (framesOf (ofP g) (q.map Prod.snd)).length cap) (framesOf (ofP g) (q.map Prod.snd)).length ((framesOf (ofP g) (q.map Prod.snd)).map (Value.int .i64)) :: X) := StoA.shut fb v q HP.out (stoX_in (stoX_skip hH2))
  exact ⟨ao, cap, rfl, h3.perm (List.Perm.swap _ _ _), hB2⟩

end Go.Proofs.Yteeapkndappnoaa
