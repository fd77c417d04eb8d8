/-
  Contracts of the reference of layer 2: the same list of free frames.
-/
import Derived.Test.YteeapkndappnoaaFreeB
namespace Go.Proofs.Yteeapkndappnoaa
open Go.RowKit
set_option linter.unusedVariables false
set_option linter.unusedSimpArgs false

theorem FreeFits.fresh (first many : Int) (h1 : 0 ≤ first) (h2 : 0 ≤ many) (h3 : first ≤ 256) (h4 : many ≤ 256 - first) : FreeFits first many (freshL first many 0) :=
  ⟨h1, h2, h3, h4, by unfold freshL; exact List.pairwise_map.2 (List.Pairwise.imp (fun h e => h (by omega)) List.nodup_range), fun x hx => by rw [freshL_mem] at hx; omega, by rw [freshL_length]; omega⟩
theorem FreeFits.take {first many : Int} {F : List Int} (h : FreeFits first many F) : FreeFits first many F.dropLast :=
  ⟨h.a1, h.a2, h.a3, h.a4, h.nd.sublist (List.dropLast_sublist F), fun x hx => h.rg x (List.dropLast_subset F hx), by have := h.ln; simp; omega⟩
theorem FreeFits.give {first many : Int} {F : List Int} (h : FreeFits first many F) (f : Int) : FreeFits first many (given first many F f) := by
  unfold given
  split
  · rename_i hg
    unfold givesB at hg
    rw [decide_eq_true_eq] at hg
    have hnd : (F ++ [f]).Nodup := List.nodup_append.2 ⟨h.nd, by simp, fun a ha b hb e => by simp at hb; subst hb; subst e; exact hg.2.2 ha⟩
    have hrg : ∀ x ∈ F ++ [f], first ≤ x ∧ x < first + many := by
      intro x hx
      rcases List.mem_append.1 hx with h1 | h1
      · exact h.rg x h1
      · simp at h1; subst h1; exact ⟨hg.1, hg.2.1⟩
    refine ⟨h.a1, h.a2, h.a3, h.a4, hnd, hrg, ?_⟩
    have := nodup_le _ (freshL first many 0) hnd (fun x hx => by rw [freshL_mem]; have := hrg x hx; omega)
    rw [freshL_length] at this
    have := h.a2
    omega
  · exact h

/-- The reference's list, at block b. -/
def RefA (b : Nat) (first many : Int) (F : List Int) : Asr :=
  Asr.ex fun v : Value => Asr.and (FreeFits first many F) <| Asr.all [blk b 129 #[.int .i64 first, .int .i64 many, v], row 3 1 v F.length (F.map (Value.int .i64))]

theorem RefA.open {b : Nat} {first many : Int} {F : List Int} {w : World} {B : Nat} {X : List Asr} (hH : Has w B (RefA b first many F :: X)) : FreeFits first many F ∧ ∃ ao cap, (0 < F.length → ∃ g, ao = some ⟨g, 0, none⟩) ∧ (ao = none → F.length = 0 ∧ cap = 0) ∧ F.length ≤ cap ∧
    Has w B (blk b 129 #[.int .i64 first, .int .i64 many, .slice ao F.length cap] :: row 3 1 (.slice ao F.length cap) F.length (F.map (Value.int .i64)) :: X) := by
  obtain ⟨v, hH⟩ := hH.open_ex
  obtain ⟨hI, hH⟩ := hH.open_and
  have hH := hH.open_all
  refine ⟨hI, ?_⟩
  rcases Has.row_shape [_] _ hH with ⟨rfl, h0⟩ | ⟨g, cap, rfl, h1, h2, _⟩
  · rw [h0] at hH ⊢
    exact ⟨none, 0, fun h => absurd h (Nat.lt_irrefl _), fun _ => ⟨rfl, rfl⟩, Nat.le_refl _, hH⟩
  · exact ⟨some ⟨g, 0, none⟩, cap, fun _ => ⟨g, rfl⟩, (fun h => by cases h), h1, hH⟩

theorem RefA.shut {b : Nat} {first many : Int} {F : List Int} {w : World} {B : Nat} {X : List Asr} (v : Value) (hI : FreeFits first many F)
    (hH : Has w B (blk b 129 #[.int .i64 first, .int .i64 many, v] :: row 3 1 v F.length (F.map (Value.int .i64)) :: X)) : Has w B (RefA b first many F :: X) :=
  Has.shut_ex v (Has.shut_and hI (Has.shut_all [_, _] hH))

theorem ref_cells {b : Nat} {first many : Int} {v : Value} {w : World} {B : Nat} {X : List Asr} (hH : Has w B (blk b 129 #[.int .i64 first, .int .i64 many, v] :: X)) :
    w.cell? ⟨b, 0, none⟩ = some (.int .i64 first) ∧ w.cell? ⟨b, 1, none⟩ = some (.int .i64 many) ∧ w.cell? ⟨b, 2, none⟩ = some v ∧ w.frozen? ⟨b, 2, none⟩ = false :=
  ⟨Has.cell [] _ hH 0 rfl, Has.cell [] _ hH 1 rfl, Has.cell [] _ hH 2 rfl, Has.frozen [] _ hH 2⟩

theorem RefLeft (b : Nat) (first many : Int) (F : List Int) :
    Does Try.prog 72 #[.pointer (some ⟨b, 0, none⟩)] [RefA b first many F] (fun _ : Unit => .int .i64 F.length) (fun _ => [RefA b first many F]) := by
  intro w B X hX
  obtain ⟨hI, ao, cap, hg, hno, hcap, hH⟩ := RefA.open hX
  obtain ⟨c0, c1, c2, f2⟩ := ref_cells hH
  clear hg hno
  go_enter Try.func72, Try.ntmps72
  go_wp2
  go_ret
  exact ⟨(), rfl, hX, Below.refl _ _⟩

set_option maxHeartbeats 400000 in
theorem RefTake (b : Nat) (first many : Int) (F : List Int) :
    Does Try.prog 79 #[.pointer (some ⟨b, 0, none⟩)] [RefA b first many F] (fun _ : Unit => .tuple #[.int .i64 (takeV F), .bool (takeB F)]) (fun _ => [RefA b first many F.dropLast]) := by
  intro w B X hX
  obtain ⟨hI, ao, cap, hg, hno, hcap, hH⟩ := RefA.open hX
  obtain ⟨c0, c1, c2, f2⟩ := ref_cells hH
  rcases List.eq_nil_or_concat F with rfl | ⟨F', y, rfl⟩
  · clear hg hno
    go_enter Try.func79, Try.ntmps79
    go_wp2
    go_ret2
    exact ⟨(), rfl, hX, Below.refl _ _⟩
  · obtain ⟨g, rfl⟩ := hg (by simp)
    have hI2 := hI.take
    have hln := hI.ln
    have h4 := hI.a4
    have h1 := hI.a1
    rw [List.concat_eq_append] at *
    have hT := hid hI2
    simp only [List.length_append, List.length_cons, List.length_nil, Nat.zero_add] at hH hcap c2 hln
    have hx := Has.row_cell [_] _ hH F'.length (u := .int .i64 y) (by simp)
    have hcut := Has.row_cut1 [_] _ hH (k := F'.length) (by omega)
    have hset := hcut.set [] _ 2 (.slice (some ⟨g, 0, none⟩) F'.length cap)
    have hb := below_set (Below.refl B w) [] _ hH 2 (.slice (some ⟨g, 0, none⟩) F'.length cap)
    have hne : (((F'.length + 1 : Nat) : Int) == 0) = false := by simp; omega
    generalize hk : F'.length = k at *
    have HK := hid hk
    clear hI hX hH hI2 hg hno hcut hk
    go_enter Try.func79, Try.ntmps79
    go_wp2
    go_ret2
    refine ⟨(), by simp [takeV, takeB], ?_, hb⟩
    refine RefA.shut (.slice (some ⟨g, 0, none⟩) k cap) hT.out ?_
    rw [← HK.out] at hset
    simpa [← HK.out] using hset

theorem ret_bool {a b : Bool} (h : a = b) : Ending.returned (.bool a) = .returned (.bool b) := by rw [h]

set_option maxHeartbeats 400000 in
theorem ref_has (b cap : Nat) (ao : Option Addr) (f : Int) (F : List Int) (w : World) (hln : F.length ≤ 1000) (c2 : w.cell? ⟨b, 2, none⟩ = some (.slice ao F.length cap))
    (hg : 0 < F.length → ∃ g, ao = some ⟨g, 0, none⟩ ∧ ∀ (j : Nat) (y : Int), F[j]? = some y → w.cell? ⟨g, j, none⟩ = some (.int .i64 y)) :
    Calls Try.prog 86 #[.pointer (some ⟨b, 0, none⟩), .int .i64 f] w fun e w' => e = .returned (.bool (decide (f ∈ F))) ∧ w = w' := by
  go_enter Try.func86, Try.ntmps86
  go_wp2
  go_loop [5] (fun i => ∃ k : Nat, k ≤ F.length ∧ i = .int .i64 k ∧ f ∉ F.take k) (fun i => F.length - (intOf i).toNat)
  case atStart => exact ⟨0, by omega, rfl, by simp⟩
  case round =>
    obtain ⟨k, hk, rfl, hn⟩ := hrel
    by_cases hlt : k < F.length
    · obtain ⟨g, rfl, hc⟩ := hg (by omega)
      obtain ⟨y, hy⟩ : ∃ y, F[k]? = some y := ⟨F[k], by simp [hlt]⟩
      have hcell := hc k y hy
      have HN := hid hn
      have HY := hid hy
      clear hn hy hg hc
      by_cases he : y = f
      · have e1 : (y == f) = true := by simpa using he
        clear he
        go_wp2
        go_ret
        refine ⟨ret_bool ?_, rfl⟩
        symm
        rw [decide_eq_true_eq]
        have := HY.out
        rw [beq_iff_eq] at e1
        subst e1
        exact List.mem_of_getElem? this
      · have e1 : (y == f) = false := by simpa using he
        clear he
        go_wp2
        go_round
        case rel =>
          refine ⟨k + 1, by omega, by go_num, ?_⟩
          rw [List.take_add_one, HY.out]
          simp only [Option.toList_some, List.mem_append, List.mem_singleton, not_or]
          exact ⟨HN.out, fun h => by rw [h] at e1; simp at e1⟩
        case measure => simp [intOf] <;> omega
    · obtain rfl : k = F.length := by omega
      have HN := hid hn
      clear hn hg
      go_wp2
      go_ret
      refine ⟨ret_bool ?_, rfl⟩
      symm
      rw [decide_eq_false_iff_not]
      simpa using HN.out

/-- What is known of the cells of the reference's own slice. -/
theorem ref_row {ao : Option Addr} {cap : Nat} {F : List Int} {w : World} {B : Nat} (L1 L2 : List Asr) (hg : 0 < F.length → ∃ g, ao = some ⟨g, 0, none⟩)
    (hH : Has w B (L1 ++ row 3 1 (.slice ao F.length cap) F.length (F.map (Value.int .i64)) :: L2)) :
    0 < F.length → ∃ g, ao = some ⟨g, 0, none⟩ ∧ ∀ (j : Nat) (y : Int), F[j]? = some y → w.cell? ⟨g, j, none⟩ = some (.int .i64 y) := by
  intro h
  obtain ⟨g, rfl⟩ := hg h
  exact ⟨g, rfl, fun j y hy => hH.row_cell L1 L2 j (by simp [hy])⟩

theorem RefHas (b : Nat) (first many f : Int) (F : List Int) :
    Does Try.prog 86 #[.pointer (some ⟨b, 0, none⟩), .int .i64 f] [RefA b first many F] (fun _ : Unit => .bool (decide (f ∈ F))) (fun _ => [RefA b first many F]) := by
  intro w B X hX
  obtain ⟨hI, ao, cap, hg, hno, hcap, hH⟩ := RefA.open hX
  obtain ⟨c0, c1, c2, f2⟩ := ref_cells hH
  have hln := hI.ln
  have h4 := hI.a4
  have h1 := hI.a1
  refine (ref_has b cap ao f F w (by omega) c2 (ref_row [_] _ hg hH)).mono ?_
  rintro e w' ⟨rfl, rfl⟩
  exact ⟨(), rfl, hX, Below.refl _ _⟩

set_option maxHeartbeats 1000000 in
theorem RefGive (b : Nat) (first many f : Int) (F : List Int) :
    Does Try.prog 82 #[.pointer (some ⟨b, 0, none⟩), .int .i64 f] [RefA b first many F] (fun _ : Unit => .bool (givesB first many F f)) (fun _ => [RefA b first many (given first many F f)]) := by
  intro w B X hX
  obtain ⟨hI, ao, cap, hg, hno, hcap, hH⟩ := RefA.open hX
  obtain ⟨c0, c1, c2, f2⟩ := ref_cells hH
  have hln := hI.ln
  have a1 := hI.a1
  have a2 := hI.a2
  have a3 := hI.a3
  have a4 := hI.a4
  have hgive := hI.give f
  have hrow := ref_row [_] _ hg hH
  have hlen : F.length ≤ 1000 := by omega
  by_cases h1 : f < first
  · have e1 : decide (f < first) = true := by simpa using h1
    have eg : givesB first many F f = false := by unfold givesB; rw [decide_eq_false_iff_not]; omega
    have eG : given first many F f = F := by unfold given; rw [eg]; rfl
    rw [eg, eG]
    clear hrow hg hno eg eG hgive
    go_enter Try.func82, Try.ntmps82
    go_wp2
    go_quiet (fail)
    go_wp2
    go_ret
    exact ⟨(), rfl, hX.drewN _, below_drewN (Below.refl _ _) _⟩
  · have e1 : decide (f < first) = false := by simpa using h1
    by_cases h2 : first + many ≤ f
    · have e2 : decide (first + many ≤ f) = true := by simpa using h2
      have eg : givesB first many F f = false := by unfold givesB; rw [decide_eq_false_iff_not]; omega
      have eG : given first many F f = F := by unfold given; rw [eg]; rfl
      rw [eg, eG]
      clear hrow hg hno eg eG hgive
      go_enter Try.func82, Try.ntmps82
      go_wp2
      go_quiet (fail)
      go_wp2
      go_ret
      exact ⟨(), rfl, hX.drewN _, below_drewN (Below.refl _ _) _⟩
    · have e2 : decide (first + many ≤ f) = false := by simpa using h2
      have hhas := fun W (h : W.heap = w.heap) => ref_has b cap ao f F W hlen (by simpa [World.cell?, h] using c2) (fun h0 => by
        obtain ⟨g, e, hc⟩ := hrow h0
        exact ⟨g, e, fun j y hy => by simpa [World.cell?, h] using hc j y hy⟩)
      by_cases h3 : f ∈ F
      · have eg : givesB first many F f = false := by unfold givesB; rw [decide_eq_false_iff_not]; exact fun h => h.2.2 h3
        have eG : given first many F f = F := by unfold given; rw [eg]; rfl
        rw [eg, eG]
        have HH := hid hhas
        have e3 : decide (f ∈ F) = true := by simpa using h3
        rw [e3] at HH
        clear hrow hg hno eg eG hgive hhas h3 e3
        go_enter Try.func82, Try.ntmps82
        go_wp2
        go_quiet ((go_at_call 86; exact quiet_same (HH.out _ rfl)))
        go_wp2
        go_ret
        exact ⟨(), rfl, hX.drewN _, below_drewN (Below.refl _ _) _⟩
      · have eg : givesB first many F f = true := by unfold givesB; rw [decide_eq_true_eq]; exact ⟨by omega, by omega, h3⟩
        have eG : given first many F f = F ++ [f] := by unfold given; rw [eg]; rfl
        rw [eG] at hgive
        rw [eg, eG]
        have HH := hid hhas
        have e3 : decide (f ∈ F) = false := by simpa using h3
        rw [e3] at HH
        have HR := hid hrow
        have HG := hid hgive
        obtain ⟨i0, hi, hz0, hz1, hz2⟩ := info_parts infoInt
        clear hrow hg eg eG hgive hhas h3 e3
        go_enter Try.func82, Try.ntmps82
        go_wp2
        go_quiet ((go_at_call 86; exact quiet_same (HH.out _ rfl)))
        have hA := (hH.drewN nq).newrow w.heap.size 3 1 rfl
        have hBA := below_new (below_drewN (Below.refl B w) nq) (hH.drewN nq) (.cells #[] 3)
        have k2 : ((w.drewN nq).alloc (.cells #[] 3)).cell? ⟨b, 2, none⟩ = some (.slice ao F.length cap) := Has.cell [_] _ hA 2 rfl
        have hcells : ∀ ad, ao = some ad → ∀ j u, (F.map (Value.int .i64))[j]? = some u → ((w.drewN nq).alloc (.cells #[] 3)).cell? (ad.add j) = some u := by
          intro ad had j u hu
          subst had
          have hj : j < F.length := by simpa using (List.getElem?_eq_some_iff.1 hu).1
          obtain ⟨g, hg, _⟩ := HR.out (by omega)
          cases hg
          have := Has.row_cell [_, _] _ hA j hu
          rwa [show (⟨g, 0, none⟩ : Addr).add j = ⟨g, j, none⟩ from by unfold Addr.add; split <;> simp_all]
        have HC := hid hcells
        have HN := hid hno
        clear hcells hno
        go_wp2_with (first
          | (at_builtin; refine wpList_append_rows [] _ hA rfl (.tmp 30) (.tmp 34) 36 rfl i0 (.int .i64 0) 8 Try.underlying36 hi hz0 hz1 hz2 rfl (by decide) rfl ao F.length cap (F.map (Value.int .i64)) rfl HN.out (by simp) HC.out (by simp [Value.oneCell']) (by unfold maxLen; omega) (by omega) ?_; intro g1 cap1 w1 hH1 hB1; simp only [Nat.zero_add, List.nil_append] at hH1 ⊢; have k3 := Has.frozen [_] _ hH1 2)
          | (at_builtin; refine wpList_append_row [] _ (hH1.alloc _) rfl (.tmp 35) (.tmp 37) 36 rfl i0 (.int .i64 0) 8 Try.underlying36 hi hz0 hz1 hz2 rfl (by decide) rfl ⟨w1.heap.size, 0, none⟩ 1 1 [.int .i64 f] rfl rfl (cell_one_new _ _ _) (by simp [Value.oneCell']) (by decide) (by unfold maxLen; omega) (by omega) ?_; intro g2 cap2 w2 hH2 hB2; have k4 := Has.frozen [_] _ hH2 2; have k5 := Has.cell [_] _ hH2 2 rfl))
        go_ret
        refine ⟨(), rfl, ?_, hBA.trans (hB1.trans ((below_new (Below.refl _ _) hH1 _).trans (below_set hB2 [_] _ hH2 2 _)))⟩
        have h5 := ((hH2.set [_] _ 2 (.slice (some ⟨g2, 0, none⟩) (F.length + 1) cap2)).front [_] _).front [_, _] _
        refine RefA.shut (.slice (some ⟨g2, 0, none⟩) (F.length + 1) cap2) HG.out ?_
        simpa using h5.drop

/-- The frames from the last one on, so many. -/
def upL (first many : Int) (k : Nat) : List Int := (List.range k).map (fun i : Nat => first + many - 1 - (i : Int))
theorem upL_step (first many : Int) (k : Nat) : upL first many (k + 1) = upL first many k ++ [first + many - 1 - k] := by simp [upL, List.range_succ]
theorem upL_all (first many : Int) (h : 0 ≤ many) : upL first many many.toNat = freshL first many 0 := by simp [upL, freshL]
theorem upL_length (first many : Int) (k : Nat) : (upL first many k).length = k := by simp [upL]

set_option maxHeartbeats 1000000 in
set_option maxRecDepth 100000 in
theorem RefNew_ok (first many : Int) (h1 : 0 ≤ first) (h2 : 0 ≤ many) (h3 : first ≤ 256) (h4 : many ≤ 256 - first) :
    Does Try.prog 64 #[.int .i64 first, .int .i64 many] [] (fun b : Nat => .pointer (some ⟨b, 0, none⟩)) (fun b => [RefA b first many (freshL first many 0)]) := by
  intro w B X hH
  have hH : Has w B X := hH
  have e1 : decide (first < 0) = false := by simpa using h1
  have e2 : decide (many < 0) = false := by simpa using h2
  have e3 : decide (256 < first) = false := by simpa using h3
  have e4 : decide (256 - first < many) = false := by simpa using h4
  obtain ⟨i0, hi, hz0, hz1, hz2⟩ := info_parts infoInt
  have hN := (hH.newblk w.heap.size 129 #[.int .i64 first, .int .i64 many, .slice none 0 0] rfl).nilrow 3 1
  have hB := below_new (Below.refl B w) hH (.cells #[.int .i64 first, .int .i64 many, .slice none 0 0] 129)
  generalize hb : w.heap.size = b at *
  go_enter Try.func64, Try.ntmps64
  go_wp2
  go_loopw [6] (fun i wr => ∃ (k : Nat) (v : Value), (k : Int) ≤ many ∧ i = .int .i64 (many - 1 - k) ∧ Has wr B (row 3 1 v k ((upL first many k).map (Value.int .i64)) :: blk b 129 #[.int .i64 first, .int .i64 many, v] :: X) ∧ Below B w wr) (fun i _ => (intOf i + 1).toNat)
  case atStart => exact ⟨0, .slice none 0 0, by simpa using h2, by simp, by simpa [upL] using hN, hB⟩
  case round =>
    obtain ⟨k, v, hk, rfl, hHr, hBr⟩ := hrel
    clear hN hB hH
    obtain ⟨ao, cap, rfl, hc1, hc2, hgo⟩ := hHr.row_form [] _
    have c0 := Has.cell [_] _ hHr 0 rfl
    have c2 := Has.cell [_] _ hHr 2 rfl
    by_cases hlt : (k : Int) < many
    · have g1 : 0 ≤ many - 1 - k := by omega
      clear hgo
      go_wp2_with (at_builtin; refine wpList_append_row [] _ (hHr.alloc _) rfl (.tmp 37) (.tmp 41) 36 rfl i0 (.int .i64 0) 8 Try.underlying36 hi hz0 hz1 hz2 rfl (by decide) rfl ⟨wr.heap.size, 0, none⟩ 1 1 [.int .i64 (first + (many - 1 - k))] rfl rfl (cell_one_new _ _ _) (by simp [Value.oneCell']) (by decide) (by unfold maxLen; omega) (by omega) ?_; intro g2 cap2 w2 hH2 hB2; have k4 := Has.frozen [_] _ hH2 2; have k5 := Has.cell [_] _ hH2 2 rfl)
      go_roundw
      case rel =>
        refine ⟨k + 1, .slice (some ⟨g2, 0, none⟩) (k + 1) cap2, by omega, by congr 1 <;> omega, ?_, hBr.trans ((below_new (Below.refl _ _) hHr _).trans (below_set hB2 [_] _ hH2 2 _))⟩
        have h5 := hH2.set [_] _ 2 (.slice (some ⟨g2, 0, none⟩) (k + 1) cap2)
        rw [upL_step, List.map_append]
        have e : first + (many - 1 - (k : Int)) = first + many - 1 - k := by omega
        rw [e] at h5
        exact h5
      case measure => simp [intOf] <;> omega
    · obtain rfl : many = k := by omega
      have g1 : ¬ 0 ≤ (k : Int) - 1 - k := by omega
      have hfit := FreeFits.fresh first k h1 h2 h3 h4
      have h5 := hHr.perm (List.Perm.swap _ _ _)
      clear hgo
      go_wp2
      go_ret
      refine ⟨b, rfl, RefA.shut (.slice ao k cap) hfit ?_, hBr⟩
      rw [← upL_all first k h2]
      simpa [upL_length] using h5

theorem RefNew_no (first many : Int) (h : first < 0 ∨ many < 0 ∨ 256 < first ∨ 256 - first < many) (w : World) :
    Calls Try.prog 64 #[.int .i64 first, .int .i64 many] w fun e w' => e = .returned (.pointer none) ∧ w = w' := by
  by_cases h1 : first < 0
  · have e1 : decide (first < 0) = true := by simpa using h1
    clear h
    go_enter Try.func64, Try.ntmps64
    go_wp2
    go_ret
    exact ⟨rfl, rfl⟩
  · have e1 : decide (first < 0) = false := by simpa using h1
    by_cases h2 : many < 0
    · have e2 : decide (many < 0) = true := by simpa using h2
      clear h
      go_enter Try.func64, Try.ntmps64
      go_wp2
      go_ret
      exact ⟨rfl, rfl⟩
    · have e2 : decide (many < 0) = false := by simpa using h2
      by_cases h3 : 256 < first
      · have e3 : decide (256 < first) = true := by simpa using h3
        clear h
        go_enter Try.func64, Try.ntmps64
        go_wp2
        go_ret
        exact ⟨rfl, rfl⟩
      · have e3 : decide (256 < first) = false := by simpa using h3
        have h4 : 256 - first < many := by omega
        have e4 : decide (256 - first < many) = true := by simpa using h4
        have h5 : 0 ≤ first := by omega
        have h6 : first ≤ 256 := by omega
        clear h
        go_enter Try.func64, Try.ntmps64
        go_wp2
        go_ret
        exact ⟨rfl, rfl⟩

end Go.Proofs.Yteeapkndappnoaa
