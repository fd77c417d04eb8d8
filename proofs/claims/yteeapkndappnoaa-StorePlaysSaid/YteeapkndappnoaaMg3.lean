/-
  Texts of this proof, merged in their order: FreeRef, StoK, RowMore, StoL, StoM, Args, StoArgs, StoSame.
-/
import Derived.Test.YteeapkndappnoaaMg1
import Derived.Test.YteeapkndappnoaaMg2
import Derived.StillTailTactics
import Derived.ProofKit
import Derived.Deep.Slices
/-
  Contracts of the reference of layer 2: the same list of free frames.
-/
namespace Go.Proofs.Yteeapkndappnoaa
open Go.RowKit
set_option linter.unusedVariables false
set_option linter.unusedSimpArgs false

theorem FreeFits.fresh (first many : Int) (h1 : 0 ≤ first) (h2 : 0 ≤ many) (h3 : first ≤ 256) (h4 : many ≤ 256 - first) : FreeFits first many (freshL first many 0) :=
  ⟨h1, h2, h3, h4, by unfold freshL; exact List.pairwise_map.2 (List.Pairwise.imp (fun h e => h (by omega)) List.nodup_range), fun x hx => by rw [freshL_mem] at hx; omega, by rw [freshL_length]; omega⟩
theorem FreeFits.take {first many : Int} {F : List Int} (h : FreeFits first many F) : FreeFits first many F.dropLast :=
  ⟨h.a1, h.a2, h.a3, h.a4, h.nd.sublist (List.dropLast_sublist F), fun x hx => h.rg x (List.dropLast_subset F hx), by have := h.ln; simp; omega⟩
theorem FreeFits.give {first many : Int} {F : List Int} (h : FreeFits first many F) (f : Int) : FreeFits first many (given first many F f) := by
  unfold given
  split
  · rename_i hg
    unfold givesB at hg
    rw [decide_eq_true_eq] at hg
    have hnd : (F ++ [f]).Nodup := List.nodup_append.2 ⟨h.nd, by simp, fun a ha b hb e => by simp at hb; subst hb; subst e; exact hg.2.2 ha⟩
    have hrg : ∀ x ∈ F ++ [f], first ≤ x ∧ x < first + many := by
      intro x hx
      rcases List.mem_append.1 hx with h1 | h1
      · exact h.rg x h1
      · simp at h1; subst h1; exact ⟨hg.1, hg.2.1⟩
    refine ⟨h.a1, h.a2, h.a3, h.a4, hnd, hrg, ?_⟩
    have := nodup_le _ (freshL first many 0) hnd (fun x hx => by rw [freshL_mem]; have := hrg x hx; omega)
    rw [freshL_length] at this
    have := h.a2
    omega
  · exact h

/-- The reference's list, at block b. -/
def RefA (b : Nat) (first many : Int) (F : List Int) : Asr :=
  Asr.ex fun v : Value => Asr.and (FreeFits first many F) <| Asr.all [blk b 129 #[.int .i64 first, .int .i64 many, v], row 3 1 v F.length (F.map (Value.int .i64))]

theorem RefA.open {b : Nat} {first many : Int} {F : List Int} {w : World} {B : Nat} {X : List Asr} (hH : Has w B (RefA b first many F :: X)) : FreeFits first many F ∧ ∃ ao cap, (0 < F.length → ∃ g, ao = some ⟨g, 0, none⟩) ∧ (ao = none → F.length = 0 ∧ cap = 0) ∧ F.length ≤ cap ∧
    Has w B (blk b 129 #[.int .i64 first, .int .i64 many, .slice ao F.length cap] :: row 3 1 (.slice ao F.length cap) F.length (F.map (Value.int .i64)) :: X) := by
  obtain ⟨v, hH⟩ := hH.open_ex
  obtain ⟨hI, hH⟩ := hH.open_and
  have hH := hH.open_all
  refine ⟨hI, ?_⟩
  rcases Has.row_shape [_] _ hH with ⟨rfl, h0⟩ | ⟨g, cap, rfl, h1, h2, _⟩
  · rw [h0] at hH ⊢
    exact ⟨none, 0, fun h => absurd h (Nat.lt_irrefl _), fun _ => ⟨rfl, rfl⟩, Nat.le_refl _, hH⟩
  · exact ⟨some ⟨g, 0, none⟩, cap, fun _ => ⟨g, rfl⟩, (fun h => by cases h), h1, hH⟩

theorem RefA.shut {b : Nat} {first many : Int} {F : List Int} {w : World} {B : Nat} {X : List Asr} (v : Value) (hI : FreeFits first many F)
    (hH : Has w B (blk b 129 #[.int .i64 first, .int .i64 many, v] :: row 3 1 v F.length (F.map (Value.int .i64)) :: X)) : Has w B (RefA b first many F :: X) :=
  Has.shut_ex v (Has.shut_and hI (Has.shut_all [_, _] hH))

theorem ref_cells {b : Nat} {first many : Int} {v : Value} {w : World} {B : Nat} {X : List Asr} (hH : Has w B (blk b 129 #[.int .i64 first, .int .i64 many, v] :: X)) :
    w.cell? ⟨b, 0, none⟩ = some (.int .i64 first) ∧ w.cell? ⟨b, 1, none⟩ = some (.int .i64 many) ∧ w.cell? ⟨b, 2, none⟩ = some v ∧ w.frozen? ⟨b, 2, none⟩ = false :=
  ⟨Has.cell [] _ hH 0 rfl, Has.cell [] _ hH 1 rfl, Has.cell [] _ hH 2 rfl, Has.frozen [] _ hH 2⟩

theorem RefLeft (b : Nat) (first many : Int) (F : List Int) :
    Does Try.prog 72 #[.pointer (some ⟨b, 0, none⟩)] [RefA b first many F] (fun _ : Unit => .int .i64 F.length) (fun _ => [RefA b first many F]) := by
  intro w B X hX
  obtain ⟨hI, ao, cap, hg, hno, hcap, hH⟩ := RefA.open hX
  obtain ⟨c0, c1, c2, f2⟩ := ref_cells hH
  clear hg hno
  go_enter Try.func72, Try.ntmps72
  go_wp2
  go_ret
  exact ⟨(), rfl, hX, Below.refl _ _⟩

set_option maxHeartbeats 400000 in
theorem RefTake (b : Nat) (first many : Int) (F : List Int) :
    Does Try.prog 79 #[.pointer (some ⟨b, 0, none⟩)] [RefA b first many F] (fun _ : Unit => .tuple #[.int .i64 (takeV F), .bool (takeB F)]) (fun _ => [RefA b first many F.dropLast]) := by
  intro w B X hX
  obtain ⟨hI, ao, cap, hg, hno, hcap, hH⟩ := RefA.open hX
  obtain ⟨c0, c1, c2, f2⟩ := ref_cells hH
  rcases List.eq_nil_or_concat F with rfl | ⟨F', y, rfl⟩
  · clear hg hno
    go_enter Try.func79, Try.ntmps79
    go_wp2
    go_ret2
    exact ⟨(), rfl, hX, Below.refl _ _⟩
  · obtain ⟨g, rfl⟩ := hg (by simp)
    have hI2 := hI.take
    have hln := hI.ln
    have h4 := hI.a4
    have h1 := hI.a1
    rw [List.concat_eq_append] at *
    have hT := hid hI2
    simp only [List.length_append, List.length_cons, List.length_nil, Nat.zero_add] at hH hcap c2 hln
    have hx := Has.row_cell [_] _ hH F'.length (u := .int .i64 y) (by simp)
    have hcut := Has.row_cut1 [_] _ hH (k := F'.length) (by omega)
    have hset := hcut.set [] _ 2 (.slice (some ⟨g, 0, none⟩) F'.length cap)
    have hb := below_set (Below.refl B w) [] _ hH 2 (.slice (some ⟨g, 0, none⟩) F'.length cap)
    have hne : (((F'.length + 1 : Nat) : Int) == 0) = false := by simp; omega
    generalize hk : F'.length = k at *
    have HK := hid hk
    clear hI hX hH hI2 hg hno hcut hk
    go_enter Try.func79, Try.ntmps79
    go_wp2
    go_ret2
    refine ⟨(), by simp [takeV, takeB], ?_, hb⟩
    refine RefA.shut (.slice (some ⟨g, 0, none⟩) k cap) hT.out ?_
    rw [← HK.out] at hset
    simpa [← HK.out] using hset

theorem ret_bool {a b : Bool} (h : a = b) : Ending.returned (.bool a) = .returned (.bool b) := by rw [h]

set_option maxHeartbeats 400000 in
theorem ref_has (b cap : Nat) (ao : Option Addr) (f : Int) (F : List Int) (w : World) (hln : F.length ≤ 1000) (c2 : w.cell? ⟨b, 2, none⟩ = some (.slice ao F.length cap))
    (hg : 0 < F.length → ∃ g, ao = some ⟨g, 0, none⟩ ∧ ∀ (j : Nat) (y : Int), F[j]? = some y → w.cell? ⟨g, j, none⟩ = some (.int .i64 y)) :
    Calls Try.prog 86 #[.pointer (some ⟨b, 0, none⟩), .int .i64 f] w fun e w' => e = .returned (.bool (decide (f ∈ F))) ∧ w = w' := by
  go_enter Try.func86, Try.ntmps86
  go_wp2
  go_loop [5] (fun i => ∃ k : Nat, k ≤ F.length ∧ i = .int .i64 k ∧ f ∉ F.take k) (fun i => F.length - (intOf i).toNat)
  case atStart => exact ⟨0, by omega, rfl, by simp⟩
  case round =>
    obtain ⟨k, hk, rfl, hn⟩ := hrel
    by_cases hlt : k < F.length
    · obtain ⟨g, rfl, hc⟩ := hg (by omega)
      obtain ⟨y, hy⟩ : ∃ y, F[k]? = some y := ⟨F[k], by simp [hlt]⟩
      have hcell := hc k y hy
      have HN := hid hn
      have HY := hid hy
      clear hn hy hg hc
      by_cases he : y = f
      · have e1 : (y == f) = true := by simpa using he
        clear he
        go_wp2
        go_ret
        refine ⟨ret_bool ?_, rfl⟩
        symm
        rw [decide_eq_true_eq]
        have := HY.out
        rw [beq_iff_eq] at e1
        subst e1
        exact List.mem_of_getElem? this
      · have e1 : (y == f) = false := by simpa using he
        clear he
        go_wp2
        go_round
        case rel =>
          refine ⟨k + 1, by omega, by go_num, ?_⟩
          rw [List.take_add_one, HY.out]
          simp only [Option.toList_some, List.mem_append, List.mem_singleton, not_or]
          exact ⟨HN.out, fun h => by rw [h] at e1; simp at e1⟩
        case measure => simp [intOf] <;> omega
    · obtain rfl : k = F.length := by omega
      have HN := hid hn
      clear hn hg
      go_wp2
      go_ret
      refine ⟨ret_bool ?_, rfl⟩
      symm
      rw [decide_eq_false_iff_not]
      simpa using HN.out

/-- What is known of the cells of the reference's own slice. -/
theorem ref_row {ao : Option Addr} {cap : Nat} {F : List Int} {w : World} {B : Nat} (L1 L2 : List Asr) (hg : 0 < F.length → ∃ g, ao = some ⟨g, 0, none⟩)
    (hH : Has w B (L1 ++ row 3 1 (.slice ao F.length cap) F.length (F.map (Value.int .i64)) :: L2)) :
    0 < F.length → ∃ g, ao = some ⟨g, 0, none⟩ ∧ ∀ (j : Nat) (y : Int), F[j]? = some y → w.cell? ⟨g, j, none⟩ = some (.int .i64 y) := by
  intro h
  obtain ⟨g, rfl⟩ := hg h
  exact ⟨g, rfl, fun j y hy => hH.row_cell L1 L2 j (by simp [hy])⟩

theorem RefHas (b : Nat) (first many f : Int) (F : List Int) :
    Does Try.prog 86 #[.pointer (some ⟨b, 0, none⟩), .int .i64 f] [RefA b first many F] (fun _ : Unit => .bool (decide (f ∈ F))) (fun _ => [RefA b first many F]) := by
  intro w B X hX
  obtain ⟨hI, ao, cap, hg, hno, hcap, hH⟩ := RefA.open hX
  obtain ⟨c0, c1, c2, f2⟩ := ref_cells hH
  have hln := hI.ln
  have h4 := hI.a4
  have h1 := hI.a1
  refine (ref_has b cap ao f F w (by omega) c2 (ref_row [_] _ hg hH)).mono ?_
  rintro e w' ⟨rfl, rfl⟩
  exact ⟨(), rfl, hX, Below.refl _ _⟩

set_option maxHeartbeats 1000000 in
theorem RefGive (b : Nat) (first many f : Int) (F : List Int) :
    Does Try.prog 82 #[.pointer (some ⟨b, 0, none⟩), .int .i64 f] [RefA b first many F] (fun _ : Unit => .bool (givesB first many F f)) (fun _ => [RefA b first many (given first many F f)]) := by
  intro w B X hX
  obtain ⟨hI, ao, cap, hg, hno, hcap, hH⟩ := RefA.open hX
  obtain ⟨c0, c1, c2, f2⟩ := ref_cells hH
  have hln := hI.ln
  have a1 := hI.a1
  have a2 := hI.a2
  have a3 := hI.a3
  have a4 := hI.a4
  have hgive := hI.give f
  have hrow := ref_row [_] _ hg hH
  have hlen : F.length ≤ 1000 := by omega
  by_cases h1 : f < first
  · have e1 : decide (f < first) = true := by simpa using h1
    have eg : givesB first many F f = false := by unfold givesB; rw [decide_eq_false_iff_not]; omega
    have eG : given first many F f = F := by unfold given; rw [eg]; rfl
    rw [eg, eG]
    clear hrow hg hno eg eG hgive
    go_enter Try.func82, Try.ntmps82
    go_wp2
    go_quiet (fail)
    go_wp2
    go_ret
    exact ⟨(), rfl, hX.drewN _, below_drewN (Below.refl _ _) _⟩
  · have e1 : decide (f < first) = false := by simpa using h1
    by_cases h2 : first + many ≤ f
    · have e2 : decide (first + many ≤ f) = true := by simpa using h2
      have eg : givesB first many F f = false := by unfold givesB; rw [decide_eq_false_iff_not]; omega
      have eG : given first many F f = F := by unfold given; rw [eg]; rfl
      rw [eg, eG]
      clear hrow hg hno eg eG hgive
      go_enter Try.func82, Try.ntmps82
      go_wp2
      go_quiet (fail)
      go_wp2
      go_ret
      exact ⟨(), rfl, hX.drewN _, below_drewN (Below.refl _ _) _⟩
    · have e2 : decide (first + many ≤ f) = false := by simpa using h2
      have hhas := fun W (h : W.heap = w.heap) => ref_has b cap ao f F W hlen (by simpa [World.cell?, h] using c2) (fun h0 => by
        obtain ⟨g, e, hc⟩ := hrow h0
        exact ⟨g, e, fun j y hy => by simpa [World.cell?, h] using hc j y hy⟩)
      by_cases h3 : f ∈ F
      · have eg : givesB first many F f = false := by unfold givesB; rw [decide_eq_false_iff_not]; exact fun h => h.2.2 h3
        have eG : given first many F f = F := by unfold given; rw [eg]; rfl
        rw [eg, eG]
        have HH := hid hhas
        have e3 : decide (f ∈ F) = true := by simpa using h3
        rw [e3] at HH
        clear hrow hg hno eg eG hgive hhas h3 e3
        go_enter Try.func82, Try.ntmps82
        go_wp2
        go_quiet ((go_at_call 86; exact quiet_same (HH.out _ rfl)))
        go_wp2
        go_ret
        exact ⟨(), rfl, hX.drewN _, below_drewN (Below.refl _ _) _⟩
      · have eg : givesB first many F f = true := by unfold givesB; rw [decide_eq_true_eq]; exact ⟨by omega, by omega, h3⟩
        have eG : given first many F f = F ++ [f] := by unfold given; rw [eg]; rfl
        rw [eG] at hgive
        rw [eg, eG]
        have HH := hid hhas
        have e3 : decide (f ∈ F) = false := by simpa using h3
        rw [e3] at HH
        have HR := hid hrow
        have HG := hid hgive
        obtain ⟨i0, hi, hz0, hz1, hz2⟩ := info_parts infoInt
        clear hrow hg eg eG hgive hhas h3 e3
        go_enter Try.func82, Try.ntmps82
        go_wp2
        go_quiet ((go_at_call 86; exact quiet_same (HH.out _ rfl)))
        have hA := (hH.drewN nq).newrow w.heap.size 3 1 rfl
        have hBA := below_new (below_drewN (Below.refl B w) nq) (hH.drewN nq) (.cells #[] 3)
        have k2 : ((w.drewN nq).alloc (.cells #[] 3)).cell? ⟨b, 2, none⟩ = some (.slice ao F.length cap) := Has.cell [_] _ hA 2 rfl
        have hcells : ∀ ad, ao = some ad → ∀ j u, (F.map (Value.int .i64))[j]? = some u → ((w.drewN nq).alloc (.cells #[] 3)).cell? (ad.add j) = some u := by
          intro ad had j u hu
          subst had
          have hj : j < F.length := by simpa using (List.getElem?_eq_some_iff.1 hu).1
          obtain ⟨g, hg, _⟩ := HR.out (by omega)
          cases hg
          have := Has.row_cell [_, _] _ hA j hu
          rwa [show (⟨g, 0, none⟩ : Addr).add j = ⟨g, j, none⟩ from by unfold Addr.add; split <;> simp_all]
        have HC := hid hcells
        have HN := hid hno
        clear hcells hno
        go_wp2_with (first
          | (at_builtin; refine wpList_append_rows [] _ hA rfl (.tmp 30) (.tmp 34) 36 rfl i0 (.int .i64 0) 8 Try.underlying36 hi hz0 hz1 hz2 rfl (by decide) rfl ao F.length cap (F.map (Value.int .i64)) rfl HN.out (by simp) HC.out (by simp [Value.oneCell']) (by unfold maxLen; omega) (by omega) ?_; intro g1 cap1 w1 hH1 hB1; simp only [Nat.zero_add, List.nil_append] at hH1 ⊢; have k3 := Has.frozen [_] _ hH1 2)
          | (at_builtin; refine wpList_append_row [] _ (hH1.alloc _) rfl (.tmp 35) (.tmp 37) 36 rfl i0 (.int .i64 0) 8 Try.underlying36 hi hz0 hz1 hz2 rfl (by decide) rfl ⟨w1.heap.size, 0, none⟩ 1 1 [.int .i64 f] rfl rfl (cell_one_new _ _ _) (by simp [Value.oneCell']) (by decide) (by unfold maxLen; omega) (by omega) ?_; intro g2 cap2 w2 hH2 hB2; have k4 := Has.frozen [_] _ hH2 2; have k5 := Has.cell [_] _ hH2 2 rfl))
        go_ret
        refine ⟨(), rfl, ?_, hBA.trans (hB1.trans ((below_new (Below.refl _ _) hH1 _).trans (below_set hB2 [_] _ hH2 2 _)))⟩
        have h5 := ((hH2.set [_] _ 2 (.slice (some ⟨g2, 0, none⟩) (F.length + 1) cap2)).front [_] _).front [_, _] _
        refine RefA.shut (.slice (some ⟨g2, 0, none⟩) (F.length + 1) cap2) HG.out ?_
        simpa using h5.drop

/-- The frames from the last one on, so many. -/
def upL (first many : Int) (k : Nat) : List Int := (List.range k).map (fun i : Nat => first + many - 1 - (i : Int))
theorem upL_step (first many : Int) (k : Nat) : upL first many (k + 1) = upL first many k ++ [first + many - 1 - k] := by simp [upL, List.range_succ]
theorem upL_all (first many : Int) (h : 0 ≤ many) : upL first many many.toNat = freshL first many 0 := by simp [upL, freshL]
theorem upL_length (first many : Int) (k : Nat) : (upL first many k).length = k := by simp [upL]

set_option maxHeartbeats 1000000 in
set_option maxRecDepth 100000 in
theorem RefNew_ok (first many : Int) (h1 : 0 ≤ first) (h2 : 0 ≤ many) (h3 : first ≤ 256) (h4 : many ≤ 256 - first) :
    Does Try.prog 64 #[.int .i64 first, .int .i64 many] [] (fun b : Nat => .pointer (some ⟨b, 0, none⟩)) (fun b => [RefA b first many (freshL first many 0)]) := by
  intro w B X hH
  have hH : Has w B X := hH
  have e1 : decide (first < 0) = false := by simpa using h1
  have e2 : decide (many < 0) = false := by simpa using h2
  have e3 : decide (256 < first) = false := by simpa using h3
  have e4 : decide (256 - first < many) = false := by simpa using h4
  obtain ⟨i0, hi, hz0, hz1, hz2⟩ := info_parts infoInt
  have hN := (hH.newblk w.heap.size 129 #[.int .i64 first, .int .i64 many, .slice none 0 0] rfl).nilrow 3 1
  have hB := below_new (Below.refl B w) hH (.cells #[.int .i64 first, .int .i64 many, .slice none 0 0] 129)
  generalize hb : w.heap.size = b at *
  go_enter Try.func64, Try.ntmps64
  go_wp2
  go_loopw [6] (fun i wr => ∃ (k : Nat) (v : Value), (k : Int) ≤ many ∧ i = .int .i64 (many - 1 - k) ∧ Has wr B (row 3 1 v k ((upL first many k).map (Value.int .i64)) :: blk b 129 #[.int .i64 first, .int .i64 many, v] :: X) ∧ Below B w wr) (fun i _ => (intOf i + 1).toNat)
  case atStart => exact ⟨0, .slice none 0 0, by simpa using h2, by simp, by simpa [upL] using hN, hB⟩
  case round =>
    obtain ⟨k, v, hk, rfl, hHr, hBr⟩ := hrel
    clear hN hB hH
    obtain ⟨ao, cap, rfl, hc1, hc2, hgo⟩ := hHr.row_form [] _
    have c0 := Has.cell [_] _ hHr 0 rfl
    have c2 := Has.cell [_] _ hHr 2 rfl
    by_cases hlt : (k : Int) < many
    · have g1 : 0 ≤ many - 1 - k := by omega
      clear hgo
      go_wp2_with (at_builtin; refine wpList_append_row [] _ (hHr.alloc _) rfl (.tmp 37) (.tmp 41) 36 rfl i0 (.int .i64 0) 8 Try.underlying36 hi hz0 hz1 hz2 rfl (by decide) rfl ⟨wr.heap.size, 0, none⟩ 1 1 [.int .i64 (first + (many - 1 - k))] rfl rfl (cell_one_new _ _ _) (by simp [Value.oneCell']) (by decide) (by unfold maxLen; omega) (by omega) ?_; intro g2 cap2 w2 hH2 hB2; have k4 := Has.frozen [_] _ hH2 2; have k5 := Has.cell [_] _ hH2 2 rfl)
      go_roundw
      case rel =>
        refine ⟨k + 1, .slice (some ⟨g2, 0, none⟩) (k + 1) cap2, by omega, by congr 1 <;> omega, ?_, hBr.trans ((below_new (Below.refl _ _) hHr _).trans (below_set hB2 [_] _ hH2 2 _))⟩
        have h5 := hH2.set [_] _ 2 (.slice (some ⟨g2, 0, none⟩) (k + 1) cap2)
        rw [upL_step, List.map_append]
        have e : first + (many - 1 - (k : Int)) = first + many - 1 - k := by omega
        rw [e] at h5
        exact h5
      case measure => simp [intOf] <;> omega
    · obtain rfl : many = k := by omega
      have g1 : ¬ 0 ≤ (k : Int) - 1 - k := by omega
      have hfit := FreeFits.fresh first k h1 h2 h3 h4
      have h5 := hHr.perm (List.Perm.swap _ _ _)
      clear hgo
      go_wp2
      go_ret
      refine ⟨b, rfl, RefA.shut (.slice ao k cap) hfit ?_, hBr⟩
      rw [← upL_all first k h2]
      simpa [upL_length] using h5

theorem RefNew_no (first many : Int) (h : first < 0 ∨ many < 0 ∨ 256 < first ∨ 256 - first < many) (w : World) :
    Calls Try.prog 64 #[.int .i64 first, .int .i64 many] w fun e w' => e = .returned (.pointer none) ∧ w = w' := by
  by_cases h1 : first < 0
  · have e1 : decide (first < 0) = true := by simpa using h1
    clear h
    go_enter Try.func64, Try.ntmps64
    go_wp2
    go_ret
    exact ⟨rfl, rfl⟩
  · have e1 : decide (first < 0) = false := by simpa using h1
    by_cases h2 : many < 0
    · have e2 : decide (many < 0) = true := by simpa using h2
      clear h
      go_enter Try.func64, Try.ntmps64
      go_wp2
      go_ret
      exact ⟨rfl, rfl⟩
    · have e2 : decide (many < 0) = false := by simpa using h2
      by_cases h3 : 256 < first
      · have e3 : decide (256 < first) = true := by simpa using h3
        clear h
        go_enter Try.func64, Try.ntmps64
        go_wp2
        go_ret
        exact ⟨rfl, rfl⟩
      · have e3 : decide (256 < first) = false := by simpa using h3
        have h4 : 256 - first < many := by omega
        have e4 : decide (256 - first < many) = true := by simpa using h4
        have h5 : 0 ≤ first := by omega
        have h6 : first ≤ 256 := by omega
        clear h
        go_enter Try.func64, Try.ntmps64
        go_wp2
        go_ret
        exact ⟨rfl, rfl⟩

end Go.Proofs.Yteeapkndappnoaa

/-
  Package store: a page is made.
-/
namespace Go.Proofs.Yteeapkndappnoaa
open Go.RowKit Go.Shelf
set_option linter.unusedVariables false
set_option linter.unusedSimpArgs false

def newPg (f : Int) (k : KeyS) : PageS := ⟨f, k, List.replicate 8 slotZ⟩
theorem takeV_mem {F : List Int} (h : takeB F = true) : takeV F ∈ F := by
  unfold takeB at h
  unfold takeV
  cases hl : F.getLast? with
  | none => simp at hl; subst hl; cases h
  | some x => exact List.mem_of_getLast? hl
theorem takeV_out {F : List Int} (h : takeB F = true) (hn : F.Nodup) : takeV F ∉ F.dropLast := by
  unfold takeB at h
  have hne : F ≠ [] := by intro e; subst e; cases h
  have e1 : takeV F = F.getLast hne := by unfold takeV; rw [List.getLast?_eq_some_getLast hne]; rfl
  have e2 := List.dropLast_concat_getLast hne
  rw [← e2] at hn
  intro hm
  rw [List.nodup_append] at hn
  exact hn.2.2 _ hm _ (by rw [e1]; simp) rfl
theorem StoP.make {n : Nat} {first many : Int} {F : List Int} {ps : List PageS} (h : StoP n first many F ps) {k : KeyS} (hk : findK ps k = none) (hr : rightK k) (ht : takeB F = true) : StoP n first many F.dropLast (ps ++ [newPg (takeV F) k]) := by
  have hm := takeV_mem ht
  have ho := takeV_out ht h.ff.nd
  refine ⟨?_, ?_, ?_, ?_, ?_, ?_, h.hn, ?_, h.ff.take⟩
  · intro p hp
    rcases List.mem_append.1 hp with hp | hp
    · exact h.s8 p hp
    · simp at hp; subst hp; rfl
  · intro p hp
    rcases List.mem_append.1 hp with hp | hp
    · exact h.ok p hp
    · simp at hp; subst hp; exact hr
  · rw [List.map_append, List.nodup_append]
    refine ⟨h.nd, by simp, ?_⟩
    rintro a ha b hb rfl
    simp [newPg] at hb
    obtain ⟨p, hp, e⟩ := List.mem_map.1 ha
    exact h.df p hp (by rw [e, hb]; exact hm)
  · rw [List.map_append, List.nodup_append]
    refine ⟨h.kd, by simp, ?_⟩
    rintro a ha b hb rfl
    simp [newPg] at hb
    obtain ⟨p, hp, e⟩ := List.mem_map.1 ha
    unfold findK at hk
    rw [List.find?_eq_none] at hk
    exact hk p hp (by simp [e, hb])
  · intro p hp
    rcases List.mem_append.1 hp with hp | hp
    · exact h.rg p hp
    · simp at hp; subst hp; exact h.ff.rg _ hm
  · intro p hp
    rcases List.mem_append.1 hp with hp | hp
    · exact fun hd => h.df p hp (List.dropLast_subset _ hd)
    · simp at hp; subst hp; exact ho
  · have := h.ln
    have h0 : 0 < F.length := List.length_pos_of_mem hm
    simp
    omega
theorem zeroPage (w : World) : (zeroValue 95).run Try.prog w = .ok (.agg #[.int .i64 0, .int .i64 0, .int .i64 0, .int .i64 0, .int .i64 0, .int .i64 0, .bool false, .bool false, .bool false, .int .i64 0, .int .i64 0, .bool false, .bool false, .bool false, .int .i64 0, .int .i64 0, .bool false, .bool false, .bool false, .int .i64 0, .int .i64 0, .bool false, .bool false, .bool false, .int .i64 0, .int .i64 0, .bool false, .bool false, .bool false, .int .i64 0, .int .i64 0, .bool false, .bool false, .bool false, .int .i64 0, .int .i64 0, .bool false, .bool false, .bool false, .int .i64 0, .int .i64 0, .bool false, .bool false, .bool false]) w := by kernel_rfl
theorem findV_lit (o : Option PageS) (v : Int) (b : Bool) (h1 : (match o with | some p => p.f | none => 0) = v) (h2 : o.isSome = b) : findV o = .tuple #[.int .i64 v, .bool b] := by subst h1 h2; rfl
theorem FindIs (sb hb n : Nat) (first many : Int) (S : StS) (k : KeyS) (v : Int) (b : Bool) (h1 : (match findK S.ps k with | some p => p.f | none => 0) = v) (h2 : (findK S.ps k).isSome = b) (w : World) (B : Nat) (X : List Asr) (hH : Has w B (staL sb hb n first many S X)) :
    Calls Try.prog 22 #[.pointer (some ⟨sb, 0, none⟩), .agg (keyC k)] w fun e w' => e = .returned (.tuple #[.int .i64 v, .bool b]) ∧ Has w' B (staL sb hb n first many S X) ∧ Below B w w' := by
  rw [← findV_lit _ v b h1 h2]
  exact Find_calls sb hb n first many S.F S.ps k w B _ hH
theorem rightIs (k : KeyS) (b : Bool) (h : decide (rightK k) = b) (w : World) (B : Nat) (X : List Asr) (hH : Has w B X) :
    Calls Try.prog 56 #[.agg (keyC k)] w fun e w' => e = .returned (.bool b) ∧ Has w' B X ∧ Below B w w' := by
  subst h
  exact right_calls k w B X hH
theorem infoPtr : (Try.prog.info? 91).map (fun i => (i.zero, i.size, i.bytes)) = some (some (.pointer none), 1, 8) := by kernel_rfl
theorem key_cells {w : World} {B b : Nat} {k : KeyS} (L1 : List Asr) {X : List Asr} (hH : Has w B (L1 ++ blk b 31 (keyC k) :: X)) : w.cell? ⟨b, 0, none⟩ = some (.int .i64 k.g) ∧ w.cell? ⟨b, 1, none⟩ = some (.int .i64 k.lv) ∧ w.cell? ⟨b, 2, none⟩ = some (.int .i64 k.ro) :=
  ⟨hH.cell L1 X 0 rfl, hH.cell L1 X 1 rfl, hH.cell L1 X 2 rfl⟩

theorem make8 (w : World) : Sem.run Try.prog (Instr.makeSlice 62 (.int .i64 8) (.int .i64 8)) w = .ok (.slice (some ⟨w.heap.size, 0, none⟩) 8 8) (w.alloc (.cells #[.int .u64 0, .int .u64 0, .int .u64 0, .int .u64 0, .int .u64 0, .int .u64 0, .int .u64 0, .int .u64 0] 55)) := by kernel_rfl
theorem src8 {w : World} {B b : Nat} {X : List Asr} (h : Has w B (blk b 55 #[.int .u64 0, .int .u64 0, .int .u64 0, .int .u64 0, .int .u64 0, .int .u64 0, .int .u64 0, .int .u64 0] :: X)) : SrcU w (some ⟨b, 0, none⟩) (List.replicate 8 0) :=
  ⟨by decide, fun _ => ⟨b, 0, rfl, (h.blk_at [] _).2.2, fun j u hj => by rw [Nat.zero_add]; exact h.cell [] _ j (by simpa [u64s] using hj)⟩⟩
theorem memK {sb hb fb n : Nat} {v : Value} {first many : Int} {F W : List Int} {q : List (Nat × PageS)} {w : World} {B : Nat} {A : Asr} {X : List Asr} (h : Has w B (A :: stoX sb hb fb v first many F q (MemA hb n W :: X))) : Has w B (MemA hb n W :: A :: stoX sb hb fb v first many F q X) := memX_out h
theorem stoFin {sb hb fb n : Nat} {v : Value} {first many : Int} {F W : List Int} {q : List (Nat × PageS)} {w : World} {B : Nat} {A : Asr} {X : List Asr} (h : Has w B (MemA hb n W :: A :: stoX sb hb fb v first many F q X)) : Has w B (stoX sb hb fb v first many F q (MemA hb n W :: X)) := memX_in h
/-- One page more, behind all others. -/
theorem stoX_more {sb hb fb z : Nat} {v : Value} {first many : Int} {F : List Int} {q : List (Nat × PageS)} {p : PageS} {w : World} {B : Nat} {X : List Asr} (h : Has w B (blk z 95 (pageC p) :: blk sb 88 #[ptrV hb, ptrV fb, v] :: row 91 1 v (q.length + 1) (ptrs q ++ [.pointer (some ⟨z, 0, none⟩)]) :: FreeA fb first many F :: (pgs q ++ X))) : Has w B (stoX sb hb fb v first many F (q ++ [(z, p)]) X) := by
  have e := List.perm_middle (a := blk z 95 (pageC p)) (l₁ := blk sb 88 #[ptrV hb, ptrV fb, v] :: row 91 1 v (q.length + 1) (ptrs q ++ [.pointer (some ⟨z, 0, none⟩)]) :: FreeA fb first many F :: pgs q) (l₂ := X)
  have h2 := h.perm e.symm
  unfold stoX
  simpa [pgs, ptrs, ptrV] using h2
/-- The box behind a store and its host's memory. -/
theorem fromK {sb hb fb n : Nat} {v : Value} {first many : Int} {F W : List Int} {q : List (Nat × PageS)} {w : World} {B : Nat} {A : Asr} {X : List Asr} (h : Has w B (stoX sb hb fb v first many F q (MemA hb n W :: A :: X))) : Has w B (A :: stoX sb hb fb v first many F q (MemA hb n W :: X)) := by
  refine h.perm ?_
  have e := List.perm_middle (a := A) (l₁ := (blk sb 88 #[ptrV hb, ptrV fb, v] :: row 91 1 v q.length (ptrs q) :: FreeA fb first many F :: pgs q) ++ [MemA hb n W]) (l₂ := X)
  simpa [stoX] using e
theorem toK {sb hb fb n : Nat} {v : Value} {first many : Int} {F W : List Int} {q : List (Nat × PageS)} {w : World} {B : Nat} {A : Asr} {X : List Asr} (h : Has w B (A :: stoX sb hb fb v first many F q (MemA hb n W :: X))) : Has w B (stoX sb hb fb v first many F q (MemA hb n W :: A :: X)) := by
  refine h.perm ?_
  have e := List.perm_middle (a := A) (l₁ := (blk sb 88 #[ptrV hb, ptrV fb, v] :: row 91 1 v q.length (ptrs q) :: FreeA fb first many F :: pgs q) ++ [MemA hb n W]) (l₂ := X)
  refine List.Perm.symm ?_
  simpa [stoX] using e
set_option maxHeartbeats 4000000 in
set_option maxRecDepth 100000 in
theorem Make_calls (sb hb n : Nat) (first many : Int) (S : StS) (k : KeyS) (w : World) (B : Nat) (X : List Asr) (hH : Has w B (staL sb hb n first many S X)) :
    Calls Try.prog 21 #[.pointer (some ⟨sb, 0, none⟩), .agg (keyC k)] w fun e w' => e = .returned (.tuple #[.int .i64 (makeV S k), .bool (makeB S k)]) ∧ Has w' B (staL sb hb n first many (makeS n S k) X) ∧ Below B w w' := by
  have hP := StoA.fits hH
  obtain ⟨j0, hj0, jz0, jz1, jz2⟩ := info_parts infoPtr
  obtain ⟨fv, hfv⟩ : ∃ v, (match findK S.ps k with | some p => p.f | none => 0) = v := ⟨_, rfl⟩
  obtain ⟨fb', hfb⟩ : ∃ b, (findK S.ps k).isSome = b := ⟨_, rfl⟩
  obtain ⟨rb, hrb⟩ : ∃ b, decide (rightK k) = b := ⟨_, rfl⟩
  obtain ⟨mv, hmv⟩ : ∃ v, makeV S k = v := ⟨_, rfl⟩
  obtain ⟨mb, hmb⟩ : ∃ b, makeB S k = b := ⟨_, rfl⟩
  obtain ⟨kb, hkb⟩ : ∃ b, w.heap.size = b := ⟨_, rfl⟩
  have hN : Has (w.alloc (.cells (keyC k) 31)) B (staL sb hb n first many S (blk kb 31 (keyC k) :: X)) := toX (hH.newblk kb 31 (keyC k) hkb)
  have bN := below_new (Below.refl B w) hH (.cells (keyC k) 31)
  obtain ⟨a0, a1, a2⟩ := key_cells [_, _] hN
  have CF := hid (FindIs sb hb n first many S k fv fb' hfv hfb _ B _ hN)
  have hmbe : makeB S k = (!fb' && rb && takeB S.F) := by unfold makeB; rw [hrb, ← hfb, Option.not_isSome]
  have hmve : makeV S k = if makeB S k then takeV S.F else 0 := rfl
  rw [hmb] at hmbe hmve
  rw [hmv] at hmve
  have HMB := hid hmb
  have HP := hid hP
  have HFB := hid hfb
  have HRB := hid hrb
  rw [hmv, hmb]
  clear hmv hmb hfv hfb hH hP hN
  go_enter Try.func21, Try.ntmps21
  go_wp2_with fail
  refine CF.out.mono ?_
  rintro e w2 ⟨rfl, hH2, hB2⟩
  have bN := bN.trans hB2
  have hH2 : Has w2 B (staL sb hb n first many S (blk kb 31 (keyC k) :: X)) := hH2
  obtain ⟨c0, c1, c2⟩ := key_cells [_, _] hH2
  have HB := hid hkb
  clear CF hB2 a0 a1 a2 hkb
  cases fb' with
  | true =>
    have hm : mb = false := by rw [hmbe]; rfl
    subst hm
    have hv : mv = 0 := by rw [hmve]; rfl
    subst hv
    have hs : makeS n S k = S := by unfold makeS; rw [HMB.out]; rfl
    have HS := hid hs
    clear hmbe hmve hs hrb
    go_wp2_with fail
    go_ret2
    exact ⟨rfl, by rw [HS.out]; exact Has.drop (fromX hH2), bN⟩
  | false =>
    have CR := hid (rightIs k rb hrb w2 B _ hH2)
    clear hrb
    go_wp2_with fail
    refine CR.out.mono ?_
    rintro e w3 ⟨rfl, hH3, hB3⟩
    have bN := bN.trans hB3
    have hH3 : Has w3 B (staL sb hb n first many S (blk kb 31 (keyC k) :: X)) := hH3
    clear CR hH2 hB3 c0 c1 c2
    cases rb with
    | false =>
      have hm : mb = false := by rw [hmbe]; rfl
      subst hm
      have hv : mv = 0 := by rw [hmve]; rfl
      subst hv
      have hs : makeS n S k = S := by unfold makeS; rw [HMB.out]; rfl
      have HS := hid hs
      clear hmbe hmve hs
      go_wp2_with fail
      go_ret2
      exact ⟨rfl, by rw [HS.out]; exact Has.drop (fromX hH3), bN⟩
    | true =>
      obtain ⟨_, fb, v, q, hq, hl, hO⟩ := StoA.openX hH3
      have c1 := hO.cell [] _ 1 (v := ptrV fb) rfl
      unfold ptrV at c1
      have CT := hid ((FreeTake fb first many S.F).at [_, _] _ hO)
      have HQ := hid hq
      clear hH3 hq
      go_wp2_with fail
      refine CT.out.mono ?_
      rintro e w4 ⟨_, rfl, hH4, hB4⟩
      have bN := bN.trans hB4
      have hH4 : Has w4 B (stoX sb hb fb v first many S.F.dropLast q (MemA hb n S.W :: blk kb 31 (keyC k) :: X)) := hH4
      obtain ⟨tb, htb⟩ : ∃ b, takeB S.F = b := ⟨_, rfl⟩
      rw [htb] at hmbe ⊢
      clear CT hO c1 hB4
      cases tb with
      | false =>
        have hm : mb = false := by rw [hmbe]; rfl
        subst hm
        have hv : mv = 0 := by rw [hmve]; rfl
        subst hv
        have hs : makeS n S k = S := by unfold makeS; rw [HMB.out]; rfl
        have hF : S.F.dropLast = S.F := by
          have : S.F = [] := by unfold takeB at htb; simpa using htb
          rw [this]; rfl
        rw [hF] at hH4
        have HS := hid hs
        clear hmbe hmve hs hF htb
        go_wp2_with fail
        go_ret2
        refine ⟨rfl, ?_, bN⟩
        have h5 : Has w4 B (StoA sb hb n first many S.F (q.map Prod.snd) :: MemA hb n S.W :: blk kb 31 (keyC k) :: X) := StoA.shut fb v q (by rw [HQ.out]; exact HP.out) hH4
        rw [HQ.out] at h5
        rw [HS.out]
        exact Has.drop (fromX h5)
      | true =>
        have hm : mb = true := by rw [hmbe]; rfl
        subst hm
        have hv : mv = takeV S.F := by rw [hmve]; rfl
        obtain ⟨tv, htv⟩ : ∃ v, takeV S.F = v := ⟨_, rfl⟩
        have hvt : tv = mv := by rw [hv]; exact htv.symm
        rw [htv, hvt]
        rw [hvt] at htv
        clear hvt hv
        have HTV := hid htv
        have HTB := hid htb
        clear hmbe hmve htv htb
        obtain ⟨sz, hsz⟩ : ∃ z, w4.heap.size = z := ⟨_, rfl⟩
        have hD := hH4.drew
        have c2 := hD.cell [] _ 2 (v := v) rfl
        have s0 := key_cells [] (fromK hD)
        have zp := zeroPage
        go_wp2_with fail
        have hz1 : (w4.drew).heap.size = sz := hsz
        have hA1 : Has (w4.drew.alloc (.cells (pageC (newPg mv k)) 95)) B (blk sz 95 (pageC (newPg mv k)) :: stoX sb hb fb v first many S.F.dropLast q (MemA hb n S.W :: blk kb 31 (keyC k) :: X)) := hD.newblk sz 95 (pageC (newPg mv k)) hz1
        have bA1 := below_new bN.drew hD (.cells (pageC (newPg mv k)) 95)
        have hz2 : (w4.drew.alloc (.cells (pageC (newPg mv k)) 95)).heap.size = sz + 1 := by rw [World.size_alloc, hz1]
        have hA2 := hA1.alloc (.cells #[.pointer (some ⟨sz, 0, none⟩)] 91)
        have bA2 := below_new bA1 hA1 (.cells #[.pointer (some ⟨sz, 0, none⟩)] 91)
        have hN2 := cell_one_new (w4.drew.alloc (.cells (pageC (newPg mv k)) 95)) (.pointer (some ⟨sz, 0, none⟩)) 91
        rw [hz2] at hN2
        have s1 := key_cells [] (fromK hA1.drop)
        have s2 := key_cells [] (fromK hA2.drop)
        have c3 : (w4.alloc (.cells #[.int .i64 mv, .int .i64 k.g, .int .i64 k.lv, .int .i64 k.ro, .int .i64 0, .int .i64 0, .bool false, .bool false, .bool false, .int .i64 0, .int .i64 0, .bool false, .bool false, .bool false, .int .i64 0, .int .i64 0, .bool false, .bool false, .bool false, .int .i64 0, .int .i64 0, .bool false, .bool false, .bool false, .int .i64 0, .int .i64 0, .bool false, .bool false, .bool false, .int .i64 0, .int .i64 0, .bool false, .bool false, .bool false, .int .i64 0, .int .i64 0, .bool false, .bool false, .bool false, .int .i64 0, .int .i64 0, .bool false, .bool false, .bool false] 95)).cell? ⟨sb, 2, none⟩ = some v := hA1.cell [_] _ 2 (v := v) rfl
        have c4 : ((w4.alloc (.cells #[.int .i64 mv, .int .i64 k.g, .int .i64 k.lv, .int .i64 k.ro, .int .i64 0, .int .i64 0, .bool false, .bool false, .bool false, .int .i64 0, .int .i64 0, .bool false, .bool false, .bool false, .int .i64 0, .int .i64 0, .bool false, .bool false, .bool false, .int .i64 0, .int .i64 0, .bool false, .bool false, .bool false, .int .i64 0, .int .i64 0, .bool false, .bool false, .bool false, .int .i64 0, .int .i64 0, .bool false, .bool false, .bool false, .int .i64 0, .int .i64 0, .bool false, .bool false, .bool false, .int .i64 0, .int .i64 0, .bool false, .bool false, .bool false] 95)).alloc (.cells #[.pointer (some ⟨sz, 0, none⟩)] 91)).cell? ⟨sb, 2, none⟩ = some v := hA2.cell [_] _ 2 (v := v) rfl
        clear hz1 hz2
        refine wp_region_held_drew (S := fun U => U.cell? ⟨kb, 0, none⟩ = some (.int .i64 k.g) ∧ U.cell? ⟨kb, 1, none⟩ = some (.int .i64 k.lv) ∧ U.cell? ⟨kb, 2, none⟩ = some (.int .i64 k.ro)) (by kernel_rfl) ?_ (fun hHeld => ?_)
        · exact s0
        refine wpAnyH_take (i := 0) (oi := ?oi0) (v := ?v0) ?hi0 (by kernel_rfl) (by kernel_rfl) (by kernel_rfl) ?hQ0 ?hy0 (by assumption) ?rest0
        case hi0 => simp only [List.getElem?_toArray, List.getElem?_cons_succ, List.getElem?_cons_zero]; rfl
        case hQ0 => exact fun _ _ _ h => h
        case hy0 => refine Or.inl ⟨by rfl, ?_⟩; intro w hSw; (try dsimp only at hSw); go_simp; try with_reducible rfl
        try simp only [Act.put, List.setIfInBounds_toArray, List.set_cons_zero, List.set_cons_succ]
        refine wpAnyH_take (i := 1) (oi := ?oi1) (v := ?v1) ?hi1 (by kernel_rfl) (by kernel_rfl) (by kernel_rfl) ?hQ1 ?hy1 (by assumption) ?rest1
        case hi1 => simp only [List.getElem?_toArray, List.getElem?_cons_succ, List.getElem?_cons_zero]; rfl
        case hQ1 => exact fun _ _ _ h => h
        case hy1 => refine Or.inl ⟨by rfl, ?_⟩; intro w hSw; (try dsimp only at hSw); go_simp; try with_reducible rfl
        try simp only [Act.put, List.setIfInBounds_toArray, List.set_cons_zero, List.set_cons_succ]
        refine wpAnyH_take (i := 2) (oi := ?oi2) (v := ?v2) ?hi2 (by kernel_rfl) (by kernel_rfl) (by kernel_rfl) ?hQ2 ?hy2 (by assumption) ?rest2
        case hi2 => simp only [List.getElem?_toArray, List.getElem?_cons_succ, List.getElem?_cons_zero]; rfl
        case hQ2 => exact fun _ _ _ h => h
        case hy2 => refine Or.inl ⟨by rfl, ?_⟩; intro w hSw; (try dsimp only at hSw); go_simp; try with_reducible rfl
        try simp only [Act.put, List.setIfInBounds_toArray, List.set_cons_zero, List.set_cons_succ]
        refine wpAnyH_take (i := 3) (oi := ?oi3) (v := ?v3) ?hi3 (by kernel_rfl) (by kernel_rfl) (by kernel_rfl) ?hQ3 ?hy3 (by assumption) ?rest3
        case hi3 => simp only [List.getElem?_toArray, List.getElem?_cons_succ, List.getElem?_cons_zero]; rfl
        case hQ3 => exact fun _ _ _ h => h
        case hy3 => refine Or.inl ⟨by rfl, ?_⟩; intro w hSw; (try dsimp only at hSw); go_simp; try with_reducible rfl
        try simp only [Act.put, List.setIfInBounds_toArray, List.set_cons_zero, List.set_cons_succ]
        refine wpAnyH_take (i := 5) (oi := ?oi5) (v := ?v5) ?hi5 (by kernel_rfl) (by kernel_rfl) (by kernel_rfl) ?hQ5 ?hy5 (by assumption) ?rest5
        case hi5 => simp only [List.getElem?_toArray, List.getElem?_cons_succ, List.getElem?_cons_zero]; rfl
        case hQ5 => exact fun _ _ _ h => h
        case hy5 => refine Or.inl ⟨by rfl, ?_⟩; intro w hSw; (try dsimp only at hSw); go_simp; try with_reducible rfl
        try simp only [Act.put, List.setIfInBounds_toArray, List.set_cons_zero, List.set_cons_succ]
        refine wpAnyH_take (i := 6) (oi := ?oi6) (v := ?v6) ?hi6 (by kernel_rfl) (by kernel_rfl) (by kernel_rfl) ?hQ6 ?hy6 (by assumption) ?rest6
        case hi6 => simp only [List.getElem?_toArray, List.getElem?_cons_succ, List.getElem?_cons_zero]; rfl
        case hQ6 => exact fun _ _ _ h => h
        case hy6 => refine Or.inl ⟨by rfl, ?_⟩; intro w hSw; (try dsimp only at hSw); go_simp; try with_reducible rfl
        try simp only [Act.put, List.setIfInBounds_toArray, List.set_cons_zero, List.set_cons_succ]
        refine wpAnyH_take (i := 7) (oi := ?oi7) (v := ?v7) ?hi7 (by kernel_rfl) (by kernel_rfl) (by kernel_rfl) ?hQ7 ?hy7 (by assumption) ?rest7
        case hi7 => simp only [List.getElem?_toArray, List.getElem?_cons_succ, List.getElem?_cons_zero]; rfl
        case hQ7 => exact fun _ _ _ h => h
        case hy7 => refine Or.inl ⟨by rfl, ?_⟩; intro w hSw; (try dsimp only at hSw); go_simp; try with_reducible rfl
        try simp only [Act.put, List.setIfInBounds_toArray, List.set_cons_zero, List.set_cons_succ]
        refine wpAnyH_ready (rs := [4, 8]) (by kernel_rfl) (by simp) ?_
        refine AllReadyH.cons rfl (fun K hK => ?_) (AllReadyH.cons rfl (fun K hK => ?_) AllReadyH.nil)
        · go_simp
          refine hK.out _ _ ?_ (fun hHeld => ?_)
          · exact s0
          clear hK K
          try simp only [Act.put, List.setIfInBounds_toArray, List.set_cons_zero, List.set_cons_succ]
          refine wpAnyH_ready (rs := [8]) (by kernel_rfl) (by simp) ?_
          refine AllReadyH.cons rfl (fun K hK => ?_) AllReadyH.nil
          go_simp
          refine hK.out _ _ ?_ (fun hHeld => ?_)
          · exact s1
          clear hK K
          try simp only [Act.put, List.setIfInBounds_toArray, List.set_cons_zero, List.set_cons_succ]
          refine wpAnyH_ready (rs := [9]) (by kernel_rfl) (by simp) ?_
          refine AllReadyH.cons rfl (fun K hK => ?_) AllReadyH.nil
          go_simp
          refine hK.out _ _ ?_ (fun hHeld => ?_)
          · exact s2
          clear hK K
          try simp only [Act.put, List.setIfInBounds_toArray, List.set_cons_zero, List.set_cons_succ]
          refine wpAnyH_ready (rs := [10]) (by kernel_rfl) (by simp) ?_
          refine AllReadyH.cons rfl (fun K hK => ?_) AllReadyH.nil
          refine step_append_any [_, _] _ hA2 rfl (.tmp 36) (.tmp 41) 86 rfl j0 (.pointer none) 8 Try.underlying86 hj0 jz0 jz1 jz2 rfl (by decide) rfl ⟨sz + 1, 0, none⟩ 1 1 [.pointer (some ⟨sz, 0, none⟩)] rfl rfl hN2 (by simp [Value.oneCell']) (by decide) (by unfold maxLen; omega) (by omega) ?_
          intro g3 cap3 w3' hH3 hB3
          have s3 := key_cells (blk sz 95 (pageC (newPg mv k)) :: blk sb 88 #[ptrV hb, ptrV fb, v] :: row 91 1 (.slice (some ⟨g3, 0, none⟩) (q.length + 1) cap3) (q.length + 1) (ptrs q ++ [.pointer (some ⟨sz, 0, none⟩)]) :: FreeA fb first many S.F.dropLast :: (pgs q ++ [MemA hb n S.W])) (by simpa using hH3)
          have k4 := Has.frozen [_] _ hH3 2
          have k5 := Has.cell [_] _ hH3 2 (v := v) rfl
          have hS := Has.set [_] _ hH3 2 (.slice (some ⟨g3, 0, none⟩) (q.length + 1) cap3)
          have bS := below_set (bA2.trans hB3) [_] _ hH3 2 (.slice (some ⟨g3, 0, none⟩) (q.length + 1) cap3)
          have s4 := key_cells (blk sz 95 (pageC (newPg mv k)) :: blk sb 88 #[ptrV hb, ptrV fb, .slice (some ⟨g3, 0, none⟩) (q.length + 1) cap3] :: row 91 1 (.slice (some ⟨g3, 0, none⟩) (q.length + 1) cap3) (q.length + 1) (ptrs q ++ [.pointer (some ⟨sz, 0, none⟩)]) :: FreeA fb first many S.F.dropLast :: (pgs q ++ [MemA hb n S.W])) (by simpa using hS)
          refine hK.out _ _ ?_ (fun hHeld => ?_)
          · exact s3
          clear hK K
          try simp only [Act.put, List.setIfInBounds_toArray, List.set_cons_zero, List.set_cons_succ]
          refine wpAnyH_take (i := 11) (oi := ?oi11a) (v := ?v11a) ?hi11a (by kernel_rfl) (by kernel_rfl) (by kernel_rfl) ?hQ11a ?hy11a (by assumption) ?rest11a
          case hi11a => simp only [List.getElem?_toArray, List.getElem?_cons_succ, List.getElem?_cons_zero]; rfl
          case hQ11a => exact fun _ _ _ h => h
          case hy11a => refine Or.inl ⟨by rfl, ?_⟩; intro w hSw; (try dsimp only at hSw); go_simp; try with_reducible rfl
          try simp only [Act.put, List.setIfInBounds_toArray, List.set_cons_zero, List.set_cons_succ]
          refine wpAnyH_take (i := 12) (oi := ?oi12a) (v := ?v12a) ?hi12a (by kernel_rfl) (by kernel_rfl) (by kernel_rfl) ?hQ12a ?hy12a (by assumption) ?rest12a
          case hi12a => simp only [List.getElem?_toArray, List.getElem?_cons_succ, List.getElem?_cons_zero]; rfl
          case hQ12a => exact fun _ _ _ h => h
          case hy12a => refine Or.inl ⟨by rfl, ?_⟩; intro w hSw; (try dsimp only at hSw); go_simp; try with_reducible rfl
          try simp only [Act.put, List.setIfInBounds_toArray, List.set_cons_zero, List.set_cons_succ]
          refine wpAnyH_ready (rs := [13]) (by kernel_rfl) (by simp) ?_
          refine AllReadyH.cons rfl (fun K hK => ?_) AllReadyH.nil
          go_simp
          refine hK.out _ _ ?_ (fun hHeld => ?_)
          · exact s4
          clear hK K
          try simp only [Act.put, List.setIfInBounds_toArray, List.set_cons_zero, List.set_cons_succ]
          refine wpAnyH_done (by kernel_rfl) ?_ _
          have hT9 : Has _ B (stoX sb hb fb (.slice (some ⟨g3, 0, none⟩) (q.length + 1) cap3) first many S.F.dropLast (q ++ [(sz, newPg mv k)]) (MemA hb n S.W :: blk kb 31 (keyC k) :: X)) := stoX_more hS
          clear hHeld s0 s1 s2 s3 s4 hN2 hA1 hA2 bA1 bA2 hH3 hB3 k4 k5 hS hD c2 c3 c4
          go_wp2_with fail
          generalize (w3'.setCell ⟨sb, 2, none⟩ (.slice (some ⟨g3, 0, none⟩) (q.length + 1) cap3)) = w9 at *
          have hD9 := hT9.drew
          have bD9 := bS.drew
          have t0 := hD9.cell [] _ 0 (v := ptrV hb) rfl
          unfold ptrV at t0
          have mk := make8
          have hz9 : (w9.drew).heap.size = w9.heap.size := rfl
          have hT10 := hD9.newblk w9.heap.size 55 #[.int .u64 0, .int .u64 0, .int .u64 0, .int .u64 0, .int .u64 0, .int .u64 0, .int .u64 0, .int .u64 0] hz9
          have bT10 := below_new bD9 hD9 (.cells #[.int .u64 0, .int .u64 0, .int .u64 0, .int .u64 0, .int .u64 0, .int .u64 0, .int .u64 0, .int .u64 0] 55)
          have t1 := hT10.cell [_] _ 0 (v := ptrV hb) rfl
          unfold ptrV at t1
          clear hz9
          refine wp_region_held_drew (S := fun U => U.cell? ⟨sb, 0, none⟩ = some (.pointer (some ⟨hb, 0, none⟩))) (by kernel_rfl) ?_ (fun hHeld => ?_)
          · exact t0
          refine wpAnyH_take (i := 0) (oi := ?oi0za) (v := ?v0za) ?hi0za (by kernel_rfl) (by kernel_rfl) (by kernel_rfl) ?hQ0za ?hy0za (by assumption) ?rest0za
          case hi0za => simp only [List.getElem?_toArray, List.getElem?_cons_succ, List.getElem?_cons_zero]; rfl
          case hQ0za => exact fun _ _ _ h => h
          case hy0za => refine Or.inl ⟨by rfl, ?_⟩; intro w hSw; (try dsimp only at hSw); go_simp; try with_reducible rfl
          try simp only [Act.put, List.setIfInBounds_toArray, List.set_cons_zero, List.set_cons_succ]
          refine wpAnyH_take (i := 1) (oi := ?oi1za) (v := ?v1za) ?hi1za (by kernel_rfl) (by kernel_rfl) (by kernel_rfl) ?hQ1za ?hy1za (by assumption) ?rest1za
          case hi1za => simp only [List.getElem?_toArray, List.getElem?_cons_succ, List.getElem?_cons_zero]; rfl
          case hQ1za => exact fun _ _ _ h => h
          case hy1za => refine Or.inl ⟨by rfl, ?_⟩; intro w hSw; (try dsimp only at hSw); go_simp; try with_reducible rfl
          try simp only [Act.put, List.setIfInBounds_toArray, List.set_cons_zero, List.set_cons_succ]
          refine wpAnyH_take (i := 2) (oi := ?oi2za) (v := ?v2za) ?hi2za (by kernel_rfl) (by kernel_rfl) (by kernel_rfl) ?hQ2za ?hy2za (by assumption) ?rest2za
          case hi2za => simp only [List.getElem?_toArray, List.getElem?_cons_succ, List.getElem?_cons_zero]; rfl
          case hQ2za => exact fun _ _ _ h => h
          case hy2za => refine Or.inl ⟨by rfl, ?_⟩; intro w hSw; (try dsimp only at hSw); go_simp; try with_reducible rfl
          try simp only [Act.put, List.setIfInBounds_toArray, List.set_cons_zero, List.set_cons_succ]
          refine wpAnyH_take (i := 3) (oi := ?oi3za) (v := ?v3za) ?hi3za (by kernel_rfl) (by kernel_rfl) (by kernel_rfl) ?hQ3za ?hy3za (by assumption) ?rest3za
          case hi3za => simp only [List.getElem?_toArray, List.getElem?_cons_succ, List.getElem?_cons_zero]; rfl
          case hQ3za => exact fun _ _ _ h => h
          case hy3za => refine Or.inl ⟨by rfl, ?_⟩; intro w hSw; (try dsimp only at hSw); go_simp; try with_reducible rfl
          try simp only [Act.put, List.setIfInBounds_toArray, List.set_cons_zero, List.set_cons_succ]
          refine wpAnyH_take (i := 4) (oi := ?oi4za) (v := ?v4za) ?hi4za (by kernel_rfl) (by kernel_rfl) (by kernel_rfl) ?hQ4za ?hy4za (by assumption) ?rest4za
          case hi4za => simp only [List.getElem?_toArray, List.getElem?_cons_succ, List.getElem?_cons_zero]; rfl
          case hQ4za => exact fun _ _ _ h => h
          case hy4za => refine Or.inl ⟨by rfl, ?_⟩; intro w hSw; (try dsimp only at hSw); go_simp; try with_reducible rfl
          try simp only [Act.put, List.setIfInBounds_toArray, List.set_cons_zero, List.set_cons_succ]
          refine wpAnyH_ready (rs := [5]) (by kernel_rfl) (by simp) ?_
          refine AllReadyH.cons rfl (fun K hK => ?_) AllReadyH.nil
          go_simp
          refine hK.out _ _ ?_ (fun hHeld => ?_)
          · exact t1
          clear hK K
          try simp only [Act.put, List.setIfInBounds_toArray, List.set_cons_zero, List.set_cons_succ]
          refine wpAnyH_ready (rs := [6]) (by kernel_rfl) (by simp) ?_
          refine AllReadyH.cons rfl (fun K hK => ?_) AllReadyH.nil
          go_simp
          go_at_call 58
          refine (Fill_calls hb n S.W mv (some ⟨w9.heap.size, 0, none⟩) 8 (List.replicate 8 0) _ (src8 hT10) B _ (memK hT10)).mono ?_
          rintro e w10 ⟨rfl, hH10, hB10⟩
          have t2 := hH10.cell [_, _] _ 0 (v := ptrV hb) rfl
          unfold ptrV at t2
          try dsimp only
          refine hK.out _ _ ?_ (fun hHeld => ?_)
          · exact t2
          clear hK K
          try simp only [Act.put, List.setIfInBounds_toArray, List.set_cons_zero, List.set_cons_succ]
          refine wpAnyH_done (by kernel_rfl) ?_ _
          have bU := bT10.trans hB10
          clear hHeld t0 t1 t2 hT9 hD9 bD9 bT10 bS mk
          go_wp2_with fail
          go_ret2
          refine ⟨rfl, ?_, bU⟩
          have hms : makeS n S k = ⟨fillW S.W n mv (List.replicate 8 0), S.F.dropLast, S.ps ++ [newPg mv k]⟩ := by unfold makeS; rw [if_pos HMB.out, HTV.out]; rfl
          rw [hms]
          have hfk : findK S.ps k = none := by simpa using HFB.out
          have hp := HP.out.make hfk (of_decide_eq_true HRB.out) HTB.out
          rw [HTV.out] at hp
          have e : (q ++ [(sz, newPg mv k)]).map Prod.snd = S.ps ++ [newPg mv k] := by rw [List.map_append, HQ.out]; rfl
          rw [← e] at hp
          have h11 := StoA.shut fb _ (q ++ [(sz, newPg mv k)]) hp (stoFin hH10)
          rw [e] at h11
          exact Has.drop (fromX h11)
        · go_simp
          refine hK.out _ _ ?_ (fun hHeld => ?_)
          · exact s1
          clear hK K
          try simp only [Act.put, List.setIfInBounds_toArray, List.set_cons_zero, List.set_cons_succ]
          refine wpAnyH_ready (rs := [4, 9]) (by kernel_rfl) (by simp) ?_
          refine AllReadyH.cons rfl (fun K hK => ?_) (AllReadyH.cons rfl (fun K hK => ?_) AllReadyH.nil)
          · go_simp
            refine hK.out _ _ ?_ (fun hHeld => ?_)
            · exact s1
            clear hK K
            try simp only [Act.put, List.setIfInBounds_toArray, List.set_cons_zero, List.set_cons_succ]
            refine wpAnyH_ready (rs := [9]) (by kernel_rfl) (by simp) ?_
            refine AllReadyH.cons rfl (fun K hK => ?_) AllReadyH.nil
            go_simp
            refine hK.out _ _ ?_ (fun hHeld => ?_)
            · exact s2
            clear hK K
            try simp only [Act.put, List.setIfInBounds_toArray, List.set_cons_zero, List.set_cons_succ]
            refine wpAnyH_ready (rs := [10]) (by kernel_rfl) (by simp) ?_
            refine AllReadyH.cons rfl (fun K hK => ?_) AllReadyH.nil
            refine step_append_any [_, _] _ hA2 rfl (.tmp 36) (.tmp 41) 86 rfl j0 (.pointer none) 8 Try.underlying86 hj0 jz0 jz1 jz2 rfl (by decide) rfl ⟨sz + 1, 0, none⟩ 1 1 [.pointer (some ⟨sz, 0, none⟩)] rfl rfl hN2 (by simp [Value.oneCell']) (by decide) (by unfold maxLen; omega) (by omega) ?_
            intro g3 cap3 w3' hH3 hB3
            have s3 := key_cells (blk sz 95 (pageC (newPg mv k)) :: blk sb 88 #[ptrV hb, ptrV fb, v] :: row 91 1 (.slice (some ⟨g3, 0, none⟩) (q.length + 1) cap3) (q.length + 1) (ptrs q ++ [.pointer (some ⟨sz, 0, none⟩)]) :: FreeA fb first many S.F.dropLast :: (pgs q ++ [MemA hb n S.W])) (by simpa using hH3)
            have k4 := Has.frozen [_] _ hH3 2
            have k5 := Has.cell [_] _ hH3 2 (v := v) rfl
            have hS := Has.set [_] _ hH3 2 (.slice (some ⟨g3, 0, none⟩) (q.length + 1) cap3)
            have bS := below_set (bA2.trans hB3) [_] _ hH3 2 (.slice (some ⟨g3, 0, none⟩) (q.length + 1) cap3)
            have s4 := key_cells (blk sz 95 (pageC (newPg mv k)) :: blk sb 88 #[ptrV hb, ptrV fb, .slice (some ⟨g3, 0, none⟩) (q.length + 1) cap3] :: row 91 1 (.slice (some ⟨g3, 0, none⟩) (q.length + 1) cap3) (q.length + 1) (ptrs q ++ [.pointer (some ⟨sz, 0, none⟩)]) :: FreeA fb first many S.F.dropLast :: (pgs q ++ [MemA hb n S.W])) (by simpa using hS)
            refine hK.out _ _ ?_ (fun hHeld => ?_)
            · exact s3
            clear hK K
            try simp only [Act.put, List.setIfInBounds_toArray, List.set_cons_zero, List.set_cons_succ]
            refine wpAnyH_take (i := 11) (oi := ?oi11b) (v := ?v11b) ?hi11b (by kernel_rfl) (by kernel_rfl) (by kernel_rfl) ?hQ11b ?hy11b (by assumption) ?rest11b
            case hi11b => simp only [List.getElem?_toArray, List.getElem?_cons_succ, List.getElem?_cons_zero]; rfl
            case hQ11b => exact fun _ _ _ h => h
            case hy11b => refine Or.inl ⟨by rfl, ?_⟩; intro w hSw; (try dsimp only at hSw); go_simp; try with_reducible rfl
            try simp only [Act.put, List.setIfInBounds_toArray, List.set_cons_zero, List.set_cons_succ]
            refine wpAnyH_take (i := 12) (oi := ?oi12b) (v := ?v12b) ?hi12b (by kernel_rfl) (by kernel_rfl) (by kernel_rfl) ?hQ12b ?hy12b (by assumption) ?rest12b
            case hi12b => simp only [List.getElem?_toArray, List.getElem?_cons_succ, List.getElem?_cons_zero]; rfl
            case hQ12b => exact fun _ _ _ h => h
            case hy12b => refine Or.inl ⟨by rfl, ?_⟩; intro w hSw; (try dsimp only at hSw); go_simp; try with_reducible rfl
            try simp only [Act.put, List.setIfInBounds_toArray, List.set_cons_zero, List.set_cons_succ]
            refine wpAnyH_ready (rs := [13]) (by kernel_rfl) (by simp) ?_
            refine AllReadyH.cons rfl (fun K hK => ?_) AllReadyH.nil
            go_simp
            refine hK.out _ _ ?_ (fun hHeld => ?_)
            · exact s4
            clear hK K
            try simp only [Act.put, List.setIfInBounds_toArray, List.set_cons_zero, List.set_cons_succ]
            refine wpAnyH_done (by kernel_rfl) ?_ _
            have hT9 : Has _ B (stoX sb hb fb (.slice (some ⟨g3, 0, none⟩) (q.length + 1) cap3) first many S.F.dropLast (q ++ [(sz, newPg mv k)]) (MemA hb n S.W :: blk kb 31 (keyC k) :: X)) := stoX_more hS
            clear hHeld s0 s1 s2 s3 s4 hN2 hA1 hA2 bA1 bA2 hH3 hB3 k4 k5 hS hD c2 c3 c4
            go_wp2_with fail
            generalize (w3'.setCell ⟨sb, 2, none⟩ (.slice (some ⟨g3, 0, none⟩) (q.length + 1) cap3)) = w9 at *
            have hD9 := hT9.drew
            have bD9 := bS.drew
            have t0 := hD9.cell [] _ 0 (v := ptrV hb) rfl
            unfold ptrV at t0
            have mk := make8
            have hz9 : (w9.drew).heap.size = w9.heap.size := rfl
            have hT10 := hD9.newblk w9.heap.size 55 #[.int .u64 0, .int .u64 0, .int .u64 0, .int .u64 0, .int .u64 0, .int .u64 0, .int .u64 0, .int .u64 0] hz9
            have bT10 := below_new bD9 hD9 (.cells #[.int .u64 0, .int .u64 0, .int .u64 0, .int .u64 0, .int .u64 0, .int .u64 0, .int .u64 0, .int .u64 0] 55)
            have t1 := hT10.cell [_] _ 0 (v := ptrV hb) rfl
            unfold ptrV at t1
            clear hz9
            refine wp_region_held_drew (S := fun U => U.cell? ⟨sb, 0, none⟩ = some (.pointer (some ⟨hb, 0, none⟩))) (by kernel_rfl) ?_ (fun hHeld => ?_)
            · exact t0
            refine wpAnyH_take (i := 0) (oi := ?oi0zb) (v := ?v0zb) ?hi0zb (by kernel_rfl) (by kernel_rfl) (by kernel_rfl) ?hQ0zb ?hy0zb (by assumption) ?rest0zb
            case hi0zb => simp only [List.getElem?_toArray, List.getElem?_cons_succ, List.getElem?_cons_zero]; rfl
            case hQ0zb => exact fun _ _ _ h => h
            case hy0zb => refine Or.inl ⟨by rfl, ?_⟩; intro w hSw; (try dsimp only at hSw); go_simp; try with_reducible rfl
            try simp only [Act.put, List.setIfInBounds_toArray, List.set_cons_zero, List.set_cons_succ]
            refine wpAnyH_take (i := 1) (oi := ?oi1zb) (v := ?v1zb) ?hi1zb (by kernel_rfl) (by kernel_rfl) (by kernel_rfl) ?hQ1zb ?hy1zb (by assumption) ?rest1zb
            case hi1zb => simp only [List.getElem?_toArray, List.getElem?_cons_succ, List.getElem?_cons_zero]; rfl
            case hQ1zb => exact fun _ _ _ h => h
            case hy1zb => refine Or.inl ⟨by rfl, ?_⟩; intro w hSw; (try dsimp only at hSw); go_simp; try with_reducible rfl
            try simp only [Act.put, List.setIfInBounds_toArray, List.set_cons_zero, List.set_cons_succ]
            refine wpAnyH_take (i := 2) (oi := ?oi2zb) (v := ?v2zb) ?hi2zb (by kernel_rfl) (by kernel_rfl) (by kernel_rfl) ?hQ2zb ?hy2zb (by assumption) ?rest2zb
            case hi2zb => simp only [List.getElem?_toArray, List.getElem?_cons_succ, List.getElem?_cons_zero]; rfl
            case hQ2zb => exact fun _ _ _ h => h
            case hy2zb => refine Or.inl ⟨by rfl, ?_⟩; intro w hSw; (try dsimp only at hSw); go_simp; try with_reducible rfl
            try simp only [Act.put, List.setIfInBounds_toArray, List.set_cons_zero, List.set_cons_succ]
            refine wpAnyH_take (i := 3) (oi := ?oi3zb) (v := ?v3zb) ?hi3zb (by kernel_rfl) (by kernel_rfl) (by kernel_rfl) ?hQ3zb ?hy3zb (by assumption) ?rest3zb
            case hi3zb => simp only [List.getElem?_toArray, List.getElem?_cons_succ, List.getElem?_cons_zero]; rfl
            case hQ3zb => exact fun _ _ _ h => h
            case hy3zb => refine Or.inl ⟨by rfl, ?_⟩; intro w hSw; (try dsimp only at hSw); go_simp; try with_reducible rfl
            try simp only [Act.put, List.setIfInBounds_toArray, List.set_cons_zero, List.set_cons_succ]
            refine wpAnyH_take (i := 4) (oi := ?oi4zb) (v := ?v4zb) ?hi4zb (by kernel_rfl) (by kernel_rfl) (by kernel_rfl) ?hQ4zb ?hy4zb (by assumption) ?rest4zb
            case hi4zb => simp only [List.getElem?_toArray, List.getElem?_cons_succ, List.getElem?_cons_zero]; rfl
            case hQ4zb => exact fun _ _ _ h => h
            case hy4zb => refine Or.inl ⟨by rfl, ?_⟩; intro w hSw; (try dsimp only at hSw); go_simp; try with_reducible rfl
            try simp only [Act.put, List.setIfInBounds_toArray, List.set_cons_zero, List.set_cons_succ]
            refine wpAnyH_ready (rs := [5]) (by kernel_rfl) (by simp) ?_
            refine AllReadyH.cons rfl (fun K hK => ?_) AllReadyH.nil
            go_simp
            refine hK.out _ _ ?_ (fun hHeld => ?_)
            · exact t1
            clear hK K
            try simp only [Act.put, List.setIfInBounds_toArray, List.set_cons_zero, List.set_cons_succ]
            refine wpAnyH_ready (rs := [6]) (by kernel_rfl) (by simp) ?_
            refine AllReadyH.cons rfl (fun K hK => ?_) AllReadyH.nil
            go_simp
            go_at_call 58
            refine (Fill_calls hb n S.W mv (some ⟨w9.heap.size, 0, none⟩) 8 (List.replicate 8 0) _ (src8 hT10) B _ (memK hT10)).mono ?_
            rintro e w10 ⟨rfl, hH10, hB10⟩
            have t2 := hH10.cell [_, _] _ 0 (v := ptrV hb) rfl
            unfold ptrV at t2
            try dsimp only
            refine hK.out _ _ ?_ (fun hHeld => ?_)
            · exact t2
            clear hK K
            try simp only [Act.put, List.setIfInBounds_toArray, List.set_cons_zero, List.set_cons_succ]
            refine wpAnyH_done (by kernel_rfl) ?_ _
            have bU := bT10.trans hB10
            clear hHeld t0 t1 t2 hT9 hD9 bD9 bT10 bS mk
            go_wp2_with fail
            go_ret2
            refine ⟨rfl, ?_, bU⟩
            have hms : makeS n S k = ⟨fillW S.W n mv (List.replicate 8 0), S.F.dropLast, S.ps ++ [newPg mv k]⟩ := by unfold makeS; rw [if_pos HMB.out, HTV.out]; rfl
            rw [hms]
            have hfk : findK S.ps k = none := by simpa using HFB.out
            have hp := HP.out.make hfk (of_decide_eq_true HRB.out) HTB.out
            rw [HTV.out] at hp
            have e : (q ++ [(sz, newPg mv k)]).map Prod.snd = S.ps ++ [newPg mv k] := by rw [List.map_append, HQ.out]; rfl
            rw [← e] at hp
            have h11 := StoA.shut fb _ (q ++ [(sz, newPg mv k)]) hp (stoFin hH10)
            rw [e] at h11
            exact Has.drop (fromX h11)
          · go_simp
            refine hK.out _ _ ?_ (fun hHeld => ?_)
            · exact s2
            clear hK K
            try simp only [Act.put, List.setIfInBounds_toArray, List.set_cons_zero, List.set_cons_succ]
            refine wpAnyH_ready (rs := [4]) (by kernel_rfl) (by simp) ?_
            refine AllReadyH.cons rfl (fun K hK => ?_) AllReadyH.nil
            go_simp
            refine hK.out _ _ ?_ (fun hHeld => ?_)
            · exact s2
            clear hK K
            try simp only [Act.put, List.setIfInBounds_toArray, List.set_cons_zero, List.set_cons_succ]
            refine wpAnyH_ready (rs := [10]) (by kernel_rfl) (by simp) ?_
            refine AllReadyH.cons rfl (fun K hK => ?_) AllReadyH.nil
            refine step_append_any [_, _] _ hA2 rfl (.tmp 36) (.tmp 41) 86 rfl j0 (.pointer none) 8 Try.underlying86 hj0 jz0 jz1 jz2 rfl (by decide) rfl ⟨sz + 1, 0, none⟩ 1 1 [.pointer (some ⟨sz, 0, none⟩)] rfl rfl hN2 (by simp [Value.oneCell']) (by decide) (by unfold maxLen; omega) (by omega) ?_
            intro g3 cap3 w3' hH3 hB3
            have s3 := key_cells (blk sz 95 (pageC (newPg mv k)) :: blk sb 88 #[ptrV hb, ptrV fb, v] :: row 91 1 (.slice (some ⟨g3, 0, none⟩) (q.length + 1) cap3) (q.length + 1) (ptrs q ++ [.pointer (some ⟨sz, 0, none⟩)]) :: FreeA fb first many S.F.dropLast :: (pgs q ++ [MemA hb n S.W])) (by simpa using hH3)
            have k4 := Has.frozen [_] _ hH3 2
            have k5 := Has.cell [_] _ hH3 2 (v := v) rfl
            have hS := Has.set [_] _ hH3 2 (.slice (some ⟨g3, 0, none⟩) (q.length + 1) cap3)
            have bS := below_set (bA2.trans hB3) [_] _ hH3 2 (.slice (some ⟨g3, 0, none⟩) (q.length + 1) cap3)
            have s4 := key_cells (blk sz 95 (pageC (newPg mv k)) :: blk sb 88 #[ptrV hb, ptrV fb, .slice (some ⟨g3, 0, none⟩) (q.length + 1) cap3] :: row 91 1 (.slice (some ⟨g3, 0, none⟩) (q.length + 1) cap3) (q.length + 1) (ptrs q ++ [.pointer (some ⟨sz, 0, none⟩)]) :: FreeA fb first many S.F.dropLast :: (pgs q ++ [MemA hb n S.W])) (by simpa using hS)
            refine hK.out _ _ ?_ (fun hHeld => ?_)
            · exact s3
            clear hK K
            try simp only [Act.put, List.setIfInBounds_toArray, List.set_cons_zero, List.set_cons_succ]
            refine wpAnyH_take (i := 11) (oi := ?oi11c) (v := ?v11c) ?hi11c (by kernel_rfl) (by kernel_rfl) (by kernel_rfl) ?hQ11c ?hy11c (by assumption) ?rest11c
            case hi11c => simp only [List.getElem?_toArray, List.getElem?_cons_succ, List.getElem?_cons_zero]; rfl
            case hQ11c => exact fun _ _ _ h => h
            case hy11c => refine Or.inl ⟨by rfl, ?_⟩; intro w hSw; (try dsimp only at hSw); go_simp; try with_reducible rfl
            try simp only [Act.put, List.setIfInBounds_toArray, List.set_cons_zero, List.set_cons_succ]
            refine wpAnyH_take (i := 12) (oi := ?oi12c) (v := ?v12c) ?hi12c (by kernel_rfl) (by kernel_rfl) (by kernel_rfl) ?hQ12c ?hy12c (by assumption) ?rest12c
            case hi12c => simp only [List.getElem?_toArray, List.getElem?_cons_succ, List.getElem?_cons_zero]; rfl
            case hQ12c => exact fun _ _ _ h => h
            case hy12c => refine Or.inl ⟨by rfl, ?_⟩; intro w hSw; (try dsimp only at hSw); go_simp; try with_reducible rfl
            try simp only [Act.put, List.setIfInBounds_toArray, List.set_cons_zero, List.set_cons_succ]
            refine wpAnyH_ready (rs := [13]) (by kernel_rfl) (by simp) ?_
            refine AllReadyH.cons rfl (fun K hK => ?_) AllReadyH.nil
            go_simp
            refine hK.out _ _ ?_ (fun hHeld => ?_)
            · exact s4
            clear hK K
            try simp only [Act.put, List.setIfInBounds_toArray, List.set_cons_zero, List.set_cons_succ]
            refine wpAnyH_done (by kernel_rfl) ?_ _
            have hT9 : Has _ B (stoX sb hb fb (.slice (some ⟨g3, 0, none⟩) (q.length + 1) cap3) first many S.F.dropLast (q ++ [(sz, newPg mv k)]) (MemA hb n S.W :: blk kb 31 (keyC k) :: X)) := stoX_more hS
            clear hHeld s0 s1 s2 s3 s4 hN2 hA1 hA2 bA1 bA2 hH3 hB3 k4 k5 hS hD c2 c3 c4
            go_wp2_with fail
            generalize (w3'.setCell ⟨sb, 2, none⟩ (.slice (some ⟨g3, 0, none⟩) (q.length + 1) cap3)) = w9 at *
            have hD9 := hT9.drew
            have bD9 := bS.drew
            have t0 := hD9.cell [] _ 0 (v := ptrV hb) rfl
            unfold ptrV at t0
            have mk := make8
            have hz9 : (w9.drew).heap.size = w9.heap.size := rfl
            have hT10 := hD9.newblk w9.heap.size 55 #[.int .u64 0, .int .u64 0, .int .u64 0, .int .u64 0, .int .u64 0, .int .u64 0, .int .u64 0, .int .u64 0] hz9
            have bT10 := below_new bD9 hD9 (.cells #[.int .u64 0, .int .u64 0, .int .u64 0, .int .u64 0, .int .u64 0, .int .u64 0, .int .u64 0, .int .u64 0] 55)
            have t1 := hT10.cell [_] _ 0 (v := ptrV hb) rfl
            unfold ptrV at t1
            clear hz9
            refine wp_region_held_drew (S := fun U => U.cell? ⟨sb, 0, none⟩ = some (.pointer (some ⟨hb, 0, none⟩))) (by kernel_rfl) ?_ (fun hHeld => ?_)
            · exact t0
            refine wpAnyH_take (i := 0) (oi := ?oi0zc) (v := ?v0zc) ?hi0zc (by kernel_rfl) (by kernel_rfl) (by kernel_rfl) ?hQ0zc ?hy0zc (by assumption) ?rest0zc
            case hi0zc => simp only [List.getElem?_toArray, List.getElem?_cons_succ, List.getElem?_cons_zero]; rfl
            case hQ0zc => exact fun _ _ _ h => h
            case hy0zc => refine Or.inl ⟨by rfl, ?_⟩; intro w hSw; (try dsimp only at hSw); go_simp; try with_reducible rfl
            try simp only [Act.put, List.setIfInBounds_toArray, List.set_cons_zero, List.set_cons_succ]
            refine wpAnyH_take (i := 1) (oi := ?oi1zc) (v := ?v1zc) ?hi1zc (by kernel_rfl) (by kernel_rfl) (by kernel_rfl) ?hQ1zc ?hy1zc (by assumption) ?rest1zc
            case hi1zc => simp only [List.getElem?_toArray, List.getElem?_cons_succ, List.getElem?_cons_zero]; rfl
            case hQ1zc => exact fun _ _ _ h => h
            case hy1zc => refine Or.inl ⟨by rfl, ?_⟩; intro w hSw; (try dsimp only at hSw); go_simp; try with_reducible rfl
            try simp only [Act.put, List.setIfInBounds_toArray, List.set_cons_zero, List.set_cons_succ]
            refine wpAnyH_take (i := 2) (oi := ?oi2zc) (v := ?v2zc) ?hi2zc (by kernel_rfl) (by kernel_rfl) (by kernel_rfl) ?hQ2zc ?hy2zc (by assumption) ?rest2zc
            case hi2zc => simp only [List.getElem?_toArray, List.getElem?_cons_succ, List.getElem?_cons_zero]; rfl
            case hQ2zc => exact fun _ _ _ h => h
            case hy2zc => refine Or.inl ⟨by rfl, ?_⟩; intro w hSw; (try dsimp only at hSw); go_simp; try with_reducible rfl
            try simp only [Act.put, List.setIfInBounds_toArray, List.set_cons_zero, List.set_cons_succ]
            refine wpAnyH_take (i := 3) (oi := ?oi3zc) (v := ?v3zc) ?hi3zc (by kernel_rfl) (by kernel_rfl) (by kernel_rfl) ?hQ3zc ?hy3zc (by assumption) ?rest3zc
            case hi3zc => simp only [List.getElem?_toArray, List.getElem?_cons_succ, List.getElem?_cons_zero]; rfl
            case hQ3zc => exact fun _ _ _ h => h
            case hy3zc => refine Or.inl ⟨by rfl, ?_⟩; intro w hSw; (try dsimp only at hSw); go_simp; try with_reducible rfl
            try simp only [Act.put, List.setIfInBounds_toArray, List.set_cons_zero, List.set_cons_succ]
            refine wpAnyH_take (i := 4) (oi := ?oi4zc) (v := ?v4zc) ?hi4zc (by kernel_rfl) (by kernel_rfl) (by kernel_rfl) ?hQ4zc ?hy4zc (by assumption) ?rest4zc
            case hi4zc => simp only [List.getElem?_toArray, List.getElem?_cons_succ, List.getElem?_cons_zero]; rfl
            case hQ4zc => exact fun _ _ _ h => h
            case hy4zc => refine Or.inl ⟨by rfl, ?_⟩; intro w hSw; (try dsimp only at hSw); go_simp; try with_reducible rfl
            try simp only [Act.put, List.setIfInBounds_toArray, List.set_cons_zero, List.set_cons_succ]
            refine wpAnyH_ready (rs := [5]) (by kernel_rfl) (by simp) ?_
            refine AllReadyH.cons rfl (fun K hK => ?_) AllReadyH.nil
            go_simp
            refine hK.out _ _ ?_ (fun hHeld => ?_)
            · exact t1
            clear hK K
            try simp only [Act.put, List.setIfInBounds_toArray, List.set_cons_zero, List.set_cons_succ]
            refine wpAnyH_ready (rs := [6]) (by kernel_rfl) (by simp) ?_
            refine AllReadyH.cons rfl (fun K hK => ?_) AllReadyH.nil
            go_simp
            go_at_call 58
            refine (Fill_calls hb n S.W mv (some ⟨w9.heap.size, 0, none⟩) 8 (List.replicate 8 0) _ (src8 hT10) B _ (memK hT10)).mono ?_
            rintro e w10 ⟨rfl, hH10, hB10⟩
            have t2 := hH10.cell [_, _] _ 0 (v := ptrV hb) rfl
            unfold ptrV at t2
            try dsimp only
            refine hK.out _ _ ?_ (fun hHeld => ?_)
            · exact t2
            clear hK K
            try simp only [Act.put, List.setIfInBounds_toArray, List.set_cons_zero, List.set_cons_succ]
            refine wpAnyH_done (by kernel_rfl) ?_ _
            have bU := bT10.trans hB10
            clear hHeld t0 t1 t2 hT9 hD9 bD9 bT10 bS mk
            go_wp2_with fail
            go_ret2
            refine ⟨rfl, ?_, bU⟩
            have hms : makeS n S k = ⟨fillW S.W n mv (List.replicate 8 0), S.F.dropLast, S.ps ++ [newPg mv k]⟩ := by unfold makeS; rw [if_pos HMB.out, HTV.out]; rfl
            rw [hms]
            have hfk : findK S.ps k = none := by simpa using HFB.out
            have hp := HP.out.make hfk (of_decide_eq_true HRB.out) HTB.out
            rw [HTV.out] at hp
            have e : (q ++ [(sz, newPg mv k)]).map Prod.snd = S.ps ++ [newPg mv k] := by rw [List.map_append, HQ.out]; rfl
            rw [← e] at hp
            have h11 := StoA.shut fb _ (q ++ [(sz, newPg mv k)]) hp (stoFin hH10)
            rw [e] at h11
            exact Has.drop (fromX h11)

end Go.Proofs.Yteeapkndappnoaa

/-
  'append' within the room, and 'clear' behind the elements, of a slice of the call's own.
-/
namespace Go.Proofs.Yteeapkndappnoaa
open Go.RowKit
set_option linter.unusedVariables false
set_option linter.unusedSimpArgs false

section
variable {P : Program} {T : TypeId} {w : World} {B n size : Nat} {xs : List Value}
variable {ops : Array Oper} {rest : List Oper} {o : Oper} {a : Act} {Q : Exit → Act → World → Prop}

/-- 'append(dst, src...)', where there is room. -/
theorem wpList_append_in {g0 cap0 : Nat} (L1 L2 : List Asr) (hH : Has w B (L1 ++ row T size (.slice (some ⟨g0, 0, none⟩) n cap0) n xs :: L2)) (hgd : o.guard = none) (s x : Operand) (t : TypeId)
    (ho : o.op = .call { callee := .builtin .append, args := #[s, x], argTypes := #[t, t] })
    (i : TypeInfo) (ht : P.underlying t = some (.slice T)) (hi : P.info? T = some i) (hsize : i.size = size) (hs : a.eval s = .slice (some ⟨g0, 0, none⟩) n cap0)
    (ad : Addr) (m c : Nat) (news : List Value) (hx : a.eval x = .slice (some ad) m c) (hl : news.length = m * size) (hnews : ∀ j u, news[j]? = some u → w.cell? (ad.add j) = some u) (h1 : ∀ u ∈ news, u.oneCell' = true)
    (hc : n + m ≤ cap0)
    (hK : ∀ w', Has w' B (L1 ++ row T size (.slice (some ⟨g0, 0, none⟩) (n + m) cap0) (n + m) (xs ++ news) :: L2) → Below B w w' → wpList P ops Q rest (a.put o.dst (.slice (some ⟨g0, 0, none⟩) (n + m) cap0)) w') : wpList P ops Q (o :: rest) a w := by
  obtain ⟨hr, hg⟩ := hH.row_at L1 L2
  rcases hr.2 with ⟨hv, _⟩ | ⟨g, cap, cur, hv, _, hgg, h2, h3, h4, h5⟩
  · cases hv
  · cases hv
    refine wpList_append_fits w hgd s x t ho 0 T i size ht hi hsize g0 n cap0 xs hs hr ad m c news hx hl hnews h1 hc (fun w' hown hgr => hK w' ?_ ?_)
    · exact hH.step L1 L2 hgr.size (fun S ⟨hS, _⟩ => ⟨[g0], ⟨by simp [Value.ownBlock], hown⟩, fun k hk => .inl (by rw [hS]; simpa [Value.ownBlock] using hk), fun k hk hk' => hgr.block k hk (fun e => hk' (by rw [hS]; injection e with e; simp [Value.ownBlock, e]))⟩)
    · exact (Below.refl _ _).grown hgr hH.le (fun k hk => by cases hk; exact (hg g0 rfl).1)

/-- 'clear(s[k:])' behind what is owned: nothing of it turns. -/
theorem wpList_clear_row {g cap : Nat} (L1 L2 : List Asr) (hH : Has w B (L1 ++ row T size (.slice (some ⟨g, 0, none⟩) n cap) n xs :: L2)) (hgd : o.guard = none) (x : Operand) (t : TypeId)
    (ho : o.op = .call { callee := .builtin .clear, args := #[x], argTypes := #[t] }) (ht : P.underlying t = some (.slice T)) (z : Value) (hz : ∀ w, (zeroValue T).run P w = .ok z w) (hzs : z.cells.size = size) (h1 : ∀ u ∈ z.cells.toList, u.oneCell' = true)
    (k m c off : Nat) (hoff : off = k * size) (hx : a.eval x = .slice (some ⟨g, off, none⟩) m c) (hk : n ≤ k) (hkm : k + m ≤ cap)
    (hK : ∀ w', Has w' B (L1 ++ row T size (.slice (some ⟨g, 0, none⟩) n cap) n xs :: L2) → Below B w w' → wpList P ops Q rest (a.put o.dst (.tuple #[])) w') : wpList P ops Q (o :: rest) a w := by
  subst hoff
  obtain ⟨hr, hgB⟩ := hH.row_at L1 L2
  refine wpList_plain hgd fun K hK' => ?_
  by_cases hm : m = 0
  · subst hm
    unfold Oper.wp
    simp [execOp, ho, resolve, invoke, builtin, hx, Builtin.clear_, run_underlying ht, Result.andThen]
    exact hK' _ _ (hK w hH (Below.refl _ _))
  · rcases hr.2 with ⟨hv', _⟩ | ⟨g', cap', cur, hv', hb, hgg, hc1, hc2, hc3, hc4⟩
    · cases hv'
    · cases hv'
      obtain ⟨hBg, hlt⟩ := hgB g rfl
      have hzl : (Builtin.zeroCells z.cells m).toList.length = m * size := by simp [Builtin.zeroCells, hzs, Nat.mul_comm]
      have hz1 : ∀ v ∈ (Builtin.zeroCells z.cells m).toList, v.oneCell' = true := by
        intro v hv
        simp only [Builtin.zeroCells] at hv
        simp at hv
        obtain ⟨i, hi, rfl⟩ := hv
        by_cases hs0 : 0 < size
        · have hlt : i % z.cells.size < z.cells.size := Nat.mod_lt _ (by omega)
          have e : z.cells[i % z.cells.size]? = some (z.cells[i % z.cells.size]'hlt) := Array.getElem?_eq_getElem hlt
          simp [Array.getD, hlt]
          exact h1 _ (by simp)
        · have : size = 0 := by omega
          rw [hzs, this] at hi
          simp at hi
      have hmul : (k + m) * size ≤ cap * size := Nat.mul_le_mul_right _ hkm
      rw [Nat.add_mul] at hmul
      have hst := run_storeCells_at (P := P) g (k * size) T (Builtin.zeroCells z.cells m).toList 0 cur w hgg (by rw [hzl, hc3]; omega) hz1
      obtain ⟨m', rfl⟩ : ∃ m', m = m' + 1 := ⟨m - 1, by omega⟩
      unfold Oper.wp
      simp [execOp, ho, resolve, invoke, builtin, hx, Builtin.clear_, run_underlying ht, hz, hst, Result.andThen]
      have hnk : n * size ≤ k * size := Nat.mul_le_mul_right _ hk
      have hcl : k * size ≤ cur.toList.length := by rw [Array.length_toList, hc3]; omega
      refine hK' _ _ (hK _ ?_ ?_)
      · have := hH.step (A' := row T size (.slice (some ⟨g, 0, none⟩) n cap) n xs) L1 L2 (w' := w.setRow g (cur.toList.take (k * size) ++ (Builtin.zeroCells z.cells (m' + 1)).toList ++ cur.toList.drop (k * size + (Builtin.zeroCells z.cells (m' + 1)).toList.length)).toArray) (by simp)
          (fun S ⟨hS, _⟩ => ⟨[g], ⟨by simp [Value.ownBlock], ⟨hr.1, .inr ⟨g, cap, _, rfl, Nat.zero_le _, setRow_heap w g cur _ T (0, 0) hgg, hc1, hc2, by
              simp only [List.size_toArray, List.length_append, List.length_take, List.length_drop, hzl, Array.length_toList, hc3]
              omega, by
              rw [List.append_assoc, List.toList_toArray, List.take_append_of_le_length (by simp; omega), List.take_take, Nat.min_eq_left hnk]
              exact hc4⟩⟩⟩, fun z hz => .inl (by rw [hS]; simpa [Value.ownBlock] using hz), fun z _ hz => setRow_other w g z _ (fun e => hz (by rw [hS, e]; simp [Value.ownBlock]))⟩)
        simpa using this
      · refine ⟨rfl, rfl, rfl, by simp, fun z hz => ?_⟩
        rw [setRow_other _ _ _ _ (by omega)]
end

end Go.Proofs.Yteeapkndappnoaa

/-
  Package store: one page is deleted from the list of all (slices.DeleteFunc).
-/
namespace Go.Proofs.Yteeapkndappnoaa
open Go.RowKit Go.Shelf
set_option linter.unusedVariables false
set_option linter.unusedSimpArgs false

theorem PgR.of0 {w : World} {B : Nat} {v : Value} {q : List (Nat × PageS)} {X : List Asr} (hH : Has w B (row 91 1 v q.length (ptrs q) :: (pgs q ++ X))) : PgR w v q := by
  refine ⟨?_, fun j x hx => ?_⟩
  · obtain ⟨ao, cap, rfl, _, _, hg⟩ := hH.row_form [] _
    refine ⟨ao, cap, rfl, fun h0 => ?_⟩
    obtain ⟨g, rfl⟩ := hg h0
    exact ⟨g, rfl, fun j x hx => hH.row_cell [] _ j (ptrs_get hx)⟩
  · have h := pgs_at [_] X hH hx
    exact ⟨h.1, h.2.2⟩
theorem zeroPtr (w : World) : (zeroValue 91).run Try.prog w = .ok (.pointer none) w := by kernel_rfl
/-- What lies in the slice while the pages behind the k-th are moved up. -/
def movL (q : List (Nat × PageS)) (k i : Nat) : List (Nat × PageS) := (q.eraseIdx k).take i ++ q.drop i
theorem movL_start {q : List (Nat × PageS)} {k : Nat} (hk : k < q.length) : movL q k k = q := by
  unfold movL
  rw [List.eraseIdx_eq_take_drop_succ, List.take_append_of_le_length (by simp; omega), List.take_take, Nat.min_self, List.take_append_drop]
theorem movL_length {q : List (Nat × PageS)} {k i : Nat} (hk : k < q.length) (hi : i < q.length) : (movL q k i).length = q.length := by
  unfold movL
  rw [List.length_append, List.length_take, List.length_drop, List.length_eraseIdx, if_pos hk]
  omega
theorem movL_get {q : List (Nat × PageS)} {k i : Nat} (hk : k < q.length) (hi : i + 1 < q.length) : (movL q k i)[i + 1]? = q[i + 1]? := by
  unfold movL
  have h1 : ((q.eraseIdx k).take i).length = i := by rw [List.length_take, List.length_eraseIdx, if_pos hk]; omega
  rw [List.getElem?_append_right (by omega), h1, List.getElem?_drop]
  congr 1
  omega
theorem movL_set {q : List (Nat × PageS)} {k i : Nat} {x : Nat × PageS} (hki : k ≤ i) (hi : i + 1 < q.length) (hx : q[i + 1]? = some x) : (movL q k i).set i x = movL q k (i + 1) := by
  have hk : k < q.length := by omega
  have h1 : ((q.eraseIdx k).take i).length = i := by rw [List.length_take, List.length_eraseIdx, if_pos hk]; omega
  have h2 : (q.eraseIdx k)[i]? = some x := by rw [List.getElem?_eraseIdx_of_ge hki]; exact hx
  unfold movL
  have h3 : q.drop i = q[i] :: q.drop (i + 1) := List.drop_eq_getElem_cons (by omega)
  rw [List.set_append_right _ _ (by omega), h1, Nat.sub_self, h3, List.set_cons_zero, List.take_add_one, h2]
  simp
theorem movL_end {q : List (Nat × PageS)} {k n : Nat} (hk : k < q.length) (hn : q.length = n + 1) : (movL q k n).take n = q.eraseIdx k := by
  have h1 : (q.eraseIdx k).length = n := by rw [List.length_eraseIdx, if_pos hk]; omega
  unfold movL
  rw [List.take_append_of_le_length (by simp; omega), List.take_take, Nat.min_self, List.take_of_length_le (by omega)]
theorem ptrs_set1 (l : List (Nat × PageS)) (i : Nat) (x : Nat × PageS) : (ptrs l).set i (.pointer (some ⟨x.1, 0, none⟩)) = ptrs (l.set i x) := by
  unfold ptrs
  rw [List.map_set]
  rfl
theorem ptrs_take (l : List (Nat × PageS)) (i : Nat) : (ptrs l).take i = ptrs (l.take i) := by simp [ptrs, List.map_take]
theorem movL_ptrs {q : List (Nat × PageS)} {k i : Nat} (hk : k < q.length) (hi : i < q.length) : (ptrs (movL q k i)).length = q.length := by rw [ptrs_length, movL_length hk hi]

set_option maxHeartbeats 1000000 in
set_option maxRecDepth 100000 in
theorem PDelete_calls (bb : Nat) (f : Int) (v : Value) (q : List (Nat × PageS)) (hq : q.length ≤ 256) (k : Nat) (x : Nat × PageS) (hk : q[k]? = some x) (hf : x.2.f = f) (hu : ∀ (j : Nat) y, j ≠ k → q[j]? = some y → y.2.f ≠ f) (w : World) (B : Nat) (X : List Asr)
    (hH : Has w B (row 91 1 v q.length (ptrs q) :: (pgs q ++ blk bb 3 #[.int .i64 f] :: X))) :
    Calls Try.prog 53 #[v, .func (.func 54) #[] #[.pointer (some ⟨bb, 0, none⟩)]] w fun e w' => ∃ u, e = .returned u ∧ Has w' B (row 91 1 u (q.eraseIdx k).length (ptrs (q.eraseIdx k)) :: (pgs q ++ blk bb 3 #[.int .i64 f] :: X)) ∧ Below B w w' := by
  have hkl := (List.getElem?_eq_some_iff.1 hk).1
  obtain ⟨n, hn⟩ : ∃ n, q.length = n + 1 := ⟨q.length - 1, by omega⟩
  have hcb := Has.cell (row 91 1 v q.length (ptrs q) :: pgs q) X hH 0 (v := .int .i64 f) rfl
  have CI := hid (PIndexK 54 (enters_of Try.func54 (by kernel_rfl) rfl) bb f v q w (PgR.of0 hH) hq hcb (fun pb pf w1 c0 c1 => dropK pb _ pf f w1 c0 c1))
  obtain ⟨ao, cap, rfl, hcap, hcap2, hao⟩ := hH.row_form [] _
  obtain ⟨g, rfl⟩ := hao (by omega)
  have hle : (q.eraseIdx k).length = n := by rw [List.length_eraseIdx, if_pos hkl]; omega
  have HK := hid hk
  have HU := hid hu
  have HF := hid hf
  have HLE := hid hle
  rw [hn] at hH hcap ⊢
  have HN := hid hn
  have hkn : k ≤ n := by omega
  have hn256 : n < 256 := by omega
  have CI2 := CI.out
  rw [hn] at CI2
  clear hcb hk hu hf hle hao hn CI hkl hq
  have CI := hid CI2
  clear CI2
  go_enter Try.func53, Try.ntmps53
  go_wp2_with fail
  refine CI.out.mono ?_
  rintro e w1 ⟨r, rfl, hidx, m, rfl⟩
  have hr : r = (k : Int) := by
    rcases hidx with ⟨rfl, hall⟩ | ⟨k2, x2, rfl, h2, h3, _⟩
    · exact absurd HF.out (hall x (List.mem_of_getElem? HK.out))
    · by_cases e : k2 = k
      · rw [e]
      · exact absurd h3 (HU.out k2 x2 e h2)
  subst hr
  have e0 : ((k : Int) == -1) = false := by rw [beq_eq_false_iff_ne]; omega
  have hD := hH.drewN m
  have bD := below_drewNS (Below.refl B w) m
  clear hidx hH CI
  go_wp2_with fail
  go_loopg [5, 6] (n - k) (fun t i j wr => ∃ ni : Nat, t + ni = n ∧ k ≤ ni ∧ i = .int .i64 ni ∧ j = .int .i64 ((ni + 1 : Nat) : Int) ∧ Has wr B (row 91 1 (.slice (some ⟨g, 0, none⟩) (n + 1) cap) (n + 1) (ptrs (movL q k ni)) :: (pgs q ++ blk bb 3 #[.int .i64 f] :: X)) ∧ Below B w wr)
  case atStart => exact ⟨k, by omega, Nat.le_refl _, rfl, by go_num, by rw [movL_start (by have := HN.out; omega)]; exact hD, bD⟩
  case round =>
    obtain ⟨ni, ht, hki, rfl, rfl, hHr, hBr⟩ := hrel
    clear hD bD
    have HT := hid ht
    by_cases hlt : ni < n
    · have hlen := HN.out
      obtain ⟨y, hy⟩ : ∃ y, q[ni + 1]? = some y := ⟨_, List.getElem?_eq_getElem (by omega)⟩
      have hne := HU.out (ni + 1) y (by omega) hy
      have hg := movL_get (q := q) (k := k) (i := ni) (by omega) (by omega)
      rw [hy] at hg
      have cr : wr.cell? ⟨g, ni + 1, none⟩ = some (.pointer (some ⟨y.1, 0, none⟩)) := hHr.row_cell [] _ (ni + 1) (ptrs_get hg)
      have hp := (pgs_at [_] _ hHr hy).1
      have c0 : wr.cell? ⟨y.1, 0, none⟩ = some (.int .i64 y.2.f) := cell_of_blk hp rfl
      have c1 := Has.cell (row 91 1 (.slice (some ⟨g, 0, none⟩) (n + 1) cap) (n + 1) (ptrs (movL q k ni)) :: pgs q) X hHr 0 (v := .int .i64 f) rfl
      have e1 : (y.2.f == f) = false := by rw [beq_eq_false_iff_ne]; exact hne
      have ck := dropK y.1 bb y.2.f f wr c0 c1
      rw [e1] at ck
      have CK := hid ck
      have HY := hid hy
      have hl2 : ni < (ptrs (movL q k ni)).length := by rw [movL_ptrs (by omega) (by omega)]; omega
      have hold : ∃ z, (ptrs (movL q k ni))[ni]? = some z := ⟨_, List.getElem?_eq_getElem hl2⟩
      obtain ⟨z, hz⟩ := hold
      have hnn : (ni : Int) + 1 < (n : Int) + 1 := by omega
      have HL2 := hid hl2
      have HZ := hid hz
      clear hg hp c0 c1 ck hne e1 hy hl2 hz hlen ht
      go_wp2_with fail
      refine CK.out.mono ?_
      rintro e w2 ⟨rfl, m2, rfl⟩
      have hH2 := hHr.drewN m2
      have bH2 := below_drewNS hBr m2
      have k4 := hH2.row_frozen [] _ ni
      have k5 := hH2.row_cell [] _ ni HZ.out
      have hS := Has.row_set [] _ hH2 ni HL2.out (.pointer (some ⟨y.1, 0, none⟩))
      obtain ⟨_, hgr⟩ := hH2.row_at [] _
      have hbg : B ≤ g := (hgr g rfl).1
      rw [ptrs_set1, movL_set hki (by have := HN.out; omega) HY.out] at hS
      have hltn : ni < n + 1 := by omega
      clear CK hHr hBr cr hgr
      generalize wr.drewN m2 = w3 at *
      go_wp2_with fail
      go_roundg (gk - 1)
      case measure => have := HT.out; omega
      case rel => exact ⟨ni + 1, by have := HT.out; omega, by omega, by go_num, by go_num, hS, bH2.trans ((Below.refl B _).setCell (p := ⟨g, ni, none⟩) hbg _)⟩
    · obtain rfl : ni = n := by omega
      have hC := hHr.row_cut1 [] _ (show ni ≤ ni + 1 by omega)
      rw [ptrs_take, movL_end (by have := HN.out; omega) HN.out] at hC
      have hz1 : (0 : Int) ≤ (ni : Int) := by omega
      have hz2 : (ni : Int) ≤ (ni : Int) + 1 := by omega
      have hz3 : ¬ cap = ni := by omega
      have hz4 : ¬ ni = cap := by omega
      have hz5 : ni ≤ cap := by omega
      clear hHr ht HT hlt
      go_wp2_with (first
        | (refine wpList_clear_row [] _ hC rfl (.tmp 38) 86 rfl Try.underlying86 (.pointer none) zeroPtr rfl (by simp [Value.cells, Value.oneCell']) ni 1 (cap - ni) ni (by omega) rfl (by omega) (by omega) ?_; intro w3 hH3 hB3))
      go_ret
      rw [HLE.out]
      exact ⟨_, rfl, hH3, hBr.trans hB3⟩

end Go.Proofs.Yteeapkndappnoaa

/-
  Package store: a page is given back.
-/
namespace Go.Proofs.Yteeapkndappnoaa
open Go.RowKit Go.Shelf
set_option linter.unusedVariables false
set_option linter.unusedSimpArgs false

theorem clearS_F (n : Nat) (S : StS) (f i : Int) : (clearS n S f i).F = S.F := by unfold clearS putS; split <;> rfl
theorem clearS_f (n : Nat) (S : StS) (f i : Int) : (clearS n S f i).ps.map (·.f) = S.ps.map (·.f) := by
  unfold clearS putS
  split
  · exact setSlot_f _ _ _ _
  · rfl
theorem clearL_snoc (n : Nat) (S : StS) (l : List (Int × Int)) (a : Int × Int) : clearL n S (l ++ [a]) = clearS n (clearL n S l) a.1 a.2 := by simp [clearL]
theorem clearN_succ (n : Nat) (S : StS) (f : Int) (k : Nat) : clearN n S f (k + 1) = clearS n (clearN n S f k) f (k : Nat) := by
  unfold clearN
  rw [List.range_succ, List.foldl_append]
  rfl
theorem clearL_inv {Q : StS → Prop} {n : Nat} (h : ∀ S f i, Q S → Q (clearS n S f i)) : ∀ (l : List (Int × Int)) (S : StS), Q S → Q (clearL n S l)
  | [], _, hS => hS
  | a :: l, S, hS => clearL_inv h l _ (h S a.1 a.2 hS)
theorem clearN_inv {Q : StS → Prop} {n : Nat} (h : ∀ S f i, Q S → Q (clearS n S f i)) (f : Int) : ∀ (k : Nat) (S : StS), Q S → Q (clearN n S f k)
  | 0, _, hS => hS
  | k + 1, S, hS => by
    rw [clearN_succ]
    exact h _ _ _ (clearN_inv h f k S hS)
theorem dropC_inv {Q : StS → Prop} {n : Nat} (h : ∀ S f i, Q S → Q (clearS n S f i)) (S : StS) (f : Int) (hS : Q S) : Q (dropC n S f) := clearN_inv h f 8 _ (clearL_inv h _ S hS)
theorem dropC_F (n : Nat) (S : StS) (f : Int) : (dropC n S f).F = S.F := dropC_inv (Q := fun T => T.F = S.F) (fun T f i h => by rw [clearS_F]; exact h) S f rfl
theorem dropC_f (n : Nat) (S : StS) (f : Int) : (dropC n S f).ps.map (·.f) = S.ps.map (·.f) := dropC_inv (Q := fun T => T.ps.map (·.f) = S.ps.map (·.f)) (fun T f i h => by rw [clearS_f]; exact h) S f rfl
theorem pageAt_some {ps : List PageS} {f : Int} (h : (pageAt ps f).isSome = true) : f ∈ ps.map (·.f) := by
  unfold pageAt at h
  obtain ⟨p, hp⟩ := Option.isSome_iff_exists.1 h
  have := List.find?_some hp
  exact List.mem_map.2 ⟨p, List.mem_of_find?_eq_some hp, by simpa using this⟩
theorem pageAt_iff {ps : List PageS} {f : Int} : (pageAt ps f).isSome = true ↔ f ∈ ps.map (·.f) := by
  refine ⟨pageAt_some, fun h => ?_⟩
  obtain ⟨p, hp, rfl⟩ := List.mem_map.1 h
  unfold pageAt
  rw [List.find?_isSome]
  exact ⟨p, hp, by simp⟩

theorem nodup_at {q : List (Nat × PageS)} (hnd : ((q.map Prod.snd).map (·.f)).Nodup) {k j : Nat} {x y : Nat × PageS} (hx : q[k]? = some x) (hy : q[j]? = some y) (hf : y.2.f = x.2.f) : j = k := by
  obtain ⟨h1, h2⟩ := List.getElem?_eq_some_iff.1 hx
  obtain ⟨h3, h4⟩ := List.getElem?_eq_some_iff.1 hy
  exact (List.getElem_inj (i := j) (j := k) (h₀ := by simpa using h3) (h₁ := by simpa using h1) hnd).1 (by simp [h2, h4, hf])
theorem erase_filter : ∀ {q : List PageS} {k : Nat} {x : PageS}, (q.map (·.f)).Nodup → q[k]? = some x → q.eraseIdx k = q.filter fun p => p.f != x.f
  | [], _, _, _, h => by simp at h
  | p :: q, 0, x, hn, h => by
    simp at h
    subst h
    rw [List.eraseIdx_cons_zero, List.filter_cons_of_neg (by simp)]
    refine (List.filter_eq_self.2 fun y hy => ?_).symm
    simp at hn
    have := hn.1 y hy
    simpa using this
  | p :: q, k + 1, x, hn, h => by
    rw [List.getElem?_cons_succ] at h
    rw [List.map_cons, List.nodup_cons] at hn
    have hm : x ∈ q := List.mem_of_getElem? h
    have hne : p.f ≠ x.f := fun e => hn.1 (List.mem_map.2 ⟨x, hm, e.symm⟩)
    rw [List.eraseIdx_cons_succ, List.filter_cons_of_pos (by simpa using hne), erase_filter hn.2 h]
theorem StoP.drop {n : Nat} {first many : Int} {F : List Int} {ps : List PageS} (h : StoP n first many F ps) {k : Nat} {x : PageS} (hx : ps[k]? = some x) : StoP n first many (F ++ [x.f]) (ps.eraseIdx k) := by
  have hm := List.mem_of_getElem? hx
  have hsub : ∀ p ∈ ps.eraseIdx k, p ∈ ps := fun p hp => List.mem_of_mem_eraseIdx hp
  have hne : ∀ p ∈ ps.eraseIdx k, p.f ≠ x.f := fun p hp => by
    rw [erase_filter h.nd hx] at hp
    simpa using (List.mem_filter.1 hp).2
  have hg : given first many F x.f = F ++ [x.f] := by
    unfold given givesB
    rw [if_pos (by simpa using ⟨(h.rg x hm).1, (h.rg x hm).2, h.df x hm⟩)]
  refine ⟨fun p hp => h.s8 p (hsub p hp), fun p hp => h.ok p (hsub p hp), ?_, ?_, fun p hp => h.rg p (hsub p hp), ?_, h.hn, ?_, ?_⟩
  · exact h.nd.sublist (List.Sublist.map _ (List.eraseIdx_sublist _ _))
  · exact h.kd.sublist (List.Sublist.map _ (List.eraseIdx_sublist _ _))
  · intro p hp hF
    rcases List.mem_append.1 hF with h1 | h1
    · exact h.df p (hsub p hp) h1
    · simp at h1; exact hne p hp h1
  · have := h.ln
    have hk := (List.getElem?_eq_some_iff.1 hx).1
    rw [List.length_eraseIdx, if_pos hk, List.length_append]
    simp
    omega
  · rw [← hg]
    exact h.ff.give x.f
/-- A page that is told no more is let go. -/
theorem pgs_less {q : List (Nat × PageS)} {k : Nat} {x : Nat × PageS} (hx : q[k]? = some x) {w : World} {B : Nat} (L1 X : List Asr) (h : Has w B (L1 ++ (pgs q ++ X))) : Has w B (L1 ++ (pgs (q.eraseIdx k) ++ X)) := by
  rw [pgs_split hx] at h
  have h2 := (h.front _ _).drop
  rw [List.eraseIdx_eq_take_drop_succ]
  simpa [pgs] using h2

theorem perm_in {S R F M K : Asr} {G X : List Asr} : (S :: R :: F :: (G ++ M :: K :: X)).Perm (R :: (G ++ K :: S :: F :: M :: X)) := by
  refine (List.Perm.swap R S _).trans (List.Perm.cons R ?_)
  have h1 : ([S, F] ++ (G ++ (M :: K :: X))).Perm (G ++ ([S, F] ++ (M :: K :: X))) := List.perm_append_comm_assoc _ _ _
  refine h1.trans (List.Perm.append_left G ?_)
  exact List.perm_middle (l₁ := [S, F, M]) (l₂ := X)
theorem given_yes {n : Nat} {first many : Int} {F : List Int} {ps : List PageS} (h : StoP n first many F ps) {x : PageS} (hm : x ∈ ps) : givesB first many F x.f = true ∧ given first many F x.f = F ++ [x.f] := by
  have hg : givesB first many F x.f = true := by
    unfold givesB
    simpa using ⟨(h.rg x hm).1, (h.rg x hm).2, h.df x hm⟩
  exact ⟨hg, by unfold given; rw [if_pos hg]⟩

set_option maxHeartbeats 4000000 in
set_option maxRecDepth 100000 in
theorem Drop_calls (sb hb n : Nat) (first many : Int) (S : StS) (f : Int) (hfw : (Lit.int .i64 f).wf = true) (w : World) (B : Nat) (X : List Asr) (hH : Has w B (staL sb hb n first many S X)) :
    Calls Try.prog 20 #[.pointer (some ⟨sb, 0, none⟩), .int .i64 f] w fun e w' => e = .returned (.bool (dropB S f)) ∧ Has w' B (staL sb hb n first many (dropS n S f) X) ∧ Below B w w' := by
  obtain ⟨bb, hbb⟩ : ∃ b, w.heap.size = b := ⟨_, rfl⟩
  have hN : Has (w.alloc (.cells #[.int .i64 f] 3)) B (staL sb hb n first many S (blk bb 3 #[.int .i64 f] :: X)) := toX (hH.newblk bb 3 #[.int .i64 f] hbb)
  have bN := below_new (Below.refl B w) hH (.cells #[.int .i64 f] 3)
  obtain ⟨hP, fb, v, q, hq, hl, hO⟩ := StoA.openX hN
  obtain ⟨o, ho⟩ : ∃ o, q.find? (fun x => x.2.f == f) = o := ⟨_, rfl⟩
  have CP := hid (page_calls sb hb fb v first many S.F q f o ho hl _ B _ hO)
  have hfp := find_page q f
  rw [ho, hq] at hfp
  have HFP := hid hfp
  have HP := hid hP
  have HQ := hid hq
  have c0 := hN.cell [_, _] _ 0 (v := .int .i64 f) rfl
  obtain ⟨db, hdb⟩ : ∃ b, dropB S f = b := ⟨_, rfl⟩
  rw [hdb]
  have HDB := hid hdb
  clear hP hfp ho hH hN hO hdb hq
  go_enter Try.func20, Try.ntmps20
  go_wp2_with fail
  refine CP.out.mono ?_
  rintro e w2 ⟨rfl, hH2, hB2⟩
  have bN := bN.trans hB2
  have hH2 : Has w2 B (staL sb hb n first many S (blk bb 3 #[.int .i64 f] :: X)) := by
    have h := StoA.shut (n := n) fb v q (by rw [HQ.out]; exact HP.out) hH2
    rw [HQ.out] at h
    exact h
  clear CP c0
  cases o with
  | none =>
    have hd : db = false := by rw [← HDB.out]; unfold dropB; rw [HFP.out]; rfl
    subst hd
    have hs : dropS n S f = S := by unfold dropS; rw [HDB.out]; rfl
    have HS := hid hs
    clear hs
    go_wp2_with fail
    go_ret
    exact ⟨rfl, by rw [HS.out]; exact Has.drop (fromX hH2), bN⟩
  | some x0 =>
    have hd : db = true := by rw [← HDB.out]; unfold dropB; rw [HFP.out]; rfl
    subst hd
    have c0 := hH2.cell [_, _] _ 0 (v := .int .i64 f) rfl
    have CA := hid (Parents_calls sb hb n first many S.F S.ps f w2 B _ hH2)
    clear hH2
    go_wp2_with fail
    refine CA.out.mono ?_
    rintro e w3 ⟨ao, cap, rfl, hH3, hB3⟩
    have bN := bN.trans hB3
    obtain ⟨l, hl'⟩ : ∃ l, toldL 1 f (allS S.ps) = l := ⟨_, rfl⟩
    rw [hl'] at hH3 ⊢
    have HL := hid hl'
    have hll : l.length ≤ 2048 := by
      rw [← hl']
      refine Nat.le_trans (toldL_le _ _ _) ?_
      rw [allS_length HP.out.s8]
      have := HP.out.len
      omega
    have hH3 : Has w3 B (staL sb hb n first many (clearL n S (l.take 0)) (row 46 2 (.slice ao l.length cap) l.length (atsL l) :: blk bb 3 #[.int .i64 f] :: X)) := toX hH3
    have za := zeroAt
    clear CA hl' c0
    go_wp2_with fail
    go_loopg [16] l.length (fun g i wr => ∃ j : Nat, g + j = l.length ∧ i = .int .i64 j ∧ Has wr B (staL sb hb n first many (clearL n S (l.take j)) (row 46 2 (.slice ao l.length cap) l.length (atsL l) :: blk bb 3 #[.int .i64 f] :: X)) ∧ Below B w wr)
    case atStart => exact ⟨0, by omega, rfl, hH3, bN⟩
    case round =>
      obtain ⟨j, hj, rfl, hHr, hBr⟩ := hrel
      clear hH3 bN
      have HJ := hid hj
      by_cases hlt : j < l.length
      · obtain ⟨a, ha⟩ : ∃ a, l[j]? = some a := ⟨_, List.getElem?_eq_getElem hlt⟩
        obtain ⟨ao1, cap1, hv, _, _, hao⟩ := Has.row_form [_, _] _ hHr
        obtain ⟨g, hg⟩ := hao (by omega)
        have hao2 : ao = some ⟨g, 0, none⟩ := by
          injection hv with h1 h2 h3
          rw [h1, hg]
        subst hao2
        have PA := hid (Has.row_part [_, _] _ hHr (j * 2) (atL a) (fun i u hu => by
          have hi : i < 2 := by have := (List.getElem?_eq_some_iff.1 hu).1; simpa [atL] using this
          rw [atsL, flat_get atL 2 (fun _ => rfl) l j i a ha hi]
          exact hu))
        have hA1 := hHr.newblk wr.heap.size 46 #[.int .i64 0, .int .i64 0] rfl
        have bA1 := below_new hBr hHr (.cells #[.int .i64 0, .int .i64 0] 46)
        have hst : clearL n S (l.take (j + 1)) = clearS n (clearL n S (l.take j)) a.1 a.2 := by rw [List.take_add_one, ha]; exact clearL_snoc n S _ a
        have HST := hid hst
        clear hv hao ha hst hj
        go_wp2_with (first
          | (refine wpList_load_at 46 (.tmp 18) rfl rfl ⟨g, j * 2, none⟩ rfl _ (atL a) PA.out Try.underlying46 rfl at_size ?_)
          | (refine wpList_store_all [] _ hA1 46 (.tmp 6) (.tmp 19) rfl rfl rfl (atL a).toArray rfl at_size rfl (at_one _) ?_; intro w4 hH4 hB4 hz4; clear hz4; have d0 := hH4.cell [] _ 0 (v := .int .i64 a.1) rfl; have d1 := hH4.cell [] _ 1 (v := .int .i64 a.2) rfl))
        have bA1 := bA1.trans hB4
        refine (Clear_calls sb hb n first many (clearL n S (l.take j)) a.1 a.2 w4 B _ (toX hH4)).mono ?_
        rintro e w5 ⟨rfl, hH5, hB5⟩
        have hH5 : Has w5 B (staL sb hb n first many (clearS n (clearL n S (l.take j)) a.1 a.2) (row 46 2 (.slice (some ⟨g, 0, none⟩) l.length cap) l.length (atsL l) :: blk bb 3 #[.int .i64 f] :: X)) := Has.drop (fromX hH5)
        clear d0 d1 hA1 PA hHr hH4
        go_wp2_with fail
        go_roundg (gk - 1)
        case measure => have := HJ.out; omega
        case rel => exact ⟨j + 1, by have := HJ.out; omega, by go_num, by rw [HST.out]; exact hH5, bA1.trans hB5⟩
      · obtain rfl : j = l.length := by omega
        rw [List.take_length] at hHr
        have hHr : Has wr B (staL sb hb n first many (clearN n (clearL n S l) f 0) (blk bb 3 #[.int .i64 f] :: X)) := Has.drop (fromX hHr)
        clear hj HJ hlt
        go_wp2_with fail
        go_loopg [27] 8 (fun g i wr => ∃ j : Nat, g + j = 8 ∧ i = .int .i64 j ∧ Has wr B (staL sb hb n first many (clearN n (clearL n S l) f j) (blk bb 3 #[.int .i64 f] :: X)) ∧ Below B w wr)
        case atStart => exact ⟨0, by omega, rfl, hHr, hBr⟩
        case round =>
          clear hHr hBr
          obtain ⟨j, hj, rfl, hHr, hBr⟩ := hrel
          have HJ := hid hj
          by_cases hlt : j < 8
          · have hlt' : (j : Int) < 8 := by omega
            have c0 := hHr.cell [_, _] _ 0 (v := .int .i64 f) rfl
            clear hj
            go_wp2_with fail
            refine (Clear_calls sb hb n first many (clearN n (clearL n S l) f j) f j wr B _ hHr).mono ?_
            rintro e w5 ⟨rfl, hH5, hB5⟩
            go_wp2_with fail
            go_roundg (gk - 1)
            case measure => have := HJ.out; omega
            case rel => exact ⟨j + 1, by have := HJ.out; omega, by go_num, by rw [clearN_succ]; exact hH5, hBr.trans hB5⟩
          · obtain rfl : j = 8 := by omega
            clear hj HJ hlt
            have hHr : Has wr B (staL sb hb n first many (dropC n S f) (blk bb 3 #[.int .i64 f] :: X)) := by
              unfold dropC
              rw [HL.out]
              exact hHr
            have hdf := dropC_F n S f
            have hdp := dropC_f n S f
            have hds : dropS n S f = ⟨(dropC n S f).W, (dropC n S f).F ++ [f], (dropC n S f).ps.filter fun p => p.f != f⟩ := by unfold dropS; rw [if_pos HDB.out]
            have HDS := hid hds
            have hmem : f ∈ (dropC n S f).ps.map (·.f) := by
              rw [hdp]
              exact pageAt_some HDB.out
            generalize dropC n S f = S2 at *
            clear hds
            obtain ⟨hP2, fb2, v2, q2, hq2, hl2, hO2⟩ := StoA.openX hHr
            obtain ⟨k, x, hk, hxf⟩ : ∃ (k : Nat) (x : Nat × PageS), q2[k]? = some x ∧ x.2.f = f := by
              rw [← hq2] at hmem
              obtain ⟨p, hp, hpf⟩ := List.mem_map.1 hmem
              obtain ⟨x, hx, rfl⟩ := List.mem_map.1 hp
              obtain ⟨k, hk⟩ := List.mem_iff_getElem?.1 hx
              exact ⟨k, x, hk, hpf⟩
            have hk2 : S2.ps[k]? = some x.2 := by rw [← hq2, List.getElem?_map, hk]; rfl
            have hu : ∀ (j : Nat) y, j ≠ k → q2[j]? = some y → y.2.f ≠ f := fun j y hj hy e => hj (nodup_at (by rw [hq2]; exact hP2.nd) hk hy (by rw [hxf]; exact e))
            have c0 := hHr.cell [_, _] _ 0 (v := .int .i64 f) rfl
            have c2 := hO2.cell [] _ 2 (v := v2) rfl
            have hI : Has wr B (row 91 1 v2 q2.length (ptrs q2) :: (pgs q2 ++ blk bb 3 #[.int .i64 f] :: blk sb 88 #[ptrV hb, ptrV fb2, v2] :: FreeA fb2 first many S2.F :: MemA hb n S2.W :: X)) := hO2.perm perm_in
            have CD := hid (PDelete_calls bb f v2 q2 hl2 k x hk hxf hu wr B _ hI)
            have HK := hid (And.intro hk hk2)
            have HXF := hid hxf
            have HP2 := hid hP2
            have HQ2 := hid hq2
            have HU := hid (given_yes hP2 (List.mem_of_getElem? hk2))
            clear hHr hO2 hI hP2 hq2 hk hk2 hxf hu hmem hdp hdf
            go_wp2_with fail
            refine CD.out.mono ?_
            rintro e w6 ⟨u, rfl, hH6, hB6⟩
            obtain ⟨ua, uc, hu', _, _, _⟩ := hH6.row_form [] _
            obtain ⟨ul, hul⟩ : ∃ ul, (q2.eraseIdx k).length = ul := ⟨_, rfl⟩
            rw [hul] at hu'
            subst hu'
            have HUL := hid hul
            clear hul
            have bD := hBr.trans hB6
            have h7 : Has w6 B (blk sb 88 #[ptrV hb, ptrV fb2, v2] :: row 91 1 (.slice ua ul uc) (q2.eraseIdx k).length (ptrs (q2.eraseIdx k)) :: FreeA fb2 first many S2.F :: (pgs (q2.eraseIdx k) ++ MemA hb n S2.W :: blk bb 3 #[.int .i64 f] :: X)) := (pgs_less HK.out.1 [_] _ hH6).perm perm_in.symm
            have k4 := h7.frozen [] _ 2
            have k5 := h7.cell [] _ 2 (v := v2) rfl
            have hS := Has.set [] _ h7 2 (.slice ua ul uc)
            have bS := below_set bD [] _ h7 2 (.slice ua ul uc)
            have hS : Has _ B (stoX sb hb fb2 (.slice ua ul uc) first many S2.F (q2.eraseIdx k) (MemA hb n S2.W :: blk bb 3 #[.int .i64 f] :: X)) := hS
            clear CD hH6 hB6 c0 c2 hBr
            go_wp2_with fail
            clear k4 k5 h7 bD
            generalize (w6.setCell ⟨sb, 2, none⟩ (.slice ua ul uc)) = w7 at *
            have hD := hS.drew
            have bD := bS.drew
            have t1 := hS.cell [] _ 1 (v := ptrV fb2) rfl
            unfold ptrV at t1
            have t2 := (fromK hS).cell [] _ 0 (v := .int .i64 f) rfl
            have CG := hid ((FreeGive fb2 first many f S2.F hfw).at [_, _] _ hD)
            rw [← HXF.out, HU.out.1, HU.out.2, HXF.out] at CG
            refine wp_region_still_tail 5 (by kernel_rfl) (by kernel_rfl) ?_
            simp only [List.take_succ_cons, List.take_zero, List.drop_succ_cons, List.drop_zero]
            iterate 5 ((with_reducible refine wpStill_step (fun K hK => ?_)); go_simp; (with_reducible refine hK _ ?_); clear hK K)
            refine wpStill_nil ?_
            change wpList _ _ _ _ _ (World.drew _)
            clear hS bS t1 t2
            go_wp2_with fail
            refine CG.out.mono ?_
            rintro e w8 ⟨_, rfl, hH8, hB8⟩
            go_wp2_with fail
            go_ret
            refine ⟨rfl, ?_, bD.trans hB8⟩
            rw [HDS.out]
            have hp := HP2.out.drop HK.out.2
            rw [HXF.out] at hp
            have e1 : (q2.eraseIdx k).map Prod.snd = S2.ps.eraseIdx k := by rw [← HQ2.out, List.eraseIdx_eq_take_drop_succ, List.eraseIdx_eq_take_drop_succ]; simp [List.map_take, List.map_drop]
            have e2 : S2.ps.eraseIdx k = S2.ps.filter fun p => p.f != f := by
              rw [erase_filter HP2.out.nd HK.out.2, HXF.out]
            rw [← e1] at hp
            have h9 := StoA.shut fb2 (.slice ua ul uc) (q2.eraseIdx k) hp hH8
            rw [e1, e2] at h9
            exact Has.drop (fromX h9)

end Go.Proofs.Yteeapkndappnoaa

/-
  What a law is handed: slices of plain data that came in, opened to the list of their elements.
-/
namespace Go.Proofs.Yteeapkndappnoaa
open Go.RowKit Go.Deep Go.ChangeShapes Go.WideShapes
set_option linter.unusedVariables false
set_option linter.unusedSimpArgs false
section
variable {H : Type} {enc : TypeId × Value → H} {P : Program} {w : World} {base : Nat} {spare : Nat → Bool} {held : Bool}

/-- Each cell of a run of cells. -/
theorem cells_each {a : Addr} {n : Nat} {cs : List Value} (h : w.cells? base a n = some cs) : cs.length = n ∧ ∀ i u, cs[i]? = some u → w.cell? (a.add i) = some u := by
  obtain ⟨_, hl, hc⟩ := World.cells?_some h
  refine ⟨hl, fun i u hu => ?_⟩
  have hi : i < cs.length := (List.getElem?_eq_some_iff.1 hu).1
  rw [hc i (by omega)]
  exact hu

/-- A slice that came in is the list of its elements. 'enc': an element's cells; 'ok': what is known of each. -/
theorem open_row {α : Type} (en : α → List Value) (ok : α → Prop) (size : Nat) (hen : ∀ x, (en x).length = size) (hsz : 0 < size) {t e : TypeId} (ht : P.underlying t = some (.slice e)) (hce : P.cellsOf e = size)
    (hopen : ∀ fuel cs x, DataW.trod enc P w base spare held fuel e cs = some x → ∃ o, cs = en o ∧ ok o)
    {a : Option Addr} {len cap : Nat} {d : DataW H} {p : List MemPlace} (h : DataW.Trod enc P w base spare held t (.slice a len cap) d p) :
    ∃ l : List α, l.length = len ∧ ArgRow w size a len (l.flatMap en) ∧ ∀ x ∈ l, ok x := by
  obtain ⟨fuel, hf⟩ := h
  rcases open_slice ht hf with ⟨hcs, _⟩ | ⟨a', len', cap', m, n, D, Pl, hcs, hb, hlc, hcm, hm, _, hel⟩
  · simp [Value.cells] at hcs
    obtain ⟨rfl, rfl, rfl⟩ := hcs
    exact ⟨[], rfl, ⟨by simp, by simp, by simp⟩, by simp⟩
  · simp [Value.cells] at hcs
    obtain ⟨rfl, rfl, rfl⟩ := hcs
    rw [hce] at hel
    have hlm : len ≤ m := by rw [hm]; split <;> omega
    obtain ⟨f, hf⟩ : ∃ f : Nat → Option α, ∀ i, i < len → ∃ o, f i = some o ∧ ok o ∧ ∀ j u, (en o)[j]? = some u → w.cell? ((a'.add (i * size)).add j) = some u := by
      have := choose_lt (α := Option α) (n := len) (p := fun i x => ∃ o, x = some o ∧ ok o ∧ ∀ j u, (en o)[j]? = some u → w.cell? ((a'.add (i * size)).add j) = some u) (fun i hi => by
        obtain ⟨cs', hc, ht'⟩ := hel i (by omega)
        obtain ⟨o, rfl, ho⟩ := hopen _ _ _ ht'
        exact ⟨some o, o, rfl, ho, (cells_each hc).2⟩)
      exact this
    refine ⟨(List.range len).filterMap f, ?_, ?_, ?_⟩
    · have hall : ∀ (l : List Nat), (∀ i ∈ l, i < len) → (l.filterMap f).length = l.length := by
        intro l
        induction l with
        | nil => simp
        | cons i l ih =>
          intro hl
          obtain ⟨o, ho, _⟩ := hf i (hl i (by simp))
          rw [List.filterMap_cons, ho]
          simp [ih (fun j hj => hl j (by simp [hj]))]
      simpa using hall (List.range len) (by simp)
    · have hget : ∀ (l : List Nat), (∀ i ∈ l, i < len) → ∀ k : Nat, (l.filterMap f)[k]? = (l[k]?).bind f := by
        intro l
        induction l with
        | nil => simp
        | cons i l ih =>
          intro hl k
          obtain ⟨o, ho, _⟩ := hf i (hl i (by simp))
          rw [List.filterMap_cons, ho]
          cases k with
          | zero => simp [ho]
          | succ k => simpa using ih (fun j hj => hl j (by simp [hj])) k
      have hlen : ((List.range len).filterMap f).length = len := by
        have hall : ∀ (l : List Nat), (∀ i ∈ l, i < len) → (l.filterMap f).length = l.length := by
          intro l
          induction l with
          | nil => simp
          | cons i l ih =>
            intro hl
            obtain ⟨o, ho, _⟩ := hf i (hl i (by simp))
            rw [List.filterMap_cons, ho]
            simp [ih (fun j hj => hl j (by simp [hj]))]
        simpa using hall (List.range len) (by simp)
      have hfl := flat_length en size hen ((List.range len).filterMap f)
      rw [hlen] at hfl
      refine ⟨hfl, by unfold maxLen at hcm; omega, fun h0 => ?_⟩
      have hcell : ∀ j u, (((List.range len).filterMap f).flatMap en)[j]? = some u → w.cell? (a'.add j) = some u := by
        intro j u hj
        have hjl : j < len * size := by
          have := (List.getElem?_eq_some_iff.1 hj).1
          omega
        have hk : j / size < len := by rw [Nat.div_lt_iff_lt_mul hsz]; exact hjl
        have hi : j % size < size := Nat.mod_lt _ hsz
        obtain ⟨o, ho, _, hc⟩ := hf (j / size) hk
        have e1 : ((List.range len).filterMap f)[j / size]? = some o := by
          rw [hget (List.range len) (by simp)]
          simp [hk, ho]
        have e2 := flat_get en size hen _ _ (j % size) o e1 hi
        have e3 : j / size * size + j % size = j := by rw [Nat.mul_comm]; exact Nat.div_add_mod j size
        rw [e3, hj] at e2
        have := hc (j % size) u e2.symm
        rwa [add_add, e3] at this
      have hspot : a'.spot = none := by
        obtain ⟨o, ho, _, hc⟩ := hf 0 h0
        obtain ⟨u, hu⟩ : ∃ u, (en o)[0]? = some u := ⟨(en o)[0]'(by rw [hen]; exact hsz), by simp⟩
        have := hc 0 u hu
        simp [Addr.add, World.cell?] at this
        split at this
        · cases hs : a'.spot with
          | none => rfl
          | some s => simp [hs] at this
        · cases this
      refine ⟨a'.block, a'.off, ?_, ?_, fun j u hj => ?_⟩
      · cases a'; simp at hspot; subst hspot; rfl
      · obtain ⟨u, hu⟩ : ∃ u, (((List.range len).filterMap f).flatMap en)[0]? = some u := ⟨_, List.getElem?_eq_getElem (by rw [hfl]; exact Nat.mul_pos h0 hsz)⟩
        have := hcell 0 u hu
        exact World.block_lt_of_cell? w (a'.add 0) this
      · have := hcell j u hj
        have e : a'.add j = ⟨a'.block, a'.off + j, none⟩ := by
          cases a'
          simp at hspot
          subst hspot
          unfold Addr.add
          split <;> simp_all
        rwa [e] at this
    · intro x hx
      rw [List.mem_filterMap] at hx
      obtain ⟨i, hi, hfi⟩ := hx
      obtain ⟨o, ho, hok, _⟩ := hf i (by simpa using hi)
      rw [hfi] at ho
      injection ho with ho
      subst ho
      exact hok

/-- An element that is a whole number. -/
theorem open_int_elem {e : TypeId} {k : IntKind} (he : P.underlying e = some (.int k)) (fuel : Nat) (cs : List Value) (x : DataW H × List MemPlace) (h : DataW.trod enc P w base spare held fuel e cs = some x) : ∃ o : Int, cs = [.int k o] ∧ (Lit.int k o).wf = true := by
  obtain ⟨n, rfl, _, hn⟩ := DataW.trod_int he h
  exact ⟨n, rfl, hn⟩

/-- A struct's field. -/
theorem open_field {t : TypeId} {fs : Array Field} {fuel : Nat} {cs : List Value} {x : DataW H × List MemPlace} (ht : P.underlying t = some (.struct fs)) (h : DataW.trod enc P w base spare held fuel t cs = some x) (i : Nat) (f : Field) (hf : fs[i]? = some f) :
    ∃ n y, DataW.trod enc P w base spare held n f.type ((cs.drop f.offset).take (P.cellsOf f.type)) = some y := by
  obtain ⟨xs, n, _, _, _, hl, hx⟩ := DataW.trod_struct ht h
  have hi : i < fs.size := (Array.getElem?_eq_some_iff.1 hf).1
  have := hx i f hf
  rw [List.getElem?_eq_getElem (by omega)] at this
  exact ⟨n, _, this⟩
theorem open_struct_len {t : TypeId} {fs : Array Field} {fuel : Nat} {cs : List Value} {x : DataW H × List MemPlace} (ht : P.underlying t = some (.struct fs)) (h : DataW.trod enc P w base spare held fuel t cs = some x) : cs.length = P.cellsOf t := by
  obtain ⟨xs, n, _, _, hl, _⟩ := DataW.trod_struct ht h
  exact hl
theorem open_int_field {t e : TypeId} {k : IntKind} {fs : Array Field} {fuel : Nat} {cs : List Value} {x : DataW H × List MemPlace} (ht : P.underlying t = some (.struct fs)) (h : DataW.trod enc P w base spare held fuel t cs = some x) (i off : Nat) (hf : (fs[i]?).map (fun f => (f.type, f.offset)) = some (e, off))
    (he : P.underlying e = some (.int k)) (hc : P.cellsOf e = 1) : ∃ o : Int, cs[off]? = some (.int k o) ∧ (Lit.int k o).wf = true := by
  cases hfi : fs[i]? with
  | none => rw [hfi] at hf; cases hf
  | some f =>
    rw [hfi] at hf
    simp at hf
    obtain ⟨n, y, hy⟩ := open_field ht h i f hfi
    rw [hf.1, hf.2, hc] at hy
    obtain ⟨o, ho, hw⟩ := open_int_elem he _ _ _ hy
    refine ⟨o, ?_, hw⟩
    have := congrArg (·[0]?) ho
    simpa [List.getElem?_take] using this
theorem open_bool_field {t e : TypeId} {fs : Array Field} {fuel : Nat} {cs : List Value} {x : DataW H × List MemPlace} (ht : P.underlying t = some (.struct fs)) (h : DataW.trod enc P w base spare held fuel t cs = some x) (i off : Nat) (hf : (fs[i]?).map (fun f => (f.type, f.offset)) = some (e, off))
    (he : P.underlying e = some .bool) (hc : P.cellsOf e = 1) : ∃ o : Bool, cs[off]? = some (.bool o) := by
  cases hfi : fs[i]? with
  | none => rw [hfi] at hf; cases hf
  | some f =>
    rw [hfi] at hf
    simp at hf
    obtain ⟨n, y, hy⟩ := open_field ht h i f hfi
    rw [hf.1, hf.2, hc] at hy
    obtain ⟨o, ho, hw⟩ := DataW.trod_bool he hy
    refine ⟨o, ?_⟩
    have := congrArg (·[0]?) ho
    simpa [List.getElem?_take] using this

theorem flat_ints (k : IntKind) (l : List Int) : (l.flatMap fun x => [Value.int k x]) = l.map (Value.int k) := by
  induction l with
  | nil => rfl
  | cons x l ih => rw [List.flatMap_cons, ih]; rfl
theorem ArgRow.ints {k : IntKind} {a : Option Addr} {len : Nat} {l : List Int} (h : ArgRow w 1 a len (l.flatMap fun x => [.int k x])) : ArgRow w 1 a len (l.map (Value.int k)) := by
  rwa [flat_ints] at h
end
end Go.Proofs.Yteeapkndappnoaa

/-
  What the laws of layer 14 are handed: calls; a key. And a call of the program's.
-/
namespace Go.Proofs.Yteeapkndappnoaa
open Go.RowKit Go.Deep Go.ChangeShapes Go.WideShapes
set_option linter.unusedVariables false
set_option linter.unusedSimpArgs false

/-- A call. -/
structure OpS where
  what : Int
  k : KeyS
  p : Int
  i : Int
  to : Int
  h : Int
  r : Bool × Bool × Bool
def opL (o : OpS) : List Value := [.int .i64 o.what, .int .i64 o.k.g, .int .i64 o.k.lv, .int .i64 o.k.ro, .int .i64 o.p, .int .i64 o.i, .int .i64 o.to, .int .i64 o.h, .bool o.r.1, .bool o.r.2.1, .bool o.r.2.2]
structure KeyOk (k : KeyS) : Prop where
  g : (Lit.int .i64 k.g).wf = true
  lv : (Lit.int .i64 k.lv).wf = true
  ro : (Lit.int .i64 k.ro).wf = true
structure OpOk (o : OpS) : Prop where
  k : KeyOk o.k
  p : (Lit.int .i64 o.p).wf = true
  i : (Lit.int .i64 o.i).wf = true
  to : (Lit.int .i64 o.to).wf = true
  h : (Lit.int .i64 o.h).wf = true

theorem open_keyL {H : Type} {enc : TypeId × Value → H} {w : World} {base : Nat} {spare : Nat → Bool} {held : Bool} (fuel : Nat) (cs : List Value) (x : DataW H × List MemPlace)
    (h : DataW.trod enc Try.prog w base spare held fuel 31 cs = some x) : ∃ k, cs = keyL k ∧ KeyOk k := by
  have hl := open_struct_len Try.underlying31 h
  have hs : Try.prog.cellsOf 31 = 3 := by kernel_rfl
  rw [hs] at hl
  obtain ⟨a0, h0, w0⟩ := open_int_field Try.underlying31 h 0 0 (e := 3) (by kernel_rfl) Try.underlying3 (by kernel_rfl)
  obtain ⟨a1, h1, w1⟩ := open_int_field Try.underlying31 h 1 1 (e := 3) (by kernel_rfl) Try.underlying3 (by kernel_rfl)
  obtain ⟨a2, h2, w2⟩ := open_int_field Try.underlying31 h 2 2 (e := 3) (by kernel_rfl) Try.underlying3 (by kernel_rfl)
  refine ⟨⟨a0, a1, a2⟩, ?_, ⟨w0, w1, w2⟩⟩
  match cs, hl with
  | [c0, c1, c2], _ =>
    simp at h0 h1 h2
    rw [h0, h1, h2]
    rfl
theorem open_key {H : Type} {enc : TypeId × Value → H} {w : World} {base : Nat} {spare : Nat → Bool} {held : Bool} {cs : Array Value} {d : DataW H} {q : List MemPlace}
    (h : DataW.Trod enc Try.prog w base spare held 31 (.agg cs) d q) : ∃ k : KeyS, cs = keyC k ∧ KeyOk k := by
  obtain ⟨fuel, hf⟩ := h
  obtain ⟨k, h1, h2⟩ := open_keyL _ _ _ hf
  refine ⟨k, ?_, h2⟩
  obtain ⟨l⟩ := cs
  simp only [Value.cells] at h1
  subst h1
  rfl
set_option maxRecDepth 100000 in
theorem open_sop {H : Type} {enc : TypeId × Value → H} {w : World} {base : Nat} {spare : Nat → Bool} {held : Bool} (fuel : Nat) (cs : List Value) (x : DataW H × List MemPlace)
    (h : DataW.trod enc Try.prog w base spare held fuel 35 cs = some x) : ∃ o, cs = opL o ∧ OpOk o := by
  have hl := open_struct_len Try.underlying35 h
  have hs : Try.prog.cellsOf 35 = 11 := by kernel_rfl
  rw [hs] at hl
  obtain ⟨a0, h0, w0⟩ := open_int_field Try.underlying35 h 0 0 (e := 3) (by kernel_rfl) Try.underlying3 (by kernel_rfl)
  obtain ⟨a4, h4, w4⟩ := open_int_field Try.underlying35 h 2 4 (e := 3) (by kernel_rfl) Try.underlying3 (by kernel_rfl)
  obtain ⟨a5, h5, w5⟩ := open_int_field Try.underlying35 h 3 5 (e := 3) (by kernel_rfl) Try.underlying3 (by kernel_rfl)
  obtain ⟨a6, h6, w6⟩ := open_int_field Try.underlying35 h 4 6 (e := 3) (by kernel_rfl) Try.underlying3 (by kernel_rfl)
  obtain ⟨a7, h7, w7⟩ := open_int_field Try.underlying35 h 5 7 (e := 3) (by kernel_rfl) Try.underlying3 (by kernel_rfl)
  obtain ⟨n, y, hy⟩ := open_field Try.underlying35 h 1 _ rfl
  have hr : Try.prog.cellsOf 31 = 3 := by kernel_rfl
  have hy : DataW.trod enc Try.prog w base spare held n 31 ((cs.drop 1).take (Try.prog.cellsOf 31)) = some y := hy
  rw [hr] at hy
  obtain ⟨k, hk, hok⟩ := open_keyL _ _ _ hy
  obtain ⟨n2, y2, hy2⟩ := open_field Try.underlying35 h 6 _ rfl
  have hr2 : Try.prog.cellsOf 33 = 3 := by kernel_rfl
  have hy2 : DataW.trod enc Try.prog w base spare held n2 33 ((cs.drop 8).take (Try.prog.cellsOf 33)) = some y2 := hy2
  rw [hr2] at hy2
  obtain ⟨b0, g0⟩ := open_bool_field Try.underlying33 hy2 0 0 (e := 4) (by kernel_rfl) Try.underlying4 (by kernel_rfl)
  obtain ⟨b1, g1⟩ := open_bool_field Try.underlying33 hy2 1 1 (e := 4) (by kernel_rfl) Try.underlying4 (by kernel_rfl)
  obtain ⟨b2, g2⟩ := open_bool_field Try.underlying33 hy2 2 2 (e := 4) (by kernel_rfl) Try.underlying4 (by kernel_rfl)
  refine ⟨⟨a0, k, a4, a5, a6, a7, (b0, b1, b2)⟩, ?_, ⟨hok, w4, w5, w6, w7⟩⟩
  match cs, hl with
  | [c0, c1, c2, c3, c4, c5, c6, c7, c8, c9, c10], _ =>
    simp [keyL] at h0 h4 h5 h6 h7 g0 g1 g2 hk
    obtain ⟨e1, e2, e3⟩ := hk
    rw [h0, h4, h5, h6, h7, g0, g1, g2, e1, e2, e3]
    rfl
theorem open_sops {H : Type} {enc : TypeId × Value → H} {w : World} {base : Nat} {spare : Nat → Bool} {held : Bool} {a : Option Addr} {len cap : Nat} {d : DataW H} {p : List MemPlace}
    (h : DataW.Trod enc Try.prog w base spare held 22 (.slice a len cap) d p) : ∃ l : List OpS, l.length = len ∧ ArgRow w 11 a len (l.flatMap opL) ∧ ∀ x ∈ l, OpOk x :=
  open_row opL OpOk 11 (fun _ => rfl) (by decide) Try.underlying22 (by kernel_rfl) open_sop h
theorem sops_len {w : World} {a : Option Addr} {len : Nat} {l : List OpS} (h : ArgRow w 11 a len (l.flatMap opL)) : l.length = len := by
  have h1 := h.lc
  rw [flat_length opL 11 (fun _ => rfl)] at h1
  omega
/-- A call's cells, now and later. -/
theorem sops_at {l : List OpS} {w w' : World} {a : Option Addr} {len : Nat} (hA : ArgRow w 11 a len (l.flatMap opL)) (hb : Below w.heap.size w w') {k : Nat} {o : OpS} (hk : l[k]? = some o) : ∃ b of, a = some ⟨b, of, none⟩ ∧ ∀ i u, (opL o)[i]? = some u → w'.cell? ((⟨b, of + k * 11, none⟩ : Addr).add i) = some u := by
  have hlen := sops_len hA
  have hkl := (List.getElem?_eq_some_iff.1 hk).1
  obtain ⟨b, of, rfl, hbw, hc⟩ := hA.mem (by omega)
  refine ⟨b, of, rfl, fun i u hu => ?_⟩
  have hi : i < 11 := by have := (List.getElem?_eq_some_iff.1 hu).1; simpa [opL] using this
  have e : (⟨b, of + k * 11, none⟩ : Addr).add i = ⟨b, of + (k * 11 + i), none⟩ := by unfold Addr.add; split <;> simp_all <;> omega
  rw [e]
  refine (hb.cell (p := ⟨b, of + (k * 11 + i), none⟩) hbw).trans (hc _ _ ?_)
  rw [flat_get opL 11 (fun _ => rfl) l k i o hk hi]
  exact hu
theorem op_size : (Try.prog.info? 35).map (fun i => i.size) = some 11 := by kernel_rfl

/-! ### a call of the program's -/
def playS (n : Nat) (S : StS) (o : OpS) : StS :=
  if o.what = 0 ∨ o.what = 1 then makeS n S o.k else if o.what = 2 ∨ o.what = 3 then childS n S o.p o.i o.to o.r else if o.what = 4 ∨ o.what = 5 then leafS n S o.p o.i o.to o.h o.r else if o.what = 6 then clearS n S o.p o.i else dropS n S o.p
def playI (S : StS) (o : OpS) : Int := if o.what = 0 ∨ o.what = 1 then makeV S o.k else 0
def playB (n : Nat) (S : StS) (o : OpS) : Bool :=
  if o.what = 0 ∨ o.what = 1 then makeB S o.k else if o.what = 2 ∨ o.what = 3 then childB S o.p o.i o.to else if o.what = 4 ∨ o.what = 5 then leafB n S o.p o.i o.h else if o.what = 6 then clearB S o.p o.i else dropB S o.p
def runS (n : Nat) (S : StS) (l : List OpS) : StS := l.foldl (playS n) S
theorem runS_succ {n : Nat} {S : StS} {l : List OpS} {k : Nat} {o : OpS} (h : l[k]? = some o) : runS n S (l.take (k + 1)) = playS n (runS n S (l.take k)) o := by
  unfold runS
  rw [List.take_add_one, h, List.foldl_append]
  rfl

set_option maxHeartbeats 2000000 in
set_option maxRecDepth 100000 in
theorem play_calls (sb hb n : Nat) (first many : Int) (S : StS) (o : OpS) (ho : OpOk o) (w : World) (B : Nat) (X : List Asr) (hH : Has w B (staL sb hb n first many S X)) :
    Calls Try.prog 13 #[.pointer (some ⟨sb, 0, none⟩), .agg (opL o).toArray] w fun e w' => e = .returned (.tuple #[.int .i64 (playI S o), .bool (playB n S o)]) ∧ Has w' B (staL sb hb n first many (playS n S o) X) ∧ Below B w w' := by
  obtain ⟨bb, hbb⟩ : ∃ b, w.heap.size = b := ⟨_, rfl⟩
  have hN : Has (w.alloc (.cells (opL o).toArray 35)) B (staL sb hb n first many S (blk bb 35 (opL o).toArray :: X)) := toX (hH.newblk bb 35 (opL o).toArray hbb)
  have bN := below_new (Below.refl B w) hH (.cells (opL o).toArray 35)
  have c0 := hN.cell [_, _] _ 0 (v := .int .i64 o.what) rfl
  have c1 := hN.cell [_, _] _ 1 (v := .int .i64 o.k.g) rfl
  have c2 := hN.cell [_, _] _ 2 (v := .int .i64 o.k.lv) rfl
  have c3 := hN.cell [_, _] _ 3 (v := .int .i64 o.k.ro) rfl
  have c4 := hN.cell [_, _] _ 4 (v := .int .i64 o.p) rfl
  have c5 := hN.cell [_, _] _ 5 (v := .int .i64 o.i) rfl
  have c6 := hN.cell [_, _] _ 6 (v := .int .i64 o.to) rfl
  have c7 := hN.cell [_, _] _ 7 (v := .int .i64 o.h) rfl
  have c8 := hN.cell [_, _] _ 8 (v := .bool o.r.1) rfl
  have c9 := hN.cell [_, _] _ 9 (v := .bool o.r.2.1) rfl
  have c10 := hN.cell [_, _] _ 10 (v := .bool o.r.2.2) rfl
  obtain ⟨pi, hpi⟩ : ∃ v, playI S o = v := ⟨_, rfl⟩
  obtain ⟨pb, hpb⟩ : ∃ v, playB n S o = v := ⟨_, rfl⟩
  obtain ⟨pS, hpS⟩ : ∃ v, playS n S o = v := ⟨_, rfl⟩
  have H1 := hpi
  have H2 := hpb
  have H3 := hpS
  unfold playI at H1
  unfold playB at H2
  unfold playS at H3
  rw [hpi, hpb, hpS]
  clear hpi hpb hpS hH
  by_cases h0 : o.what = 0
  · have e0 : (o.what == 0) = true := by rw [beq_iff_eq]; exact h0
    rw [if_pos (Or.inl h0)] at H1
    rw [if_pos (Or.inl h0)] at H2 H3
    subst H1 H2 H3
    have CC := hid (Make_calls sb hb n first many S o.k _ B _ hN)
    clear hN h0
    go_enter Try.func13, Try.ntmps13
    go_wp2_with fail
    refine CC.out.mono ?_
    rintro e w2 ⟨rfl, hH2, hB2⟩
    go_wp2_with fail
    go_ret2
    exact ⟨rfl, Has.drop (fromX hH2), bN.trans hB2⟩
  have e0 : (o.what == 0) = false := by rw [beq_eq_false_iff_ne]; exact h0
  by_cases h1 : o.what = 1
  · have e1 : (o.what == 1) = true := by rw [beq_iff_eq]; exact h1
    rw [if_pos (Or.inr h1)] at H1
    rw [if_pos (Or.inr h1)] at H2 H3
    subst H1 H2 H3
    have CC := hid (Make_calls sb hb n first many S o.k _ B _ hN)
    clear hN h0 h1
    go_enter Try.func13, Try.ntmps13
    go_wp2_with fail
    refine CC.out.mono ?_
    rintro e w2 ⟨rfl, hH2, hB2⟩
    go_wp2_with fail
    go_ret2
    exact ⟨rfl, Has.drop (fromX hH2), bN.trans hB2⟩
  have e1 : (o.what == 1) = false := by rw [beq_eq_false_iff_ne]; exact h1
  by_cases h2 : o.what = 2
  · have e2 : (o.what == 2) = true := by rw [beq_iff_eq]; exact h2
    rw [if_neg (not_or.2 ⟨h0, h1⟩)] at H1
    rw [if_neg (not_or.2 ⟨h0, h1⟩), if_pos (Or.inl h2)] at H2 H3
    subst H1 H2 H3
    have CC := hid (Child_calls sb hb n first many S o.p o.i o.to o.r _ B _ hN)
    clear hN h0 h1 h2
    go_enter Try.func13, Try.ntmps13
    go_wp2_with fail
    refine CC.out.mono ?_
    rintro e w2 ⟨rfl, hH2, hB2⟩
    go_wp2_with fail
    go_ret2
    exact ⟨rfl, Has.drop (fromX hH2), bN.trans hB2⟩
  have e2 : (o.what == 2) = false := by rw [beq_eq_false_iff_ne]; exact h2
  by_cases h3 : o.what = 3
  · have e3 : (o.what == 3) = true := by rw [beq_iff_eq]; exact h3
    rw [if_neg (not_or.2 ⟨h0, h1⟩)] at H1
    rw [if_neg (not_or.2 ⟨h0, h1⟩), if_pos (Or.inr h3)] at H2 H3
    subst H1 H2 H3
    have CC := hid (Child_calls sb hb n first many S o.p o.i o.to o.r _ B _ hN)
    clear hN h0 h1 h2 h3
    go_enter Try.func13, Try.ntmps13
    go_wp2_with fail
    refine CC.out.mono ?_
    rintro e w2 ⟨rfl, hH2, hB2⟩
    go_wp2_with fail
    go_ret2
    exact ⟨rfl, Has.drop (fromX hH2), bN.trans hB2⟩
  have e3 : (o.what == 3) = false := by rw [beq_eq_false_iff_ne]; exact h3
  by_cases h4 : o.what = 4
  · have e4 : (o.what == 4) = true := by rw [beq_iff_eq]; exact h4
    rw [if_neg (not_or.2 ⟨h0, h1⟩)] at H1
    rw [if_neg (not_or.2 ⟨h0, h1⟩), if_neg (not_or.2 ⟨h2, h3⟩), if_pos (Or.inl h4)] at H2 H3
    subst H1 H2 H3
    have CC := hid (Leaf_calls sb hb n first many S o.p o.i o.to o.h o.r _ B _ hN)
    clear hN h0 h1 h2 h3 h4
    go_enter Try.func13, Try.ntmps13
    go_wp2_with fail
    refine CC.out.mono ?_
    rintro e w2 ⟨rfl, hH2, hB2⟩
    go_wp2_with fail
    go_ret2
    exact ⟨rfl, Has.drop (fromX hH2), bN.trans hB2⟩
  have e4 : (o.what == 4) = false := by rw [beq_eq_false_iff_ne]; exact h4
  by_cases h5 : o.what = 5
  · have e5 : (o.what == 5) = true := by rw [beq_iff_eq]; exact h5
    rw [if_neg (not_or.2 ⟨h0, h1⟩)] at H1
    rw [if_neg (not_or.2 ⟨h0, h1⟩), if_neg (not_or.2 ⟨h2, h3⟩), if_pos (Or.inr h5)] at H2 H3
    subst H1 H2 H3
    have CC := hid (Leaf_calls sb hb n first many S o.p o.i o.to o.h o.r _ B _ hN)
    clear hN h0 h1 h2 h3 h4 h5
    go_enter Try.func13, Try.ntmps13
    go_wp2_with fail
    refine CC.out.mono ?_
    rintro e w2 ⟨rfl, hH2, hB2⟩
    go_wp2_with fail
    go_ret2
    exact ⟨rfl, Has.drop (fromX hH2), bN.trans hB2⟩
  have e5 : (o.what == 5) = false := by rw [beq_eq_false_iff_ne]; exact h5
  by_cases h6 : o.what = 6
  · have e6 : (o.what == 6) = true := by rw [beq_iff_eq]; exact h6
    rw [if_neg (not_or.2 ⟨h0, h1⟩)] at H1
    rw [if_neg (not_or.2 ⟨h0, h1⟩), if_neg (not_or.2 ⟨h2, h3⟩), if_neg (not_or.2 ⟨h4, h5⟩), if_pos h6] at H2 H3
    subst H1 H2 H3
    have CC := hid (Clear_calls sb hb n first many S o.p o.i _ B _ hN)
    clear hN h0 h1 h2 h3 h4 h5 h6
    go_enter Try.func13, Try.ntmps13
    go_wp2_with fail
    refine CC.out.mono ?_
    rintro e w2 ⟨rfl, hH2, hB2⟩
    go_wp2_with fail
    go_ret2
    exact ⟨rfl, Has.drop (fromX hH2), bN.trans hB2⟩
  have e6 : (o.what == 6) = false := by rw [beq_eq_false_iff_ne]; exact h6
  rw [if_neg (not_or.2 ⟨h0, h1⟩)] at H1
  rw [if_neg (not_or.2 ⟨h0, h1⟩), if_neg (not_or.2 ⟨h2, h3⟩), if_neg (not_or.2 ⟨h4, h5⟩), if_neg h6] at H2 H3
  subst H1 H2 H3
  have CC := hid (Drop_calls sb hb n first many S o.p ho.p _ B _ hN)
  clear hN h0 h1 h2 h3 h4 h5 h6
  go_enter Try.func13, Try.ntmps13
  go_wp2_with fail
  refine CC.out.mono ?_
  rintro e w2 ⟨rfl, hH2, hB2⟩
  go_wp2_with fail
  go_ret2
  exact ⟨rfl, Has.drop (fromX hH2), bN.trans hB2⟩

end Go.Proofs.Yteeapkndappnoaa

/-
  Alike: two lists of ints; two lists of places.
-/
namespace Go.Proofs.Yteeapkndappnoaa
open Go.RowKit
set_option linter.unusedVariables false
set_option linter.unusedSimpArgs false

/-- A list of ints in memory, whatever they are. -/
structure SrcI (w : World) (a : Option Addr) (l : List Int) : Prop where
  small : l.length ≤ 9223372036854775807
  mem : 0 < l.length → ∃ b o, a = some ⟨b, o, none⟩ ∧ b < w.heap.size ∧ ∀ j u, (l.map (Value.int .i64))[j]? = some u → w.cell? ⟨b, o + j, none⟩ = some u
theorem SrcI.later {w w' : World} {a : Option Addr} {l : List Int} (h : SrcI w a l) (hb : Below w.heap.size w w') : SrcI w' a l :=
  ⟨h.small, fun h0 => by
    obtain ⟨b, o, ha, hlt, hc⟩ := h.mem h0
    exact ⟨b, o, ha, Nat.lt_of_lt_of_le hlt hb.size, fun j u hj => ArgRow.later hlt hc hb j hj⟩⟩
theorem SrcI.at {w : World} {a : Option Addr} {l : List Int} (h : SrcI w a l) {b o : Nat} (ha : a = some ⟨b, o, none⟩) {k : Nat} {x : Int} (hk : l[k]? = some x) : w.cell? ⟨b, o + k, none⟩ = some (.int .i64 x) := by
  have := (List.getElem?_eq_some_iff.1 hk).1
  obtain ⟨b', o', e, hlt, hc⟩ := h.mem (by omega)
  rw [ha] at e
  injection e with e
  injection e with e1 e2 e3
  subst e1 e2
  exact hc k _ (by simp [hk])
theorem srci_row {w : World} {B cap n : Nat} {ao : Option Addr} {T : TypeId} {l : List Int} (L1 L2 : List Asr) (hH : Has w B (L1 ++ row T 1 (.slice ao n cap) n (l.map (Value.int .i64)) :: L2)) (hn : n = l.length) : SrcI w ao l := by
  subst hn
  rcases hH.row_shape L1 L2 with ⟨h, h0⟩ | ⟨g', cap', h, h1, h2, _, hg⟩
  · exact ⟨by omega, by omega⟩
  · cases h
    refine ⟨by unfold maxLen at h2; omega, fun _ => ⟨g', 0, rfl, hg, fun j u hj => ?_⟩⟩
    rw [Nat.zero_add]
    exact hH.row_cell L1 L2 j hj


set_option maxHeartbeats 1000000 in
set_option maxRecDepth 100000 in
/-- SameInts. -/
theorem SameInts_calls (a b : Option Addr) (ca cb : Nat) (l m : List Int) (w : World) (h1 : SrcI w a l) (h2 : SrcI w b m) :
    Calls Try.prog 38 #[.slice a l.length ca, .slice b m.length cb] w fun e w' => e = .returned (.bool (l == m)) ∧ Below w.heap.size w w' := by
  have s1 := h1.small
  have s2 := h2.small
  by_cases hn : l.length = m.length
  · have e1 : (l.length == m.length) = true := by rw [beq_iff_eq]; exact hn
    have H1 := hid h1
    have H2 := hid h2
    rw [← hn]
    have HN := hid hn
    clear h1 h2 hn e1 s2
    go_enter Try.func38, Try.ntmps38
    go_wp2_with fail
    go_loopw [5] (fun i wr => ∃ k : Nat, k ≤ l.length ∧ i = .int .i64 k ∧ Below w.heap.size w wr ∧ ∀ j, j < k → l[j]? = m[j]?) (fun i _ => l.length - (intOf i).toNat)
    case atStart => exact ⟨0, by omega, rfl, Below.refl _ _, fun j h => by omega⟩
    case round =>
      obtain ⟨k, hk, rfl, hBr, hall⟩ := hrel
      have HALL := hid hall
      clear hall
      by_cases hlt : k < l.length
      · obtain ⟨x, hx⟩ : ∃ x, l[k]? = some x := ⟨l[k], List.getElem?_eq_getElem hlt⟩
        obtain ⟨y, hy⟩ : ∃ y, m[k]? = some y := ⟨_, List.getElem?_eq_getElem (by have := HN.out; omega)⟩
        obtain ⟨ba, oa, rfl, _, _⟩ := H1.out.mem (by omega)
        obtain ⟨bb, ob, rfl, _, _⟩ := H2.out.mem (by have := HN.out; omega)
        have c1 := (H1.out.later hBr).at rfl hx
        have c2 := (H2.out.later hBr).at rfl hy
        by_cases hxy : x = y
        · subst hxy
          have HX := hid (And.intro hx hy)
          clear hx hy
          go_wp2_with fail
          go_quiet (fail)
          have hBq := below_drewNS hBr nq
          go_wp2_with fail
          go_roundw
          case rel => exact ⟨k + 1, by omega, by go_num, hBq, fun j hj => by
            by_cases e : j = k
            · subst e; rw [HX.out.1, HX.out.2]
            · exact HALL.out j (by omega)⟩
          case measure => simp [intOf] <;> omega
        · have e1 : (x == y) = false := by rw [beq_eq_false_iff_ne]; exact hxy
          have hr : (l == m) = false := by
            rw [beq_eq_false_iff_ne]
            intro e
            rw [e, hy] at hx
            injection hx with hx
            exact hxy hx.symm
          have HR := hid hr
          clear hx hy hxy hr
          go_wp2_with fail
          go_quiet (fail)
          have hBq := below_drewNS hBr nq
          go_wp2_with fail
          go_ret
          exact ⟨by rw [HR.out]; rfl, hBq⟩
      · obtain rfl : k = l.length := by omega
        have hr : (l == m) = true := by
          rw [beq_iff_eq]
          refine List.ext_getElem? fun i => ?_
          by_cases hi : i < l.length
          · exact HALL.out i hi
          · rw [List.getElem?_eq_none (by omega), List.getElem?_eq_none (by have := HN.out; omega)]
        have HR := hid hr
        clear hr
        go_wp2_with fail
        go_ret
        exact ⟨by rw [HR.out]; rfl, hBr⟩
  · have e1 : (l.length == m.length) = false := by rw [beq_eq_false_iff_ne]; exact hn
    have e2 : ((l.length : Int) == (m.length : Int)) = false := by rw [beq_eq_false_iff_ne]; omega
    have hr : (l == m) = false := by
      rw [beq_eq_false_iff_ne]
      intro e
      exact hn (by rw [e])
    rw [hr]
    clear hr h1 h2
    go_enter Try.func38, Try.ntmps38
    go_wp2_with fail
    go_ret
    exact ⟨rfl, Below.refl _ _⟩


/-- A list of places in memory. -/
structure SrcA (w : World) (a : Option Addr) (l : List (Int × Int)) : Prop where
  small : l.length ≤ 9223372036854775807
  mem : 0 < l.length → ∃ b o, a = some ⟨b, o, none⟩ ∧ b < w.heap.size ∧ ∀ j u, (atsL l)[j]? = some u → w.cell? ⟨b, o + j, none⟩ = some u
theorem SrcA.later {w w' : World} {a : Option Addr} {l : List (Int × Int)} (h : SrcA w a l) (hb : Below w.heap.size w w') : SrcA w' a l :=
  ⟨h.small, fun h0 => by
    obtain ⟨b, o, ha, hlt, hc⟩ := h.mem h0
    exact ⟨b, o, ha, Nat.lt_of_lt_of_le hlt hb.size, fun j u hj => ArgRow.later hlt hc hb j hj⟩⟩
theorem SrcA.at {w : World} {a : Option Addr} {l : List (Int × Int)} (h : SrcA w a l) {b o : Nat} (ha : a = some ⟨b, o, none⟩) {k : Nat} {x : Int × Int} (hk : l[k]? = some x) : w.cell? ⟨b, o + k * 2, none⟩ = some (.int .i64 x.1) ∧ w.cell? ⟨b, o + k * 2 + 1, none⟩ = some (.int .i64 x.2) := by
  have := (List.getElem?_eq_some_iff.1 hk).1
  obtain ⟨b', o', e, hlt, hc⟩ := h.mem (by omega)
  rw [ha] at e
  injection e with e
  injection e with e1 e2 e3
  subst e1 e2
  refine ⟨hc (k * 2) _ ?_, ?_⟩
  · have := flat_get atL 2 (fun _ => rfl) l k 0 x hk (by omega)
    rw [atsL]
    simpa [atL] using this
  · have h1 := hc (k * 2 + 1) (.int .i64 x.2) (by
      have := flat_get atL 2 (fun _ => rfl) l k 1 x hk (by omega)
      rw [atsL]
      simpa [atL] using this)
    rwa [← Nat.add_assoc] at h1
theorem srca_row {w : World} {B cap n : Nat} {ao : Option Addr} {T : TypeId} {l : List (Int × Int)} (L1 L2 : List Asr) (hH : Has w B (L1 ++ row T 2 (.slice ao n cap) n (atsL l) :: L2)) (hn : n = l.length) : SrcA w ao l := by
  subst hn
  rcases hH.row_shape L1 L2 with ⟨h, h0⟩ | ⟨g', cap', h, h1, h2, _, hg⟩
  · exact ⟨by omega, by omega⟩
  · cases h
    refine ⟨by unfold maxLen at h2; omega, fun _ => ⟨g', 0, rfl, hg, fun j u hj => ?_⟩⟩
    rw [Nat.zero_add]
    exact hH.row_cell L1 L2 j hj
theorem srca_blk {w : World} {B b : Nat} {T : TypeId} {l : List (Int × Int)} (L1 L2 : List Asr) (hH : Has w B (L1 ++ blk b T (atsL l).toArray :: L2)) (hn : l.length ≤ 1000) : SrcA w (some ⟨b, 0, none⟩) l :=
  ⟨by omega, fun _ => ⟨b, 0, rfl, (hH.blk_at L1 L2).2.2, fun j u hj => by rw [Nat.zero_add]; exact hH.cell L1 L2 j (by simpa using hj)⟩⟩
theorem srci_blk {w : World} {B b : Nat} {T : TypeId} {l : List Int} (L1 L2 : List Asr) (hH : Has w B (L1 ++ blk b T (l.map (Value.int .i64)).toArray :: L2)) (hn : l.length ≤ 1000) : SrcI w (some ⟨b, 0, none⟩) l :=
  ⟨by omega, fun _ => ⟨b, 0, rfl, (hH.blk_at L1 L2).2.2, fun j u hj => by rw [Nat.zero_add]; exact hH.cell L1 L2 j (by simpa using hj)⟩⟩
theorem at_neq (a b c d : Int) (w : World) : Sem.run Try.prog (binOp .neq 46 (.agg #[.int .i64 a, .int .i64 b]) (.agg #[.int .i64 c, .int .i64 d])) w = .ok (.bool (!decide (a = c ∧ b = d))) w := by
  have h' := at_eql a b c d w
  rw [run_eql_struct] at h'
  simp only [binOp, Sem.run_bind, Op.equal, Op.maxDepth]
  revert h'
  generalize (Op.equalIn 10000 46 (.agg #[.int .i64 a, .int .i64 b]) (.agg #[.int .i64 c, .int .i64 d])).run Try.prog w = r
  cases r with
  | ok b w' => intro h; simp at h ⊢; simp [h]
  | halt x w' => intro h; simp [Result.andThen] at h

set_option maxHeartbeats 1000000 in
set_option maxRecDepth 100000 in
/-- SameAts. -/
theorem SameAts_calls (a b : Option Addr) (ca cb : Nat) (l m : List (Int × Int)) (w : World) (h1 : SrcA w a l) (h2 : SrcA w b m) :
    Calls Try.prog 17 #[.slice a l.length ca, .slice b m.length cb] w fun e w' => e = .returned (.bool (l == m)) ∧ Below w.heap.size w w' := by
  have s1 := h1.small
  have s2 := h2.small
  by_cases hn : l.length = m.length
  · have e1 : (l.length == m.length) = true := by rw [beq_iff_eq]; exact hn
    have H1 := hid h1
    have H2 := hid h2
    rw [← hn]
    have HN := hid hn
    clear h1 h2 hn e1 s2
    go_enter Try.func17, Try.ntmps17
    go_wp2_with fail
    go_loopw [5] (fun i wr => ∃ k : Nat, k ≤ l.length ∧ i = .int .i64 k ∧ Below w.heap.size w wr ∧ ∀ j, j < k → l[j]? = m[j]?) (fun i _ => l.length - (intOf i).toNat)
    case atStart => exact ⟨0, by omega, rfl, Below.refl _ _, fun j h => by omega⟩
    case round =>
      obtain ⟨k, hk, rfl, hBr, hall⟩ := hrel
      have HALL := hid hall
      clear hall
      by_cases hlt : k < l.length
      · obtain ⟨x, hx⟩ : ∃ x, l[k]? = some x := ⟨l[k], List.getElem?_eq_getElem hlt⟩
        obtain ⟨y, hy⟩ : ∃ y, m[k]? = some y := ⟨_, List.getElem?_eq_getElem (by have := HN.out; omega)⟩
        obtain ⟨ba, oa, rfl, _, _⟩ := H1.out.mem (by omega)
        obtain ⟨bb, ob, rfl, _, _⟩ := H2.out.mem (by have := HN.out; omega)
        obtain ⟨c1, d1⟩ := (H1.out.later hBr).at rfl hx
        obtain ⟨c2, d2⟩ := (H2.out.later hBr).at rfl hy
        by_cases hxy : x = y
        · subst hxy
          have hE : ∀ W, Sem.run Try.prog (binOp .neq 46 (.agg #[.int .i64 x.1, .int .i64 x.2]) (.agg #[.int .i64 x.1, .int .i64 x.2])) W = .ok (.bool false) W := fun W => by rw [at_neq]; simp
          have HX := hid (And.intro hx hy)
          clear hx hy
          go_wp2_with fail
          go_quiet (fail)
          have hBq := below_drewNS hBr nq
          go_wp2_with fail
          go_roundw
          case rel => exact ⟨k + 1, by omega, by go_num, hBq, fun j hj => by
            by_cases e : j = k
            · subst e; rw [HX.out.1, HX.out.2]
            · exact HALL.out j (by omega)⟩
          case measure => simp [intOf] <;> omega
        · have hE : ∀ W, Sem.run Try.prog (binOp .neq 46 (.agg #[.int .i64 x.1, .int .i64 x.2]) (.agg #[.int .i64 y.1, .int .i64 y.2])) W = .ok (.bool true) W := fun W => by
            rw [at_neq]
            have : ¬ (x.1 = y.1 ∧ x.2 = y.2) := fun h => hxy (Prod.ext h.1 h.2)
            rw [decide_eq_false this]
            rfl
          have hr : (l == m) = false := by
            rw [beq_eq_false_iff_ne]
            intro e
            rw [e, hy] at hx
            injection hx with hx
            exact hxy hx.symm
          have HR := hid hr
          clear hx hy hxy hr
          go_wp2_with fail
          go_quiet (fail)
          have hBq := below_drewNS hBr nq
          go_wp2_with fail
          go_ret
          exact ⟨by rw [HR.out]; rfl, hBq⟩
      · obtain rfl : k = l.length := by omega
        have hr : (l == m) = true := by
          rw [beq_iff_eq]
          refine List.ext_getElem? fun i => ?_
          by_cases hi : i < l.length
          · exact HALL.out i hi
          · rw [List.getElem?_eq_none (by omega), List.getElem?_eq_none (by have := HN.out; omega)]
        have HR := hid hr
        clear hr
        go_wp2_with fail
        go_ret
        exact ⟨by rw [HR.out]; rfl, hBr⟩
  · have e1 : (l.length == m.length) = false := by rw [beq_eq_false_iff_ne]; exact hn
    have e2 : ((l.length : Int) == (m.length : Int)) = false := by rw [beq_eq_false_iff_ne]; omega
    have hr : (l == m) = false := by
      rw [beq_eq_false_iff_ne]
      intro e
      exact hn (by rw [e])
    rw [hr]
    clear hr h1 h2
    go_enter Try.func17, Try.ntmps17
    go_wp2_with fail
    go_ret
    exact ⟨rfl, Below.refl _ _⟩

end Go.Proofs.Yteeapkndappnoaa
