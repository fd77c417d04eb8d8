/-
  New of package gmap.
-/
import Derived.Test.YtkgijfodjmkhgaaGmap
import Derived.WalkSpells
namespace Go.Proofs.Ytkgijfodjmkhgaa
open Go.RowKit
set_option linter.unusedVariables false
set_option linter.unusedSimpArgs false

theorem infoIntG : (Try.prog.info? 3).map (fun i => (i.zero, i.size, i.bytes)) = some (some (.int .i64 0), 1, 8) := by kernel_rfl
/-- What New hands back. -/
def NewPost (l : List Int) (frames : Int) (X : List Asr) (B : Nat) (w : World) (e : Ending) (w' : World) : Prop :=
  (¬ gok l frames ∧ e = .returned (.pointer none) ∧ Has w' B X ∧ Below B w w') ∨ (gok l frames ∧ ∃ b, e = .returned (.pointer (some ⟨b, 0, none⟩)) ∧ Has w' B (GmapA b l :: X) ∧ Below B w w')

theorem Clone_ok (gb o cap : Nat) (l : List Int) (w : World) (B : Nat) (X : List Asr) (hH : Has w B X) (hl : 1 ≤ l.length) (hl2 : l.length ≤ 64) (hgb : gb < w.heap.size)
    (hsrc : ∀ j u, (l.map (Value.int .i64))[j]? = some u → w.cell? ⟨gb, o + j, none⟩ = some u) :
    Calls Try.prog 27 #[.slice (some ⟨gb, o, none⟩) l.length cap] w fun e w' => ∃ g cap', e = .returned (.slice (some ⟨g, 0, none⟩) l.length cap') ∧ Has w' B (row 3 1 (.slice (some ⟨g, 0, none⟩) l.length cap') l.length (l.map (Value.int .i64)) :: X) ∧ Below B w w' := by
  obtain ⟨i0, hi, hz0, hz1, hz2⟩ := info_parts infoIntG
  have heq : ∀ W, Sem.run Try.prog (binOp .eql 22 (.slice (some ⟨gb, o, none⟩) l.length cap) (.slice none 0 0)) W = .ok (.bool false) W := fun W => by
    have h := Lib.run_eql_slice_nil (P := Try.prog) W 22 3 (some ⟨gb, o, none⟩) l.length cap 0 0 Try.underlying22
    exact h
  have hs2 : ∀ j u, (l.map (Value.int .i64))[j]? = some u → (w.alloc (.cells #[] 3)).cell? ((⟨gb, o, none⟩ : Addr).add j) = some u := fun j u hj => by
    have h := ArgRow.later hgb hsrc ((Below.refl w.heap.size w).alloc (Nat.le_refl _) (.cells #[] 3)) j hj
    have e : (⟨gb, o, none⟩ : Addr).add j = ⟨gb, o + j, none⟩ := by
      unfold Addr.add
      split <;> simp_all
    rw [e]
    exact h
  have hBA := below_new (Below.refl B w) hH (.cells #[] 3)
  have hHA := hH.alloc (.cells #[] 3)
  have HS := hid hs2
  clear hsrc hs2
  go_enter Try.func27, Try.ntmps27
  go_wp2_with (at_builtin; refine wpList_append_fresh hHA rfl _ _ 22 rfl i0 (.int .i64 0) 8 Try.underlying22 hi hz0 hz1 hz2 rfl (by decide) _ rfl ⟨gb, o, none⟩ l.length cap (l.map (Value.int .i64)) rfl (by simp) HS.out (by simp [Value.oneCell']) (by omega) (by unfold maxLen; omega) (by omega) ?_; intro g2 cap2 w2 hH2 hB2)
  go_ret
  exact ⟨g2, cap2, rfl, hH2, hBA.trans hB2⟩

/-- What a callee made joins what was there. -/
theorem Has.join {w w' : World} {B : Nat} {X L : List Asr} (h : Has w B X) (hb : Below w.heap.size w w') (hn : Has w' w.heap.size L) : Has w' B (L ++ X) := by
  unfold Has at h hn ⊢
  obtain ⟨hB, S, hS, hSb⟩ := h
  obtain ⟨hB', S', hS', hSb'⟩ := hn
  refine ⟨Nat.le_trans hB hb.size, S' ++ S, (sepL_app L X w' (S' ++ S)).2 ⟨S', S, rfl, hS', sepL_loc X w w' S hS (fun k hk => hb.block k (sepL_lt X w S hS k hk)), fun k h h' => ?_⟩, fun k h => ?_⟩
  · have := sepL_lt X w S hS k h'
    have := hSb' k h
    omega
  · rcases List.mem_append.1 h with h' | h'
    · have := hSb' k h'; omega
    · exact hSb k h'

set_option maxHeartbeats 2000000 in
set_option maxRecDepth 100000 in
theorem New_walk (gb o cap : Nat) (l : List Int) (frames : Int) (w : World) (h1 : 1 ≤ l.length) (h2 : l.length ≤ 64) (h3 : 1 ≤ frames) (h4 : frames ≤ 256) (hgb : gb < w.heap.size)
    (hwf : ∀ x ∈ l, (Lit.int .i64 x).wf = true)
    (hsrc : ∀ j u, (l.map (Value.int .i64))[j]? = some u → w.cell? ⟨gb, o + j, none⟩ = some u) :
    Calls Try.prog 17 #[.slice (some ⟨gb, o, none⟩) l.length cap, .int .i64 frames] w (NewPost l frames [] w.heap.size w) := by
  have hH : Has w w.heap.size [] := Has.nil (Nat.le_refl _)
  have hmm : ∀ W, Sem.run Try.prog (Instr.makeMap 45 (some (.int .i64 (l.length : Int)))) W = .ok (.map (some W.heap.size)) (W.alloc (.map #[] 0)) := fun W => by
    have h := Try.underlying45
    simp [Instr.makeMap, go_sem, asInt]
  have e1 : decide ((l.length : Int) < 1) = false := by rw [decide_eq_false_iff_not]; omega
  have e2 : decide (64 < (l.length : Int)) = false := by rw [decide_eq_false_iff_not]; omega
  have e3 : decide (frames < 1) = false := by rw [decide_eq_false_iff_not]; omega
  have e4 : decide (256 < frames) = false := by rw [decide_eq_false_iff_not]; omega
  have e5 : decide ((l.length : Int) < 0) = false := by rw [decide_eq_false_iff_not]; omega
  have hM := hH.newmap w.heap.size Try.prog 3 rfl
  have hBM := below_new (Below.refl w.heap.size w) hH (.map #[] 0)
  have hsrc' : ∀ (W : World) , Below w.heap.size w W → ∀ (k : Nat) x, l[k]? = some x → W.cell? ⟨gb, o + k, none⟩ = some (.int .i64 x) := fun W hb k x hk => ArgRow.later hgb hsrc hb k (by simp [hk])
  have HS := hid hsrc'
  have HWF := hid hwf
  have HSRC := hid hsrc
  have HGB := hid hgb
  clear hsrc hwf hsrc' hgb
  go_enter Try.func17, Try.ntmps17
  go_wp2_with fail
  generalize hm : w.heap.size = m at *
  have HM := hid hm
  clear hm hmm e1 e2 e3 e4 e5 hH
  go_loopw [29] (fun i wr => ∃ k : Nat, k ≤ l.length ∧ i = .int .i64 k ∧ Has wr m [imap Try.prog 3 m (gmG l k) (gmN l k)] ∧ Below m w wr ∧ ∀ j x, j < k → l[j]? = some x → 0 ≤ x ∧ x < frames) (fun i _ => l.length - (intOf i).toNat)
  case atStart => exact ⟨0, by omega, rfl, hM, hBM, fun j x h => by omega⟩
  case round =>
    obtain ⟨k, hk, rfl, hHr, hBr, hall⟩ := hrel
    have HALL := hid hall
    clear hM hBM hall
    by_cases hlt : k < l.length
    · have e1 : decide ((k : Int) < (l.length : Int)) = true := by rw [decide_eq_true_eq]; omega
      obtain ⟨x, hx⟩ : ∃ x, l[k]? = some x := ⟨l[k], List.getElem?_eq_getElem hlt⟩
      have hgd : l.getD k 0 = x := by rw [List.getD, hx]; rfl
      have cx := HS.out wr hBr k x hx
      have hw := HWF.out x (List.mem_of_getElem? hx)
      have hwk : (Lit.int .i64 (k : Int)).wf = true := WalkArith.wf_i64 (by omega)
      have hnl := gmN_le l k
      have HX := hid hx
      clear hx
      by_cases hx0 : x < 0
      · have e2 : decide (x < 0) = true := by rw [decide_eq_true_eq]; exact hx0
        go_wp2_with fail
        go_ret
        exact .inl ⟨fun hg => by have := (hg.2.2.2.2.1 x (List.mem_of_getElem? HX.out)).1; omega, rfl, hHr.drop, hBr⟩
      · have e2 : decide (x < 0) = false := by rw [decide_eq_false_iff_not]; exact hx0
        by_cases hxf : frames ≤ x
        · have e3 : decide (frames ≤ x) = true := by rw [decide_eq_true_eq]; exact hxf
          go_wp2_with fail
          go_ret
          exact .inl ⟨fun hg => by have := (hg.2.2.2.2.1 x (List.mem_of_getElem? HX.out)).2; omega, rfl, hHr.drop, hBr⟩
        · have e3 : decide (frames ≤ x) = false := by rw [decide_eq_false_iff_not]; exact hxf
          go_wp2_with (at_mapUpdate; refine wpList_map_put [] _ hHr rfl _ _ _ 45 rfl Try.underlying45 Try.underlying3 rfl _ _ rfl rfl hw hwk (by unfold maxLen; omega) ?_; intro w1 hH1 hB1)
          go_roundw
          case rel => exact ⟨k + 1, by omega, by go_num, by simp only [gmG, gmN, hgd]; exact hH1, hBr.trans hB1, fun j y hj hy => by
            by_cases hjk : j = k
            · subst hjk
              have hxy : x = y := by have := HX.out; rw [this] at hy; injection hy
              omega
            · exact HALL.out j y (by omega) hy⟩
          case measure => simp [intOf] <;> omega
    · obtain rfl : k = l.length := by omega
      have e1 : decide ((l.length : Int) < (l.length : Int)) = false := by rw [decide_eq_false_iff_not]; omega
      have hnl := gmN_le l l.length
      by_cases hn : gmN l l.length < l.length
      · have e4 : decide (gmN l l.length < l.length) = true := by rw [decide_eq_true_eq]; omega
        have hno : ¬ l.Nodup := fun hd => by have := gmN_full hd l.length (Nat.le_refl _); omega
        have HNO := hid hno
        clear hno
        go_wp2_with (refine wpList_map_len [] _ hHr rfl (.tmp 45) 45 rfl Try.underlying45 rfl ?_)
        go_ret
        exact .inl ⟨fun hg => HNO.out hg.2.2.2.2.2, rfl, hHr.drop, hBr⟩
      · have e4 : decide (gmN l l.length < l.length) = false := by rw [decide_eq_false_iff_not]; omega
        have hnn : gmN l l.length = l.length := by omega
        have hnd : l.Nodup := nodup_of_at (gmN_nodup l.length (Nat.le_refl _) hnn)
        have HND := hid hnd
        have HNN := hid hnn
        clear hnd hnn hn
        go_wp2_with (refine wpList_map_len [] _ hHr rfl (.tmp 45) 45 rfl Try.underlying45 rfl ?_)
        refine (Clone_ok gb o cap l wr m _ hHr h1 h2 (Nat.lt_of_lt_of_le HGB.out (hHr.le)) (fun j u hj => ArgRow.later (by rw [HM.out]; exact HGB.out) HSRC.out (by rw [HM.out]; exact hBr) j hj)).mono ?_
        rintro e w2 ⟨g2, cap2, rfl, hH2, hB2⟩
        go_wp2_with fail
        go_ret
        have hN := hH2.newblk w2.heap.size 48 #[.slice (some ⟨g2, 0, none⟩) l.length cap2, .map (some m)] rfl
        rw [HNN.out] at hN
        have hP := hN.perm (List.Perm.cons _ (List.Perm.swap _ _ _))
        refine .inr ⟨⟨h1, h2, h3, h4, fun x hx => ?_, HND.out⟩, w2.heap.size, rfl, ?_, (hBr.trans hB2).trans (below_new (Below.refl _ _) hH2 _)⟩
        · obtain ⟨j, hj⟩ := List.mem_iff_getElem?.1 hx
          exact HALL.out j x (List.getElem?_eq_some_iff.1 hj).1 hj
        · exact Has.shut_ex ⟨m, .slice (some ⟨g2, 0, none⟩) l.length cap2⟩ (Has.shut_and ⟨HND.out, h1, h2⟩ (Has.shut_all _ hP))

/-- New, of a slice that came in or is the call's own. -/
structure Src (w : World) (a : Option Addr) (l : List Int) : Prop where
  small : l.length ≤ 9223372036854775807
  wf : ∀ x ∈ l, (Lit.int .i64 x).wf = true
  mem : 0 < l.length → ∃ b o, a = some ⟨b, o, none⟩ ∧ b < w.heap.size ∧ ∀ j u, (l.map (Value.int .i64))[j]? = some u → w.cell? ⟨b, o + j, none⟩ = some u

theorem NewPost.at {l : List Int} {frames : Int} {w w' : World} {e : Ending} {B : Nat} {X : List Asr} (h : NewPost l frames [] w.heap.size w e w') (hH : Has w B X) : NewPost l frames X B w e w' := by
  rcases h with ⟨h1, h2, h3, h4⟩ | ⟨h1, b, h2, h3, h4⟩
  · exact .inl ⟨h1, h2, hH.below h4, h4.mono hH.le⟩
  · exact .inr ⟨h1, b, h2, hH.join h4 h3, h4.mono hH.le⟩

theorem New_calls (a : Option Addr) (cap : Nat) (l : List Int) (frames : Int) (w : World) (hs : Src w a l) {B : Nat} {X : List Asr} (hH : Has w B X) :
    Calls Try.prog 17 #[.slice a l.length cap, .int .i64 frames] w (NewPost l frames X B w) := by
  suffices h : Calls Try.prog 17 #[.slice a l.length cap, .int .i64 frames] w (NewPost l frames [] w.heap.size w) from h.mono fun e w' hp => hp.at hH
  have hno : ∀ e : Ending, ¬ gok l frames → e = .returned (.pointer none) → NewPost l frames [] w.heap.size w e w := fun e h1 h2 => .inl ⟨h1, h2, Has.nil (Nat.le_refl _), Below.refl _ _⟩
  have HNO := hid hno
  by_cases h1 : 1 ≤ l.length
  · by_cases h2 : l.length ≤ 64
    · by_cases h3 : 1 ≤ frames
      · by_cases h4 : frames ≤ 256
        · obtain ⟨b, o, rfl, hb, hc⟩ := hs.mem (by omega)
          exact New_walk b o cap l frames w h1 h2 h3 h4 hb hs.wf hc
        · have e1 : decide ((l.length : Int) < 1) = false := by rw [decide_eq_false_iff_not]; omega
          have e2 : decide (64 < (l.length : Int)) = false := by rw [decide_eq_false_iff_not]; omega
          have e3 : decide (frames < 1) = false := by rw [decide_eq_false_iff_not]; omega
          have e4 : decide (256 < frames) = true := by rw [decide_eq_true_eq]; omega
          clear hno hs hH
          go_enter Try.func17, Try.ntmps17
          go_wp2_with fail
          go_ret
          exact HNO.out _ (fun h => by have := h.2.2.2.1; omega) rfl
      · have e1 : decide ((l.length : Int) < 1) = false := by rw [decide_eq_false_iff_not]; omega
        have e2 : decide (64 < (l.length : Int)) = false := by rw [decide_eq_false_iff_not]; omega
        have e3 : decide (frames < 1) = true := by rw [decide_eq_true_eq]; omega
        clear hno hs hH
        go_enter Try.func17, Try.ntmps17
        go_wp2_with fail
        go_ret
        exact HNO.out _ (fun h => by have := h.2.2.1; omega) rfl
    · have e1 : decide ((l.length : Int) < 1) = false := by rw [decide_eq_false_iff_not]; omega
      have e2 : decide (64 < (l.length : Int)) = true := by rw [decide_eq_true_eq]; omega
      clear hno hs hH
      go_enter Try.func17, Try.ntmps17
      go_wp2_with fail
      go_ret
      exact HNO.out _ (fun h => by have := h.2.1; omega) rfl
  · have e1 : decide ((l.length : Int) < 1) = true := by rw [decide_eq_true_eq]; omega
    clear hno hs hH
    go_enter Try.func17, Try.ntmps17
    go_wp2_with fail
    go_ret
    exact HNO.out _ (fun h => by have := h.1; omega) rfl

end Go.Proofs.Ytkgijfodjmkhgaa
