/-
  Image and Foreign of package conf.
-/
import Derived.Test.YtkgijfodjmkhgaaConfC
namespace Go.Proofs.Ytkgijfodjmkhgaa
open Go.RowKit Go.Shelf
set_option linter.unusedVariables false
set_option linter.unusedSimpArgs false

theorem Has.of_owns {w : World} {n : Nat} {T : TypeId} {size k : Nat} {v : Value} {xs : List Value} (h : w.ownsRow n T size v k xs) (hn : n ≤ w.heap.size) : Has w n [row T size v k xs] := by
  unfold Has
  refine ⟨hn, v.ownBlock.toList, ⟨v.ownBlock.toList, [], by simp, ⟨rfl, h.1, ?_⟩, rfl, by simp⟩, fun j hj => ?_⟩
  · rcases h.2 with h1 | ⟨g, cap, cur, e, hb, hr⟩
    · exact .inl h1
    · exact .inr ⟨g, cap, cur, e, Nat.zero_le _, hr⟩
  · cases hv : v.ownBlock with
    | none => simp [hv] at hj
    | some b => simp [hv] at hj; subst hj; exact (h.lt _ hv).1

theorem Collect_calls (gf : Nat) (lb : Array Value) (eg : ∀ args w, (callFunc gf args).run Try.prog w = .ok (.enter gf args) w) (xs : List Int) (N : Nat) (hN : N ≤ 1000) (hxs : xs.length ≤ N) (w : World)
    (hseq : SeqStopsK Fence.wide 8 Try.prog gf lb (fun x : Int => #[Value.int .i64 x]) (Below w.heap.size) (fun ys => ys = xs) (fun _ => True) N w) :
    Calls Try.prog 29 #[.func (.func gf) #[] lb] w fun e W' => ∃ v, e = .returned v ∧ Has W' w.heap.size [row 3 1 v xs.length (xs.map (Value.int .i64))] ∧ Below w.heap.size w W' := by
  have CA := hid (callsIn_wide.1 (AppendSeq_calls gf lb eg xs N hN hxs w hseq))
  clear hseq eg
  go_enter Try.func29, Try.ntmps29
  go_wp2_with fail
  refine CA.out.mono ?_
  rintro e w1 ⟨v, rfl, hr, hB⟩
  have hH := Has.of_owns hr hB.size
  clear CA hr
  go_wp2_with fail
  go_ret
  exact ⟨v, rfl, hH, hB⟩

/-- What 'all' hands back. -/
def AllPost (c : ConfS) (whose : Int) (w : World) (e : Ending) (w' : World) : Prop :=
  ∃ v, e = .returned v ∧ Has w' w.heap.size [row 3 1 v (allC c whose).length ((allC c whose).map (Value.int .i64))] ∧ Below w.heap.size w w'

theorem all_calls (c : ConfS) (whose : Int) (w : World) (hs : Src w c.a c.l) :
    Calls Try.prog 25 #[.agg (confC c).toArray, .int .i64 whose] w (AllPost c whose w) := by
  have hH0 : Has w w.heap.size [] := Has.nil (Nat.le_refl _)
  have hH1 := hH0.newblk w.heap.size 24 (confC c).toArray rfl
  have hB1 := below_new (Below.refl _ w) hH0 (.cells (confC c).toArray 24)
  have CR := hid (Right_calls c _ (hs.later hB1))
  have HS := hid hs
  obtain ⟨xs, hx⟩ : ∃ xs, allC c whose = xs := ⟨_, rfl⟩
  have HX := hid hx
  unfold AllPost
  rw [hx]
  clear hs hx
  go_enter Try.func25, Try.ntmps25
  go_wp2_with (refine wpList_load_blk [] _ hH1 24 (.tmp 2) rfl rfl rfl _ Try.underlying24 rfl (by kernel_rfl) ?_)
  refine CR.out.mono ?_
  rintro e w2 ⟨rfl, hB2⟩
  have hH2 := hH1.below hB2
  have hB2 := hB1.trans (hB2.mono hH1.le)
  clear CR hH1 hB1 hH0
  by_cases hok : okC c
  · rw [decide_eq_true hok]
    have HOK := hid hok
    have CF := hid (of_calls c whose w2)
    clear hok
    go_wp2_with (refine wpList_load_blk [] _ hH2 24 (.tmp 2) rfl rfl rfl _ Try.underlying24 rfl (by kernel_rfl) ?_)
    refine CF.out.mono ?_
    rintro e w3 ⟨cb, wb, rfl, hcb, hwb, hcl, hwl, hB3⟩
    have hB3 := hB2.trans (hB3.mono hB2.size)
    have hs3 := HS.out.later hB3
    have hx : frs c.l c.first c.many whose c.host.toNat = xs := by
      have h := HX.out
      unfold allC at h
      rwa [if_pos HOK.out] at h
    have hh : c.host.toNat ≤ 256 := by have := HOK.out.g.2.2.2.1; omega
    have hst := of1_stops 8 (by decide) cb wb c whose HOK.out w3 hcb hcl hwb hwl hs3
    rw [hx] at hst
    have CC := hid (Collect_calls 32 _ (enters_of Try.func32 (by kernel_rfl) rfl) xs c.host.toNat (by omega) (by rw [← hx]; exact frs_le _ _ _ _ _) w3 hst)
    clear hst hx hcb hwb hcl hwl hs3 CF hH2 hB2 hh
    go_wp2_with fail
    refine CC.out.mono ?_
    rintro e w4 ⟨v, rfl, hH4, hB4⟩
    clear CC
    go_wp2_with fail
    go_ret
    exact ⟨v, rfl, by
      have h := (Has.nil (Nat.le_refl _) : Has w w.heap.size []).below hB3
      exact h.join hB4 hH4, hB3.trans (hB4.mono hB3.size)⟩
  · rw [decide_eq_false hok]
    have hx : xs = [] := by
      rw [← HX.out]
      unfold allC
      rw [if_neg hok]
    subst hx
    clear hok
    go_wp2_with fail
    go_ret
    exact ⟨_, rfl, (Has.nil hB2.size : Has w2 w.heap.size []).nilrow 3 1, hB2⟩

theorem AllPost.at {c : ConfS} {whose : Int} {w w' : World} {e : Ending} {B : Nat} {X : List Asr} (h : AllPost c whose w e w') (hH : Has w B X) :
    ∃ v, e = .returned v ∧ Has w' B (row 3 1 v (allC c whose).length ((allC c whose).map (Value.int .i64)) :: X) ∧ Below B w w' := by
  obtain ⟨v, h1, h2, h3⟩ := h
  exact ⟨v, h1, hH.join h3 h2, h3.mono hH.le⟩

theorem Image_calls (c : ConfS) (w : World) (hs : Src w c.a c.l) : Calls Try.prog 13 #[.agg (confC c).toArray] w (AllPost c 1 w) := by
  have hH0 : Has w w.heap.size [] := Has.nil (Nat.le_refl _)
  have hH1 := hH0.newblk w.heap.size 24 (confC c).toArray rfl
  have hB1 := below_new (Below.refl _ w) hH0 (.cells (confC c).toArray 24)
  have CR := hid (all_calls c 1 _ (hs.later hB1))
  clear hs
  go_enter Try.func13, Try.ntmps13
  go_wp2_with (refine wpList_load_blk [] _ hH1 24 (.tmp 1) rfl rfl rfl _ Try.underlying24 rfl (by kernel_rfl) ?_)
  refine CR.out.mono ?_
  intro e w2 h
  obtain ⟨v, rfl, hH2, hB2⟩ := h.at hH1
  have hH2 := hH2.perm (List.Perm.swap _ _ _)
  have hH3 := hH2.drop
  clear h hH1 CR hH2
  go_wp2_with fail
  go_ret
  exact ⟨v, rfl, hH3, hB1.trans hB2⟩

theorem Foreign_calls (c : ConfS) (w : World) (hs : Src w c.a c.l) : Calls Try.prog 15 #[.agg (confC c).toArray] w (AllPost c 0 w) := by
  have hH0 : Has w w.heap.size [] := Has.nil (Nat.le_refl _)
  have hH1 := hH0.newblk w.heap.size 24 (confC c).toArray rfl
  have hB1 := below_new (Below.refl _ w) hH0 (.cells (confC c).toArray 24)
  have CR := hid (all_calls c 0 _ (hs.later hB1))
  clear hs
  go_enter Try.func15, Try.ntmps15
  go_wp2_with (refine wpList_load_blk [] _ hH1 24 (.tmp 1) rfl rfl rfl _ Try.underlying24 rfl (by kernel_rfl) ?_)
  refine CR.out.mono ?_
  intro e w2 h
  obtain ⟨v, rfl, hH2, hB2⟩ := h.at hH1
  have hH2 := hH2.perm (List.Perm.swap _ _ _)
  have hH3 := hH2.drop
  clear h hH1 CR hH2
  go_wp2_with fail
  go_ret
  exact ⟨v, rfl, hH3, hB1.trans hB2⟩

end Go.Proofs.Ytkgijfodjmkhgaa
