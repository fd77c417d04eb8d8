/-
  Package store: an entry tells a page, or a frame of the guest's.
-/
import Derived.Test.YteeapkndappnoaaStoI
namespace Go.Proofs.Yteeapkndappnoaa
open Go.RowKit Go.Shelf
set_option linter.unusedVariables false
set_option linter.unusedSimpArgs false

def rArr (r : Bool × Bool × Bool) : Array Value := #[.bool r.1, .bool r.2.1, .bool r.2.2]
theorem KeyIs (sb hb n : Nat) (first many : Int) (S : StS) (f : Int) (k : KeyS) (b : Bool) (hk : keyAt S.ps f = k) (hb' : (pageAt S.ps f).isSome = b) (w : World) (B : Nat) (X : List Asr) (hH : Has w B (staL sb hb n first many S X)) :
    Calls Try.prog 15 #[.pointer (some ⟨sb, 0, none⟩), .int .i64 f] w fun e w' => e = .returned (.tuple #[.agg (keyC k), .bool b]) ∧ Has w' B (staL sb hb n first many S X) ∧ Below B w w' := by
  subst hk hb'
  exact Key_calls sb hb n first many S.F S.ps f w B _ hH

theorem dropX3 {w : World} {B : Nat} {P Q U V Y : Asr} {X : List Asr} (h : Has w B (P :: Q :: U :: V :: Y :: X)) : Has w B (P :: Q :: X) := Has.drop (fromX (Has.drop (fromX (Has.drop (fromX h)))))
theorem dropX2 {w : World} {B : Nat} {P Q U V : Asr} {X : List Asr} (h : Has w B (P :: Q :: U :: V :: X)) : Has w B (P :: Q :: X) := Has.drop (fromX (Has.drop (fromX h)))
set_option maxHeartbeats 2000000 in
theorem Child_calls (sb hb n : Nat) (first many : Int) (S : StS) (f i c : Int) (r : Bool × Bool × Bool) (w : World) (B : Nat) (X : List Asr) (hH : Has w B (staL sb hb n first many S X)) :
    Calls Try.prog 44 #[.pointer (some ⟨sb, 0, none⟩), .int .i64 f, .int .i64 i, .int .i64 c, .agg (rArr r)] w fun e w' => e = .returned (.bool (childB S f i c)) ∧ Has w' B (staL sb hb n first many (childS n S f i c r) X) ∧ Below B w w' := by
  have hP := StoA.fits hH
  obtain ⟨r1, r2, r3⟩ := r
  obtain ⟨k1, hk1⟩ : ∃ k, keyAt S.ps f = k := ⟨_, rfl⟩
  obtain ⟨b1, hb1⟩ : ∃ b, (pageAt S.ps f).isSome = b := ⟨_, rfl⟩
  obtain ⟨k2, hk2⟩ : ∃ k, keyAt S.ps c = k := ⟨_, rfl⟩
  obtain ⟨b2, hb2⟩ : ∃ b, (pageAt S.ps c).isSome = b := ⟨_, rfl⟩
  obtain ⟨cb, hcb⟩ : ∃ cb, childB S f i c = cb := ⟨_, rfl⟩
  have HCB := hid hcb
  have HP := hid hP
  have hN : Has _ B (staL sb hb n first many S (blk w.heap.size 33 (rArr (r1, r2, r3)) :: X)) := toX (hH.newblk w.heap.size 33 (rArr (r1, r2, r3)) rfl)
  have bN := below_new (Below.refl B w) hH (.cells (rArr (r1, r2, r3)) 33)
  have CK := hid (KeyIs sb hb n first many S f k1 b1 hk1 hb1 _ B _ hN)
  have HK1 := hid (And.intro hk1 hb1)
  have HK2 := hid (And.intro hk2 hb2)
  have zk := zeroKey
  rw [hcb]
  clear hcb hP hk1 hb1 hk2 hb2 hH
  go_enter Try.func44, Try.ntmps44
  go_wp2_with fail
  refine CK.out.mono ?_
  rintro e w2 ⟨rfl, hH2, hB2⟩
  have bN := bN.trans hB2
  have hA : Has (w2.alloc (.cells (keyC keyZ) 31)) B (blk w2.heap.size 31 (keyC keyZ) :: staL sb hb n first many S _) := hH2.newblk w2.heap.size 31 (keyC keyZ) rfl
  have bA := below_new bN hH2 (.cells (keyC keyZ) 31)
  clear CK hN bN hB2
  go_wp2_with (refine wpList_store_all [] _ hA 31 (.tmp 11) (.tmp 19) rfl rfl rfl (keyL k1).toArray rfl key_size rfl (key_one _) ?_; intro w3 hH3 hB3 hz3; clear hz3)
  have hH3 : Has w3 B (staL sb hb n first many S (blk w2.heap.size 31 (keyL k1).toArray :: blk w.heap.size 33 (rArr (r1, r2, r3)) :: X)) := toX hH3
  have bA := bA.trans hB3
  refine (KeyIs sb hb n first many S c k2 b2 HK2.out.1 HK2.out.2 _ B _ hH3).mono ?_
  rintro e w4 ⟨rfl, hH4, hB4⟩
  have bA := bA.trans hB4
  have hA2 : Has (w4.alloc (.cells (keyC keyZ) 31)) B (blk w4.heap.size 31 (keyC keyZ) :: staL sb hb n first many S _) := hH4.newblk w4.heap.size 31 (keyC keyZ) rfl
  have bA2 := below_new bA hH4 (.cells (keyC keyZ) 31)
  clear hA hH3 hB3 hB4 hH2 bA
  go_wp2_with (refine wpList_store_all [] _ hA2 31 (.tmp 13) (.tmp 25) rfl rfl rfl (keyL k2).toArray rfl key_size rfl (key_one _) ?_; intro w5 hH5 hB5 hz5; clear hz5)
  have hH5 : Has w5 B (staL sb hb n first many S (blk w4.heap.size 31 (keyL k2).toArray :: blk w2.heap.size 31 (keyL k1).toArray :: blk w.heap.size 33 (rArr (r1, r2, r3)) :: X)) := toX hH5
  have bA2 := bA2.trans hB5
  refine (slot_closed sb hb n first many S.F S.ps f i w5 B _ hH5).mono ?_
  rintro e w6 ⟨p, rfl, hp, hH6, hB6⟩
  have hH6 : Has w6 B (staL sb hb n first many S (blk w4.heap.size 31 (keyL k2).toArray :: blk w2.heap.size 31 (keyL k1).toArray :: blk w.heap.size 33 (rArr (r1, r2, r3)) :: X)) := hH6
  have bA2 := bA2.trans hB6
  have m1 := hH6.cell [_, _] _ 1 (v := .int .i64 k2.lv) rfl
  have m2 := hH6.cell [_, _, _] _ 1 (v := .int .i64 k1.lv) rfl
  clear hA2 hH5 hB5 hH4 hB6
  rcases hp with ⟨rfl, h1⟩ | ⟨sbk, sk, y, rfl, h1, c1⟩
  · have hc : cb = false := by rw [← HCB.out]; unfold childB; rw [h1]; rfl
    have hs : childS n S f i c (r1, r2, r3) = S := by unfold childS; rw [HCB.out, hc]; rfl
    subst hc
    have HS := hid hs
    clear h1 hs
    go_wp2_with fail
    go_ret
    exact ⟨rfl, by rw [HS.out]; exact dropX3 hH6, bA2⟩
  · have h2 : (slotAt S.ps f i).isSome = true := by rw [h1]; rfl
    have hr := slot_right HP.out h2
    rw [HK1.out.1] at hr
    have hv : childB S f i c = (b2 && decide (k2.lv = k1.lv - 1)) := by unfold childB; rw [h2, HK2.out.2, HK2.out.1, HK1.out.1]; rfl
    rw [HCB.out] at hv
    have hw : IntKind.i64.wrap (k1.lv - 1) = k1.lv - 1 := IntWalk.i64_in _ (by have := hr.1; have := hr.2.1; omega)
    have H2 := hid h2
    clear c1 h1 h2 hr
    cases b2 with
    | false =>
      have hc : cb = false := by rw [hv]; rfl
      have hs : childS n S f i c (r1, r2, r3) = S := by unfold childS; rw [HCB.out, hc]; rfl
      subst hc
      have HS := hid hs
      clear hs hv
      go_wp2_with fail
      go_ret
      exact ⟨rfl, by rw [HS.out]; exact dropX3 hH6, bA2⟩
    | true =>
      by_cases hl : k2.lv = k1.lv - 1
      rotate_left
      · have e1 : (k2.lv == k1.lv - 1) = false := by rw [beq_eq_false_iff_ne]; exact hl
        have e2 : (k2.lv != k1.lv - 1) = true := by simp [hl]
        have hc : cb = false := by rw [hv]; simp [hl]
        have hs : childS n S f i c (r1, r2, r3) = S := by unfold childS; rw [HCB.out, hc]; rfl
        subst hc
        have HS := hid hs
        clear hs hv hl
        go_wp2_with fail
        go_ret
        exact ⟨rfl, by rw [HS.out]; exact dropX3 hH6, bA2⟩
      · have e1 : (k2.lv == k1.lv - 1) = true := by rw [beq_iff_eq]; exact hl
        have e2 : (k2.lv != k1.lv - 1) = false := by simp [hl]
        have hc : cb = true := by rw [hv]; simp [hl]
        have hs : childS n S f i c (r1, r2, r3) = putS n S f i ⟨1, c, r1, r2, r3⟩ c := by unfold childS; rw [HCB.out, hc]; rfl
        subst hc
        have HS := hid hs
        have z0 := hH6.cell [_, _, _, _] _ 0 (v := .bool r1) rfl
        have z1 := hH6.cell [_, _, _, _] _ 1 (v := .bool r2) rfl
        have z2 := hH6.cell [_, _, _, _] _ 2 (v := .bool r3) rfl
        clear hs hv hl
        go_wp2_with fail
        refine (put_is sb hb n first many S f i c ⟨1, c, r1, r2, r3⟩ H2.out w6 B _ hH6).mono ?_
        rintro e w7 ⟨rfl, hH7, hB7⟩
        go_wp2_with fail
        go_ret
        exact ⟨rfl, by rw [HS.out]; exact dropX3 hH7, bA2.trans hB7⟩

set_option maxHeartbeats 2000000 in
theorem Leaf_calls (sb hb n : Nat) (first many : Int) (S : StS) (f i g h : Int) (r : Bool × Bool × Bool) (w : World) (B : Nat) (X : List Asr) (hH : Has w B (staL sb hb n first many S X)) :
    Calls Try.prog 45 #[.pointer (some ⟨sb, 0, none⟩), .int .i64 f, .int .i64 i, .int .i64 g, .int .i64 h, .agg (rArr r)] w fun e w' => e = .returned (.bool (leafB n S f i h)) ∧ Has w' B (staL sb hb n first many (leafS n S f i g h r) X) ∧ Below B w w' := by
  have hP := StoA.fits hH
  obtain ⟨r1, r2, r3⟩ := r
  obtain ⟨k1, hk1⟩ : ∃ k, keyAt S.ps f = k := ⟨_, rfl⟩
  obtain ⟨b1, hb1⟩ : ∃ b, (pageAt S.ps f).isSome = b := ⟨_, rfl⟩
  obtain ⟨cb, hcb⟩ : ∃ cb, leafB n S f i h = cb := ⟨_, rfl⟩
  have HCB := hid hcb
  have HP := hid hP
  have hN : Has _ B (staL sb hb n first many S (blk w.heap.size 33 (rArr (r1, r2, r3)) :: X)) := toX (hH.newblk w.heap.size 33 (rArr (r1, r2, r3)) rfl)
  have bN := below_new (Below.refl B w) hH (.cells (rArr (r1, r2, r3)) 33)
  have CK := hid (KeyIs sb hb n first many S f k1 b1 hk1 hb1 _ B _ hN)
  have HK1 := hid (And.intro hk1 hb1)
  have zk := zeroKey
  rw [hcb]
  clear hcb hP hk1 hb1 hH
  go_enter Try.func45, Try.ntmps45
  go_wp2_with fail
  refine CK.out.mono ?_
  rintro e w2 ⟨rfl, hH2, hB2⟩
  have bN := bN.trans hB2
  have hA : Has (w2.alloc (.cells (keyC keyZ) 31)) B (blk w2.heap.size 31 (keyC keyZ) :: staL sb hb n first many S _) := hH2.newblk w2.heap.size 31 (keyC keyZ) rfl
  have bA := below_new bN hH2 (.cells (keyC keyZ) 31)
  clear CK hN bN hB2
  go_wp2_with (refine wpList_store_all [] _ hA 31 (.tmp 13) (.tmp 19) rfl rfl rfl (keyL k1).toArray rfl key_size rfl (key_one _) ?_; intro w3 hH3 hB3 hz3; clear hz3)
  have hH3 : Has w3 B (staL sb hb n first many S (blk w2.heap.size 31 (keyL k1).toArray :: blk w.heap.size 33 (rArr (r1, r2, r3)) :: X)) := toX hH3
  have bA := bA.trans hB3
  refine (slot_closed sb hb n first many S.F S.ps f i w3 B _ hH3).mono ?_
  rintro e w6 ⟨p, rfl, hp, hH6, hB6⟩
  have hH6 : Has w6 B (staL sb hb n first many S (blk w2.heap.size 31 (keyL k1).toArray :: blk w.heap.size 33 (rArr (r1, r2, r3)) :: X)) := hH6
  have bA2 := bA.trans hB6
  have m2 := hH6.cell [_, _] _ 1 (v := .int .i64 k1.lv) rfl
  have mh := StoA.host hH6
  clear hA hH3 hB3 hH2 bA hB6
  rcases hp with ⟨rfl, h1⟩ | ⟨sbk, sk, y, rfl, h1, c1⟩
  · have hc : cb = false := by rw [← HCB.out]; unfold leafB; rw [h1]; rfl
    have hs : leafS n S f i g h (r1, r2, r3) = S := by unfold leafS; rw [HCB.out, hc]; rfl
    subst hc
    have HS := hid hs
    clear h1 hs
    go_wp2_with fail
    go_ret
    exact ⟨rfl, by rw [HS.out]; exact dropX2 hH6, bA2⟩
  · have h2 : (slotAt S.ps f i).isSome = true := by rw [h1]; rfl
    have hv : leafB n S f i h = (decide (k1.lv = 1) && decide (0 ≤ h) && decide (h < n)) := by unfold leafB; rw [h2, HK1.out.1]; rfl
    rw [HCB.out] at hv
    have H2 := hid h2
    clear c1 h1 h2
    by_cases hl : k1.lv = 1
    rotate_left
    · have e1 : (k1.lv == 1) = false := by rw [beq_eq_false_iff_ne]; exact hl
      have e2 : (k1.lv != 1) = true := by simp [hl]
      have hc : cb = false := by rw [hv]; simp [hl]
      have hs : leafS n S f i g h (r1, r2, r3) = S := by unfold leafS; rw [HCB.out, hc]; rfl
      subst hc
      have HS := hid hs
      clear hs hv hl
      go_wp2_with fail
      go_ret
      exact ⟨rfl, by rw [HS.out]; exact dropX2 hH6, bA2⟩
    have e1 : (k1.lv == 1) = true := by rw [beq_iff_eq]; exact hl
    have e2 : (k1.lv != 1) = false := by simp [hl]
    have HL := hid hl
    clear hl
    by_cases h0 : h < 0
    · have e3 : decide (h < 0) = true := decide_eq_true h0
      have hc : cb = false := by rw [hv]; simp; intro _ hh; omega
      have hs : leafS n S f i g h (r1, r2, r3) = S := by unfold leafS; rw [HCB.out, hc]; rfl
      subst hc
      have HS := hid hs
      clear hs hv h0
      go_wp2_with fail
      go_ret
      exact ⟨rfl, by rw [HS.out]; exact dropX2 hH6, bA2⟩
    have e3 : decide (h < 0) = false := decide_eq_false h0
    have hM : Has w6 B (MemA hb n S.W :: StoA sb hb n first many S.F S.ps :: _) := hH6.perm (List.Perm.swap _ _ _)
    have CF := hid (Frames_calls hb n S.W w6 B _ hM)
    clear hM
    by_cases h5 : h < (n : Int)
    rotate_left
    · have e4 : decide ((n : Int) ≤ h) = true := decide_eq_true (by omega)
      have hc : cb = false := by rw [hv]; simp; intro _ hh; omega
      have hs : leafS n S f i g h (r1, r2, r3) = S := by unfold leafS; rw [HCB.out, hc]; rfl
      subst hc
      have HS := hid hs
      clear hs hv h0 h5
      go_wp2_with fail
      refine CF.out.mono ?_
      rintro e w8 ⟨rfl, rfl⟩
      go_wp2_with fail
      go_ret
      exact ⟨rfl, by rw [HS.out]; exact dropX2 hH6, bA2⟩
    · have e4 : decide ((n : Int) ≤ h) = false := decide_eq_false (by omega)
      have hc : cb = true := by rw [hv, HL.out]; simp; omega
      have hs : leafS n S f i g h (r1, r2, r3) = putS n S f i ⟨2, g, r1, r2, r3⟩ h := by unfold leafS; rw [HCB.out, hc]; rfl
      subst hc
      have HS := hid hs
      have z0 := hH6.cell [_, _, _] _ 0 (v := .bool r1) rfl
      have z1 := hH6.cell [_, _, _] _ 1 (v := .bool r2) rfl
      have z2 := hH6.cell [_, _, _] _ 2 (v := .bool r3) rfl
      clear hs hv h0 h5
      go_wp2_with fail
      refine CF.out.mono ?_
      rintro e w8 ⟨rfl, rfl⟩
      go_wp2_with fail
      refine (put_is sb hb n first many S f i h ⟨2, g, r1, r2, r3⟩ H2.out w6 B _ hH6).mono ?_
      rintro e w7 ⟨rfl, hH7, hB7⟩
      go_wp2_with fail
      go_ret
      exact ⟨rfl, by rw [HS.out]; exact dropX2 hH7, bA2.trans hB7⟩

end Go.Proofs.Yteeapkndappnoaa
