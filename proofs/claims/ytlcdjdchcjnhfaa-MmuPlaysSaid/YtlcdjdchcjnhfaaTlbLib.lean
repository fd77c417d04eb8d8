/-
  The library's functions that package tlb calls: IndexFunc at its two closures, Delete, DeleteFunc, Clone.
-/
import Derived.Test.YtlcdjdchcjnhfaaTlb
namespace Go.Proofs.Ytlcdjdchcjnhfaa
open Go.RowKit
set_option linter.unusedVariables false
set_option linter.unusedSimpArgs false

set_option maxHeartbeats 1000000 in
set_option maxRecDepth 100000 in
theorem IndexAt (ao : Option Addr) (cap : Nat) (L : List HitS) (kb : Nat) (a p : Int) (w : World) (B : Nat) (X : List Asr) (hl : L.length ≤ 512)
    (hH : Has w B (row 46 7 (.slice ao L.length cap) L.length (hitsC L) :: blk kb 96 #[.int .i64 a, .int .i64 p] :: X)) :
    Calls Try.prog 69 #[.slice ao L.length cap, .func (.func 70) #[] #[.pointer (some ⟨kb, 0, none⟩)]] w fun e w' => ∃ r, e = .returned (.int .i64 r) ∧ IdxIs (keyB a p) L r ∧ Has w' B (row 46 7 (.slice ao L.length cap) L.length (hitsC L) :: blk kb 96 #[.int .i64 a, .int .i64 p] :: X) ∧ Below B w w' := by
  go_enter Try.func69, Try.ntmps69
  go_wp2_with fail
  go_loopw [5, 8] (fun _ i wr => ∃ k : Nat, k ≤ L.length ∧ i = .int .i64 k ∧ Has wr B (row 46 7 (.slice ao L.length cap) L.length (hitsC L) :: blk kb 96 #[.int .i64 a, .int .i64 p] :: X) ∧ Below B w wr ∧ ∀ (j : Nat) g, j < k → L[j]? = some g → keyB a p g = false) (fun _ i _ => L.length - (intOf i).toNat)
  case atStart => exact ⟨0, by omega, rfl, hH, Below.refl _ _, fun j g hj => by omega⟩
  case round =>
    obtain ⟨k, hk, rfl, hHr, hBr, hall⟩ := hrel
    have HALL := hid hall
    clear hall hH
    by_cases hlt : k < L.length
    · obtain ⟨h, hh⟩ : ∃ h, L[k]? = some h := ⟨_, List.getElem?_eq_getElem hlt⟩
      obtain ⟨ao1, cap1, hv, _, _, hao⟩ := hHr.row_form [] _
      obtain ⟨g, hg⟩ := hao (by omega)
      have hao2 : ao = some ⟨g, 0, none⟩ := by
        injection hv with h1 h2 h3
        rw [h1, hg]
      subst hao2
      have P := hid (hHr.row_part [] _ (k * 7) (hitC h) (hitsC_get hh))
      have cc := atK_calls h kb a p wr B _ (hHr.front [_] _)
      obtain ⟨qb, hqb⟩ : ∃ qb, keyB a p h = qb := ⟨_, rfl⟩
      rw [hqb] at cc
      have CC := hid cc
      have HH := hid (And.intro hh hqb)
      clear cc hh hqb hv
      go_wp2_with (refine wpList_load_at 46 (.tmp 14) rfl rfl ⟨g, k * 7, none⟩ rfl _ (hitC h) P.out Try.underlying46 rfl hit_size ?_)
      refine CC.out.mono ?_
      rintro e w2 ⟨rfl, hH2, hB2⟩
      have hH3 := hH2.front [_] _
      have hB3 := hBr.trans hB2
      clear hHr hBr hB2 CC hH2
      cases qb with
      | true =>
        go_wp2_with fail
        go_ret
        exact ⟨(k : Int), rfl, .inr ⟨k, h, rfl, HH.out.1, HH.out.2, HALL.out⟩, hH3, hB3⟩
      | false =>
        go_wp2_with fail
        go_roundw
        case rel => exact ⟨k + 1, by omega, by go_num, hH3, hB3, fun j g hj hg => by
            by_cases e : j = k
            · subst e
              rw [HH.out.1] at hg
              injection hg with hg
              rw [← hg]
              exact HH.out.2
            · exact HALL.out j g (by omega) hg⟩
        case measure => simp [intOf] <;> omega
    · obtain rfl : k = L.length := by omega
      go_wp2_with fail
      go_ret
      exact ⟨-1, rfl, .inl ⟨rfl, fun h hm => by
        obtain ⟨j, hj⟩ := List.mem_iff_getElem?.1 hm
        exact HALL.out j h (List.getElem?_eq_some_iff.1 hj).1 hj⟩, hHr, hBr⟩

set_option maxHeartbeats 1000000 in
set_option maxRecDepth 100000 in
theorem IndexFl (ao : Option Addr) (cap : Nat) (L : List HitS) (kb : Nat) (a : Int) (w : World) (B : Nat) (X : List Asr) (hl : L.length ≤ 512)
    (hH : Has w B (row 46 7 (.slice ao L.length cap) L.length (hitsC L) :: blk kb 3 #[.int .i64 a] :: X)) :
    Calls Try.prog 69 #[.slice ao L.length cap, .func (.func 64) #[] #[.pointer (some ⟨kb, 0, none⟩)]] w fun e w' => ∃ r, e = .returned (.int .i64 r) ∧ IdxIs (asidB a) L r ∧ Has w' B (row 46 7 (.slice ao L.length cap) L.length (hitsC L) :: blk kb 3 #[.int .i64 a] :: X) ∧ Below B w w' := by
  go_enter Try.func69, Try.ntmps69
  go_wp2_with fail
  go_loopw [5, 8] (fun _ i wr => ∃ k : Nat, k ≤ L.length ∧ i = .int .i64 k ∧ Has wr B (row 46 7 (.slice ao L.length cap) L.length (hitsC L) :: blk kb 3 #[.int .i64 a] :: X) ∧ Below B w wr ∧ ∀ (j : Nat) g, j < k → L[j]? = some g → asidB a g = false) (fun _ i _ => L.length - (intOf i).toNat)
  case atStart => exact ⟨0, by omega, rfl, hH, Below.refl _ _, fun j g hj => by omega⟩
  case round =>
    obtain ⟨k, hk, rfl, hHr, hBr, hall⟩ := hrel
    have HALL := hid hall
    clear hall hH
    by_cases hlt : k < L.length
    · obtain ⟨h, hh⟩ : ∃ h, L[k]? = some h := ⟨_, List.getElem?_eq_getElem hlt⟩
      obtain ⟨ao1, cap1, hv, _, _, hao⟩ := hHr.row_form [] _
      obtain ⟨g, hg⟩ := hao (by omega)
      have hao2 : ao = some ⟨g, 0, none⟩ := by
        injection hv with h1 h2 h3
        rw [h1, hg]
      subst hao2
      have P := hid (hHr.row_part [] _ (k * 7) (hitC h) (hitsC_get hh))
      have cc := flK_calls h kb a wr B _ (hHr.front [_] _)
      obtain ⟨qb, hqb⟩ : ∃ qb, asidB a h = qb := ⟨_, rfl⟩
      rw [hqb] at cc
      have CC := hid cc
      have HH := hid (And.intro hh hqb)
      clear cc hh hqb hv
      go_wp2_with (refine wpList_load_at 46 (.tmp 14) rfl rfl ⟨g, k * 7, none⟩ rfl _ (hitC h) P.out Try.underlying46 rfl hit_size ?_)
      refine CC.out.mono ?_
      rintro e w2 ⟨rfl, hH2, hB2⟩
      have hH3 := hH2.front [_] _
      have hB3 := hBr.trans hB2
      clear hHr hBr hB2 CC hH2
      cases qb with
      | true =>
        go_wp2_with fail
        go_ret
        exact ⟨(k : Int), rfl, .inr ⟨k, h, rfl, HH.out.1, HH.out.2, HALL.out⟩, hH3, hB3⟩
      | false =>
        go_wp2_with fail
        go_roundw
        case rel => exact ⟨k + 1, by omega, by go_num, hH3, hB3, fun j g hj hg => by
            by_cases e : j = k
            · subst e
              rw [HH.out.1] at hg
              injection hg with hg
              rw [← hg]
              exact HH.out.2
            · exact HALL.out j g (by omega) hg⟩
        case measure => simp [intOf] <;> omega
    · obtain rfl : k = L.length := by omega
      go_wp2_with fail
      go_ret
      exact ⟨-1, rfl, .inl ⟨rfl, fun h hm => by
        obtain ⟨j, hj⟩ := List.mem_iff_getElem?.1 hm
        exact HALL.out j h (List.getElem?_eq_some_iff.1 hj).1 hj⟩, hHr, hBr⟩

set_option maxHeartbeats 1000000 in
set_option maxRecDepth 100000 in
theorem Delete_calls (g cap : Nat) (L : List HitS) (i : Nat) (hi : i < L.length) (hl : L.length ≤ 512) (w : World) (B : Nat) (X : List Asr)
    (hH : Has w B (row 46 7 (.slice (some ⟨g, 0, none⟩) L.length cap) L.length (hitsC L) :: X)) :
    Calls Try.prog 50 #[.slice (some ⟨g, 0, none⟩) L.length cap, .int .i64 i, .int .i64 ((i : Int) + 1)] w fun e w' => e = .returned (.slice (some ⟨g, 0, none⟩) (L.length - 1) cap) ∧ Has w' B (row 46 7 (.slice (some ⟨g, 0, none⟩) (L.length - 1) cap) (L.length - 1) (hitsC (L.eraseIdx i)) :: X) ∧ Below B w w' := by
  obtain ⟨i0, hi0, hz0, hz1, hz2⟩ := info_parts infoHit
  have hcap : L.length ≤ cap := by
    rcases hH.row_shape [] _ with ⟨h, _⟩ | ⟨g', cap', h, h1, _, _, _⟩
    · cases h
    · cases h; exact h1
  have e0 : ((i : Int) == (i : Int) + 1) = false := by rw [beq_eq_false_iff_ne]; omega
  have e1 : decide ((i : Int) + 1 ≤ (L.length : Int)) = true := by rw [decide_eq_true_eq]; omega
  have hC := hH.drew.row_cut [] _ (show i ≤ L.length by omega)
  rw [hitsC_take] at hC
  have P := hid (hH.drew.row_part [] _ ((i + 1) * 7) (hitsC (L.drop (i + 1))) (fun j u hj => by
    rw [← hitsC_drop, List.getElem?_drop] at hj
    exact hj))
  have hBd : Below B w w.drew := (Below.refl B w).drew
  have hic : i ≤ cap := by omega
  have hi1 : i + 1 ≤ L.length := hi
  have hic1 : i + 1 ≤ cap := by omega
  have z1 : (i : Int) ≤ (i : Int) + 1 := by omega
  have z2 : 0 ≤ (i : Int) + 1 := by omega
  have z3 : (i : Int) + 1 ≤ (L.length : Int) := by omega
  have her : hitsC (L.take i) ++ hitsC (L.drop (i + 1)) = hitsC (L.eraseIdx i) := by rw [hitsC_app, List.eraseIdx_eq_take_drop_succ]
  have HER := hid her
  have hM : i + (L.length - (i + 1)) = L.length - 1 := by omega
  have HM := hid hM
  clear her hM
  by_cases hce : cap = i + 1
  · subst hce
    have hd0 : hitsC (L.drop (i + 1)) = [] := by rw [List.drop_of_length_le (by omega)]; rfl
    have HD := hid hd0
    clear hd0
    go_enter Try.func50, Try.ntmps50
    go_wp2_with fail
    go_still_tail 6, (by kernel_rfl)
    change wpList _ _ _ _ _ (w.drew)
    have tok1 : True := trivial
    go_wp2_with (first
      | (have _t := tok1; at_builtin; refine wpList_append_in [] _ hC rfl (.tmp 22) (.tmp 25) 65 rfl i0 Try.underlying65 hi0 hz1 rfl ⟨g, 0, none⟩ 0 0 [] rfl rfl (by intro j u hj; simp at hj) (by simp) (by omega) ?_; clear _t tok1; intro w2 hH2 hB2; have tok2 : True := trivial)
      | (have _t := tok2; (refine wpList_clear_row [] _ hH2 rfl (.tmp 31) 65 rfl Try.underlying65 (.agg hitZ) zeroHit rfl (by simp [Value.cells, hitZ, Value.oneCell']) i (L.length - i) 1 (i * 7) rfl rfl (by omega) (by omega) ?_); clear _t tok2; intro w3 hH3 hB3))
    go_ret
    have hlen : L.length - 1 = i := by omega
    rw [hlen]
    have hH4 : Has w3 B (row 46 7 (.slice (some ⟨g, 0, none⟩) i (i + 1)) i (hitsC (L.eraseIdx i)) :: X) := by
      rw [← HER.out, HD.out]
      exact hH3
    exact ⟨rfl, hH4, hBd.trans (hB2.trans hB3)⟩
  · have hce2 : ¬ i + 1 = cap := fun h => hce h.symm
    go_enter Try.func50, Try.ntmps50
    go_wp2_with fail
    go_still_tail 6, (by kernel_rfl)
    change wpList _ _ _ _ _ (w.drew)
    have tok1 : True := trivial
    go_wp2_with (first
      | (have _t := tok1; at_builtin; refine wpList_append_in [] _ hC rfl (.tmp 22) (.tmp 25) 65 rfl i0 Try.underlying65 hi0 hz1 rfl ⟨g, (i + 1) * 7, none⟩ (L.length - (i + 1)) (cap - (i + 1)) (hitsC (L.drop (i + 1))) rfl (by rw [hitsC_length, List.length_drop]) P.out (hitsC_one _) (by omega) ?_; clear _t tok1; intro w2 hH2 hB2; have tok2 : True := trivial)
      | (have _t := tok2; (refine wpList_clear_row [] _ hH2 rfl (.tmp 31) 65 rfl Try.underlying65 (.agg hitZ) zeroHit rfl (by simp [Value.cells, hitZ, Value.oneCell']) (i + (L.length - (i + 1))) (L.length - (i + (L.length - (i + 1)))) (cap - (i + (L.length - (i + 1)))) ((i + (L.length - (i + 1))) * 7) rfl rfl (by omega) (by omega) ?_); clear _t tok2; intro w3 hH3 hB3))
    go_ret
    rw [← HM.out]
    have hH4 : Has w3 B (row 46 7 (.slice (some ⟨g, 0, none⟩) (i + (L.length - (i + 1))) cap) (i + (L.length - (i + 1))) (hitsC (L.eraseIdx i)) :: X) := by
      rw [← HER.out]
      exact hH3
    exact ⟨rfl, hH4, hBd.trans (hB2.trans hB3)⟩

end Go.Proofs.Ytlcdjdchcjnhfaa
