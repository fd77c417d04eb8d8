/-
  Clone and DeleteFunc of package slices, at hits.
-/
import Derived.Test.YtlcdjdchcjnhfaaTlbLib
namespace Go.Proofs.Ytlcdjdchcjnhfaa
open Go.RowKit
set_option linter.unusedVariables false
set_option linter.unusedSimpArgs false

set_option maxHeartbeats 1000000 in
theorem Clone_calls (ao : Option Addr) (cap : Nat) (L : List HitS) (hl : L.length ≤ 512) (w : World) (B : Nat) (X : List Asr)
    (hH : Has w B (row 46 7 (.slice ao L.length cap) L.length (hitsC L) :: X)) :
    Calls Try.prog 62 #[.slice ao L.length cap] w fun e w' => ∃ v, e = .returned v ∧ Has w' B (row 46 7 v L.length (hitsC L) :: row 46 7 (.slice ao L.length cap) L.length (hitsC L) :: X) ∧ Below B w w' := by
  obtain ⟨i0, hi0, hz0, hz1, hz2⟩ := info_parts infoHit
  rcases hH.row_shape [] _ with ⟨hv, h0⟩ | ⟨g, cap', hv, h1, h2, _, _⟩
  · injection hv with ha hb hc
    subst ha hc
    obtain rfl : L = [] := List.eq_nil_of_length_eq_zero h0
    have hN := hH.nilrow 46 7
    have heq : ∀ W, Sem.run Try.prog (binOp .eql 65 (.slice none 0 0) (.slice none 0 0)) W = .ok (.bool true) W := fun W =>
      Lib.run_eql_slice_nil (P := Try.prog) W 65 46 none 0 0 0 0 Try.underlying65
    go_enter Try.func62, Try.ntmps62
    go_wp2_with fail
    go_ret
    exact ⟨_, rfl, hN, Below.refl _ _⟩
  · injection hv with ha hb hc
    subst ha hc
    have heq : ∀ W, Sem.run Try.prog (binOp .eql 65 (.slice (some ⟨g, 0, none⟩) L.length cap) (.slice none 0 0)) W = .ok (.bool false) W := fun W =>
      Lib.run_eql_slice_nil (P := Try.prog) W 65 46 (some ⟨g, 0, none⟩) L.length cap 0 0 Try.underlying65
    have hN := hH.newrow w.heap.size 46 7 rfl
    have hBN := below_new (Below.refl B w) hH (.cells #[] 46)
    have P := hid (hN.row_part [_] _ 0 (hitsC L) (fun j u hj => by rw [Nat.zero_add]; exact hj))
    go_enter Try.func62, Try.ntmps62
    go_wp2_with (at_builtin; refine wpList_append_rows [] _ hN rfl _ _ 65 rfl i0 (.agg hitZ) 32 Try.underlying65 hi0 hz0 hz1 hz2 rfl (by decide) rfl (some ⟨g, 0, none⟩) L.length cap (hitsC L) rfl (by simp) (hitsC_length L) (by intro ad h; cases h; exact P.out) (hitsC_one _) (by unfold maxLen; omega) (by omega) ?_; intro g1 cap1 w2 hH2 hB2; simp only [Nat.zero_add, List.nil_append] at hH2 ⊢)
    go_ret
    exact ⟨_, rfl, hH2, hBN.trans hB2⟩

theorem hitsC_set {Z : List HitS} {i : Nat} {h : HitS} (hi : i < Z.length) : (hitsC Z).take (i * 7) ++ (hitC h).toArray.toList ++ (hitsC Z).drop (i * 7 + 7) = hitsC (Z.set i h) := by
  rw [hitsC_take, show i * 7 + 7 = (i + 1) * 7 from by omega, hitsC_drop, List.set_eq_take_append_cons_drop, if_pos hi]
  simp [hitsC]

/-- Those that stay. -/
def keepF (a : Int) (L : List HitS) : List HitS := L.filter fun h => !asidB a h
theorem keepF_len (a : Int) (L : List HitS) : (keepF a L).length ≤ L.length := List.length_filter_le _ _
theorem keepF_take_succ {a : Int} {L : List HitS} {j : Nat} {h : HitS} (hj : L[j]? = some h) : keepF a (L.take (j + 1)) = keepF a (L.take j) ++ (if asidB a h then [] else [h]) := by
  rw [List.take_add_one, hj]
  unfold keepF
  rw [List.filter_append]
  congr 1
  cases hb : asidB a h <;> simp [hb]

set_option maxHeartbeats 2000000 in
set_option maxRecDepth 100000 in
theorem DeleteFunc_calls (ao : Option Addr) (cap : Nat) (L : List HitS) (kb : Nat) (a : Int) (hl : L.length ≤ 512) (w : World) (B : Nat) (X : List Asr)
    (hH : Has w B (row 46 7 (.slice ao L.length cap) L.length (hitsC L) :: blk kb 3 #[.int .i64 a] :: X)) :
    Calls Try.prog 63 #[.slice ao L.length cap, .func (.func 64) #[] #[.pointer (some ⟨kb, 0, none⟩)]] w fun e w' => e = .returned (.slice ao (keepF a L).length cap) ∧ Has w' B (row 46 7 (.slice ao (keepF a L).length cap) (keepF a L).length (hitsC (keepF a L)) :: blk kb 3 #[.int .i64 a] :: X) ∧ Below B w w' := by
  have ci := IndexFl ao cap L kb a w B X hl hH
  have CI := hid ci
  clear ci
  go_enter Try.func63, Try.ntmps63
  go_wp2_with fail
  refine CI.out.mono ?_
  rintro e w1 ⟨r, rfl, hidx, hH1, hB1⟩
  rcases hidx with ⟨rfl, hall⟩ | ⟨k, h0, rfl, hk0, hq0, hfirst⟩
  · have he : keepF a L = L := by
      unfold keepF
      rw [List.filter_eq_self]
      intro h hm
      rw [hall h hm]
      rfl
    have HE := hid he
    clear he hall hH CI
    go_wp2_with fail
    go_ret
    rw [HE.out]
    exact ⟨rfl, hH1, hB1⟩
  · have hkl : k < L.length := (List.getElem?_eq_some_iff.1 hk0).1
    have e0 : ((k : Int) == -1) = false := by rw [beq_eq_false_iff_ne]; omega
    obtain ⟨ao1, cap1, hv, hcap, _, hao⟩ := hH1.row_form [] _
    obtain ⟨g, hg⟩ := hao (by omega)
    injection hv with hv1 hv2 hv3
    subst hv1 hv3
    subst hg
    have htk : keepF a (L.take k) = L.take k := by
      unfold keepF
      rw [List.filter_eq_self]
      intro h hm
      obtain ⟨j, hj⟩ := List.mem_iff_getElem?.1 hm
      have hjk : j < k := by
        have := (List.getElem?_eq_some_iff.1 hj).1
        simp at this
        omega
      rw [List.getElem?_take_of_lt hjk] at hj
      rw [hfirst j h hjk hj]
      rfl
    have htk1 : keepF a (L.take (k + 1)) = L.take k := by rw [keepF_take_succ hk0, htk, hq0]; simp
    have HK1 := hid htk1
    have HK0 := hid hk0
    clear htk htk1 hfirst hq0 hk0 hH CI
    go_wp2_with fail
    go_loopw [5, 6, 7] (fun i j _ wr => ∃ (ni nj : Nat) (J : List HitS), nj ≤ L.length ∧ i = .int .i64 ni ∧ j = .int .i64 nj ∧ (keepF a (L.take nj)).length = ni ∧ ni + J.length = nj ∧ 0 < J.length ∧ Has wr B (row 46 7 (.slice (some ⟨g, 0, none⟩) L.length cap) L.length (hitsC (keepF a (L.take nj) ++ J ++ L.drop nj)) :: blk kb 3 #[.int .i64 a] :: X) ∧ Below B w wr) (fun _ j _ _ => L.length - (intOf j).toNat)
    case atStart =>
      refine ⟨k, k + 1, [h0], by omega, rfl, by go_num, by rw [HK1.out]; simp; omega, by simp, by simp, ?_, hB1⟩
      have e : keepF a (L.take (k + 1)) ++ [h0] ++ L.drop (k + 1) = L := by
        rw [HK1.out]
        have : L.drop k = h0 :: L.drop (k + 1) := by
          obtain ⟨h1, h2⟩ := List.getElem?_eq_some_iff.1 HK0.out
          rw [List.drop_eq_getElem_cons h1, h2]
        calc L.take k ++ [h0] ++ L.drop (k + 1) = L.take k ++ (h0 :: L.drop (k + 1)) := by simp
          _ = L.take k ++ L.drop k := by rw [this]
          _ = L := List.take_append_drop _ _
      rw [e]
      exact hH1
    case round =>
      obtain ⟨ni, nj, J, hnj, rfl, rfl, hni, hJ, hJ0, hHr, hBr⟩ := hrel
      clear hH1 hB1
      by_cases hlt : nj < L.length
      · obtain ⟨h, hh⟩ : ∃ h, L[nj]? = some h := ⟨_, List.getElem?_eq_getElem hlt⟩
        have hdr : L.drop nj = h :: L.drop (nj + 1) := by
          obtain ⟨h1, h2⟩ := List.getElem?_eq_some_iff.1 hh
          rw [List.drop_eq_getElem_cons h1, h2]
        have hZ : (keepF a (L.take nj) ++ J ++ L.drop nj)[nj]? = some h := by
          rw [List.getElem?_append_right (by simp; omega), hdr]
          have e : nj - (keepF a (L.take nj) ++ J).length = 0 := by simp; omega
          rw [e]
          rfl
        have hZl : (keepF a (L.take nj) ++ J ++ L.drop nj).length = L.length := by simp; omega
        have P := hid (hHr.row_part [] _ (nj * 7) (hitC h) (hitsC_get hZ))
        have cc := fun (W : World) (X' : List Asr) (hW : Has W B (blk kb 3 #[.int .i64 a] :: X')) => flK_calls h kb a W B X' hW
        obtain ⟨qb, hqb⟩ : ∃ qb, asidB a h = qb := ⟨_, rfl⟩
        rw [hqb] at cc
        have hsucc := keepF_take_succ (a := a) hh
        rw [hqb] at hsucc
        have CC := hid cc
        have HS := hid hsucc
        have HD := hid hdr
        have HN := hid hni
        have HZL := hid hZl
        clear cc hh hqb hsucc hdr hZ hZl hni
        have hnin : ni < nj := by omega
        have tok1 : True := trivial
        have tok2 : True := trivial
        go_wp2_with (first
          | (have _t := tok1; refine wpList_load_at 46 (.tmp 24) rfl rfl ⟨g, nj * 7, none⟩ rfl _ (hitC h) P.out Try.underlying46 rfl hit_size ?_; clear _t tok1)
          | (have _t := tok2; refine wpList_store_all [] _ (hHr.newblk wr.heap.size 46 hitZ rfl) 46 (.tmp 7) (.tmp 25) rfl rfl rfl _ rfl hit_size' rfl (hitC_one h) ?_; clear _t tok2; intro w2 hH2 hB2 hz2; clear hz2)
          | (refine wpList_load_blk [] _ hH2 46 (.tmp 7) rfl rfl rfl _ Try.underlying46 rfl hit_size' ?_))
        refine (CC.out w2 _ (hH2.front [_, _] _)).mono ?_
        rintro e w3 ⟨rfl, hH3, hB3⟩
        have hB3 := hBr.trans (((below_new (Below.refl _ _) hHr _).trans hB2).trans hB3)
        clear hHr hBr hH2 hB2 CC
        cases qb with
        | true =>
          go_wp2_with fail
          go_roundw
          case rel => exact ⟨ni, nj + 1, J ++ [h], by omega, rfl, by go_num, by rw [HS.out]; simpa using HN.out, by simp; omega, by simp, by
            have h4 := ((hH3.front [_, _] _).front [_, _] _).drop
            have e : keepF a (L.take (nj + 1)) ++ (J ++ [h]) ++ L.drop (nj + 1) = keepF a (L.take nj) ++ J ++ L.drop nj := by rw [HS.out, HD.out]; simp
            rw [e]
            exact h4, hB3⟩
          case measure => simp [intOf] <;> omega
        | false =>
          have hni7 : ni * 7 + 7 ≤ L.length * 7 := by omega
          have tok3 : True := trivial
          go_wp2_with (first
            | (refine wpList_load_blk [_] _ hH3 46 (.tmp 7) rfl rfl rfl _ Try.underlying46 rfl hit_size' ?_)
            | (have _t := tok3; refine wpList_store_row [_, _] _ hH3 46 (.tmp 33) (.tmp 32) rfl rfl (ni * 7) rfl (hitC h).toArray rfl hit_size' (by rw [hitsC_length, HZL.out]; exact hni7) (hitC_one h) ?_; clear _t tok3; intro w4 hH4 hB4 hz4; clear hz4))
          go_roundw
          case rel => exact ⟨ni + 1, nj + 1, J.tail ++ [h], by omega, by go_num, by go_num, by rw [HS.out]; simpa using HN.out, by simp; omega, by simp, by
            have h4 := ((hH4.front [_, _] _).front [_, _] _).drop
            have hs := hitsC_set (Z := keepF a (L.take nj) ++ J ++ L.drop nj) (h := h) (i := ni) (by rw [HZL.out]; omega)
            have e : (keepF a (L.take nj) ++ J ++ L.drop nj).set ni h = keepF a (L.take (nj + 1)) ++ (J.tail ++ [h]) ++ L.drop (nj + 1) := by
              rw [HS.out, HD.out]
              cases J with
              | nil => simp at hJ0
              | cons x J =>
                rw [List.append_assoc, List.set_append_right _ _ (by rw [HN.out]; omega), HN.out, Nat.sub_self]
                simp
            rw [← e, ← hs]
            exact h4, hB3.trans hB4⟩
          case measure => simp [intOf] <;> omega
      · obtain rfl : nj = L.length := by omega
        have hni2 : ni < L.length := by omega
        rw [List.take_length] at hni hHr
        have hC := hHr.row_cut [] _ (show ni ≤ L.length by omega)
        rw [hitsC_take] at hC
        have e : (keepF a L ++ J ++ L.drop L.length).take ni = keepF a L := by
          rw [List.append_assoc, List.take_append_of_le_length (by omega), List.take_of_length_le (by omega)]
        rw [e] at hC
        have hz1 : (0 : Int) ≤ (ni : Int) := by omega
        have hz2 : (ni : Int) ≤ (L.length : Int) := by omega
        have hz3 : ¬ cap = ni := by omega
        have hz4 : ¬ ni = cap := by omega
        have hz5 : ni ≤ cap := by omega
        have HNI := hid hni
        clear hni e hHr
        go_wp2_with (first
          | (refine wpList_clear_row [] _ hC rfl (.tmp 38) 65 rfl Try.underlying65 (.agg hitZ) zeroHit rfl (by simp [Value.cells, hitZ, Value.oneCell']) ni (L.length - ni) (cap - ni) (ni * 7) rfl rfl (by omega) (by omega) ?_; intro w3 hH3 hB3))
        go_ret
        rw [HNI.out]
        exact ⟨rfl, hH3, hBr.trans hB3⟩

end Go.Proofs.Ytlcdjdchcjnhfaa
