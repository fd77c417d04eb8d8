/-
  The document's answer to layer 9: what is known of pages, as a list: New, Get, List, Many, Drop, Flush, All.
-/
import Derived.Test.YtlcdjdchcjnhfaaTlbC
import Derived.Test.YtlcdjdchcjnhfaaStep
import Derived.IntWalk
import Derived.Deep.CutBlock
import Derived.Deep.DeepCutAuto
namespace Go.Proofs.Ytlcdjdchcjnhfaa
open Go.RowKit
set_option linter.unusedVariables false
set_option linter.unusedSimpArgs false

/-- The document's, at block b. -/
def RTlbA (b n : Nat) (L : List HitS) : Asr :=
  Asr.ex fun v : Value => Asr.and (1 ≤ n ∧ n ≤ 512 ∧ L.length ≤ n ∧ uniq L) <| Asr.all [blk b 99 #[.int .i64 n, v], row 46 7 v L.length (hitsC L)]
theorem RTlbA.open {b n : Nat} {L : List HitS} {w : World} {B : Nat} {X : List Asr} (hH : Has w B (RTlbA b n L :: X)) : ∃ ao cap, (1 ≤ n ∧ n ≤ 512 ∧ L.length ≤ n ∧ uniq L) ∧
    Has w B (blk b 99 #[.int .i64 n, .slice ao L.length cap] :: row 46 7 (.slice ao L.length cap) L.length (hitsC L) :: X) ∧ (0 < L.length → ∃ g, ao = some ⟨g, 0, none⟩) ∧ (ao = none → cap = 0) ∧ L.length ≤ cap := by
  obtain ⟨v, hH⟩ := hH.open_ex
  obtain ⟨hI, hH⟩ := hH.open_and
  have hO := hH.open_all
  have hO2 : Has w B ([blk b 99 #[.int .i64 n, v]] ++ row 46 7 v L.length (hitsC L) :: X) := hO
  rcases hO2.row_shape [_] _ with ⟨rfl, h0⟩ | ⟨g, cap, rfl, hc, _, _, _⟩
  · refine ⟨none, 0, hI, by rw [h0]; rw [h0] at hO; exact hO, by omega, fun _ => rfl, by omega⟩
  · exact ⟨_, cap, hI, hO, fun _ => ⟨g, rfl⟩, fun h => (by cases h), hc⟩
theorem RTlbA.shut {b n : Nat} {v : Value} {L : List HitS} {w : World} {B : Nat} {X : List Asr} (hI : 1 ≤ n ∧ n ≤ 512 ∧ L.length ≤ n ∧ uniq L)
    (hH : Has w B (blk b 99 #[.int .i64 n, v] :: row 46 7 v L.length (hitsC L) :: X)) : Has w B (RTlbA b n L :: X) :=
  Has.shut_ex v (Has.shut_and hI (Has.shut_all _ hH))

def RTlbNewPost (m : Int) (X : List Asr) (B : Nat) (w : World) (e : Ending) (w' : World) : Prop :=
  (¬ (1 ≤ m ∧ m ≤ 512) ∧ e = .returned (.pointer none) ∧ Has w' B X ∧ Below B w w') ∨
  (∃ b n : Nat, m = n ∧ 1 ≤ n ∧ n ≤ 512 ∧ e = .returned (.pointer (some ⟨b, 0, none⟩)) ∧ Has w' B (RTlbA b n [] :: X) ∧ Below B w w')
theorem RTlbNew_calls (m : Int) (w : World) (B : Nat) (X : List Asr) (hH : Has w B X) :
    Calls Try.prog 23 #[.int .i64 m] w (RTlbNewPost m X B w) := by
  by_cases h1 : m < 1
  · have e1 : decide (m < 1) = true := by rw [decide_eq_true_eq]; exact h1
    go_enter Try.func23, Try.ntmps23
    go_wp2_with fail
    go_ret
    exact .inl ⟨by omega, rfl, hH, Below.refl _ _⟩
  · have e1 : decide (m < 1) = false := by rw [decide_eq_false_iff_not]; exact h1
    by_cases h2 : 512 < m
    · have e2 : decide (512 < m) = true := by rw [decide_eq_true_eq]; exact h2
      go_enter Try.func23, Try.ntmps23
      go_wp2_with fail
      go_ret
      exact .inl ⟨by omega, rfl, hH, Below.refl _ _⟩
    · have e2 : decide (512 < m) = false := by rw [decide_eq_false_iff_not]; exact h2
      obtain ⟨n, rfl⟩ := Int.eq_ofNat_of_zero_le (show 0 ≤ m by omega)
      go_enter Try.func23, Try.ntmps23
      go_wp2_with fail
      go_ret
      have hN := (hH.nilrow 46 7).newblk w.heap.size 99 #[.int .i64 n, .slice none 0 0] rfl
      exact .inr ⟨w.heap.size, n, rfl, by omega, by omega, rfl, RTlbA.shut (L := []) ⟨by omega, by omega, by simp, List.Pairwise.nil⟩ hN, below_new (Below.refl _ _) hH _⟩

theorem dropL_take_succ {a p : Int} {L : List HitS} {j : Nat} {h : HitS} (hj : L[j]? = some h) : dropL a p (L.take (j + 1)) = dropL a p (L.take j) ++ (if keyB a p h then [] else [h]) := by
  rw [List.take_add_one, hj]
  unfold dropL
  rw [List.filter_append]
  congr 1
  cases hq : keyB a p h <;> simp [hq]
theorem SrcH.cellsR {W : World} {b k : Nat} {L : List HitS} {h : HitS} (hs : SrcH W (some ⟨b, 0, none⟩) L) (hk : L[k]? = some h) : W.cell? ⟨b, k * 7, none⟩ = some (.int .i64 h.a) ∧ W.cell? ⟨b, k * 7 + 1, none⟩ = some (.int .i64 h.p) := by
  have h0 := hs.at rfl hk 0 (u := .int .i64 h.a) rfl
  have h1 := hs.at rfl hk 1 (u := .int .i64 h.p) rfl
  simp only [Nat.zero_add, Nat.add_zero] at h0 h1
  exact ⟨h0, h1⟩
theorem drop_any (a p : Int) (L : List HitS) : decide ((dropL a p L).length < L.length) = L.any (keyB a p) := by
  induction L with
  | nil => rfl
  | cons h L ih =>
    unfold dropL at ih ⊢
    have hle := dropL_le a p L
    unfold dropL at hle
    cases hq : keyB a p h with
    | true =>
      rw [List.filter_cons_of_neg (by simp [hq])]
      simp [hq]
      omega
    | false =>
      rw [List.filter_cons_of_pos (by simp [hq])]
      simp only [List.length_cons, List.any_cons, hq, Bool.false_or, ← ih]
      simp

set_option maxHeartbeats 4000000 in
set_option maxRecDepth 100000 in
theorem RDrop_calls (b n : Nat) (L : List HitS) (a p : Int) (w : World) (B : Nat) (X : List Asr) (hH : Has w B (RTlbA b n L :: X)) :
    Calls Try.prog 55 #[.pointer (some ⟨b, 0, none⟩), .int .i64 a, .int .i64 p] w fun e w' => e = .returned (.bool (L.any (keyB a p))) ∧ Has w' B (RTlbA b n (dropL a p L) :: X) ∧ Below B w w' := by
  obtain ⟨i0, hi0, hz0, hz1, hz2⟩ := info_parts infoHit
  obtain ⟨ao, cap, hI, hO, hao, _, _⟩ := RTlbA.open hH
  obtain ⟨an, han⟩ : ∃ an, L.any (keyB a p) = an := ⟨_, rfl⟩
  rw [han]
  have HAN := hid han
  have HI := hid hI
  have hL512 : L.length ≤ 512 := by omega
  have hR := hO.nilrow 46 7
  clear hH hO hI han
  go_enter Try.func55, Try.ntmps55
  go_wp2_with fail
  go_loopw [7, 8] (fun out i wr => ∃ (k : Nat) (v : Value), k ≤ L.length ∧ i = .int .i64 k ∧ out = v ∧ Has wr B (row 46 7 v (dropL a p (L.take k)).length (hitsC (dropL a p (L.take k))) :: blk b 99 #[.int .i64 n, .slice ao L.length cap] :: row 46 7 (.slice ao L.length cap) L.length (hitsC L) :: X) ∧ Below B w wr) (fun _ i _ => L.length - (intOf i).toNat)
  case atStart => exact ⟨0, _, by omega, rfl, rfl, by simpa [dropL, hitsC] using hR, Below.refl _ _⟩
  case round =>
    obtain ⟨k, v, hk, rfl, rfl, hHr, hBr⟩ := hrel
    clear hR
    have c1 := hHr.cell [_] _ 1 (v := .slice ao L.length cap) rfl
    obtain ⟨ao2, cp2, rfl, _, _, _⟩ := hHr.row_form [] _
    by_cases hlt : k < L.length
    · obtain ⟨h, hh⟩ : ∃ h, L[k]? = some h := ⟨_, List.getElem?_eq_getElem hlt⟩
      obtain ⟨g, rfl⟩ := hao (by omega)
      have hsrc := srch_row [_, _] _ hHr rfl
      obtain ⟨d0, d1⟩ := hsrc.cellsR hh
      have P := hid (hsrc.adds rfl hh)
      have hsucc := dropL_take_succ (a := a) (p := p) hh
      have hdl := dropL_le a p (L.take k)
      have hkl2 : (dropL a p (L.take k)).length ≤ 512 := by simp at hdl; omega
      clear hdl
      by_cases hq : keyB a p h = true
      · have hkk := keyB_true.1 hq
        rw [hq] at hsucc
        have HS2 := hid hsucc
        have e3 : (h.a != a) = false := by simp [hkk.1]
        have e4 : (h.p != p) = false := by simp [hkk.2]
        clear hh hsucc hsrc hq hkk
        go_wp2_with fail
        go_roundw
        case rel => exact ⟨k + 1, _, by omega, by go_num, rfl, by rw [HS2.out]; simpa using hHr, hBr⟩
        case measure => simp [intOf] <;> omega
      · have hq2 : keyB a p h = false := by simpa using hq
        have hkk := keyB_false.1 hq2
        rw [hq2] at hsucc
        have HS2 := hid hsucc
        have hA := hHr.newblk wr.heap.size 46 (hitC h).toArray rfl
        have hBA := below_new hBr hHr (.cells (hitC h).toArray 46)
        have hl7 : (hitC h).length = 7 := rfl
        by_cases ha : h.a = a
        · have e3 : (h.a != a) = false := by simp [ha]
          have e4 : (h.p != p) = true := by simp; exact fun h' => hkk ⟨ha, h'⟩
          clear hh hsucc hsrc hq hkk hq2 ha
          go_upto_region 6 with fail
          go_wp2_with (first
            | (refine wpList_load_at 46 (.tmp 47) rfl rfl ⟨g, k * 7, none⟩ rfl _ (hitC h) (by have := P.out; simpa using this) Try.underlying46 rfl hit_size ?_)
            | (at_builtin; refine wpList_append_row [_] _ hA rfl (.tmp 41) (.tmp 49) 65 rfl i0 (.agg hitZ) 32 Try.underlying65 hi0 hz0 hz1 hz2 rfl (by decide) rfl ⟨wr.heap.size, 0, none⟩ 1 1 (hitC h) rfl rfl (blk_adds [] _ hA) (hitC_one h) (by decide) (by unfold maxLen; omega) (by omega) ?_; intro g2 cap2 w5 hH5 hB5))
          go_roundw
          case rel => exact ⟨k + 1, _, by omega, by go_num, rfl, by rw [HS2.out]; simpa [hitsC] using hH5.drop, hBA.trans hB5⟩
          case measure => simp [intOf] <;> omega
        · have e3 : (h.a != a) = true := by simpa using ha
          clear hh hsucc hsrc hq hkk hq2 ha
          go_upto_region 6 with fail
          go_wp2_with (first
            | (refine wpList_load_at 46 (.tmp 47) rfl rfl ⟨g, k * 7, none⟩ rfl _ (hitC h) (by have := P.out; simpa using this) Try.underlying46 rfl hit_size ?_)
            | (at_builtin; refine wpList_append_row [_] _ hA rfl (.tmp 41) (.tmp 49) 65 rfl i0 (.agg hitZ) 32 Try.underlying65 hi0 hz0 hz1 hz2 rfl (by decide) rfl ⟨wr.heap.size, 0, none⟩ 1 1 (hitC h) rfl rfl (blk_adds [] _ hA) (hitC_one h) (by decide) (by unfold maxLen; omega) (by omega) ?_; intro g2 cap2 w5 hH5 hB5))
          go_roundw
          case rel => exact ⟨k + 1, _, by omega, by go_num, rfl, by rw [HS2.out]; simpa [hitsC] using hH5.drop, hBA.trans hB5⟩
          case measure => simp [intOf] <;> omega
    · obtain rfl : k = L.length := by omega
      rw [List.take_length] at hHr
      have hda := drop_any a p L
      have hdl := dropL_le a p L
      rw [HAN.out] at hda
      have hda2 : decide (((dropL a p L).length : Int) < (L.length : Int)) = an := by rw [← hda, decide_eq_decide]; omega
      have f1 := hHr.frozen [_] _ 1
      have hS := hHr.set [_] _ 1 (.slice ao2 (dropL a p L).length cp2)
      have hBS := below_set hBr [_] _ hHr 1 (.slice ao2 (dropL a p L).length cp2)
      have HU := hid (dropL_uniq (a := a) (p := p) HI.out.2.2.2)
      have HDL := hid hdl
      clear hHr hBr hdl
      go_wp2_with fail
      go_ret
      have h2 := (hS.front [_, _] _).drop.front [_] _
      exact ⟨rfl, RTlbA.shut ⟨HI.out.1, HI.out.2.1, by have := HDL.out; have := HI.out.2.2.1; omega, HU.out⟩ h2, hBS⟩

set_option maxHeartbeats 1000000 in
set_option maxRecDepth 100000 in
theorem TRGet_calls (b n : Nat) (L : List HitS) (a p : Int) (w : World) (B : Nat) (X : List Asr) (hH : Has w B (RTlbA b n L :: X)) :
    Calls Try.prog 53 #[.pointer (some ⟨b, 0, none⟩), .int .i64 a, .int .i64 p] w fun e w' => e = .returned (getV L a p) ∧ Has w' B (RTlbA b n L :: X) ∧ Below B w w' := by
  have hR := hH.newblk w.heap.size 46 hitZ rfl
  have hBR := below_new (Below.refl B w) hH (.cells hitZ 46)
  obtain ⟨rb, hrb⟩ : ∃ rb, w.heap.size = rb := ⟨_, rfl⟩
  rw [hrb] at hR
  obtain ⟨ao, cap, hI, hO, hao, _, _⟩ := RTlbA.open (hR.front [_] _)
  have HI := hid hI
  have hL512 : L.length ≤ 512 := by omega
  clear hH hI hR
  go_enter Try.func53, Try.ntmps53
  go_wp2_with fail
  go_loopw [8] (fun i wr => ∃ k : Nat, k ≤ L.length ∧ i = .int .i64 k ∧ (w.alloc (.cells hitZ 46)) = wr ∧ ∀ (j : Nat) g, j < k → L[j]? = some g → keyB a p g = false) (fun i _ => L.length - (intOf i).toNat)
  case atStart => exact ⟨0, by omega, rfl, rfl, fun j g h => by omega⟩
  case round =>
    obtain ⟨k, hk, rfl, rfl, hall⟩ := hrel
    have HALL := hid hall
    clear hall
    have c1 := hO.cell [] _ 1 (v := .slice ao L.length cap) rfl
    by_cases hlt : k < L.length
    · obtain ⟨h, hh⟩ : ∃ h, L[k]? = some h := ⟨_, List.getElem?_eq_getElem hlt⟩
      obtain ⟨g, rfl⟩ := hao (by omega)
      have hsrc := srch_row [_] _ hO rfl
      obtain ⟨d0, d1⟩ := hsrc.cellsR hh
      have P := hid (hsrc.adds rfl hh)
      have HH := hid hh
      by_cases hq : keyB a p h = true
      · have hkk := keyB_true.1 hq
        have e3 : (h.a == a) = true := by simp [hkk.1]
        have e4 : (h.p == p) = true := by simp [hkk.2]
        have hg : getV L a p = .tuple #[.agg (hitC h).toArray, .bool true] := by simp [getV, find_at hh hq HALL.out]
        have HG := hid hg
        have hf0 := hO.front [_, _] _
        have tok1 : True := trivial
        clear hh hsrc hq hkk hg
        go_upto_region 5 with fail
        go_wp2_with (first
          | (have _t := tok1; refine wpList_load_at 46 (.tmp 45) rfl rfl ⟨g, k * 7, none⟩ rfl _ (hitC h) (by have := P.out; simpa using this) Try.underlying46 rfl hit_size ?_; clear _t tok1)
          | (refine wpList_store_all [_, _] _ hO 46 (.tmp 6) (.tmp 46) rfl rfl rfl (hitC h).toArray rfl hit_size' rfl (hitC_one _) ?_; intro w3 hH3 hB3 hz3; clear hz3))
        exact bodyPost_ret (results_hit (fn := Try.f53) rfl _ w3 rb 46 _ (0, 0) _ rfl (hH3.blk_at [_, _] _).1 Try.underlying46 rfl hit_size') rfl ⟨by rw [HG.out]; rfl, RTlbA.shut HI.out (hH3.front [_, _] _).drop, hBR.trans hB3⟩
      · have hq2 : keyB a p h = false := by simpa using hq
        have hkk := keyB_false.1 hq2
        have hall2 : ∀ (j : Nat) g', j < k + 1 → L[j]? = some g' → keyB a p g' = false := by
          intro j g' hj hg'
          by_cases e : j = k
          · subst e
            rw [hh] at hg'
            injection hg' with hg'
            rw [← hg']
            exact hq2
          · exact HALL.out j g' (by omega) hg'
        have HALL2 := hid hall2
        by_cases ha : h.a = a
        · have e3 : (h.a == a) = true := by simp [ha]
          have e4 : (h.p == p) = false := by rw [beq_eq_false_iff_ne]; exact fun h' => hkk ⟨ha, h'⟩
          clear hh hsrc hq hkk hq2 ha hall2
          go_wp2_with fail
          go_roundw
          case rel => exact ⟨k + 1, by omega, by go_num, trivial, HALL2.out⟩
          case measure => simp [intOf] <;> omega
        · have e3 : (h.a == a) = false := by rw [beq_eq_false_iff_ne]; exact ha
          clear hh hsrc hq hkk hq2 ha hall2
          go_wp2_with fail
          go_roundw
          case rel => exact ⟨k + 1, by omega, by go_num, trivial, HALL2.out⟩
          case measure => simp [intOf] <;> omega
    · obtain rfl : k = L.length := by omega
      have hg : getV L a p = .tuple #[.agg (hitC hit0).toArray, .bool false] := by
        have : L.find? (keyB a p) = none := by
          rw [List.find?_eq_none]
          intro g' hg'
          obtain ⟨j, hj⟩ := List.mem_iff_getElem?.1 hg'
          rw [HALL.out j g' (List.getElem?_eq_some_iff.1 hj).1 hj]
          simp
        simp [getV, this]
      have HG := hid hg
      clear hg
      go_wp2_with (refine wpList_store_all [_, _] _ hO 46 (.tmp 6) (.tmp 47) rfl rfl rfl (hitC hit0).toArray rfl hit_size' rfl (hitC_one _) ?_; intro w3 hH3 hB3 hz3; clear hz3)
      exact bodyPost_ret (results_hit (fn := Try.f53) rfl _ w3 rb 46 _ (0, 0) _ rfl (hH3.blk_at [_, _] _).1 Try.underlying46 rfl hit_size') rfl ⟨by rw [HG.out]; rfl, RTlbA.shut HI.out (hH3.front [_, _] _).drop, hBR.trans hB3⟩

end Go.Proofs.Ytlcdjdchcjnhfaa
