/-
  The document's answer to layer 9: List, Put, Pick.
-/
import Derived.Test.YtlcdjdchcjnhfaaTlbRef
import Derived.Test.YtlcdjdchcjnhfaaRegW
import Derived.Deep.RegionHeld3
import Derived.Deep.RegionLaw
namespace Go.Proofs.Ytlcdjdchcjnhfaa
open Go.RowKit
set_option linter.unusedVariables false
set_option linter.unusedSimpArgs false

theorem addr_add (b o j : Nat) : (⟨b, o, none⟩ : Addr).add j = ⟨b, o + j, none⟩ := by unfold Addr.add; split <;> simp_all

/-- A slice of a slice of the call's own, from k on. -/
theorem cut_from {P : Program} {t e : TypeId} {s : Nat} (ht : P.underlying t = some (.slice e)) (hel : P.elem t = e) (hz : ∀ W, Sem.run P (sizeOf e) W = .ok s W) (ao : Option Addr) (n cp k : Nat) (hk : k ≤ n) (W : World) :
    Sem.run P (Instr.slice t (.slice ao n cp) (some (.int .i64 (k : Int))) none none) W = .ok (.slice (if cp = k then ao else ao.map (·.add (k * s))) (n - k) (cp - k)) W := by
  rw [run_slice_l (P := P) W t ao n cp (by rw [hel]; exact ht) .i64 k (by omega) (by omega), hel, hz]
  simp [Result.andThen, sliced]
theorem cut_to {P : Program} {t e : TypeId} {s : Nat} (ht : P.underlying t = some (.slice e)) (hel : P.elem t = e) (hz : ∀ W, Sem.run P (sizeOf e) W = .ok s W) (g n cp k : Nat) (hk : k ≤ n) (hc : n ≤ cp) (W : World) :
    Sem.run P (Instr.slice t (.slice (some ⟨g, 0, none⟩) n cp) none (some (.int .i64 (k : Int))) none) W = .ok (.slice (some ⟨g, 0, none⟩) k cp) W := by
  rw [run_slice_h (P := P) W t _ n cp (by rw [hel]; exact ht) .i64 k (by omega) (by omega), hel, hz]
  simp [Result.andThen, sliced, addr_add]
theorem hitZz (W : World) : Sem.run Try.prog (sizeOf 46) W = .ok 7 W := by kernel_rfl
theorem elHit : Try.prog.elem 65 = 46 := by kernel_rfl
/-- .. hits, where there is a first one. -/
theorem cut_hits (g cp k : Nat) (L : List HitS) (hk : k ≤ L.length) (hcap : L.length ≤ cp) : ∃ ad' c', (∀ W, Sem.run Try.prog (Instr.slice 65 (.slice (some ⟨g, 0, none⟩) L.length cp) (some (.int .i64 (k : Int))) none none) W = .ok (.slice (some ad') (L.drop k).length c') W) ∧
    ∀ W : World, (∀ j u, (hitsC L)[j]? = some u → W.cell? ⟨g, j, none⟩ = some u) → ∀ j u, (hitsC (L.drop k))[j]? = some u → W.cell? (ad'.add j) = some u := by
  refine ⟨if cp = k then ⟨g, 0, none⟩ else (⟨g, 0, none⟩ : Addr).add (k * 7), cp - k, fun W => ?_, fun W hc j u hj => ?_⟩
  · rw [cut_from Try.underlying65 elHit hitZz (some ⟨g, 0, none⟩) L.length cp k hk W, List.length_drop]
    by_cases h : cp = k
    · rw [if_pos h, if_pos h]
    · rw [if_neg h, if_neg h]; rfl
  · have hjl := (List.getElem?_eq_some_iff.1 hj).1
    rw [hitsC_length, List.length_drop] at hjl
    rw [if_neg (by omega)]
    rw [← hitsC_drop, List.getElem?_drop] at hj
    have := hc _ u hj
    rw [addr_add, addr_add, Nat.zero_add]
    exact this

set_option maxHeartbeats 1000000 in
set_option maxRecDepth 100000 in
theorem RList_calls (b n : Nat) (L : List HitS) (w : World) (B : Nat) (X : List Asr) (hH : Has w B (RTlbA b n L :: X)) :
    Calls Try.prog 32 #[.pointer (some ⟨b, 0, none⟩)] w fun e w' => ∃ v, e = .returned v ∧ Has w' B (row 46 7 v L.length (hitsC L) :: RTlbA b n L :: X) ∧ Below B w w' := by
  obtain ⟨i0, hi0, hz0, hz1, hz2⟩ := info_parts infoHit
  obtain ⟨ao, cap, hI, hO, hao, hnone, _⟩ := RTlbA.open hH
  have hN := hO.newrow w.heap.size 46 7 rfl
  have hBN := below_new (Below.refl B w) hO (.cells #[] 46)
  have c1 := hN.cell [_] _ 1 (v := .slice ao L.length cap) rfl
  have hs := srch_row [_, _] _ hN rfl
  have HI := hid hI
  have hL512 : L.length ≤ 512 := by omega
  have hl0 : ao = none → L.length = 0 := fun h => by
    by_cases hl : L.length = 0
    · exact hl
    · obtain ⟨g, hg⟩ := hao (by omega)
      rw [h] at hg
      exact absurd hg (by simp)
  have HX1 : Hid (ao = none → L.length = 0 ∧ cap = 0) := hid (fun h => ⟨hl0 h, hnone h⟩)
  have HX2 := hid (show ∀ ad, ao = some ad → ∀ j u, (hitsC L)[j]? = some u → (w.alloc (.cells #[] 46)).cell? (ad.add j) = some u from fun ad had j u hj => by
    obtain ⟨g', o', e', _, hc⟩ := hs.mem (by have := (List.getElem?_eq_some_iff.1 hj).1; rw [hitsC_length] at this; omega)
    rw [had] at e'
    injection e' with e'
    subst e'
    rw [addr_add]
    exact hc j u hj)
  clear hH hO hI hnone hao hs hl0
  go_enter Try.func32, Try.ntmps32
  go_wp2_with (at_builtin; refine wpList_append_rows [] _ hN rfl (.tmp 3) (.tmp 7) 65 rfl i0 (.agg hitZ) 32 Try.underlying65 hi0 hz0 hz1 hz2 rfl (by decide) rfl ao L.length cap (hitsC L) rfl HX1.out (hitsC_length L) HX2.out (hitsC_one L) (by unfold maxLen; omega) (by omega) ?_; intro g2 cap2 w5 hH5 hB5)
  go_ret
  have hH6 : Has w5 B (row 46 7 (.slice (some ⟨g2, 0, none⟩) L.length cap2) L.length (hitsC L) :: blk b 99 #[.int .i64 n, .slice ao L.length cap] :: row 46 7 (.slice ao L.length cap) L.length (hitsC L) :: X) := by simpa using hH5
  have hS := (RTlbA.shut HI.out (hH6.perm (List.Perm.trans (List.Perm.swap _ _ _) (List.Perm.cons _ (List.Perm.swap _ _ _))))).front [_] _
  exact ⟨_, by simp, hS, hBN.trans hB5⟩

set_option maxHeartbeats 2000000 in
set_option maxRecDepth 100000 in
theorem RPut_calls (b n : Nat) (L : List HitS) (h : HitS) (w : World) (B : Nat) (X : List Asr) (hH : Has w B (RTlbA b n L :: X)) :
    Calls Try.prog 54 #[.pointer (some ⟨b, 0, none⟩), .agg (hitC h).toArray] w fun e w' => e = .returned (.tuple #[]) ∧ Has w' B (RTlbA b n (putL n L h) :: X) ∧ Below B w w' := by
  obtain ⟨i0, hi0, hz0, hz1, hz2⟩ := info_parts infoHit
  have hK := hH.newblk w.heap.size 46 (hitC h).toArray rfl
  have hBK := below_new (Below.refl B w) hH (.cells (hitC h).toArray 46)
  have k0 := hK.cell [] _ 0 (v := .int .i64 h.a) rfl
  have k1 := hK.cell [] _ 1 (v := .int .i64 h.p) rfl
  have cd := RDrop_calls b n L h.a h.p _ B _ (hK.front [_] _)
  have CD := hid cd
  have HU := hid (RTlbA.open hH).choose_spec.choose_spec.1.2.2.2
  have HU := hid (RTlbA.open hH).choose_spec.choose_spec.1.2.2.2
  have HU := hid (RTlbA.open hH).choose_spec.choose_spec.1.2.2.2
  generalize hrb : w.heap.size = rb at *
  clear cd hK hH
  go_enter Try.func54, Try.ntmps54
  go_wp2_with fail
  refine CD.out.mono ?_
  rintro e w2 ⟨rfl, hH2, hB2⟩
  have hB2 := hBK.trans hB2
  obtain ⟨ao, cap, hI, hO, hao, hnone, hcapL⟩ := RTlbA.open hH2
  have hle := dropL_le h.a h.p L
  have hput : putL n L h = (if (dropL h.a h.p L).length = n then (dropL h.a h.p L).eraseIdx 0 else dropL h.a h.p L) ++ [h] := rfl
  generalize dropL h.a h.p L = M at *
  have c0 := hO.cell [] _ 0 (v := .int .i64 n) rfl
  have c1 := hO.cell [] _ 1 (v := .slice ao M.length cap) rfl
  have HP := hid hput
  have HI := hid hI
  clear CD hH2 hput
  have hNn0 : 1 ≤ n := hI.1
  have hn512 : n ≤ 512 := hI.2.1
  have hMn : M.length ≤ n := hI.2.2.1
  have hNn0 : 1 ≤ n := hI.1
  have hn512 : n ≤ 512 := hI.2.1
  have hMn : M.length ≤ n := hI.2.2.1
  have hNn0 : 1 ≤ n := hI.1
  have hn512 : n ≤ 512 := hI.2.1
  have hMn : M.length ≤ n := hI.2.2.1
  by_cases hf : M.length = n
  · have e1 : (M.length == n) = true := by rw [beq_iff_eq]; exact hf
    have e1' : ((M.length : Int) == (n : Int)) = true := by rw [beq_iff_eq]; omega
    have hM0 : 0 < M.length := by omega
    obtain ⟨g0, rfl⟩ := hao hM0
    have hHPN : putL n L h = M.eraseIdx 0 ++ [h] := by rw [HP.out, if_pos hf]
    have hMe : (M.eraseIdx 0).length = M.length - 1 := List.length_eraseIdx_of_lt hM0
    have HPN := hid hHPN
    have HME := hid hMe
    clear hI hf hHPN hMe
    go_wp2_with fail
    go_quiet (fail)
    have hO2' := hO.drewN nq
    have hB3' := below_drewN hB2 nq
    generalize w2.drewN nq = w4 at *
    clear hO hB2 c0 c1
    have hN0 := hO2'.newrow w4.heap.size 46 7 rfl
    have hBN0 := below_new hB3' hO2' (.cells #[] 46)
    have c1 := hN0.cell [_] _ 1 (v := .slice (some ⟨g0, 0, none⟩) M.length cap) rfl
    obtain ⟨ad', c', hcut, hcc⟩ := cut_hits g0 cap 1 M (by omega) hcapL
    have hcut' : ∀ W, Sem.run Try.prog (Instr.slice 65 (.slice (some ⟨g0, 0, none⟩) M.length cap) (some (.int .i64 1)) none none) W = .ok (.slice (some ad') (M.drop 1).length c') W := hcut
    have hcn := hcc _ (fun j u hj => hN0.row_cell [_, _] _ j hj)
    have hde : M.drop 1 = M.eraseIdx 0 := by cases M with
      | nil => rfl
      | cons x M => rfl
    rw [hde] at hcut' hcn
    have HCN := hid hcn
    have HDE := hid hde
    obtain ⟨NN, hNN⟩ : ∃ NN, M.eraseIdx 0 = NN := ⟨_, rfl⟩
    rw [hNN] at hcut' hcn
    have HCN := hid hcn
    have HNN := hid hNN
    have hNl : NN.length = M.length - 1 := by rw [← hNN]; exact HME.out
    have hNl512 : NN.length ≤ 512 := by omega
    clear hcut hcc hcn hde hNN hO2' hB3' hNl
    go_wp2_with (at_builtin; refine wpList_append_rows [] _ hN0 rfl (.tmp 21) (.tmp 26) 65 rfl i0 (.agg hitZ) 32 Try.underlying65 hi0 hz0 hz1 hz2 rfl (by decide) rfl (some ad') NN.length c' (hitsC NN) rfl (fun h => (by cases h)) (hitsC_length NN) (fun ad had => by injection had with had; subst had; exact HCN.out) (hitsC_one NN) (by unfold maxLen; omega) (by omega) ?_; intro g5 cap5 w5 hH5 hB5'; have hB5 := hBN0.trans hB5'; have c2 := hH5.cell [_] _ 1 (v := .slice (some ⟨g0, 0, none⟩) M.length cap) rfl; have f2 := hH5.frozen [_] _ 1)
    have hH5 : Has w5 B (row 46 7 (.slice (some ⟨g5, 0, none⟩) NN.length cap5) NN.length (hitsC NN) :: blk b 99 #[.int .i64 n, .slice (some ⟨g0, 0, none⟩) M.length cap] :: row 46 7 (.slice (some ⟨g0, 0, none⟩) M.length cap) M.length (hitsC M) :: blk rb 46 (hitC h).toArray :: X) := by simpa using hH5
    have hS := hH5.set [_] _ 1 (.slice (some ⟨g5, 0, none⟩) NN.length cap5)
    have hBS := below_set hB5 [_] _ hH5 1 (.slice (some ⟨g5, 0, none⟩) NN.length cap5)
    have hO2 := (hS.front [_, _] _).drop.front [_] _
    have HPN2 : Hid (putL n L h = NN ++ [h]) := hid (by rw [HPN.out, HNN.out])
    have hNn : NN.length + 1 ≤ n := by have := HME.out; have := HNN.out; rw [← this]; omega
    have hB3 := hBS
    generalize w5.setCell ⟨b, 1, none⟩ (.slice (some ⟨g5, 0, none⟩) NN.length cap5) = w3 at *
    clear hS hBS c2 f2 hH5 hB5 hB5' hN0 hBN0 c1 HPN hcut'
    have HPN := HPN2
    clear HPN2
    obtain ⟨cap, hcap5⟩ : ∃ cap, cap = cap5 := ⟨_, rfl⟩
    rw [← hcap5] at hO2 ⊢
    obtain ⟨ao, hao⟩ : ∃ ao, ao = some (⟨g5, 0, none⟩ : Addr) := ⟨_, rfl⟩
    rw [← hao] at hO2 ⊢
    clear hao hcap5
    obtain ⟨N, rfl⟩ : ∃ N : List HitS, N = NN := ⟨_, rfl⟩
    have c1 := hO2.cell [] _ 1 (v := .slice ao N.length cap) rfl
    have d0 := hO2.cell [_, _] _ 0 (v := .int .i64 h.a) rfl
    have d1 := hO2.cell [_, _] _ 1 (v := .int .i64 h.p) rfl
    have d2 := hO2.cell [_, _] _ 2 (v := .int .i64 h.f) rfl
    have d3 := hO2.cell [_, _] _ 3 (v := .bool h.w) rfl
    have d4 := hO2.cell [_, _] _ 4 (v := .bool h.u) rfl
    have d5 := hO2.cell [_, _] _ 5 (v := .bool h.x) rfl
    have d6 := hO2.cell [_, _] _ 6 (v := .bool h.d) rfl
    have hA := hO2.drew.newblk w3.heap.size 46 (hitC h).toArray rfl
    have hBA := below_new (Below.drew hB3) hO2.drew (.cells (hitC h).toArray 46)
    go_wp2_with fail
    have hA2 := hO2.newblk w3.heap.size 46 #[.int .i64 h.a, .int .i64 h.p, .int .i64 h.f, .bool h.w, .bool h.u, .bool h.x, .bool h.d] rfl
    have c1a := hA2.cell [_] _ 1 (v := .slice ao N.length cap) rfl
    go_region_law (first
        | (refine step_append_any [_, _] _ hA rfl (.tmp 34) (.tmp 36) 65 rfl i0 (.agg hitZ) 32 Try.underlying65 hi0 hz0 hz1 hz2 rfl (by decide) rfl ⟨w3.heap.size, 0, none⟩ 1 1 (hitC h) rfl rfl (blk_adds [] _ hA) (hitC_one h) (by decide) (by unfold maxLen; omega) (by omega) ?_; intro g2 cap2 w5 hH5 hB5; have e1 := hH5.cell [_] _ 1 (v := .slice ao N.length cap) rfl; have e1f := hH5.frozen [_] _ 1))
    all_goals (
      have hS := hH5.set [_] _ 1 (.slice (some ⟨g2, 0, none⟩) (N.length + 1) cap2)
      have hBS := below_set (hBA.trans hB5) [_] _ hH5 1 (.slice (some ⟨g2, 0, none⟩) (N.length + 1) cap2)
      have hlen : N.length + 1 = (putL n L h).length := by rw [HPN.out]; simp
      have hcel : hitsC N ++ hitC h = hitsC (putL n L h) := by rw [HPN.out, ← hitsC_app]; simp [hitsC]
      have HL := hid hlen
      have HC := hid hcel
      clear hA hA2 c1a hBA hO2 hB3 c1 d0 d1 d2 d3 d4 d5 d6 hlen hcel
      go_wp2_with fail
      go_end0
      have h2 : Has (w5.setCell ⟨b, 1, none⟩ (.slice (some ⟨g2, 0, none⟩) (N.length + 1) cap2)) B (blk b 99 #[.int .i64 n, .slice (some ⟨g2, 0, none⟩) (N.length + 1) cap2] :: row 46 7 (.slice (some ⟨g2, 0, none⟩) (N.length + 1) cap2) (putL n L h).length (hitsC (putL n L h)) :: X) := by
        rw [← HL.out, ← HC.out]
        exact ((hS.drop).front [_, _] _).drop
      exact ⟨rfl, RTlbA.shut ⟨HI.out.1, HI.out.2.1, by rw [← HL.out]; exact hNn, putL_uniq HU.out⟩ h2, hBS⟩)
  · have e1 : (M.length == n) = false := by rw [beq_eq_false_iff_ne]; exact hf
    have e1' : ((M.length : Int) == (n : Int)) = false := by rw [beq_eq_false_iff_ne]; omega
    have hHPN : putL n L h = M ++ [h] := by rw [HP.out, if_neg hf]
    have hNn : M.length + 1 ≤ n := by omega
    have HPN := hid hHPN
    clear hI hf hHPN
    go_wp2_with fail
    go_quiet (fail)
    have hO2 := hO.drewN nq
    have hB3 := below_drewN hB2 nq
    generalize w2.drewN nq = w3 at *
    clear hO hB2 c0 c1
    obtain ⟨N, rfl⟩ : ∃ N : List HitS, N = M := ⟨_, rfl⟩
    have c1 := hO2.cell [] _ 1 (v := .slice ao N.length cap) rfl
    have d0 := hO2.cell [_, _] _ 0 (v := .int .i64 h.a) rfl
    have d1 := hO2.cell [_, _] _ 1 (v := .int .i64 h.p) rfl
    have d2 := hO2.cell [_, _] _ 2 (v := .int .i64 h.f) rfl
    have d3 := hO2.cell [_, _] _ 3 (v := .bool h.w) rfl
    have d4 := hO2.cell [_, _] _ 4 (v := .bool h.u) rfl
    have d5 := hO2.cell [_, _] _ 5 (v := .bool h.x) rfl
    have d6 := hO2.cell [_, _] _ 6 (v := .bool h.d) rfl
    have hA := hO2.drew.newblk w3.heap.size 46 (hitC h).toArray rfl
    have hBA := below_new (Below.drew hB3) hO2.drew (.cells (hitC h).toArray 46)
    go_wp2_with fail
    have hA2 := hO2.newblk w3.heap.size 46 #[.int .i64 h.a, .int .i64 h.p, .int .i64 h.f, .bool h.w, .bool h.u, .bool h.x, .bool h.d] rfl
    have c1a := hA2.cell [_] _ 1 (v := .slice ao N.length cap) rfl
    go_region_law (first
        | (refine step_append_any [_, _] _ hA rfl (.tmp 34) (.tmp 36) 65 rfl i0 (.agg hitZ) 32 Try.underlying65 hi0 hz0 hz1 hz2 rfl (by decide) rfl ⟨w3.heap.size, 0, none⟩ 1 1 (hitC h) rfl rfl (blk_adds [] _ hA) (hitC_one h) (by decide) (by unfold maxLen; omega) (by omega) ?_; intro g2 cap2 w5 hH5 hB5; have e1 := hH5.cell [_] _ 1 (v := .slice ao N.length cap) rfl; have e1f := hH5.frozen [_] _ 1))
    all_goals (
      have hS := hH5.set [_] _ 1 (.slice (some ⟨g2, 0, none⟩) (N.length + 1) cap2)
      have hBS := below_set (hBA.trans hB5) [_] _ hH5 1 (.slice (some ⟨g2, 0, none⟩) (N.length + 1) cap2)
      have hlen : N.length + 1 = (putL n L h).length := by rw [HPN.out]; simp
      have hcel : hitsC N ++ hitC h = hitsC (putL n L h) := by rw [HPN.out, ← hitsC_app]; simp [hitsC]
      have HL := hid hlen
      have HC := hid hcel
      clear hA hA2 c1a hBA hO2 hB3 c1 d0 d1 d2 d3 d4 d5 d6 hlen hcel
      go_wp2_with fail
      go_end0
      have h2 : Has (w5.setCell ⟨b, 1, none⟩ (.slice (some ⟨g2, 0, none⟩) (N.length + 1) cap2)) B (blk b 99 #[.int .i64 n, .slice (some ⟨g2, 0, none⟩) (N.length + 1) cap2] :: row 46 7 (.slice (some ⟨g2, 0, none⟩) (N.length + 1) cap2) (putL n L h).length (hitsC (putL n L h)) :: X) := by
        rw [← HL.out, ← HC.out]
        exact ((hS.drop).front [_, _] _).drop
      exact ⟨rfl, RTlbA.shut ⟨HI.out.1, HI.out.2.1, by rw [← HL.out]; exact hNn, putL_uniq HU.out⟩ h2, hBS⟩)


section
variable {P : Program} {T : TypeId} {w : World} {B size : Nat}
variable {ops : Array Oper} {o : Oper} {a : Act} {K : Act → World → Prop} {Q : Exit → Act → World → Prop} {E : Prop}
/-- 'append' upon a new slice without elements, as one step of a region that draws its order. -/
theorem step_append_first {g0 : Nat} (L1 L2 : List Asr) (hH : Has w B (L1 ++ row T size (.slice (some ⟨g0, 0, none⟩) 0 0) 0 [] :: L2)) (hgd : o.guard = none) (s x : Operand) (t : TypeId)
    (ho : o.op = .call { callee := .builtin .append, args := #[s, x], argTypes := #[t, t] })
    (i : TypeInfo) (z : Value) (bytes : Nat) (ht : P.underlying t = some (.slice T)) (hi : P.info? T = some i) (hz : i.zero = some z)
    (hsize : i.size = size) (hby : i.bytes = bytes) (hzs : z.cells.size = size) (hsz : 0 < size) (hs : a.eval s = .slice (some ⟨g0, 0, none⟩) 0 0)
    (ad : Addr) (m c : Nat) (news : List Value) (hx : a.eval x = .slice (some ad) m c) (hl : news.length = m * size) (hnews : ∀ j u, news[j]? = some u → w.cell? (ad.add j) = some u) (h1 : ∀ u ∈ news, u.oneCell' = true)
    (h63 : m ≤ maxLen) (hbytes : m * bytes ≤ 140737488355328)
    (hK : ∀ g cap w', Has w' B (L1 ++ row T size (.slice (some ⟨g, 0, none⟩) m cap) m news :: L2) → Below B w w' → K (a.put o.dst (.slice (some ⟨g, 0, none⟩) m cap)) w') :
    if Region.wanted o (yielded ops a.tmps) = true then Oper.wp P o a w K Q else E := by
  refine step_append_row L1 L2 hH hgd s x t ho i z bytes ht hi hz hsize hby hzs hsz hs ad m c news hx hl hnews h1 (by omega) (by simpa using hbytes) ?_
  intro g cap w' h1 h2
  have := hK g cap w' (by simpa using h1) h2
  simpa using this
end

end Go.Proofs.Ytlcdjdchcjnhfaa
