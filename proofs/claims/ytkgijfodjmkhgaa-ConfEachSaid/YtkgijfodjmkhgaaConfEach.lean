/-
  ConfEach: each frame of the host is the guest's, the shadow pages', or foreign, and just one of these; each of the guest's is one of its map.
-/
import Derived.Test.YtkgijfodjmkhgaaConfArgs
import Derived.Deep.RegionHeld3
import Derived.StillTailTactics
import Derived.Deep.LoopGhost
namespace Go.Proofs.Ytkgijfodjmkhgaa
open Go.RowKit
set_option linter.unusedVariables false
set_option linter.unusedSimpArgs false

/-- Right, Image and Foreign at a machine written out. -/
theorem RightArr (c : ConfS) {b : Bool} (hb : decide (okC c) = b) {arr : Array Value} (ha : (confC c).toArray = arr) (w : World) {B : Nat} {X : List Asr} (hH : Has w B X) (hs : Src w c.a c.l) :
    Calls Try.prog 10 #[.agg arr] w fun e w' => e = .returned (.bool b) ∧ Has w' B X ∧ Below B w w' := by
  subst ha
  exact RightIs c hb w hH hs
theorem ForeignArr (c : ConfS) {l : List Int} (hl : allC c 0 = l) {arr : Array Value} (ha : (confC c).toArray = arr) (w : World) {B : Nat} {X : List Asr} (hH : Has w B X) (hs : Src w c.a c.l) :
    Calls Try.prog 15 #[.agg arr] w fun e w' => ∃ ao cap, e = .returned (.slice ao l.length cap) ∧ Has w' B (row 3 1 (.slice ao l.length cap) l.length (l.map (Value.int .i64)) :: X) ∧ Below B w w' := by
  subst ha hl
  refine (Foreign_calls c w hs).mono ?_
  intro e w' h
  obtain ⟨v, rfl, h2, h3⟩ := h.at hH
  obtain ⟨ao, cap, rfl, _, _, _⟩ := h2.row_form [] _
  exact ⟨ao, cap, rfl, h2, h3⟩
theorem ImageArr (c : ConfS) {l : List Int} (hl : allC c 1 = l) {arr : Array Value} (ha : (confC c).toArray = arr) (w : World) {B : Nat} {X : List Asr} (hH : Has w B X) (hs : Src w c.a c.l) :
    Calls Try.prog 13 #[.agg arr] w fun e w' => ∃ ao cap, e = .returned (.slice ao l.length cap) ∧ Has w' B (row 3 1 (.slice ao l.length cap) l.length (l.map (Value.int .i64)) :: X) ∧ Below B w w' := by
  subst ha hl
  refine (Image_calls c w hs).mono ?_
  intro e w' h
  obtain ⟨v, rfl, h2, h3⟩ := h.at hH
  obtain ⟨ao, cap, rfl, _, _, _⟩ := h2.row_form [] _
  exact ⟨ao, cap, rfl, h2, h3⟩

/-- How often each of the first 256 numbers is in a list. -/
def toldC (l : List Int) : Array Value := ((List.range 256).map fun n : Nat => Value.int .i64 ((l.count (n : Int) : Nat) : Int)).toArray
theorem toldC_get (l : List Int) {n : Nat} (h : n < 256) : (toldC l)[n]? = some (.int .i64 ((l.count (n : Int) : Nat) : Int)) := by
  simp [toldC, h]
theorem toldC_set (l : List Int) {n : Nat} (h : n < 256) : (toldC l).setIfInBounds n (.int .i64 (((l.count (n : Int) : Nat) : Int) + 1)) = toldC (l ++ [(n : Int)]) := by
  apply Array.ext'
  simp only [toldC, List.setIfInBounds_toArray]
  refine List.ext_getElem? fun j => ?_
  rw [List.getElem?_set]
  by_cases e : n = j
  · subst e
    simp [h]
  · rw [if_neg e]
    by_cases hj : j < 256
    · have : ¬ (n : Int) = (j : Int) := by omega
      simp [hj, this]
    · simp [hj]
theorem zeroTold (w : World) : Sem.run Try.prog (zeroValue 29) w = .ok (.agg (toldC [])) w := by kernel_rfl
theorem frs_cnt (l : List Int) (first many : Int) (k : Nat) (h : ∀ x ∈ l, 0 ≤ x ∧ x < (k : Int)) (hn : l.Nodup) : (frs l first many 1 k).length = l.length := by
  have h1 : (frs l first many 1 k).Nodup := (frs_sorted l first many 1 k).imp (fun h => by omega)
  refine Nat.le_antisymm (nodup_le _ _ h1 (fun x hx => ?_)) (nodup_le _ _ hn (fun x hx => ?_))
  · have h2 := (frs_mem.1 hx).2.2
    unfold ownI at h2
    split at h2
    · assumption
    · split at h2 <;> cases h2
  · refine frs_mem.2 ⟨(h x hx).1, (h x hx).2, ?_⟩
    unfold ownI
    rw [if_pos hx]
/-- How often a frame of the host's is told. -/
theorem each_count {c : ConfS} (h : okC c) {n : Nat} (hn : (n : Int) < c.host) : (((allC c 1 ++ allC c 0).count (n : Int) : Nat) : Int) = if poolP c.first c.many n ∧ (n : Int) ∉ c.l then 0 else 1 := by
  unfold allC
  rw [if_pos h, if_pos h, List.count_append, frs_count, frs_count]
  have hk : n < c.host.toNat := by omega
  simp only [hk, true_and]
  unfold ownI
  by_cases h1 : (n : Int) ∈ c.l
  · simp [h1]
  · by_cases h2 : poolP c.first c.many n <;> simp [h1, h2]
theorem each_map {c : ConfS} (h : okC c) {k : Nat} {x : Int} (hx : c.l[k]? = some x) : 0 ≤ x ∧ x < c.host ∧ (((allC c 1 ++ allC c 0).count x : Nat) : Int) = 1 := by
  have hm := List.mem_of_getElem? hx
  obtain ⟨h1, h2⟩ := h.g.2.2.2.2.1 x hm
  refine ⟨h1, h2, ?_⟩
  obtain ⟨n, rfl⟩ : ∃ n : Nat, x = (n : Int) := ⟨x.toNat, by omega⟩
  rw [each_count h h2, if_neg (fun h => h.2 hm)]
theorem each_pool {c : ConfS} (h : okC c) {n : Nat} (hn : (n : Int) < c.host) : (((allC c 1 ++ allC c 0).count (n : Int) : Nat) : Int) = if c.first ≤ (n : Int) ∧ (n : Int) < c.first + c.many then 0 else 1 := by
  rw [each_count h hn]
  by_cases h1 : poolP c.first c.many n
  · have h2 : (n : Int) ∉ c.l := fun hm => h.p _ hm h1
    rw [if_pos ⟨h1, h2⟩, if_pos (by unfold poolP at h1; omega)]
  · rw [if_neg (fun h => h1 h.1), if_neg (by unfold poolP at h1; omega)]
theorem all_in {c : ConfS} (h : okC c) {q : Int} {k : Nat} {x : Int} (hx : (allC c q)[k]? = some x) : 0 ≤ x ∧ x < c.host ∧ x ≤ 255 := by
  unfold allC at hx
  rw [if_pos h] at hx
  have h1 := frs_mem.1 (List.mem_of_getElem? hx)
  have h2 := h.g.2.2.2.1
  omega
theorem all_lt {c : ConfS} (h : okC c) {q : Int} {j k : Nat} {x y : Int} (hx : (allC c q)[j]? = some x) (hy : (allC c q)[k]? = some y) (hj : j < k) : x < y := by
  unfold allC at hx hy
  rw [if_pos h] at hx hy
  exact frs_get_lt hx hy hj
theorem all_len1 {c : ConfS} (h : okC c) : (allC c 1).length = c.l.length := by
  unfold allC
  rw [if_pos h]
  refine frs_cnt _ _ _ _ (fun x hx => ?_) h.g.2.2.2.2.2
  have := h.g.2.2.2.2.1 x hx
  omega
theorem all_len {c : ConfS} (h : okC c) (q : Int) : (allC c q).length ≤ 256 := by
  unfold allC
  rw [if_pos h]
  have := frs_le c.l c.first c.many q c.host.toNat
  have := h.g.2.2.2.1
  omega

set_option maxHeartbeats 4000000 in
set_option maxRecDepth 100000 in
theorem ConfEach_walk (c : ConfS) (w : World) (hc : ConfArg w c) :
    Calls Try.prog 4 #[.agg (confC c).toArray] w fun e w' => e = .returned (.bool true) ∧ Below w.heap.size w w' := by
  obtain ⟨i0, hi0, hz0, hz1, hz2⟩ := info_parts infoConf
  have hHz : Has w w.heap.size [] := Has.nil (Nat.le_refl _)
  have hH1 := hHz.newblk w.heap.size 24 (confC c).toArray rfl
  have hB1 := below_new (Below.refl _ w) hHz (.cells (confC c).toArray 24)
  have HS := hid hc.src
  have HW := hid hc.wf
  have hsm := hc.src.small
  have CH := hid (head_true _ _ _ hH1)
  clear hc hHz hH1
  go_enter Try.func4, Try.ntmps4
  go_wp2_with fail
  refine CH.out.mono ?_
  rintro e w1 ⟨_, rfl, hH2, hB2⟩
  have hH2 : Has w1 w.heap.size [blk w.heap.size 24 (confC c).toArray] := hH2
  have hB2 := hB1.trans hB2
  have c1 := hH2.cell [] _ 1 (v := .slice c.a c.l.length c.cap) rfl
  clear CH hB1
  by_cases hbig : 900 < c.l.length
  · have e1 : decide (900 < c.l.length) = true := decide_eq_true hbig
    have e2 : decide (900 < (c.l.length : Int)) = true := decide_eq_true (by omega)
    go_wp2_with fail
    go_ret
    exact ⟨rfl, hB2⟩
  have e1 : decide (900 < c.l.length) = false := decide_eq_false hbig
  have e2 : decide (900 < (c.l.length : Int)) = false := decide_eq_false (by omega)
  obtain ⟨la, hla⟩ : ∃ la, allC c 1 = la := ⟨_, rfl⟩
  obtain ⟨lb, hlb⟩ : ∃ lb, allC c 0 = lb := ⟨_, rfl⟩
  have HLA := hid hla
  have HLB := hid hlb
  clear hla hlb
  go_wp2_with (refine wpList_load_blk [] _ hH2 24 (.tmp 1) rfl rfl rfl _ Try.underlying24 rfl conf_size ?_)
  refine (ImageArr c HLA.out rfl _ hH2 (HS.out.later hB2)).mono ?_
  rintro e x1 ⟨fa, fp, rfl, hF, bF⟩
  have bF := hB2.trans bF
  clear hH2 hB2 c1 e1 e2
  go_wp2_with (refine wpList_load_blk [_] _ hF 24 (.tmp 1) rfl rfl rfl _ Try.underlying24 rfl conf_size ?_)
  refine (ForeignArr c HLB.out rfl _ hF (HS.out.later bF)).mono ?_
  rintro e x2 ⟨ga, gp, rfl, hG, bG⟩
  have bG := bF.trans bG
  clear hF bF
  go_wp2_with (refine wpList_load_blk [_, _] _ hG 24 (.tmp 1) rfl rfl rfl _ Try.underlying24 rfl conf_size ?_)
  refine (RightArr c rfl rfl _ hG (HS.out.later bG)).mono ?_
  rintro e x3 ⟨rfl, hR, bR⟩
  have bR := bG.trans bR
  clear hG bG
  by_cases hok : okC c
  rotate_left
  · rw [decide_eq_false hok]
    have ha : la = [] := by rw [← HLA.out]; unfold allC; rw [if_neg hok]
    have hb : lb = [] := by rw [← HLB.out]; unfold allC; rw [if_neg hok]
    subst ha hb
    clear hok
    go_wp2_with fail
    go_ret
    exact ⟨rfl, bR⟩
  rw [decide_eq_true hok]
  obtain ⟨tb, htb⟩ : ∃ tb, x3.heap.size = tb := ⟨_, rfl⟩
  have hN := hR.newblk tb 29 (toldC []) htb
  have bN := below_new bR hR (.cells (toldC []) 29)
  have hzT := zeroTold x3
  have IA := hid (fun (k : Nat) x (hx : la[k]? = some x) => (show 0 ≤ x ∧ x < c.host ∧ x ≤ 255 from by rw [← HLA.out] at hx; exact all_in hok hx))
  have IB := hid (fun (k : Nat) x (hx : lb[k]? = some x) => (show 0 ≤ x ∧ x < c.host ∧ x ≤ 255 from by rw [← HLB.out] at hx; exact all_in hok hx))
  have TA := hid (fun (j k : Nat) x y (hx : la[j]? = some x) (hy : la[k]? = some y) (h : j < k) => (show x < y from by rw [← HLA.out] at hx hy; exact all_lt hok hx hy h))
  have TB := hid (fun (j k : Nat) x y (hx : lb[j]? = some x) (hy : lb[k]? = some y) (h : j < k) => (show x < y from by rw [← HLB.out] at hx hy; exact all_lt hok hx hy h))
  have LM := hid (fun (k : Nat) x (hx : c.l[k]? = some x) => (show 0 ≤ x ∧ x < c.host ∧ (((la ++ lb).count x : Nat) : Int) = 1 from by rw [← HLA.out, ← HLB.out]; exact each_map hok hx))
  have LP := hid (fun (n : Nat) (hn : (n : Int) < c.host) => (show (((la ++ lb).count (n : Int) : Nat) : Int) = if c.first ≤ (n : Int) ∧ (n : Int) < c.first + c.many then 0 else 1 from by rw [← HLA.out, ← HLB.out]; exact each_pool hok hn))
  have LL := hid (show la.length = c.l.length from by rw [← HLA.out]; exact all_len1 hok)
  have la256 : la.length ≤ 256 := by rw [← HLA.out]; exact all_len hok 1
  have lb256 : lb.length ≤ 256 := by rw [← HLB.out]; exact all_len hok 0
  have hh0 := hok.g.2.2.1
  have hh1 := hok.g.2.2.2.1
  have hf0 := hok.f.1
  have hf1 := hok.f.2.2.1
  have hm0 := hok.f.2.1
  have hm1 := hok.f.2.2.2
  clear hok HLA HLB
  have hN : Has _ w.heap.size [blk tb 29 (toldC []), row 3 1 (.slice ga lb.length gp) lb.length (lb.map (Value.int .i64)), row 3 1 (.slice fa la.length fp) la.length (la.map (Value.int .i64)), blk w.heap.size 24 (confC c).toArray] := hN
  clear hR bR
  go_wp2_with fail
  go_loopg [7] la.length (fun g i wr => ∃ j : Nat, g + j = la.length ∧ i = .int .i64 j ∧ Has wr w.heap.size [blk tb 29 (toldC (la.take j)), row 3 1 (.slice ga lb.length gp) lb.length (lb.map (Value.int .i64)), row 3 1 (.slice fa la.length fp) la.length (la.map (Value.int .i64)), blk w.heap.size 24 (confC c).toArray] ∧ Below w.heap.size w wr)
  case atStart => exact ⟨0, by omega, rfl, by rw [List.take_zero]; exact hN, bN⟩
  case round =>
    obtain ⟨j, hj, rfl, hHr, hBr⟩ := hrel
    clear hN bN
    by_cases hlt : j < la.length
    · obtain ⟨x, hx⟩ : ∃ x, la[j]? = some x := ⟨_, List.getElem?_eq_getElem hlt⟩
      obtain ⟨ix0, ix1, ix2⟩ := IA.out j x hx
      obtain ⟨n, rfl⟩ : ∃ n : Nat, x = (n : Int) := ⟨x.toNat, by omega⟩
      have hs := srci_row [_, _] _ hHr rfl
      obtain ⟨xb, xo, rfl, -, -⟩ := hs.mem (by omega)
      have cx := hs.at rfl hx
      have qh := Has.cell [_, _, _] _ hHr 0 (v := .int .i64 c.host) rfl
      have e1 : decide ((n : Int) < 0) = false := decide_eq_false (by omega)
      have e2 : decide (c.host ≤ (n : Int)) = false := decide_eq_false (by omega)
      have e3 : decide ((255 : Int) < (n : Int)) = false := decide_eq_false (by omega)
      have e3' : decide (255 < n) = false := decide_eq_false (by omega)
      have ct := Has.cell [] _ hHr n (toldC_get (la.take j) (n := n) (by omega))
      have cf := Has.frozen [] _ hHr n
      have hcl : (la.take j).count (n : Int) ≤ 600 := Nat.le_trans List.count_le_length (by simp; omega)
      have hST := hid (toldC_set (la.take j) (n := n) (by omega))
      have hTK : (la.take j) ++ [(n : Int)] = (la.take (j + 1)) := by rw [List.take_add_one, hx]; rfl
      have HTK := hid hTK
      obtain ⟨cn, hcn⟩ : ∃ cn : Nat, (la.take j).count (n : Int) = cn := ⟨_, rfl⟩
      have hst := hST.out
      rw [hcn] at ct hcl hst
      have hST := hid hst
      have hw1 : IntKind.i64.wrap ((cn : Int) + 1) = (cn : Int) + 1 := IntWalk.i64_in _ (by omega)
      have HJ := hid hj
      have n256 : n < 256 := by omega
      have n256' : (n : Int) < 256 := by omega
      have e5 : (n : Int).toNat = n := rfl
      clear hst hTK hj hcn
      by_cases hj0 : j = 0
      · subst hj0
        have cx0 : wr.cell? ⟨xb, xo, none⟩ = some (.int .i64 (n : Int)) := cx
        clear hs hx cx
        go_wp2_with fail
        go_quiet (fail)
        have hHq := hHr.drewN nq
        have bHq := below_drewNI hBr nq
        have cxq : (wr.drewN nq).cell? ⟨xb, xo, none⟩ = some (.int .i64 (n : Int)) := cx0
        have ctq : (wr.drewN nq).cell? ⟨tb, n, none⟩ = some (.int .i64 (cn : Int)) := ct
        have cfq : (wr.drewN nq).frozen? ⟨tb, n, none⟩ = false := cf
        clear cx0 ct cf
        generalize wr.drewN nq = wq at *
        clear hHr hBr
        go_wp2_with fail
        refine wp_region_still_tail 12 (by kernel_rfl) (by kernel_rfl) ?_
        simp only [List.take_succ_cons, List.take_zero, List.drop_succ_cons, List.drop_zero]
        iterate 12 ((with_reducible refine wpStill_step (fun K hK => ?_)); go_simp; (with_reducible refine hK _ ?_); clear hK K)
        refine wpStill_nil ?_
        change wpList _ _ _ _ _ (World.drew _)
        have HS1 := Has.set [] _ hHq.drew n (.int .i64 ((cn : Int) + 1))
        rw [hST.out, HTK.out] at HS1
        have BS1 := below_set bHq.drew [] _ hHq.drew n (.int .i64 ((cn : Int) + 1))
        go_wp2_with fail
        go_roundg (gk - 1)
        case measure => have := HJ.out; omega
        case rel => exact ⟨1, by have := HJ.out; omega, by go_num, HS1, BS1⟩
      · obtain ⟨y, hy⟩ : ∃ y, la[j - 1]? = some y := ⟨_, List.getElem?_eq_getElem (by omega)⟩
        have hyn := TA.out (j - 1) j y n hy hx (by omega)
        have cy := hs.at rfl hy
        have e6 : decide (0 < j) = true := decide_eq_true (by omega)
        have e7 : decide ((n : Int) ≤ y) = false := decide_eq_false (by omega)
        have e8 : IntKind.i64.wrap ((j : Int) - 1) = (j : Int) - 1 := IntWalk.i64_in _ (by omega)
        have e9 : ((j : Int) - 1).toNat = j - 1 := by omega
        have e10 : decide ((0 : Int) < (j : Int)) = true := decide_eq_true (by omega)
        clear hs hx hy hyn
        go_wp2_with fail
        go_quiet (fail)
        have hHq := hHr.drewN nq
        have bHq := below_drewNI hBr nq
        have cxq : (wr.drewN nq).cell? ⟨xb, xo + j, none⟩ = some (.int .i64 (n : Int)) := cx
        have ctq : (wr.drewN nq).cell? ⟨tb, n, none⟩ = some (.int .i64 (cn : Int)) := ct
        have cfq : (wr.drewN nq).frozen? ⟨tb, n, none⟩ = false := cf
        clear cx cy qh ct cf
        generalize wr.drewN nq = wq at *
        clear hHr hBr
        go_wp2_with fail
        refine wp_region_still_tail 12 (by kernel_rfl) (by kernel_rfl) ?_
        simp only [List.take_succ_cons, List.take_zero, List.drop_succ_cons, List.drop_zero]
        iterate 12 ((with_reducible refine wpStill_step (fun K hK => ?_)); go_simp; (with_reducible refine hK _ ?_); clear hK K)
        refine wpStill_nil ?_
        change wpList _ _ _ _ _ (World.drew _)
        have HS1 := Has.set [] _ hHq.drew n (.int .i64 ((cn : Int) + 1))
        rw [hST.out, HTK.out] at HS1
        have BS1 := below_set bHq.drew [] _ hHq.drew n (.int .i64 ((cn : Int) + 1))
        go_wp2_with fail
        go_roundg (gk - 1)
        case measure => have := HJ.out; omega
        case rel => exact ⟨j + 1, by have := HJ.out; omega, by go_num, HS1, BS1⟩
    · obtain rfl : j = la.length := by omega
      rw [List.take_length] at hHr
      clear hlt hj
      go_wp2_with fail
      go_loopg [8] lb.length (fun g i wr => ∃ j : Nat, g + j = lb.length ∧ i = .int .i64 j ∧ Has wr w.heap.size [blk tb 29 (toldC (la ++ lb.take j)), row 3 1 (.slice ga lb.length gp) lb.length (lb.map (Value.int .i64)), row 3 1 (.slice fa la.length fp) la.length (la.map (Value.int .i64)), blk w.heap.size 24 (confC c).toArray] ∧ Below w.heap.size w wr)
      case atStart => exact ⟨0, by omega, rfl, by rw [List.take_zero, List.append_nil]; exact hHr, hBr⟩
      case round =>
        have hH9 := hHr
        clear hH9 hHr hBr
        obtain ⟨j, hj, rfl, hHr, hBr⟩ := hrel
        by_cases hlt : j < lb.length
        · obtain ⟨x, hx⟩ : ∃ x, lb[j]? = some x := ⟨_, List.getElem?_eq_getElem hlt⟩
          obtain ⟨ix0, ix1, ix2⟩ := IB.out j x hx
          obtain ⟨n, rfl⟩ : ∃ n : Nat, x = (n : Int) := ⟨x.toNat, by omega⟩
          have hs := srci_row [_] _ hHr rfl
          obtain ⟨xb, xo, rfl, -, -⟩ := hs.mem (by omega)
          have cx := hs.at rfl hx
          have qh := Has.cell [_, _, _] _ hHr 0 (v := .int .i64 c.host) rfl
          have e1 : decide ((n : Int) < 0) = false := decide_eq_false (by omega)
          have e2 : decide (c.host ≤ (n : Int)) = false := decide_eq_false (by omega)
          have e3 : decide ((255 : Int) < (n : Int)) = false := decide_eq_false (by omega)
          have e3' : decide (255 < n) = false := decide_eq_false (by omega)
          have ct := Has.cell [] _ hHr n (toldC_get (la ++ lb.take j) (n := n) (by omega))
          have cf := Has.frozen [] _ hHr n
          have hcl : (la ++ lb.take j).count (n : Int) ≤ 600 := Nat.le_trans List.count_le_length (by simp; omega)
          have hST := hid (toldC_set (la ++ lb.take j) (n := n) (by omega))
          have hTK : (la ++ lb.take j) ++ [(n : Int)] = (la ++ lb.take (j + 1)) := by rw [List.take_add_one, hx]; rw [← List.append_assoc]; rfl
          have HTK := hid hTK
          obtain ⟨cn, hcn⟩ : ∃ cn : Nat, (la ++ lb.take j).count (n : Int) = cn := ⟨_, rfl⟩
          have hst := hST.out
          rw [hcn] at ct hcl hst
          have hST := hid hst
          have hw1 : IntKind.i64.wrap ((cn : Int) + 1) = (cn : Int) + 1 := IntWalk.i64_in _ (by omega)
          have HJ := hid hj
          have n256 : n < 256 := by omega
          have n256' : (n : Int) < 256 := by omega
          have e5 : (n : Int).toNat = n := rfl
          clear hst hTK hj hcn
          by_cases hj0 : j = 0
          · subst hj0
            have cx0 : wr.cell? ⟨xb, xo, none⟩ = some (.int .i64 (n : Int)) := cx
            clear hs hx cx
            go_wp2_with fail
            go_quiet (fail)
            have hHq := hHr.drewN nq
            have bHq := below_drewNI hBr nq
            have cxq : (wr.drewN nq).cell? ⟨xb, xo, none⟩ = some (.int .i64 (n : Int)) := cx0
            have ctq : (wr.drewN nq).cell? ⟨tb, n, none⟩ = some (.int .i64 (cn : Int)) := ct
            have cfq : (wr.drewN nq).frozen? ⟨tb, n, none⟩ = false := cf
            clear cx0 ct cf
            generalize wr.drewN nq = wq at *
            clear hHr hBr
            go_wp2_with fail
            refine wp_region_still_tail 12 (by kernel_rfl) (by kernel_rfl) ?_
            simp only [List.take_succ_cons, List.take_zero, List.drop_succ_cons, List.drop_zero]
            iterate 12 ((with_reducible refine wpStill_step (fun K hK => ?_)); go_simp; (with_reducible refine hK _ ?_); clear hK K)
            refine wpStill_nil ?_
            change wpList _ _ _ _ _ (World.drew _)
            have HS1 := Has.set [] _ hHq.drew n (.int .i64 ((cn : Int) + 1))
            rw [hST.out, HTK.out] at HS1
            have BS1 := below_set bHq.drew [] _ hHq.drew n (.int .i64 ((cn : Int) + 1))
            go_wp2_with fail
            go_roundg (gk - 1)
            case measure => have := HJ.out; omega
            case rel => exact ⟨1, by have := HJ.out; omega, by go_num, HS1, BS1⟩
          · obtain ⟨y, hy⟩ : ∃ y, lb[j - 1]? = some y := ⟨_, List.getElem?_eq_getElem (by omega)⟩
            have hyn := TB.out (j - 1) j y n hy hx (by omega)
            have cy := hs.at rfl hy
            have e6 : decide (0 < j) = true := decide_eq_true (by omega)
            have e7 : decide ((n : Int) ≤ y) = false := decide_eq_false (by omega)
            have e8 : IntKind.i64.wrap ((j : Int) - 1) = (j : Int) - 1 := IntWalk.i64_in _ (by omega)
            have e9 : ((j : Int) - 1).toNat = j - 1 := by omega
            have e10 : decide ((0 : Int) < (j : Int)) = true := decide_eq_true (by omega)
            clear hs hx hy hyn
            go_wp2_with fail
            go_quiet (fail)
            have hHq := hHr.drewN nq
            have bHq := below_drewNI hBr nq
            have cxq : (wr.drewN nq).cell? ⟨xb, xo + j, none⟩ = some (.int .i64 (n : Int)) := cx
            have ctq : (wr.drewN nq).cell? ⟨tb, n, none⟩ = some (.int .i64 (cn : Int)) := ct
            have cfq : (wr.drewN nq).frozen? ⟨tb, n, none⟩ = false := cf
            clear cx cy qh ct cf
            generalize wr.drewN nq = wq at *
            clear hHr hBr
            go_wp2_with fail
            refine wp_region_still_tail 12 (by kernel_rfl) (by kernel_rfl) ?_
            simp only [List.take_succ_cons, List.take_zero, List.drop_succ_cons, List.drop_zero]
            iterate 12 ((with_reducible refine wpStill_step (fun K hK => ?_)); go_simp; (with_reducible refine hK _ ?_); clear hK K)
            refine wpStill_nil ?_
            change wpList _ _ _ _ _ (World.drew _)
            have HS1 := Has.set [] _ hHq.drew n (.int .i64 ((cn : Int) + 1))
            rw [hST.out, HTK.out] at HS1
            have BS1 := below_set bHq.drew [] _ hHq.drew n (.int .i64 ((cn : Int) + 1))
            go_wp2_with fail
            go_roundg (gk - 1)
            case measure => have := HJ.out; omega
            case rel => exact ⟨j + 1, by have := HJ.out; omega, by go_num, HS1, BS1⟩
        · obtain rfl : j = lb.length := by omega
          rw [List.take_length] at hHr
          clear hlt hj
          have qm := Has.cell [_, _, _] _ hHr 1 (v := .slice c.a c.l.length c.cap) rfl
          go_wp2_with fail
          clear qm
          go_loopg [9] c.l.length (fun g i wr => ∃ j : Nat, g + j = c.l.length ∧ i = .int .i64 j ∧ Has wr w.heap.size [blk tb 29 (toldC (la ++ lb)), row 3 1 (.slice ga lb.length gp) lb.length (lb.map (Value.int .i64)), row 3 1 (.slice fa la.length fp) la.length (la.map (Value.int .i64)), blk w.heap.size 24 (confC c).toArray] ∧ Below w.heap.size w wr)
          case atStart => exact ⟨0, by omega, rfl, hHr, hBr⟩
          case round =>
            clear hHr hBr
            obtain ⟨j, hj, rfl, hHr, hBr⟩ := hrel
            have qm := Has.cell [_, _, _] _ hHr 1 (v := .slice c.a c.l.length c.cap) rfl
            have HJ := hid hj
            by_cases hlt : j < c.l.length
            · obtain ⟨x, hx⟩ : ∃ x, c.l[j]? = some x := ⟨_, List.getElem?_eq_getElem hlt⟩
              obtain ⟨ix0, ix1, ix2⟩ := LM.out j x hx
              obtain ⟨n, rfl⟩ : ∃ n : Nat, x = (n : Int) := ⟨x.toNat, by omega⟩
              obtain ⟨gb, o, hca, cx⟩ := (HS.out.later hBr).at hx
              rw [hca] at qm
              have ct := Has.cell [] _ hHr n (toldC_get (la ++ lb) (n := n) (by omega))
              rw [ix2] at ct
              have n256 : n < 256 := by omega
              have n256' : (n : Int) < 256 := by omega
              clear hx hca ix2 hj
              go_wp2_with fail
              go_roundg (gk - 1)
              case measure => have := HJ.out; omega
              case rel => exact ⟨j + 1, by have := HJ.out; omega, by go_num, hHr, hBr⟩
            · obtain rfl : j = c.l.length := by omega
              clear hlt hj HJ
              have qh := Has.cell [_, _, _] _ hHr 0 (v := .int .i64 c.host) rfl
              go_wp2_with fail
              clear qm qh
              go_loopg [10] c.host.toNat (fun g i wr => ∃ j : Nat, g + j = c.host.toNat ∧ i = .int .i64 j ∧ Has wr w.heap.size [blk tb 29 (toldC (la ++ lb)), row 3 1 (.slice ga lb.length gp) lb.length (lb.map (Value.int .i64)), row 3 1 (.slice fa la.length fp) la.length (la.map (Value.int .i64)), blk w.heap.size 24 (confC c).toArray] ∧ Below w.heap.size w wr)
              case atStart => exact ⟨0, by omega, rfl, hHr, hBr⟩
              case round =>
                clear hHr hBr
                obtain ⟨j, hj, rfl, hHr, hBr⟩ := hrel
                have q0 := Has.cell [_, _, _] _ hHr 0 (v := .int .i64 c.host) rfl
                have q1 := Has.cell [_, _, _] _ hHr 1 (v := .slice c.a c.l.length c.cap) rfl
                have q2 := Has.cell [_, _, _] _ hHr 2 (v := .int .i64 c.first) rfl
                have q3 := Has.cell [_, _, _] _ hHr 3 (v := .int .i64 c.many) rfl
                have HJ := hid hj
                by_cases hlt : (j : Int) < c.host
                · have e0 : decide ((j : Int) < c.host) = true := decide_eq_true hlt
                  have hw1 : IntKind.i64.wrap (c.first + c.many) = c.first + c.many := IntWalk.i64_in _ (by omega)
                  have ct := Has.cell [] _ hHr j (toldC_get (la ++ lb) (n := j) (by omega))
                  rw [LP.out j hlt] at ct
                  have n256 : j < 256 := by omega
                  have n256' : (j : Int) < 256 := by omega
                  clear hj
                  by_cases f1 : c.first ≤ (j : Int)
                  · have e1 : decide (c.first ≤ (j : Int)) = true := decide_eq_true f1
                    by_cases f2 : (j : Int) < c.first + c.many
                    · have e2 : decide ((j : Int) < c.first + c.many) = true := decide_eq_true f2
                      rw [if_pos ⟨f1, f2⟩] at ct
                      clear f1
                      go_wp2_with fail
                      go_roundg (gk - 1)
                      case measure => have := HJ.out; omega
                      case rel => exact ⟨j + 1, by have := HJ.out; omega, by go_num, hHr, hBr⟩
                    · have e2 : decide ((j : Int) < c.first + c.many) = false := decide_eq_false f2
                      rw [if_neg (fun h => f2 h.2)] at ct
                      clear f1
                      go_wp2_with fail
                      go_roundg (gk - 1)
                      case measure => have := HJ.out; omega
                      case rel => exact ⟨j + 1, by have := HJ.out; omega, by go_num, hHr, hBr⟩
                  · have e1 : decide (c.first ≤ (j : Int)) = false := decide_eq_false f1
                    rw [if_neg (fun h => f1 h.1)] at ct
                    clear f1
                    go_wp2_with fail
                    go_roundg (gk - 1)
                    case measure => have := HJ.out; omega
                    case rel => exact ⟨j + 1, by have := HJ.out; omega, by go_num, hHr, hBr⟩
                · have e0 : decide ((j : Int) < c.host) = false := decide_eq_false hlt
                  have e1 : (la.length == c.l.length) = true := by rw [beq_iff_eq]; exact LL.out
                  have e2 : ((la.length : Int) == (c.l.length : Int)) = true := by rw [beq_iff_eq, LL.out]
                  clear hj HJ
                  go_wp2_with fail
                  go_ret
                  exact ⟨rfl, hBr⟩

end Go.Proofs.Ytkgijfodjmkhgaa
