/-
  ConfPool: with fewer frames for shadow pages a right machine is right still, and each frame that is given up is foreign.
-/
import Derived.Test.YtkgijfodjmkhgaaConfArgs
import Derived.Deep.RegionHeld3
import Derived.StillTailTactics
import Derived.Deep.LoopGhost
namespace Go.Proofs.Ytkgijfodjmkhgaa
open Go.RowKit
set_option linter.unusedVariables false
set_option linter.unusedSimpArgs false

/-- Right, Image and Foreign at a machine written out. -/
theorem RightArr (c : ConfS) {b : Bool} (hb : decide (okC c) = b) {arr : Array Value} (ha : (confC c).toArray = arr) (w : World) {B : Nat} {X : List Asr} (hH : Has w B X) (hs : Src w c.a c.l) :
    Calls Try.prog 10 #[.agg arr] w fun e w' => e = .returned (.bool b) ∧ Has w' B X ∧ Below B w w' := by
  subst ha
  exact RightIs c hb w hH hs
theorem ForeignArr (c : ConfS) {l : List Int} (hl : allC c 0 = l) {arr : Array Value} (ha : (confC c).toArray = arr) (w : World) {B : Nat} {X : List Asr} (hH : Has w B X) (hs : Src w c.a c.l) :
    Calls Try.prog 15 #[.agg arr] w fun e w' => ∃ ao cap, e = .returned (.slice ao l.length cap) ∧ Has w' B (row 3 1 (.slice ao l.length cap) l.length (l.map (Value.int .i64)) :: X) ∧ Below B w w' := by
  subst ha hl
  refine (Foreign_calls c w hs).mono ?_
  intro e w' h
  obtain ⟨v, rfl, h2, h3⟩ := h.at hH
  obtain ⟨ao, cap, rfl, _, _, _⟩ := h2.row_form [] _
  exact ⟨ao, cap, rfl, h2, h3⟩
theorem ImageArr (c : ConfS) {l : List Int} (hl : allC c 1 = l) {arr : Array Value} (ha : (confC c).toArray = arr) (w : World) {B : Nat} {X : List Asr} (hH : Has w B X) (hs : Src w c.a c.l) :
    Calls Try.prog 13 #[.agg arr] w fun e w' => ∃ ao cap, e = .returned (.slice ao l.length cap) ∧ Has w' B (row 3 1 (.slice ao l.length cap) l.length (l.map (Value.int .i64)) :: X) ∧ Below B w w' := by
  subst ha hl
  refine (Image_calls c w hs).mono ?_
  intro e w' h
  obtain ⟨v, rfl, h2, h3⟩ := h.at hH
  obtain ⟨ao, cap, rfl, _, _, _⟩ := h2.row_form [] _
  exact ⟨ao, cap, rfl, h2, h3⟩

theorem and7 {a b c d e f g h : Prop} (x : a ∧ b ∧ c ∧ d ∧ e ∧ f ∧ g) (y : h) : a ∧ b ∧ c ∧ d ∧ e ∧ f ∧ g ∧ h :=
  ⟨x.1, x.2.1, x.2.2.1, x.2.2.2.1, x.2.2.2.2.1, x.2.2.2.2.2.1, x.2.2.2.2.2.2, y⟩

/-- Is a frame one of those that the pool had? -/
def inB (first many f : Int) : Bool := decide (first ≤ f) && decide (f < first + many)
theorem pool_cnt {l : List Int} {first many m : Int} (f0 : 0 ≤ first) (m0 : 0 ≤ m) (m1 : m ≤ many) (hp : ∀ x ∈ l, ¬ poolP first many x) : ∀ k : Nat,
    (((frs l first m 0 k).countP (inB first many) : Nat) : Int) = max 0 (min many (k - first)) - max 0 (min m (k - first)) ∧ ((frs l first m 0 k).length : Int) = (frs l first many 0 k).length + ((frs l first m 0 k).countP (inB first many) : Nat)
  | 0 => by simp [frs_zero]; omega
  | k + 1 => by
    obtain ⟨ih1, ih2⟩ := pool_cnt f0 m0 m1 hp k
    rw [frs_succ, frs_succ, List.countP_append, List.length_append, List.length_append]
    by_cases hm : (k : Int) ∈ l
    · have h1 : ¬ ownI l first m k = 0 := by unfold ownI; rw [if_pos hm]; decide
      have h2 : ¬ ownI l first many k = 0 := by unfold ownI; rw [if_pos hm]; decide
      rw [if_neg h1, if_neg h2]
      have h3 := hp _ hm
      unfold poolP at h3
      simp
      omega
    · by_cases h3 : poolP first m k
      · have h1 : ¬ ownI l first m k = 0 := by unfold ownI; rw [if_neg hm, if_pos h3]; decide
        have h4 : poolP first many k := by unfold poolP at h3 ⊢; omega
        have h2 : ¬ ownI l first many k = 0 := by unfold ownI; rw [if_neg hm, if_pos h4]; decide
        rw [if_neg h1, if_neg h2]
        unfold poolP at h3
        simp
        omega
      · have h1 : ownI l first m k = 0 := by unfold ownI; rw [if_neg hm, if_neg h3]
        rw [if_pos h1]
        by_cases h4 : poolP first many k
        · have h2 : ¬ ownI l first many k = 0 := by unfold ownI; rw [if_neg hm, if_pos h4]; decide
          rw [if_neg h2]
          have h5 : inB first many k = true := by unfold inB; unfold poolP at h4; simp; omega
          unfold poolP at h3 h4
          simp [h5]
          omega
        · have h2 : ownI l first many k = 0 := by unfold ownI; rw [if_neg hm, if_neg h4]
          rw [if_pos h2]
          have h5 : inB first many k = false := by unfold inB; unfold poolP at h4; simp; omega
          unfold poolP at h3 h4
          simp [h5]
          omega
theorem pool_ok {c : ConfS} {m : Int} (h : okC c) (m0 : 0 ≤ m) (m1 : m ≤ c.many) : okC { c with many := m } := by
  obtain ⟨hg, ⟨f1, f2, f3, f4⟩, h3, h4, h5, h6, h7, h8, h9, h10⟩ := h
  exact ⟨hg, ⟨f1, m0, f3, by simp; omega⟩, by simp; omega, fun x hx hp => h4 x hx (by unfold poolP at hp ⊢; simp at hp; omega), h5, h6, h7, h8, h9, h10⟩
theorem pool_in {c : ConfS} {m : Int} (h : okC c) (m0 : 0 ≤ m) (m1 : m ≤ c.many) : (((allC { c with many := m } 0).countP (inB c.first c.many) : Nat) : Int) = c.many - m ∧ ((allC { c with many := m } 0).length : Int) = (allC c 0).length + (c.many - m) := by
  unfold allC
  rw [if_pos h, if_pos (pool_ok h m0 m1)]
  have h1 := h.f.1
  have h3 := h.h
  obtain ⟨q1, q2⟩ := pool_cnt h1 m0 m1 h.p c.host.toNat
  show (((frs c.l c.first m 0 c.host.toNat).countP (inB c.first c.many) : Nat) : Int) = _ ∧ ((frs c.l c.first m 0 c.host.toNat).length : Int) = _
  omega
theorem pool_image {c : ConfS} {m : Int} (h : okC c) (m0 : 0 ≤ m) (m1 : m ≤ c.many) : allC { c with many := m } 1 = allC c 1 := by
  unfold allC
  rw [if_pos h, if_pos (pool_ok h m0 m1)]
  exact frs_same _ _ _ _ _ _ _ _ (fun n _ => by
    show ownI c.l c.first m n = 1 ↔ ownI c.l c.first c.many n = 1
    unfold ownI
    by_cases hm : (n : Int) ∈ c.l
    · rw [if_pos hm, if_pos hm]
    · rw [if_neg hm, if_neg hm]
      split <;> split <;> simp)
theorem countP_take {p : Int → Bool} {l : List Int} {k : Nat} {x : Int} (h : l[k]? = some x) : (l.take (k + 1)).countP p = (l.take k).countP p + (if p x then 1 else 0) := by
  rw [List.take_add_one, h, List.countP_append]
  simp [List.countP_cons]

set_option maxHeartbeats 4000000 in
set_option maxRecDepth 100000 in
theorem ConfPool_walk (c : ConfS) (fw : Int) (w : World) (hc : ConfArg w c) (hfw : (Lit.int .u8 fw).wf = true) :
    Calls Try.prog 8 #[.agg (confC c).toArray, .int .u8 fw] w fun e w' => e = .returned (.bool true) ∧ Below w.heap.size w w' := by
  obtain ⟨i0, hi0, hz0, hz1, hz2⟩ := info_parts infoConf
  have hHz : Has w w.heap.size [] := Has.nil (Nat.le_refl _)
  have hH1 := hHz.newblk w.heap.size 24 (confC c).toArray rfl
  have hB1 := below_new (Below.refl _ w) hHz (.cells (confC c).toArray 24)
  have HS := hid hc.src
  have HW := hid hc.wf
  have hsm := hc.src.small
  have CH := hid (head_true _ _ _ hH1)
  obtain ⟨t0, t1⟩ := bounds_u8 hfw
  clear hfw
  clear hc hHz hH1
  go_enter Try.func8, Try.ntmps8
  go_wp2_with fail
  refine CH.out.mono ?_
  rintro e w1 ⟨_, rfl, hH2, hB2⟩
  have hH2 : Has w1 w.heap.size [blk w.heap.size 24 (confC c).toArray] := hH2
  have hB2 := hB1.trans hB2
  have c1 := hH2.cell [] _ 1 (v := .slice c.a c.l.length c.cap) rfl
  clear CH hB1
  by_cases hbig : 900 < c.l.length
  · have e1 : decide (900 < c.l.length) = true := decide_eq_true hbig
    have e2 : decide (900 < (c.l.length : Int)) = true := decide_eq_true (by omega)
    go_wp2_with fail
    go_ret
    exact ⟨rfl, hB2⟩
  have e1 : decide (900 < c.l.length) = false := decide_eq_false hbig
  have e2 : decide (900 < (c.l.length : Int)) = false := decide_eq_false (by omega)
  go_wp2_with (refine wpList_load_blk [] _ hH2 24 (.tmp 2) rfl rfl rfl _ Try.underlying24 rfl conf_size ?_)
  refine (keeps (Right_calls c w1 (HS.out.later hB2)) hH2).mono ?_
  rintro e w0 ⟨rfl, hH0, hB0⟩
  have hB0 := hB2.trans hB0
  clear hH2 hB2 c1 e1 e2
  by_cases hok : okC c
  rotate_left
  · rw [decide_eq_false hok]
    go_wp2_with fail
    go_ret
    exact ⟨rfl, hB0⟩
  rw [decide_eq_true hok]
  have HOK := hid hok
  obtain ⟨s0, hsz0⟩ : ∃ s0, w0.heap.size = s0 := ⟨_, rfl⟩
  clear hok
  have hr3 := HOK.out.g.2.2.1
  have hr4 := HOK.out.g.2.2.2.1
  have hf0 := HOK.out.f.1
  have hm0 := HOK.out.f.2.1
  have hm1 : c.many ≤ 256 := by have := HOK.out.f.1; have := HOK.out.f.2.2.2; omega
  have hfm : c.first + c.many ≤ 256 := by have := HOK.out.h; omega
  obtain ⟨m, hm⟩ : ∃ m, c.many - fw % (c.many + 1) = m := ⟨_, rfl⟩
  have q0 := Int.emod_nonneg fw (show c.many + 1 ≠ 0 by omega)
  have q1 := Int.emod_lt_of_pos fw (show 0 < c.many + 1 by omega)
  have m0 : 0 ≤ m := by omega
  have m1 : m ≤ c.many := by omega
  have htm : fw.tmod (c.many + 1) = fw % (c.many + 1) := Int.tmod_eq_emod_of_nonneg t0
  have hw1 : IntKind.i64.wrap fw = fw := IntWalk.i64_in _ (by omega)
  have hw2 : IntKind.i64.wrap (c.many + 1) = c.many + 1 := IntWalk.i64_in _ (by omega)
  have hw3 : IntKind.i64.wrap (fw.tmod (c.many + 1)) = fw.tmod (c.many + 1) := IntWalk.i64_in _ (by rw [htm]; omega)
  have hw4 : IntKind.i64.wrap (c.many - fw.tmod (c.many + 1)) = m := by rw [htm, hm]; exact IntWalk.i64_in _ (by omega)
  have hz5 : ¬ c.many + 1 = 0 := by omega
  have hz6 : (c.many + 1 == 0) = false := by rw [beq_eq_false_iff_ne]; omega
  have HTM := hid htm
  have HM := hid hm
  clear htm hm q0 q1
  have tok0 : True := trivial
  go_wp2_with (first
    | (refine wpList_load_blk [] _ hH0 24 (.tmp 2) rfl rfl rfl _ Try.underlying24 rfl conf_size ?_)
    | (have _t := tok0; refine wpList_store_all [] _ (hH0.newblk (s0) 24 confZ hsz0) 24 (.tmp 6) (.tmp 22) rfl rfl rfl (confC c).toArray rfl conf_size rfl (confC_one _) ?_; clear _t tok0; intro v0 hC0 bC0' hz; have bC0 := hB0.trans ((below_new (Below.refl _ _) hH0 _).trans bC0'); have zC0 : v0.heap.size = s0 + 1 := hz.trans (by simp [hsz0]); clear hz bC0'; have g3 := hC0.cell [_] _ 3 (v := .int .i64 c.many) rfl; have f3 := hC0.frozen [] _ 3; have k3 := hC0.cell [] _ 3 (v := .int .i64 c.many) rfl; have tok1 : True := trivial))
  refine wp_region_still_tail 10 (by kernel_rfl) (by kernel_rfl) ?_
  simp only [List.take_succ_cons, List.take_zero, List.drop_succ_cons, List.drop_zero]
  iterate 10 ((with_reducible refine wpStill_step (fun K hK => ?_)); go_simp; (with_reducible refine hK _ ?_); clear hK K)
  refine wpStill_nil ?_
  change wpList _ _ _ _ _ (World.drew _)
  have hE : Has (v0.drew.setCell ⟨s0, 3, none⟩ (.int .i64 m)) w.heap.size (blk s0 24 (confC { c with many := m }).toArray :: _) := (hC0.drew).set [] _ 3 (.int .i64 m)
  have bE : Below w.heap.size w (v0.drew.setCell ⟨s0, 3, none⟩ (.int .i64 m)) := below_set (bC0.drew) [] _ hC0.drew 3 (.int .i64 m)
  obtain ⟨la, hla⟩ : ∃ la, allC { c with many := m } 0 = la := ⟨_, rfl⟩
  obtain ⟨lc, hlc⟩ : ∃ lc, allC c 0 = lc := ⟨_, rfl⟩
  have hcnt := pool_in HOK.out m0 m1
  rw [hla, hlc] at hcnt
  obtain ⟨hc1, hc2⟩ := hcnt
  have hn0 : la.length ≤ 256 := by rw [← hla]; unfold allC; rw [if_pos (pool_ok HOK.out m0 m1)]; exact Nat.le_trans (frs_le _ _ _ _ _) (by show c.host.toNat ≤ 256; omega)
  have HLA := hid hla
  have HLC := hid hlc
  have HC1 := hid hc1
  have HC2 := hid hc2
  clear hla hlc hc1 hc2
  go_wp2_with (refine wpList_load_blk [] _ hE 24 (.tmp 6) rfl rfl rfl _ Try.underlying24 rfl conf_size ?_)
  refine (ForeignArr { c with many := m } HLA.out rfl _ hE (HS.out.later bE)).mono ?_
  rintro e x1 ⟨fa, fp, rfl, hF, bF⟩
  have bF := bE.trans bF
  clear hE bE g3 f3 k3 hw1 hw2 hw3 hw4 hz5 hz6
  go_wp2_with (refine wpList_load_blk [_, _] _ hF 24 (.tmp 2) rfl rfl rfl _ Try.underlying24 rfl conf_size ?_)
  refine (ForeignArr c HLC.out rfl _ hF (HS.out.later bF)).mono ?_
  rintro e x2 ⟨ga, gp, rfl, hG, bG⟩
  have bG := bF.trans bG
  have hG : Has x2 w.heap.size [row 3 1 (.slice ga lc.length gp) lc.length (lc.map (Value.int .i64)), row 3 1 (.slice fa la.length fp) la.length (la.map (Value.int .i64)), blk s0 24 (confC { c with many := m }).toArray, blk w.heap.size 24 (confC c).toArray] := hG
  clear hF bF
  have hlw : IntKind.i64.wrap (c.first + c.many) = c.first + c.many := IntWalk.i64_in _ (by omega)
  go_wp2_with fail
  go_loopg [9, 10] la.length (fun g n i wr => ∃ j : Nat, g + j = la.length ∧ n = .int .i64 ((la.take j).countP (inB c.first c.many) : Nat) ∧ i = .int .i64 j ∧ Has wr w.heap.size [row 3 1 (.slice ga lc.length gp) lc.length (lc.map (Value.int .i64)), row 3 1 (.slice fa la.length fp) la.length (la.map (Value.int .i64)), blk s0 24 (confC { c with many := m }).toArray, blk w.heap.size 24 (confC c).toArray] ∧ Below w.heap.size w wr)
  case atStart => exact ⟨0, by omega, rfl, rfl, hG, bG⟩
  case round =>
    obtain ⟨j, hj, rfl, rfl, hHr, hBr⟩ := hrel
    clear hG bG
    have hcl : (la.take j).countP (inB c.first c.many) ≤ la.length := Nat.le_trans (List.countP_le_length) (by simp; omega)
    have HJ := hid hj
    by_cases hlt : j < la.length
    · obtain ⟨x, hx⟩ : ∃ x, la[j]? = some x := ⟨_, List.getElem?_eq_getElem hlt⟩
      have hs := srci_row [_] _ hHr rfl
      obtain ⟨xb, xo, rfl, -, -⟩ := hs.mem (by omega)
      have cx := hs.at rfl hx
      have q2 := Has.cell [_, _, _] _ hHr 2 (v := .int .i64 c.first) rfl
      have q3 := Has.cell [_, _, _] _ hHr 3 (v := .int .i64 c.many) rfl
      have hst := countP_take (p := inB c.first c.many) hx
      have HST := hid hst
      clear hst hx hs hj
      by_cases h1 : c.first ≤ x
      · have e1 : decide (c.first ≤ x) = true := decide_eq_true h1
        by_cases h2 : x < c.first + c.many
        · have e2 : decide (x < c.first + c.many) = true := decide_eq_true h2
          have hin : inB c.first c.many x = true := by unfold inB; rw [e1, e2]; rfl
          have HIN := hid hin
          clear hin
          go_wp2_with fail
          go_quiet (fail)
          have hHq := hHr.drewN nq
          have hBq := below_drewNI hBr nq
          go_wp2_with fail
          go_roundg (gk - 1)
          case measure => have := HJ.out; omega
          case rel => exact ⟨j + 1, by have := HJ.out; omega, by rw [HST.out, HIN.out]; go_num, by go_num, hHq, hBq⟩
        · have e2 : decide (x < c.first + c.many) = false := decide_eq_false h2
          have hin : inB c.first c.many x = false := by unfold inB; rw [e1, e2]; rfl
          have HIN := hid hin
          clear hin
          go_wp2_with fail
          go_quiet (fail)
          have hHq := hHr.drewN nq
          have hBq := below_drewNI hBr nq
          go_wp2_with fail
          go_roundg (gk - 1)
          case measure => have := HJ.out; omega
          case rel => exact ⟨j + 1, by have := HJ.out; omega, by rw [HST.out, HIN.out]; rfl, by go_num, hHq, hBq⟩
      · have e1 : decide (c.first ≤ x) = false := decide_eq_false h1
        have hin : inB c.first c.many x = false := by unfold inB; rw [e1]; rfl
        have HIN := hid hin
        clear hin
        go_wp2_with fail
        go_quiet (fail)
        have hHq := hHr.drewN nq
        have hBq := below_drewNI hBr nq
        go_wp2_with fail
        go_roundg (gk - 1)
        case measure => have := HJ.out; omega
        case rel => exact ⟨j + 1, by have := HJ.out; omega, by rw [HST.out, HIN.out]; rfl, by go_num, hHq, hBq⟩
    · obtain rfl : j = la.length := by omega
      rw [List.take_length] at hcl ⊢
      obtain ⟨cn, hcn⟩ : ∃ cn, la.countP (inB c.first c.many) = cn := ⟨_, rfl⟩
      have hc1 := HC1.out
      have hc2 := HC2.out
      rw [hcn] at hc1 hcl ⊢
      have w1' : IntKind.i64.wrap (c.many - m) = c.many - m := IntWalk.i64_in _ (by omega)
      have w2' : IntKind.i64.wrap ((lc.length : Int) + (cn : Int)) = (lc.length : Int) + (cn : Int) := IntWalk.i64_in _ (by omega)
      have e1 : ((cn : Int) == c.many - m) = true := by rw [beq_iff_eq]; exact hc1
      have e2 : ((la.length : Int) == (lc.length : Int) + (cn : Int)) = true := by rw [beq_iff_eq]; omega
      have hE0 := hHr.drew
      have bE0 : Below w.heap.size w _ := hBr.drew
      have sE0 : (World.drew _).cell? ⟨s0, 0, none⟩ = some (.int .i64 c.host) ∧ (World.drew _).cell? ⟨s0, 1, none⟩ = some (.slice c.a c.l.length c.cap) ∧ (World.drew _).cell? ⟨s0, 2, none⟩ = some (.int .i64 c.first) ∧ (World.drew _).cell? ⟨s0, 3, none⟩ = some (.int .i64 m) ∧ (World.drew _).cell? ⟨s0, 4, none⟩ = some (.int .i64 c.tlb) ∧ (World.drew _).cell? ⟨s0, 5, none⟩ = some (.int .i64 c.asids) ∧ (World.drew _).cell? ⟨s0, 6, none⟩ = some (.int .i64 c.root) ∧ (World.drew _).cell? ⟨w.heap.size, 0, none⟩ = some (.int .i64 c.host) ∧ (World.drew _).cell? ⟨w.heap.size, 1, none⟩ = some (.slice c.a c.l.length c.cap) ∧ (World.drew _).cell? ⟨w.heap.size, 2, none⟩ = some (.int .i64 c.first) ∧ (World.drew _).cell? ⟨w.heap.size, 3, none⟩ = some (.int .i64 c.many) ∧ (World.drew _).cell? ⟨w.heap.size, 4, none⟩ = some (.int .i64 c.tlb) ∧ (World.drew _).cell? ⟨w.heap.size, 5, none⟩ = some (.int .i64 c.asids) ∧ (World.drew _).cell? ⟨w.heap.size, 6, none⟩ = some (.int .i64 c.root) := and7 (conf_cells [_, _] _ hE0) (conf_cells [_, _, _] _ hE0)
      obtain ⟨li, hli⟩ : ∃ li, allC c 1 = li := ⟨_, rfl⟩
      have hli2 := (pool_image HOK.out m0 m1).trans hli
      have hra := decide_eq_true (pool_ok HOK.out m0 m1)
      have HRA := hid hra
      have HLI := hid hli
      have HLJ := hid hli2
      clear hra hli hli2 hcn hc1 hc2 hj hlt HJ HC1 HC2 hHr hBr
      go_wp2_with fail
      go_region_held3 (fun U => U.cell? ⟨s0, 0, none⟩ = some (.int .i64 c.host) ∧ U.cell? ⟨s0, 1, none⟩ = some (.slice c.a c.l.length c.cap) ∧ U.cell? ⟨s0, 2, none⟩ = some (.int .i64 c.first) ∧ U.cell? ⟨s0, 3, none⟩ = some (.int .i64 m) ∧ U.cell? ⟨s0, 4, none⟩ = some (.int .i64 c.tlb) ∧ U.cell? ⟨s0, 5, none⟩ = some (.int .i64 c.asids) ∧ U.cell? ⟨s0, 6, none⟩ = some (.int .i64 c.root) ∧ U.cell? ⟨w.heap.size, 0, none⟩ = some (.int .i64 c.host) ∧ U.cell? ⟨w.heap.size, 1, none⟩ = some (.slice c.a c.l.length c.cap) ∧ U.cell? ⟨w.heap.size, 2, none⟩ = some (.int .i64 c.first) ∧ U.cell? ⟨w.heap.size, 3, none⟩ = some (.int .i64 c.many) ∧ U.cell? ⟨w.heap.size, 4, none⟩ = some (.int .i64 c.tlb) ∧ U.cell? ⟨w.heap.size, 5, none⟩ = some (.int .i64 c.asids) ∧ U.cell? ⟨w.heap.size, 6, none⟩ = some (.int .i64 c.root))
        (with_reducible first | exact sE4 | exact sE3 | exact sE2 | exact sE1 | exact sE0)
        (first
          | (go_at_call 10; (with_reducible refine (RightArr { c with many := m } HRA.out (arr := #[.int .i64 c.host, .slice c.a c.l.length c.cap, .int .i64 c.first, .int .i64 m, .int .i64 c.tlb, .int .i64 c.asids, .int .i64 c.root]) rfl _ hE0 (HS.out.later bE0)).mono ?_); rintro e y1 ⟨rfl, hE1, bE1⟩; have bE1 := bE0.trans bE1; have sE1 : y1.cell? ⟨s0, 0, none⟩ = some (.int .i64 c.host) ∧ y1.cell? ⟨s0, 1, none⟩ = some (.slice c.a c.l.length c.cap) ∧ y1.cell? ⟨s0, 2, none⟩ = some (.int .i64 c.first) ∧ y1.cell? ⟨s0, 3, none⟩ = some (.int .i64 m) ∧ y1.cell? ⟨s0, 4, none⟩ = some (.int .i64 c.tlb) ∧ y1.cell? ⟨s0, 5, none⟩ = some (.int .i64 c.asids) ∧ y1.cell? ⟨s0, 6, none⟩ = some (.int .i64 c.root) ∧ y1.cell? ⟨w.heap.size, 0, none⟩ = some (.int .i64 c.host) ∧ y1.cell? ⟨w.heap.size, 1, none⟩ = some (.slice c.a c.l.length c.cap) ∧ y1.cell? ⟨w.heap.size, 2, none⟩ = some (.int .i64 c.first) ∧ y1.cell? ⟨w.heap.size, 3, none⟩ = some (.int .i64 c.many) ∧ y1.cell? ⟨w.heap.size, 4, none⟩ = some (.int .i64 c.tlb) ∧ y1.cell? ⟨w.heap.size, 5, none⟩ = some (.int .i64 c.asids) ∧ y1.cell? ⟨w.heap.size, 6, none⟩ = some (.int .i64 c.root) := and7 (conf_cells [_, _] _ hE1) (conf_cells [_, _, _] _ hE1))
          | (go_at_call 13; (with_reducible refine (ImageArr { c with many := m } HLJ.out (arr := #[.int .i64 c.host, .slice c.a c.l.length c.cap, .int .i64 c.first, .int .i64 m, .int .i64 c.tlb, .int .i64 c.asids, .int .i64 c.root]) rfl _ hE1 (HS.out.later bE1)).mono ?_); rintro e y2 ⟨ia, ip, rfl, hE2, bE2⟩; have bE2 := bE1.trans bE2; have sE2 : y2.cell? ⟨s0, 0, none⟩ = some (.int .i64 c.host) ∧ y2.cell? ⟨s0, 1, none⟩ = some (.slice c.a c.l.length c.cap) ∧ y2.cell? ⟨s0, 2, none⟩ = some (.int .i64 c.first) ∧ y2.cell? ⟨s0, 3, none⟩ = some (.int .i64 m) ∧ y2.cell? ⟨s0, 4, none⟩ = some (.int .i64 c.tlb) ∧ y2.cell? ⟨s0, 5, none⟩ = some (.int .i64 c.asids) ∧ y2.cell? ⟨s0, 6, none⟩ = some (.int .i64 c.root) ∧ y2.cell? ⟨w.heap.size, 0, none⟩ = some (.int .i64 c.host) ∧ y2.cell? ⟨w.heap.size, 1, none⟩ = some (.slice c.a c.l.length c.cap) ∧ y2.cell? ⟨w.heap.size, 2, none⟩ = some (.int .i64 c.first) ∧ y2.cell? ⟨w.heap.size, 3, none⟩ = some (.int .i64 c.many) ∧ y2.cell? ⟨w.heap.size, 4, none⟩ = some (.int .i64 c.tlb) ∧ y2.cell? ⟨w.heap.size, 5, none⟩ = some (.int .i64 c.asids) ∧ y2.cell? ⟨w.heap.size, 6, none⟩ = some (.int .i64 c.root) := and7 (conf_cells [_, _, _] _ hE2) (conf_cells [_, _, _, _] _ hE2))
          | (go_at_call 13; (with_reducible refine (ImageArr c HLI.out (arr := #[.int .i64 c.host, .slice c.a c.l.length c.cap, .int .i64 c.first, .int .i64 c.many, .int .i64 c.tlb, .int .i64 c.asids, .int .i64 c.root]) rfl _ hE2 (HS.out.later bE2)).mono ?_); rintro e y3 ⟨ja, jp, rfl, hE3, bE3⟩; have bE3 := bE2.trans bE3; have sE3 : y3.cell? ⟨s0, 0, none⟩ = some (.int .i64 c.host) ∧ y3.cell? ⟨s0, 1, none⟩ = some (.slice c.a c.l.length c.cap) ∧ y3.cell? ⟨s0, 2, none⟩ = some (.int .i64 c.first) ∧ y3.cell? ⟨s0, 3, none⟩ = some (.int .i64 m) ∧ y3.cell? ⟨s0, 4, none⟩ = some (.int .i64 c.tlb) ∧ y3.cell? ⟨s0, 5, none⟩ = some (.int .i64 c.asids) ∧ y3.cell? ⟨s0, 6, none⟩ = some (.int .i64 c.root) ∧ y3.cell? ⟨w.heap.size, 0, none⟩ = some (.int .i64 c.host) ∧ y3.cell? ⟨w.heap.size, 1, none⟩ = some (.slice c.a c.l.length c.cap) ∧ y3.cell? ⟨w.heap.size, 2, none⟩ = some (.int .i64 c.first) ∧ y3.cell? ⟨w.heap.size, 3, none⟩ = some (.int .i64 c.many) ∧ y3.cell? ⟨w.heap.size, 4, none⟩ = some (.int .i64 c.tlb) ∧ y3.cell? ⟨w.heap.size, 5, none⟩ = some (.int .i64 c.asids) ∧ y3.cell? ⟨w.heap.size, 6, none⟩ = some (.int .i64 c.root) := and7 (conf_cells [_, _, _, _] _ hE3) (conf_cells [_, _, _, _, _] _ hE3))
          | (go_at_call 12; (with_reducible refine (keeps (SameInts_calls ia ja ip jp li li y3 (srci_row [_] _ hE3 rfl) (srci_row [] _ hE3 rfl)) hE3).mono ?_); rintro e y4 ⟨rfl, hE4, bE4⟩; rw [show (li == li) = true from by simp]; have bE4 := bE3.trans bE4; have sE4 : y4.cell? ⟨s0, 0, none⟩ = some (.int .i64 c.host) ∧ y4.cell? ⟨s0, 1, none⟩ = some (.slice c.a c.l.length c.cap) ∧ y4.cell? ⟨s0, 2, none⟩ = some (.int .i64 c.first) ∧ y4.cell? ⟨s0, 3, none⟩ = some (.int .i64 m) ∧ y4.cell? ⟨s0, 4, none⟩ = some (.int .i64 c.tlb) ∧ y4.cell? ⟨s0, 5, none⟩ = some (.int .i64 c.asids) ∧ y4.cell? ⟨s0, 6, none⟩ = some (.int .i64 c.root) ∧ y4.cell? ⟨w.heap.size, 0, none⟩ = some (.int .i64 c.host) ∧ y4.cell? ⟨w.heap.size, 1, none⟩ = some (.slice c.a c.l.length c.cap) ∧ y4.cell? ⟨w.heap.size, 2, none⟩ = some (.int .i64 c.first) ∧ y4.cell? ⟨w.heap.size, 3, none⟩ = some (.int .i64 c.many) ∧ y4.cell? ⟨w.heap.size, 4, none⟩ = some (.int .i64 c.tlb) ∧ y4.cell? ⟨w.heap.size, 5, none⟩ = some (.int .i64 c.asids) ∧ y4.cell? ⟨w.heap.size, 6, none⟩ = some (.int .i64 c.root) := and7 (conf_cells [_, _, _, _] _ hE4) (conf_cells [_, _, _, _, _] _ hE4)))
      all_goals (
        go_wp2_with fail
        go_ret
        exact ⟨rfl, bE4⟩)

end Go.Proofs.Ytkgijfodjmkhgaa
