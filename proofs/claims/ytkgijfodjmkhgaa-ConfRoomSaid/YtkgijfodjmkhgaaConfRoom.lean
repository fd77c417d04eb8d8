/-
  ConfRoom: a host with one frame more is as right, and has one foreign frame more; no frame is needed for shadow pages.
-/
import Derived.Test.YtkgijfodjmkhgaaConfArgs
import Derived.Deep.RegionHeld3
import Derived.StillTailTactics
namespace Go.Proofs.Ytkgijfodjmkhgaa
open Go.RowKit
set_option linter.unusedVariables false
set_option linter.unusedSimpArgs false

/-- One frame more of the host's: as many of a kind more as that one is. -/
theorem room_up {c : ConfS} (h : okC c) (hh : c.host < 256) : okC { c with host := c.host + 1 } := by
  obtain ⟨⟨g1, g2, g3, g4, g5, g6⟩, hf, h3, h4, h5, h6, h7, h8, h9, h10⟩ := h
  exact ⟨⟨g1, g2, by simp; omega, by simp; omega, fun x hx => by have := g5 x hx; simp; omega, g6⟩, hf, by simp; omega, h4, h5, h6, h7, h8, h9, h10⟩
theorem room_no {c : ConfS} (h : okC c) (hh : ¬ c.host < 256) : ¬ okC { c with host := c.host + 1 } := fun h2 => by
  have := h2.g.2.2.2.1
  simp at this
  omega
theorem room_is {c : ConfS} (h : okC c) : decide (okC { c with host := c.host + 1 }) = decide (c.host < 256) := by
  by_cases hh : c.host < 256
  · rw [decide_eq_true hh, decide_eq_true (room_up h hh)]
  · rw [decide_eq_false hh, decide_eq_false (room_no h hh)]
theorem room_none {c : ConfS} (h : okC c) : okC { c with many := 0 } := by
  obtain ⟨hg, ⟨f1, f2, f3, f4⟩, h3, h4, h5, h6, h7, h8, h9, h10⟩ := h
  exact ⟨hg, ⟨f1, by simp, f3, by simp; omega⟩, by simp; omega, fun x hx hp => by have := hp.2; simp at this; have := hp.1; simp at this; omega, h5, h6, h7, h8, h9, h10⟩
theorem room_len {c : ConfS} (h : okC c) (hh : c.host < 256) : (allC { c with host := c.host + 1 } 0).length = (allC c 0).length + 1 := by
  unfold allC
  rw [if_pos h, if_pos (room_up h hh)]
  obtain ⟨n, hn⟩ : ∃ n : Nat, c.host = n := ⟨c.host.toNat, by have := h.g.2.2.1; omega⟩
  show (frs c.l c.first c.many 0 (c.host + 1).toNat).length = (frs c.l c.first c.many 0 c.host.toNat).length + 1
  have e : (c.host + 1).toNat = c.host.toNat + 1 := by omega
  rw [e, frs_succ, if_pos, List.length_append]
  · rfl
  · unfold ownI
    rw [if_neg, if_neg]
    · intro hp
      have := hp.2
      have := h.h
      omega
    · intro hm
      have := (h.g.2.2.2.2.1 _ hm).2
      omega
/-- The frames of the pool, among those below k. -/
theorem room_cnt {l : List Int} {first many : Int} (f0 : 0 ≤ first) (m0 : 0 ≤ many) (hp : ∀ x ∈ l, ¬ poolP first many x) : ∀ k : Nat, ((frs l first 0 0 k).length : Int) = (frs l first many 0 k).length + max 0 (min many (k - first))
  | 0 => by simp [frs_zero]; omega
  | k + 1 => by
    have ih := room_cnt f0 m0 hp k
    rw [frs_succ, frs_succ, List.length_append, List.length_append]
    by_cases hm : (k : Int) ∈ l
    · have h1 : ¬ ownI l first 0 k = 0 := by unfold ownI; rw [if_pos hm]; decide
      have h2 : ¬ ownI l first many k = 0 := by unfold ownI; rw [if_pos hm]; decide
      rw [if_neg h1, if_neg h2]
      have h3 := hp _ hm
      unfold poolP at h3
      simp
      omega
    · have h1 : ownI l first 0 k = 0 := by unfold ownI; rw [if_neg hm, if_neg]; unfold poolP; omega
      rw [if_pos h1]
      by_cases h3 : poolP first many k
      · have h2 : ¬ ownI l first many k = 0 := by unfold ownI; rw [if_neg hm, if_pos h3]; decide
        rw [if_neg h2]
        unfold poolP at h3
        simp
        omega
      · have h2 : ownI l first many k = 0 := by unfold ownI; rw [if_neg hm, if_neg h3]
        rw [if_pos h2]
        unfold poolP at h3
        simp
        omega
theorem room_zero {c : ConfS} (h : okC c) : ((allC { c with many := 0 } 0).length : Int) = (allC c 0).length + c.many := by
  unfold allC
  rw [if_pos h, if_pos (room_none h)]
  show ((frs c.l c.first 0 0 c.host.toNat).length : Int) = (frs c.l c.first c.many 0 c.host.toNat).length + c.many
  have h1 := h.f.1
  have h2 := h.f.2.1
  have h3 := h.h
  rw [room_cnt h1 h2 h.p]
  omega

/-- Right, Image and Foreign at a machine written out. -/
theorem RightArr (c : ConfS) {b : Bool} (hb : decide (okC c) = b) {arr : Array Value} (ha : (confC c).toArray = arr) (w : World) {B : Nat} {X : List Asr} (hH : Has w B X) (hs : Src w c.a c.l) :
    Calls Try.prog 10 #[.agg arr] w fun e w' => e = .returned (.bool b) ∧ Has w' B X ∧ Below B w w' := by
  subst ha
  exact RightIs c hb w hH hs
theorem ForeignArr (c : ConfS) {l : List Int} (hl : allC c 0 = l) {arr : Array Value} (ha : (confC c).toArray = arr) (w : World) {B : Nat} {X : List Asr} (hH : Has w B X) (hs : Src w c.a c.l) :
    Calls Try.prog 15 #[.agg arr] w fun e w' => ∃ ao cap, e = .returned (.slice ao l.length cap) ∧ Has w' B (row 3 1 (.slice ao l.length cap) l.length (l.map (Value.int .i64)) :: X) ∧ Below B w w' := by
  subst ha hl
  refine (Foreign_calls c w hs).mono ?_
  intro e w' h
  obtain ⟨v, rfl, h2, h3⟩ := h.at hH
  obtain ⟨ao, cap, rfl, _, _, _⟩ := h2.row_form [] _
  exact ⟨ao, cap, rfl, h2, h3⟩
theorem ImageArr (c : ConfS) {l : List Int} (hl : allC c 1 = l) {arr : Array Value} (ha : (confC c).toArray = arr) (w : World) {B : Nat} {X : List Asr} (hH : Has w B X) (hs : Src w c.a c.l) :
    Calls Try.prog 13 #[.agg arr] w fun e w' => ∃ ao cap, e = .returned (.slice ao l.length cap) ∧ Has w' B (row 3 1 (.slice ao l.length cap) l.length (l.map (Value.int .i64)) :: X) ∧ Below B w w' := by
  subst ha hl
  refine (Image_calls c w hs).mono ?_
  intro e w' h
  obtain ⟨v, rfl, h2, h3⟩ := h.at hH
  obtain ⟨ao, cap, rfl, _, _, _⟩ := h2.row_form [] _
  exact ⟨ao, cap, rfl, h2, h3⟩

theorem and7 {a b c d e f g h : Prop} (x : a ∧ b ∧ c ∧ d ∧ e ∧ f ∧ g) (y : h) : a ∧ b ∧ c ∧ d ∧ e ∧ f ∧ g ∧ h :=
  ⟨x.1, x.2.1, x.2.2.1, x.2.2.2.1, x.2.2.2.2.1, x.2.2.2.2.2.1, x.2.2.2.2.2.2, y⟩

set_option maxHeartbeats 4000000 in
set_option maxRecDepth 100000 in
theorem ConfRoom_walk (c : ConfS) (w : World) (hc : ConfArg w c) :
    Calls Try.prog 6 #[.agg (confC c).toArray] w fun e w' => e = .returned (.bool true) ∧ Below w.heap.size w w' := by
  obtain ⟨i0, hi0, hz0, hz1, hz2⟩ := info_parts infoConf
  have hHz : Has w w.heap.size [] := Has.nil (Nat.le_refl _)
  have hH1 := hHz.newblk w.heap.size 24 (confC c).toArray rfl
  have hB1 := below_new (Below.refl _ w) hHz (.cells (confC c).toArray 24)
  have HS := hid hc.src
  have HW := hid hc.wf
  have hsm := hc.src.small
  have CH := hid (head_true _ _ _ hH1)
  clear hc hHz hH1
  go_enter Try.func6, Try.ntmps6
  go_wp2_with fail
  refine CH.out.mono ?_
  rintro e w1 ⟨_, rfl, hH2, hB2⟩
  have hH2 : Has w1 w.heap.size [blk w.heap.size 24 (confC c).toArray] := hH2
  have hB2 := hB1.trans hB2
  have c1 := hH2.cell [] _ 1 (v := .slice c.a c.l.length c.cap) rfl
  clear CH hB1
  by_cases hbig : 900 < c.l.length
  · have e1 : decide (900 < c.l.length) = true := decide_eq_true hbig
    have e2 : decide (900 < (c.l.length : Int)) = true := decide_eq_true (by omega)
    go_wp2_with fail
    go_ret
    exact ⟨rfl, hB2⟩
  have e1 : decide (900 < c.l.length) = false := decide_eq_false hbig
  have e2 : decide (900 < (c.l.length : Int)) = false := decide_eq_false (by omega)
  go_wp2_with (refine wpList_load_blk [] _ hH2 24 (.tmp 1) rfl rfl rfl _ Try.underlying24 rfl conf_size ?_)
  refine (keeps (Right_calls c w1 (HS.out.later hB2)) hH2).mono ?_
  rintro e w0 ⟨rfl, hH0, hB0⟩
  have hB0 := hB2.trans hB0
  clear hH2 hB2 c1 e1 e2
  by_cases hok : okC c
  rotate_left
  · rw [decide_eq_false hok]
    go_wp2_with fail
    go_ret
    exact ⟨rfl, hB0⟩
  rw [decide_eq_true hok]
  have HOK := hid hok
  obtain ⟨s0, hsz0⟩ : ∃ s0, w0.heap.size = s0 := ⟨_, rfl⟩
  clear hok
  have hr3 := HOK.out.g.2.2.1
  have hr4 := HOK.out.g.2.2.2.1
  have hm0 := HOK.out.f.2.1
  have hm1 : c.many ≤ 256 := by have := HOK.out.f.1; have := HOK.out.f.2.2.2; omega
  have u0 := hH0.cell [] _ 0 (v := .int .i64 c.host) rfl
  have tok0 : True := trivial
  go_wp2_with (first
    | (refine wpList_load_blk [] _ hH0 24 (.tmp 1) rfl rfl rfl _ Try.underlying24 rfl conf_size ?_)
    | (have _t := tok0; refine wpList_store_all [] _ (hH0.newblk (s0) 24 confZ hsz0) 24 (.tmp 4) (.tmp 17) rfl rfl rfl (confC c).toArray rfl conf_size rfl (confC_one _) ?_; clear _t tok0; intro v0 hC0 bC0' hz; have bC0 := hB0.trans ((below_new (Below.refl _ _) hH0 _).trans bC0'); have zC0 : v0.heap.size = s0 + 1 := hz.trans (by simp [hsz0]); clear hz bC0'; have g0 := hC0.cell [_] _ 0 (v := .int .i64 c.host) rfl; have f0_0 := hC0.frozen [] _ 0; have k0_0 := hC0.cell [] _ 0 (v := .int .i64 c.host) rfl; have hC0_0 : Has (v0.setCell ⟨s0, 0, none⟩ (.int .i64 (c.host + 1))) w.heap.size (blk (s0) 24 (confC { c with host := c.host + 1 }).toArray :: _) := hC0.set [] _ 0 (.int .i64 (c.host + 1)); have bC0_0 := below_set bC0 [] _ hC0 0 (.int .i64 (c.host + 1)); have zC0_0 : (v0.setCell ⟨s0, 0, none⟩ (.int .i64 (c.host + 1))).heap.size = s0 + 1 := (by simp [zC0]); have tok1 : True := trivial)
    | (refine wpList_load_blk [_] _ hC0_0 24 (.tmp 1) rfl rfl rfl _ Try.underlying24 rfl conf_size ?_)
    | (have _t := tok1; refine wpList_store_all [] _ (hC0_0.newblk (s0 + 1) 24 confZ zC0_0) 24 (.tmp 5) (.tmp 22) rfl rfl rfl (confC c).toArray rfl conf_size rfl (confC_one _) ?_; clear _t tok1; intro v1 hC1 bC1' hz; have bC1 := bC0_0.trans ((below_new (Below.refl _ _) hC0_0 _).trans bC1'); have zC1 : v1.heap.size = s0 + 2 := hz.trans (by simp [zC0_0, zC0, zC0_0]); clear hz bC1'; have f1_0 := hC1.frozen [] _ 3; have k1_0 := hC1.cell [] _ 3 (v := .int .i64 c.many) rfl; have hC1_0 : Has (v1.setCell ⟨s0 + 1, 3, none⟩ (.int .i64 0)) w.heap.size (blk (s0 + 1) 24 (confC { c with many := 0 }).toArray :: _) := hC1.set [] _ 3 (.int .i64 0); have bC1_0 := below_set bC1 [] _ hC1 3 (.int .i64 0); have zC1_0 : (v1.setCell ⟨s0 + 1, 3, none⟩ (.int .i64 0)).heap.size = s0 + 2 := (by simp [zC1]); have tok2 : True := trivial))
  have hE0 := hC1_0.drew
  have bE0 : Below w.heap.size w _ := bC1_0.drew
  have sE0 : (World.drew _).cell? ⟨w.heap.size, 0, none⟩ = some (.int .i64 c.host) ∧ (World.drew _).cell? ⟨w.heap.size, 1, none⟩ = some (.slice c.a c.l.length c.cap) ∧ (World.drew _).cell? ⟨w.heap.size, 2, none⟩ = some (.int .i64 c.first) ∧ (World.drew _).cell? ⟨w.heap.size, 3, none⟩ = some (.int .i64 c.many) ∧ (World.drew _).cell? ⟨w.heap.size, 4, none⟩ = some (.int .i64 c.tlb) ∧ (World.drew _).cell? ⟨w.heap.size, 5, none⟩ = some (.int .i64 c.asids) ∧ (World.drew _).cell? ⟨w.heap.size, 6, none⟩ = some (.int .i64 c.root) ∧ (World.drew _).cell? ⟨s0, 0, none⟩ = some (.int .i64 (c.host + 1)) ∧ (World.drew _).cell? ⟨s0, 1, none⟩ = some (.slice c.a c.l.length c.cap) ∧ (World.drew _).cell? ⟨s0, 2, none⟩ = some (.int .i64 c.first) ∧ (World.drew _).cell? ⟨s0, 3, none⟩ = some (.int .i64 c.many) ∧ (World.drew _).cell? ⟨s0, 4, none⟩ = some (.int .i64 c.tlb) ∧ (World.drew _).cell? ⟨s0, 5, none⟩ = some (.int .i64 c.asids) ∧ (World.drew _).cell? ⟨s0, 6, none⟩ = some (.int .i64 c.root) ∧ (World.drew _).cell? ⟨s0 + 1, 0, none⟩ = some (.int .i64 c.host) ∧ (World.drew _).cell? ⟨s0 + 1, 1, none⟩ = some (.slice c.a c.l.length c.cap) ∧ (World.drew _).cell? ⟨s0 + 1, 2, none⟩ = some (.int .i64 c.first) ∧ (World.drew _).cell? ⟨s0 + 1, 3, none⟩ = some (.int .i64 0) ∧ (World.drew _).cell? ⟨s0 + 1, 4, none⟩ = some (.int .i64 c.tlb) ∧ (World.drew _).cell? ⟨s0 + 1, 5, none⟩ = some (.int .i64 c.asids) ∧ (World.drew _).cell? ⟨s0 + 1, 6, none⟩ = some (.int .i64 c.root) := and7 (conf_cells [_, _] _ hE0) (and7 (conf_cells [_] _ hE0) (conf_cells [] _ hE0))
  obtain ⟨lc, hlc⟩ : ∃ lc, allC c 0 = lc := ⟨_, rfl⟩
  obtain ⟨lb, hlb⟩ : ∃ lb, allC { c with many := 0 } 0 = lb := ⟨_, rfl⟩
  have hb := room_zero HOK.out
  rw [hlc, hlb] at hb
  have hn0 : lc.length ≤ 256 := by rw [← hlc]; unfold allC; rw [if_pos HOK.out]; exact Nat.le_trans (frs_le _ _ _ _ _) (by omega)
  have wb : IntKind.i64.wrap ((lc.length : Int) + c.many) = (lc.length : Int) + c.many := IntWalk.i64_in _ (by omega)
  have eb : ((lb.length : Int) == (lc.length : Int) + c.many) = true := by rw [beq_iff_eq]; exact hb
  have HLC := hid hlc
  have HLB := hid hlb
  clear hlc hlb hb
  by_cases hh : c.host < 256
  · have e1 : decide (c.host < 256) = true := decide_eq_true hh
    have e2 : (c.host == 256) = false := by rw [beq_eq_false_iff_ne]; omega
    obtain ⟨la, hla⟩ : ∃ la, allC { c with host := c.host + 1 } 0 = la := ⟨_, rfl⟩
    have ha := room_len HOK.out hh
    rw [hla, HLC.out] at ha
    have wa : IntKind.i64.wrap ((lc.length : Int) + 1) = (lc.length : Int) + 1 := IntWalk.i64_in _ (by omega)
    have ea : ((la.length : Int) == (lc.length : Int) + 1) = true := by rw [beq_iff_eq]; omega
    have hra := (room_is HOK.out).trans e1
    have hrb := decide_eq_true (room_none HOK.out)
    have HRA := hid hra
    have HRB := hid hrb
    have HLA := hid hla
    clear hla ha hra hrb hh
    go_region_held3 (fun U => U.cell? ⟨w.heap.size, 0, none⟩ = some (.int .i64 c.host) ∧ U.cell? ⟨w.heap.size, 1, none⟩ = some (.slice c.a c.l.length c.cap) ∧ U.cell? ⟨w.heap.size, 2, none⟩ = some (.int .i64 c.first) ∧ U.cell? ⟨w.heap.size, 3, none⟩ = some (.int .i64 c.many) ∧ U.cell? ⟨w.heap.size, 4, none⟩ = some (.int .i64 c.tlb) ∧ U.cell? ⟨w.heap.size, 5, none⟩ = some (.int .i64 c.asids) ∧ U.cell? ⟨w.heap.size, 6, none⟩ = some (.int .i64 c.root) ∧ U.cell? ⟨s0, 0, none⟩ = some (.int .i64 (c.host + 1)) ∧ U.cell? ⟨s0, 1, none⟩ = some (.slice c.a c.l.length c.cap) ∧ U.cell? ⟨s0, 2, none⟩ = some (.int .i64 c.first) ∧ U.cell? ⟨s0, 3, none⟩ = some (.int .i64 c.many) ∧ U.cell? ⟨s0, 4, none⟩ = some (.int .i64 c.tlb) ∧ U.cell? ⟨s0, 5, none⟩ = some (.int .i64 c.asids) ∧ U.cell? ⟨s0, 6, none⟩ = some (.int .i64 c.root) ∧ U.cell? ⟨s0 + 1, 0, none⟩ = some (.int .i64 c.host) ∧ U.cell? ⟨s0 + 1, 1, none⟩ = some (.slice c.a c.l.length c.cap) ∧ U.cell? ⟨s0 + 1, 2, none⟩ = some (.int .i64 c.first) ∧ U.cell? ⟨s0 + 1, 3, none⟩ = some (.int .i64 0) ∧ U.cell? ⟨s0 + 1, 4, none⟩ = some (.int .i64 c.tlb) ∧ U.cell? ⟨s0 + 1, 5, none⟩ = some (.int .i64 c.asids) ∧ U.cell? ⟨s0 + 1, 6, none⟩ = some (.int .i64 c.root))
      (with_reducible first | exact sE6 | exact sE5 | exact sE4 | exact sE3 | exact sE2 | exact sE1 | exact sE0)
      (first
        | (go_at_call 10; (with_reducible refine (RightArr { c with host := c.host + 1 } HRA.out (arr := #[.int .i64 (c.host + 1), .slice c.a c.l.length c.cap, .int .i64 c.first, .int .i64 c.many, .int .i64 c.tlb, .int .i64 c.asids, .int .i64 c.root]) rfl _ hE0 (HS.out.later bE0)).mono ?_); rintro e w31 ⟨rfl, hE1, bE1⟩; have bE1 := bE0.trans bE1; have sE1 : w31.cell? ⟨w.heap.size, 0, none⟩ = some (.int .i64 c.host) ∧ w31.cell? ⟨w.heap.size, 1, none⟩ = some (.slice c.a c.l.length c.cap) ∧ w31.cell? ⟨w.heap.size, 2, none⟩ = some (.int .i64 c.first) ∧ w31.cell? ⟨w.heap.size, 3, none⟩ = some (.int .i64 c.many) ∧ w31.cell? ⟨w.heap.size, 4, none⟩ = some (.int .i64 c.tlb) ∧ w31.cell? ⟨w.heap.size, 5, none⟩ = some (.int .i64 c.asids) ∧ w31.cell? ⟨w.heap.size, 6, none⟩ = some (.int .i64 c.root) ∧ w31.cell? ⟨s0, 0, none⟩ = some (.int .i64 (c.host + 1)) ∧ w31.cell? ⟨s0, 1, none⟩ = some (.slice c.a c.l.length c.cap) ∧ w31.cell? ⟨s0, 2, none⟩ = some (.int .i64 c.first) ∧ w31.cell? ⟨s0, 3, none⟩ = some (.int .i64 c.many) ∧ w31.cell? ⟨s0, 4, none⟩ = some (.int .i64 c.tlb) ∧ w31.cell? ⟨s0, 5, none⟩ = some (.int .i64 c.asids) ∧ w31.cell? ⟨s0, 6, none⟩ = some (.int .i64 c.root) ∧ w31.cell? ⟨s0 + 1, 0, none⟩ = some (.int .i64 c.host) ∧ w31.cell? ⟨s0 + 1, 1, none⟩ = some (.slice c.a c.l.length c.cap) ∧ w31.cell? ⟨s0 + 1, 2, none⟩ = some (.int .i64 c.first) ∧ w31.cell? ⟨s0 + 1, 3, none⟩ = some (.int .i64 0) ∧ w31.cell? ⟨s0 + 1, 4, none⟩ = some (.int .i64 c.tlb) ∧ w31.cell? ⟨s0 + 1, 5, none⟩ = some (.int .i64 c.asids) ∧ w31.cell? ⟨s0 + 1, 6, none⟩ = some (.int .i64 c.root) := and7 (conf_cells [_, _] _ hE1) (and7 (conf_cells [_] _ hE1) (conf_cells [] _ hE1)))
        | (go_at_call 15; (with_reducible refine (ForeignArr { c with host := c.host + 1 } HLA.out (arr := #[.int .i64 (c.host + 1), .slice c.a c.l.length c.cap, .int .i64 c.first, .int .i64 c.many, .int .i64 c.tlb, .int .i64 c.asids, .int .i64 c.root]) rfl _ hE1 (HS.out.later bE1)).mono ?_); rintro e w32 ⟨a2, p2, rfl, hE2, bE2⟩; have hE2 := hE2.drop; have bE2 := bE1.trans bE2; have sE2 : w32.cell? ⟨w.heap.size, 0, none⟩ = some (.int .i64 c.host) ∧ w32.cell? ⟨w.heap.size, 1, none⟩ = some (.slice c.a c.l.length c.cap) ∧ w32.cell? ⟨w.heap.size, 2, none⟩ = some (.int .i64 c.first) ∧ w32.cell? ⟨w.heap.size, 3, none⟩ = some (.int .i64 c.many) ∧ w32.cell? ⟨w.heap.size, 4, none⟩ = some (.int .i64 c.tlb) ∧ w32.cell? ⟨w.heap.size, 5, none⟩ = some (.int .i64 c.asids) ∧ w32.cell? ⟨w.heap.size, 6, none⟩ = some (.int .i64 c.root) ∧ w32.cell? ⟨s0, 0, none⟩ = some (.int .i64 (c.host + 1)) ∧ w32.cell? ⟨s0, 1, none⟩ = some (.slice c.a c.l.length c.cap) ∧ w32.cell? ⟨s0, 2, none⟩ = some (.int .i64 c.first) ∧ w32.cell? ⟨s0, 3, none⟩ = some (.int .i64 c.many) ∧ w32.cell? ⟨s0, 4, none⟩ = some (.int .i64 c.tlb) ∧ w32.cell? ⟨s0, 5, none⟩ = some (.int .i64 c.asids) ∧ w32.cell? ⟨s0, 6, none⟩ = some (.int .i64 c.root) ∧ w32.cell? ⟨s0 + 1, 0, none⟩ = some (.int .i64 c.host) ∧ w32.cell? ⟨s0 + 1, 1, none⟩ = some (.slice c.a c.l.length c.cap) ∧ w32.cell? ⟨s0 + 1, 2, none⟩ = some (.int .i64 c.first) ∧ w32.cell? ⟨s0 + 1, 3, none⟩ = some (.int .i64 0) ∧ w32.cell? ⟨s0 + 1, 4, none⟩ = some (.int .i64 c.tlb) ∧ w32.cell? ⟨s0 + 1, 5, none⟩ = some (.int .i64 c.asids) ∧ w32.cell? ⟨s0 + 1, 6, none⟩ = some (.int .i64 c.root) := and7 (conf_cells [_, _] _ hE2) (and7 (conf_cells [_] _ hE2) (conf_cells [] _ hE2)))
        | (go_at_call 15; (with_reducible refine (ForeignArr c HLC.out (arr := #[.int .i64 c.host, .slice c.a c.l.length c.cap, .int .i64 c.first, .int .i64 c.many, .int .i64 c.tlb, .int .i64 c.asids, .int .i64 c.root]) rfl _ hE2 (HS.out.later bE2)).mono ?_); rintro e w33 ⟨a3, p3, rfl, hE3, bE3⟩; have hE3 := hE3.drop; have bE3 := bE2.trans bE3; have sE3 : w33.cell? ⟨w.heap.size, 0, none⟩ = some (.int .i64 c.host) ∧ w33.cell? ⟨w.heap.size, 1, none⟩ = some (.slice c.a c.l.length c.cap) ∧ w33.cell? ⟨w.heap.size, 2, none⟩ = some (.int .i64 c.first) ∧ w33.cell? ⟨w.heap.size, 3, none⟩ = some (.int .i64 c.many) ∧ w33.cell? ⟨w.heap.size, 4, none⟩ = some (.int .i64 c.tlb) ∧ w33.cell? ⟨w.heap.size, 5, none⟩ = some (.int .i64 c.asids) ∧ w33.cell? ⟨w.heap.size, 6, none⟩ = some (.int .i64 c.root) ∧ w33.cell? ⟨s0, 0, none⟩ = some (.int .i64 (c.host + 1)) ∧ w33.cell? ⟨s0, 1, none⟩ = some (.slice c.a c.l.length c.cap) ∧ w33.cell? ⟨s0, 2, none⟩ = some (.int .i64 c.first) ∧ w33.cell? ⟨s0, 3, none⟩ = some (.int .i64 c.many) ∧ w33.cell? ⟨s0, 4, none⟩ = some (.int .i64 c.tlb) ∧ w33.cell? ⟨s0, 5, none⟩ = some (.int .i64 c.asids) ∧ w33.cell? ⟨s0, 6, none⟩ = some (.int .i64 c.root) ∧ w33.cell? ⟨s0 + 1, 0, none⟩ = some (.int .i64 c.host) ∧ w33.cell? ⟨s0 + 1, 1, none⟩ = some (.slice c.a c.l.length c.cap) ∧ w33.cell? ⟨s0 + 1, 2, none⟩ = some (.int .i64 c.first) ∧ w33.cell? ⟨s0 + 1, 3, none⟩ = some (.int .i64 0) ∧ w33.cell? ⟨s0 + 1, 4, none⟩ = some (.int .i64 c.tlb) ∧ w33.cell? ⟨s0 + 1, 5, none⟩ = some (.int .i64 c.asids) ∧ w33.cell? ⟨s0 + 1, 6, none⟩ = some (.int .i64 c.root) := and7 (conf_cells [_, _] _ hE3) (and7 (conf_cells [_] _ hE3) (conf_cells [] _ hE3)))
        | (go_at_call 10; (with_reducible refine (RightArr { c with many := 0 } HRB.out (arr := #[.int .i64 c.host, .slice c.a c.l.length c.cap, .int .i64 c.first, .int .i64 0, .int .i64 c.tlb, .int .i64 c.asids, .int .i64 c.root]) rfl _ hE3 (HS.out.later bE3)).mono ?_); rintro e w34 ⟨rfl, hE4, bE4⟩; have bE4 := bE3.trans bE4; have sE4 : w34.cell? ⟨w.heap.size, 0, none⟩ = some (.int .i64 c.host) ∧ w34.cell? ⟨w.heap.size, 1, none⟩ = some (.slice c.a c.l.length c.cap) ∧ w34.cell? ⟨w.heap.size, 2, none⟩ = some (.int .i64 c.first) ∧ w34.cell? ⟨w.heap.size, 3, none⟩ = some (.int .i64 c.many) ∧ w34.cell? ⟨w.heap.size, 4, none⟩ = some (.int .i64 c.tlb) ∧ w34.cell? ⟨w.heap.size, 5, none⟩ = some (.int .i64 c.asids) ∧ w34.cell? ⟨w.heap.size, 6, none⟩ = some (.int .i64 c.root) ∧ w34.cell? ⟨s0, 0, none⟩ = some (.int .i64 (c.host + 1)) ∧ w34.cell? ⟨s0, 1, none⟩ = some (.slice c.a c.l.length c.cap) ∧ w34.cell? ⟨s0, 2, none⟩ = some (.int .i64 c.first) ∧ w34.cell? ⟨s0, 3, none⟩ = some (.int .i64 c.many) ∧ w34.cell? ⟨s0, 4, none⟩ = some (.int .i64 c.tlb) ∧ w34.cell? ⟨s0, 5, none⟩ = some (.int .i64 c.asids) ∧ w34.cell? ⟨s0, 6, none⟩ = some (.int .i64 c.root) ∧ w34.cell? ⟨s0 + 1, 0, none⟩ = some (.int .i64 c.host) ∧ w34.cell? ⟨s0 + 1, 1, none⟩ = some (.slice c.a c.l.length c.cap) ∧ w34.cell? ⟨s0 + 1, 2, none⟩ = some (.int .i64 c.first) ∧ w34.cell? ⟨s0 + 1, 3, none⟩ = some (.int .i64 0) ∧ w34.cell? ⟨s0 + 1, 4, none⟩ = some (.int .i64 c.tlb) ∧ w34.cell? ⟨s0 + 1, 5, none⟩ = some (.int .i64 c.asids) ∧ w34.cell? ⟨s0 + 1, 6, none⟩ = some (.int .i64 c.root) := and7 (conf_cells [_, _] _ hE4) (and7 (conf_cells [_] _ hE4) (conf_cells [] _ hE4)))
        | (go_at_call 15; (with_reducible refine (ForeignArr { c with many := 0 } HLB.out (arr := #[.int .i64 c.host, .slice c.a c.l.length c.cap, .int .i64 c.first, .int .i64 0, .int .i64 c.tlb, .int .i64 c.asids, .int .i64 c.root]) rfl _ hE4 (HS.out.later bE4)).mono ?_); rintro e w35 ⟨a5, p5, rfl, hE5, bE5⟩; have hE5 := hE5.drop; have bE5 := bE4.trans bE5; have sE5 : w35.cell? ⟨w.heap.size, 0, none⟩ = some (.int .i64 c.host) ∧ w35.cell? ⟨w.heap.size, 1, none⟩ = some (.slice c.a c.l.length c.cap) ∧ w35.cell? ⟨w.heap.size, 2, none⟩ = some (.int .i64 c.first) ∧ w35.cell? ⟨w.heap.size, 3, none⟩ = some (.int .i64 c.many) ∧ w35.cell? ⟨w.heap.size, 4, none⟩ = some (.int .i64 c.tlb) ∧ w35.cell? ⟨w.heap.size, 5, none⟩ = some (.int .i64 c.asids) ∧ w35.cell? ⟨w.heap.size, 6, none⟩ = some (.int .i64 c.root) ∧ w35.cell? ⟨s0, 0, none⟩ = some (.int .i64 (c.host + 1)) ∧ w35.cell? ⟨s0, 1, none⟩ = some (.slice c.a c.l.length c.cap) ∧ w35.cell? ⟨s0, 2, none⟩ = some (.int .i64 c.first) ∧ w35.cell? ⟨s0, 3, none⟩ = some (.int .i64 c.many) ∧ w35.cell? ⟨s0, 4, none⟩ = some (.int .i64 c.tlb) ∧ w35.cell? ⟨s0, 5, none⟩ = some (.int .i64 c.asids) ∧ w35.cell? ⟨s0, 6, none⟩ = some (.int .i64 c.root) ∧ w35.cell? ⟨s0 + 1, 0, none⟩ = some (.int .i64 c.host) ∧ w35.cell? ⟨s0 + 1, 1, none⟩ = some (.slice c.a c.l.length c.cap) ∧ w35.cell? ⟨s0 + 1, 2, none⟩ = some (.int .i64 c.first) ∧ w35.cell? ⟨s0 + 1, 3, none⟩ = some (.int .i64 0) ∧ w35.cell? ⟨s0 + 1, 4, none⟩ = some (.int .i64 c.tlb) ∧ w35.cell? ⟨s0 + 1, 5, none⟩ = some (.int .i64 c.asids) ∧ w35.cell? ⟨s0 + 1, 6, none⟩ = some (.int .i64 c.root) := and7 (conf_cells [_, _] _ hE5) (and7 (conf_cells [_] _ hE5) (conf_cells [] _ hE5)))
        | (go_at_call 15; (with_reducible refine (ForeignArr c HLC.out (arr := #[.int .i64 c.host, .slice c.a c.l.length c.cap, .int .i64 c.first, .int .i64 c.many, .int .i64 c.tlb, .int .i64 c.asids, .int .i64 c.root]) rfl _ hE5 (HS.out.later bE5)).mono ?_); rintro e w36 ⟨a6, p6, rfl, hE6, bE6⟩; have hE6 := hE6.drop; have bE6 := bE5.trans bE6; have sE6 : w36.cell? ⟨w.heap.size, 0, none⟩ = some (.int .i64 c.host) ∧ w36.cell? ⟨w.heap.size, 1, none⟩ = some (.slice c.a c.l.length c.cap) ∧ w36.cell? ⟨w.heap.size, 2, none⟩ = some (.int .i64 c.first) ∧ w36.cell? ⟨w.heap.size, 3, none⟩ = some (.int .i64 c.many) ∧ w36.cell? ⟨w.heap.size, 4, none⟩ = some (.int .i64 c.tlb) ∧ w36.cell? ⟨w.heap.size, 5, none⟩ = some (.int .i64 c.asids) ∧ w36.cell? ⟨w.heap.size, 6, none⟩ = some (.int .i64 c.root) ∧ w36.cell? ⟨s0, 0, none⟩ = some (.int .i64 (c.host + 1)) ∧ w36.cell? ⟨s0, 1, none⟩ = some (.slice c.a c.l.length c.cap) ∧ w36.cell? ⟨s0, 2, none⟩ = some (.int .i64 c.first) ∧ w36.cell? ⟨s0, 3, none⟩ = some (.int .i64 c.many) ∧ w36.cell? ⟨s0, 4, none⟩ = some (.int .i64 c.tlb) ∧ w36.cell? ⟨s0, 5, none⟩ = some (.int .i64 c.asids) ∧ w36.cell? ⟨s0, 6, none⟩ = some (.int .i64 c.root) ∧ w36.cell? ⟨s0 + 1, 0, none⟩ = some (.int .i64 c.host) ∧ w36.cell? ⟨s0 + 1, 1, none⟩ = some (.slice c.a c.l.length c.cap) ∧ w36.cell? ⟨s0 + 1, 2, none⟩ = some (.int .i64 c.first) ∧ w36.cell? ⟨s0 + 1, 3, none⟩ = some (.int .i64 0) ∧ w36.cell? ⟨s0 + 1, 4, none⟩ = some (.int .i64 c.tlb) ∧ w36.cell? ⟨s0 + 1, 5, none⟩ = some (.int .i64 c.asids) ∧ w36.cell? ⟨s0 + 1, 6, none⟩ = some (.int .i64 c.root) := and7 (conf_cells [_, _] _ hE6) (and7 (conf_cells [_] _ hE6) (conf_cells [] _ hE6))))
    all_goals (
      go_wp2_with fail
      go_ret
      exact ⟨rfl, bE6⟩)
  · have e1 : decide (c.host < 256) = false := decide_eq_false hh
    have e2 : (c.host == 256) = true := by rw [beq_iff_eq]; omega
    have hra := (room_is HOK.out).trans e1
    have hrb := decide_eq_true (room_none HOK.out)
    have HRA := hid hra
    have HRB := hid hrb
    clear hra hrb hh
    refine wp_region_held_drew (S := fun U => U.cell? ⟨w.heap.size, 0, none⟩ = some (.int .i64 c.host) ∧ U.cell? ⟨w.heap.size, 1, none⟩ = some (.slice c.a c.l.length c.cap) ∧ U.cell? ⟨w.heap.size, 2, none⟩ = some (.int .i64 c.first) ∧ U.cell? ⟨w.heap.size, 3, none⟩ = some (.int .i64 c.many) ∧ U.cell? ⟨w.heap.size, 4, none⟩ = some (.int .i64 c.tlb) ∧ U.cell? ⟨w.heap.size, 5, none⟩ = some (.int .i64 c.asids) ∧ U.cell? ⟨w.heap.size, 6, none⟩ = some (.int .i64 c.root) ∧ U.cell? ⟨s0, 0, none⟩ = some (.int .i64 (c.host + 1)) ∧ U.cell? ⟨s0, 1, none⟩ = some (.slice c.a c.l.length c.cap) ∧ U.cell? ⟨s0, 2, none⟩ = some (.int .i64 c.first) ∧ U.cell? ⟨s0, 3, none⟩ = some (.int .i64 c.many) ∧ U.cell? ⟨s0, 4, none⟩ = some (.int .i64 c.tlb) ∧ U.cell? ⟨s0, 5, none⟩ = some (.int .i64 c.asids) ∧ U.cell? ⟨s0, 6, none⟩ = some (.int .i64 c.root) ∧ U.cell? ⟨s0 + 1, 0, none⟩ = some (.int .i64 c.host) ∧ U.cell? ⟨s0 + 1, 1, none⟩ = some (.slice c.a c.l.length c.cap) ∧ U.cell? ⟨s0 + 1, 2, none⟩ = some (.int .i64 c.first) ∧ U.cell? ⟨s0 + 1, 3, none⟩ = some (.int .i64 0) ∧ U.cell? ⟨s0 + 1, 4, none⟩ = some (.int .i64 c.tlb) ∧ U.cell? ⟨s0 + 1, 5, none⟩ = some (.int .i64 c.asids) ∧ U.cell? ⟨s0 + 1, 6, none⟩ = some (.int .i64 c.root)) (by kernel_rfl) ?_ (fun hHeld => ?_)
    · exact sE0
    refine wpAnyH_take (i := 0) (oi := ?oi0) (v := ?v0) ?hi0 (by kernel_rfl) (by kernel_rfl) (by kernel_rfl) ?hQ0 ?hy0 (by assumption) ?rest0
    case hi0 => simp only [List.getElem?_toArray, List.getElem?_cons_succ, List.getElem?_cons_zero]; rfl
    case hQ0 => exact fun _ _ _ h => h
    case hy0 => refine Or.inl ⟨by rfl, ?_⟩; intro w hSw; (try dsimp only at hSw); go_simp; try with_reducible rfl
    try simp only [Act.put, List.setIfInBounds_toArray, List.set_cons_zero, List.set_cons_succ]
    refine wpAnyH_take (i := 1) (oi := ?oi1) (v := ?v1) ?hi1 (by kernel_rfl) (by kernel_rfl) (by kernel_rfl) ?hQ1 ?hy1 (by assumption) ?rest1
    case hi1 => simp only [List.getElem?_toArray, List.getElem?_cons_succ, List.getElem?_cons_zero]; rfl
    case hQ1 => exact fun _ _ _ h => h
    case hy1 => refine Or.inl ⟨by rfl, ?_⟩; intro w hSw; (try dsimp only at hSw); go_simp; try with_reducible rfl
    try simp only [Act.put, List.setIfInBounds_toArray, List.set_cons_zero, List.set_cons_succ]
    refine wpAnyH_take (i := 2) (oi := ?oi2) (v := ?v2) ?hi2 (by kernel_rfl) (by kernel_rfl) (by kernel_rfl) ?hQ2 ?hy2 (by assumption) ?rest2
    case hi2 => simp only [List.getElem?_toArray, List.getElem?_cons_succ, List.getElem?_cons_zero]; rfl
    case hQ2 => exact fun _ _ _ h => h
    case hy2 => refine Or.inl ⟨by rfl, ?_⟩; intro w hSw; (try dsimp only at hSw); go_simp; try with_reducible rfl
    try simp only [Act.put, List.setIfInBounds_toArray, List.set_cons_zero, List.set_cons_succ]
    refine wpAnyH_take (i := 4) (oi := ?oi4) (v := ?v4) ?hi4 (by kernel_rfl) (by kernel_rfl) (by kernel_rfl) ?hQ4 ?hy4 (by assumption) ?rest4
    case hi4 => simp only [List.getElem?_toArray, List.getElem?_cons_succ, List.getElem?_cons_zero]; rfl
    case hQ4 => exact fun _ _ _ h => h
    case hy4 => refine Or.inl ⟨by rfl, ?_⟩; intro w hSw; (try dsimp only at hSw); go_simp; try with_reducible rfl
    try simp only [Act.put, List.setIfInBounds_toArray, List.set_cons_zero, List.set_cons_succ]
    refine wpAnyH_take (i := 5) (oi := ?oi5) (v := ?v5) ?hi5 (by kernel_rfl) (by kernel_rfl) (by kernel_rfl) ?hQ5 ?hy5 (by assumption) ?rest5
    case hi5 => simp only [List.getElem?_toArray, List.getElem?_cons_succ, List.getElem?_cons_zero]; rfl
    case hQ5 => exact fun _ _ _ h => h
    case hy5 => refine Or.inl ⟨by rfl, ?_⟩; intro w hSw; (try dsimp only at hSw); go_simp; try with_reducible rfl
    try simp only [Act.put, List.setIfInBounds_toArray, List.set_cons_zero, List.set_cons_succ]
    refine wpAnyH_take (i := 6) (oi := ?oi6) (v := ?v6) ?hi6 (by kernel_rfl) (by kernel_rfl) (by kernel_rfl) ?hQ6 ?hy6 (by assumption) ?rest6
    case hi6 => simp only [List.getElem?_toArray, List.getElem?_cons_succ, List.getElem?_cons_zero]; rfl
    case hQ6 => exact fun _ _ _ h => h
    case hy6 => refine Or.inl ⟨by rfl, ?_⟩; intro w hSw; (try dsimp only at hSw); go_simp; try with_reducible rfl
    try simp only [Act.put, List.setIfInBounds_toArray, List.set_cons_zero, List.set_cons_succ]
    refine wpAnyH_ready (rs := [3]) (by kernel_rfl) (by simp) ?_
    refine AllReadyH.cons rfl (fun K hK => ?_) AllReadyH.nil
    go_simp
    (with_reducible refine (RightArr { c with host := c.host + 1 } HRA.out (arr := #[.int .i64 (c.host + 1), .slice c.a c.l.length c.cap, .int .i64 c.first, .int .i64 c.many, .int .i64 c.tlb, .int .i64 c.asids, .int .i64 c.root]) rfl _ hE0 (HS.out.later bE0)).mono ?_)
    rintro e w31 ⟨rfl, hE1, bE1⟩
    have bE1 := bE0.trans bE1
    have sE1 : w31.cell? ⟨w.heap.size, 0, none⟩ = some (.int .i64 c.host) ∧ w31.cell? ⟨w.heap.size, 1, none⟩ = some (.slice c.a c.l.length c.cap) ∧ w31.cell? ⟨w.heap.size, 2, none⟩ = some (.int .i64 c.first) ∧ w31.cell? ⟨w.heap.size, 3, none⟩ = some (.int .i64 c.many) ∧ w31.cell? ⟨w.heap.size, 4, none⟩ = some (.int .i64 c.tlb) ∧ w31.cell? ⟨w.heap.size, 5, none⟩ = some (.int .i64 c.asids) ∧ w31.cell? ⟨w.heap.size, 6, none⟩ = some (.int .i64 c.root) ∧ w31.cell? ⟨s0, 0, none⟩ = some (.int .i64 (c.host + 1)) ∧ w31.cell? ⟨s0, 1, none⟩ = some (.slice c.a c.l.length c.cap) ∧ w31.cell? ⟨s0, 2, none⟩ = some (.int .i64 c.first) ∧ w31.cell? ⟨s0, 3, none⟩ = some (.int .i64 c.many) ∧ w31.cell? ⟨s0, 4, none⟩ = some (.int .i64 c.tlb) ∧ w31.cell? ⟨s0, 5, none⟩ = some (.int .i64 c.asids) ∧ w31.cell? ⟨s0, 6, none⟩ = some (.int .i64 c.root) ∧ w31.cell? ⟨s0 + 1, 0, none⟩ = some (.int .i64 c.host) ∧ w31.cell? ⟨s0 + 1, 1, none⟩ = some (.slice c.a c.l.length c.cap) ∧ w31.cell? ⟨s0 + 1, 2, none⟩ = some (.int .i64 c.first) ∧ w31.cell? ⟨s0 + 1, 3, none⟩ = some (.int .i64 0) ∧ w31.cell? ⟨s0 + 1, 4, none⟩ = some (.int .i64 c.tlb) ∧ w31.cell? ⟨s0 + 1, 5, none⟩ = some (.int .i64 c.asids) ∧ w31.cell? ⟨s0 + 1, 6, none⟩ = some (.int .i64 c.root) := and7 (conf_cells [_, _] _ hE1) (and7 (conf_cells [_] _ hE1) (conf_cells [] _ hE1))
    dsimp only
    refine hK.out _ _ ?_ (fun hHeld => ?_)
    · exact sE1
    clear hK K
    try simp only [Act.put, List.setIfInBounds_toArray, List.set_cons_zero, List.set_cons_succ]
    refine wpAnyH_take (i := 7) (oi := ?oi7) (v := ?v7) ?hi7 (by kernel_rfl) (by kernel_rfl) (by kernel_rfl) ?hQ7 ?hy7 (by assumption) ?rest7
    case hi7 => simp only [List.getElem?_toArray, List.getElem?_cons_succ, List.getElem?_cons_zero]; rfl
    case hQ7 => exact fun _ _ _ h => h
    case hy7 => refine Or.inl ⟨by rfl, ?_⟩; intro w hSw; (try dsimp only at hSw); go_simp; try with_reducible rfl
    try simp only [Act.put, List.setIfInBounds_toArray, List.set_cons_zero, List.set_cons_succ]
    refine wpAnyH_take (i := 8) (oi := ?oi8) (v := ?v8) ?hi8 (by kernel_rfl) (by kernel_rfl) (by kernel_rfl) ?hQ8 ?hy8 (by assumption) ?rest8
    case hi8 => simp only [List.getElem?_toArray, List.getElem?_cons_succ, List.getElem?_cons_zero]; rfl
    case hQ8 => exact fun _ _ _ h => h
    case hy8 => refine Or.inl ⟨by rfl, ?_⟩; intro w hSw; (try dsimp only at hSw); go_simp; try with_reducible rfl
    try simp only [Act.put, List.setIfInBounds_toArray, List.set_cons_zero, List.set_cons_succ]
    refine wpAnyH_take (i := 9) (oi := ?oi9) (v := ?v9) ?hi9 (by kernel_rfl) (by kernel_rfl) (by kernel_rfl) ?hQ9 ?hy9 (by assumption) ?rest9
    case hi9 => simp only [List.getElem?_toArray, List.getElem?_cons_succ, List.getElem?_cons_zero]; rfl
    case hQ9 => exact fun _ _ _ h => h
    case hy9 => refine Or.inl ⟨by rfl, ?_⟩; intro w hSw; (try dsimp only at hSw); go_simp; try with_reducible rfl
    try simp only [Act.put, List.setIfInBounds_toArray, List.set_cons_zero, List.set_cons_succ]
    refine wpAnyH_take (i := 10) (oi := ?oi10) (v := ?v10) ?hi10 (by kernel_rfl) (by kernel_rfl) (by kernel_rfl) ?hQ10 ?hy10 (by assumption) ?rest10
    case hi10 => simp only [List.getElem?_toArray, List.getElem?_cons_succ, List.getElem?_cons_zero]; rfl
    case hQ10 => exact fun _ _ _ h => h
    case hy10 => refine Or.inl ⟨by rfl, ?_⟩; intro w hSw; (try dsimp only at hSw); go_simp; try with_reducible rfl
    try simp only [Act.put, List.setIfInBounds_toArray, List.set_cons_zero, List.set_cons_succ]
    refine wpAnyH_take (i := 11) (oi := ?oi11) (v := ?v11) ?hi11 (by kernel_rfl) (by kernel_rfl) (by kernel_rfl) ?hQ11 ?hy11 (by assumption) ?rest11
    case hi11 => simp only [List.getElem?_toArray, List.getElem?_cons_succ, List.getElem?_cons_zero]; rfl
    case hQ11 => exact fun _ _ _ h => h
    case hy11 => refine Or.inl ⟨by rfl, ?_⟩; intro w hSw; (try dsimp only at hSw); go_simp; try with_reducible rfl
    try simp only [Act.put, List.setIfInBounds_toArray, List.set_cons_zero, List.set_cons_succ]
    refine wpAnyH_take (i := 12) (oi := ?oi12) (v := ?v12) ?hi12 (by kernel_rfl) (by kernel_rfl) (by kernel_rfl) ?hQ12 ?hy12 (by assumption) ?rest12
    case hi12 => simp only [List.getElem?_toArray, List.getElem?_cons_succ, List.getElem?_cons_zero]; rfl
    case hQ12 => exact fun _ _ _ h => h
    case hy12 => refine Or.inl ⟨by rfl, ?_⟩; intro w hSw; (try dsimp only at hSw); go_simp; try with_reducible rfl
    try simp only [Act.put, List.setIfInBounds_toArray, List.set_cons_zero, List.set_cons_succ]
    refine wpAnyH_take (i := 13) (oi := ?oi13) (v := ?v13) ?hi13 (by kernel_rfl) (by kernel_rfl) (by kernel_rfl) ?hQ13 ?hy13 (by assumption) ?rest13
    case hi13 => simp only [List.getElem?_toArray, List.getElem?_cons_succ, List.getElem?_cons_zero]; rfl
    case hQ13 => exact fun _ _ _ h => h
    case hy13 => refine Or.inl ⟨by rfl, ?_⟩; intro w hSw; (try dsimp only at hSw); go_simp; try with_reducible rfl
    try simp only [Act.put, List.setIfInBounds_toArray, List.set_cons_zero, List.set_cons_succ]
    refine wpAnyH_take (i := 14) (oi := ?oi14) (v := undef) ?hi14 (by kernel_rfl) (by kernel_rfl) (by kernel_rfl) ?hQ14 ?hy14 (by assumption) ?rest14
    case hi14 => simp only [List.getElem?_toArray, List.getElem?_cons_succ, List.getElem?_cons_zero]; rfl
    case hQ14 => exact fun _ _ _ h => h
    case hy14 => exact Or.inr ⟨by rfl, rfl⟩
    try simp only [Act.put, List.setIfInBounds_toArray, List.set_cons_zero, List.set_cons_succ]
    refine wpAnyH_take (i := 17) (oi := ?oi17) (v := undef) ?hi17 (by kernel_rfl) (by kernel_rfl) (by kernel_rfl) ?hQ17 ?hy17 (by assumption) ?rest17
    case hi17 => simp only [List.getElem?_toArray, List.getElem?_cons_succ, List.getElem?_cons_zero]; rfl
    case hQ17 => exact fun _ _ _ h => h
    case hy17 => exact Or.inr ⟨by rfl, rfl⟩
    try simp only [Act.put, List.setIfInBounds_toArray, List.set_cons_zero, List.set_cons_succ]
    refine wpAnyH_ready (rs := [15]) (by kernel_rfl) (by simp) ?_
    refine AllReadyH.cons rfl (fun K hK => ?_) AllReadyH.nil
    go_simp
    refine hK.out _ _ ?_ (fun hHeld => ?_)
    · exact sE1
    clear hK K
    try simp only [Act.put, List.setIfInBounds_toArray, List.set_cons_zero, List.set_cons_succ]
    refine wpAnyH_take (i := 16) (oi := ?oi16) (v := undef) ?hi16 (by kernel_rfl) (by kernel_rfl) (by kernel_rfl) ?hQ16 ?hy16 (by assumption) ?rest16
    case hi16 => simp only [List.getElem?_toArray, List.getElem?_cons_succ, List.getElem?_cons_zero]; rfl
    case hQ16 => exact fun _ _ _ h => h
    case hy16 => exact Or.inr ⟨by rfl, rfl⟩
    try simp only [Act.put, List.setIfInBounds_toArray, List.set_cons_zero, List.set_cons_succ]
    refine wpAnyH_ready (rs := [18]) (by kernel_rfl) (by simp) ?_
    refine AllReadyH.cons rfl (fun K hK => ?_) AllReadyH.nil
    go_simp
    refine hK.out _ _ ?_ (fun hHeld => ?_)
    · exact sE1
    clear hK K
    try simp only [Act.put, List.setIfInBounds_toArray, List.set_cons_zero, List.set_cons_succ]
    refine wpAnyH_take (i := 19) (oi := ?oi19) (v := undef) ?hi19 (by kernel_rfl) (by kernel_rfl) (by kernel_rfl) ?hQ19 ?hy19 (by assumption) ?rest19
    case hi19 => simp only [List.getElem?_toArray, List.getElem?_cons_succ, List.getElem?_cons_zero]; rfl
    case hQ19 => exact fun _ _ _ h => h
    case hy19 => exact Or.inr ⟨by rfl, rfl⟩
    try simp only [Act.put, List.setIfInBounds_toArray, List.set_cons_zero, List.set_cons_succ]
    refine wpAnyH_take (i := 20) (oi := ?oi20) (v := undef) ?hi20 (by kernel_rfl) (by kernel_rfl) (by kernel_rfl) ?hQ20 ?hy20 (by assumption) ?rest20
    case hi20 => simp only [List.getElem?_toArray, List.getElem?_cons_succ, List.getElem?_cons_zero]; rfl
    case hQ20 => exact fun _ _ _ h => h
    case hy20 => exact Or.inr ⟨by rfl, rfl⟩
    try simp only [Act.put, List.setIfInBounds_toArray, List.set_cons_zero, List.set_cons_succ]
    refine wpAnyH_take (i := 21) (oi := ?oi21) (v := undef) ?hi21 (by kernel_rfl) (by kernel_rfl) (by kernel_rfl) ?hQ21 ?hy21 (by assumption) ?rest21
    case hi21 => simp only [List.getElem?_toArray, List.getElem?_cons_succ, List.getElem?_cons_zero]; rfl
    case hQ21 => exact fun _ _ _ h => h
    case hy21 => exact Or.inr ⟨by rfl, rfl⟩
    try simp only [Act.put, List.setIfInBounds_toArray, List.set_cons_zero, List.set_cons_succ]
    refine wpAnyH_take (i := 22) (oi := ?oi22) (v := ?v22) ?hi22 (by kernel_rfl) (by kernel_rfl) (by kernel_rfl) ?hQ22 ?hy22 (by assumption) ?rest22
    case hi22 => simp only [List.getElem?_toArray, List.getElem?_cons_succ, List.getElem?_cons_zero]; rfl
    case hQ22 => exact fun _ _ _ h => h
    case hy22 => refine Or.inl ⟨by rfl, ?_⟩; intro w hSw; (try dsimp only at hSw); go_simp; try with_reducible rfl
    try simp only [Act.put, List.setIfInBounds_toArray, List.set_cons_zero, List.set_cons_succ]
    refine wpAnyH_take (i := 23) (oi := ?oi23) (v := ?v23) ?hi23 (by kernel_rfl) (by kernel_rfl) (by kernel_rfl) ?hQ23 ?hy23 (by assumption) ?rest23
    case hi23 => simp only [List.getElem?_toArray, List.getElem?_cons_succ, List.getElem?_cons_zero]; rfl
    case hQ23 => exact fun _ _ _ h => h
    case hy23 => refine Or.inl ⟨by rfl, ?_⟩; intro w hSw; (try dsimp only at hSw); go_simp; try with_reducible rfl
    try simp only [Act.put, List.setIfInBounds_toArray, List.set_cons_zero, List.set_cons_succ]
    refine wpAnyH_take (i := 24) (oi := ?oi24) (v := ?v24) ?hi24 (by kernel_rfl) (by kernel_rfl) (by kernel_rfl) ?hQ24 ?hy24 (by assumption) ?rest24
    case hi24 => simp only [List.getElem?_toArray, List.getElem?_cons_succ, List.getElem?_cons_zero]; rfl
    case hQ24 => exact fun _ _ _ h => h
    case hy24 => refine Or.inl ⟨by rfl, ?_⟩; intro w hSw; (try dsimp only at hSw); go_simp; try with_reducible rfl
    try simp only [Act.put, List.setIfInBounds_toArray, List.set_cons_zero, List.set_cons_succ]
    refine wpAnyH_take (i := 25) (oi := ?oi25) (v := ?v25) ?hi25 (by kernel_rfl) (by kernel_rfl) (by kernel_rfl) ?hQ25 ?hy25 (by assumption) ?rest25
    case hi25 => simp only [List.getElem?_toArray, List.getElem?_cons_succ, List.getElem?_cons_zero]; rfl
    case hQ25 => exact fun _ _ _ h => h
    case hy25 => refine Or.inl ⟨by rfl, ?_⟩; intro w hSw; (try dsimp only at hSw); go_simp; try with_reducible rfl
    try simp only [Act.put, List.setIfInBounds_toArray, List.set_cons_zero, List.set_cons_succ]
    refine wpAnyH_ready (rs := [26]) (by kernel_rfl) (by simp) ?_
    refine AllReadyH.cons rfl (fun K hK => ?_) AllReadyH.nil
    go_simp
    (with_reducible refine (RightArr { c with many := 0 } HRB.out (arr := #[.int .i64 c.host, .slice c.a c.l.length c.cap, .int .i64 c.first, .int .i64 0, .int .i64 c.tlb, .int .i64 c.asids, .int .i64 c.root]) rfl _ hE1 (HS.out.later bE1)).mono ?_)
    rintro e w32 ⟨rfl, hE2, bE2⟩
    have bE2 := bE1.trans bE2
    have sE2 : w32.cell? ⟨w.heap.size, 0, none⟩ = some (.int .i64 c.host) ∧ w32.cell? ⟨w.heap.size, 1, none⟩ = some (.slice c.a c.l.length c.cap) ∧ w32.cell? ⟨w.heap.size, 2, none⟩ = some (.int .i64 c.first) ∧ w32.cell? ⟨w.heap.size, 3, none⟩ = some (.int .i64 c.many) ∧ w32.cell? ⟨w.heap.size, 4, none⟩ = some (.int .i64 c.tlb) ∧ w32.cell? ⟨w.heap.size, 5, none⟩ = some (.int .i64 c.asids) ∧ w32.cell? ⟨w.heap.size, 6, none⟩ = some (.int .i64 c.root) ∧ w32.cell? ⟨s0, 0, none⟩ = some (.int .i64 (c.host + 1)) ∧ w32.cell? ⟨s0, 1, none⟩ = some (.slice c.a c.l.length c.cap) ∧ w32.cell? ⟨s0, 2, none⟩ = some (.int .i64 c.first) ∧ w32.cell? ⟨s0, 3, none⟩ = some (.int .i64 c.many) ∧ w32.cell? ⟨s0, 4, none⟩ = some (.int .i64 c.tlb) ∧ w32.cell? ⟨s0, 5, none⟩ = some (.int .i64 c.asids) ∧ w32.cell? ⟨s0, 6, none⟩ = some (.int .i64 c.root) ∧ w32.cell? ⟨s0 + 1, 0, none⟩ = some (.int .i64 c.host) ∧ w32.cell? ⟨s0 + 1, 1, none⟩ = some (.slice c.a c.l.length c.cap) ∧ w32.cell? ⟨s0 + 1, 2, none⟩ = some (.int .i64 c.first) ∧ w32.cell? ⟨s0 + 1, 3, none⟩ = some (.int .i64 0) ∧ w32.cell? ⟨s0 + 1, 4, none⟩ = some (.int .i64 c.tlb) ∧ w32.cell? ⟨s0 + 1, 5, none⟩ = some (.int .i64 c.asids) ∧ w32.cell? ⟨s0 + 1, 6, none⟩ = some (.int .i64 c.root) := and7 (conf_cells [_, _] _ hE2) (and7 (conf_cells [_] _ hE2) (conf_cells [] _ hE2))
    dsimp only
    refine hK.out _ _ ?_ (fun hHeld => ?_)
    · exact sE2
    clear hK K
    try simp only [Act.put, List.setIfInBounds_toArray, List.set_cons_zero, List.set_cons_succ]
    refine wpAnyH_take (i := 27) (oi := ?oi27) (v := ?v27) ?hi27 (by kernel_rfl) (by kernel_rfl) (by kernel_rfl) ?hQ27 ?hy27 (by assumption) ?rest27
    case hi27 => simp only [List.getElem?_toArray, List.getElem?_cons_succ, List.getElem?_cons_zero]; rfl
    case hQ27 => exact fun _ _ _ h => h
    case hy27 => refine Or.inl ⟨by rfl, ?_⟩; intro w hSw; (try dsimp only at hSw); go_simp; try with_reducible rfl
    try simp only [Act.put, List.setIfInBounds_toArray, List.set_cons_zero, List.set_cons_succ]
    refine wpAnyH_take (i := 28) (oi := ?oi28) (v := ?v28) ?hi28 (by kernel_rfl) (by kernel_rfl) (by kernel_rfl) ?hQ28 ?hy28 (by assumption) ?rest28
    case hi28 => simp only [List.getElem?_toArray, List.getElem?_cons_succ, List.getElem?_cons_zero]; rfl
    case hQ28 => exact fun _ _ _ h => h
    case hy28 => refine Or.inl ⟨by rfl, ?_⟩; intro w hSw; (try dsimp only at hSw); go_simp; try with_reducible rfl
    try simp only [Act.put, List.setIfInBounds_toArray, List.set_cons_zero, List.set_cons_succ]
    refine wpAnyH_take (i := 29) (oi := ?oi29) (v := ?v29) ?hi29 (by kernel_rfl) (by kernel_rfl) (by kernel_rfl) ?hQ29 ?hy29 (by assumption) ?rest29
    case hi29 => simp only [List.getElem?_toArray, List.getElem?_cons_succ, List.getElem?_cons_zero]; rfl
    case hQ29 => exact fun _ _ _ h => h
    case hy29 => refine Or.inl ⟨by rfl, ?_⟩; intro w hSw; (try dsimp only at hSw); go_simp; try with_reducible rfl
    try simp only [Act.put, List.setIfInBounds_toArray, List.set_cons_zero, List.set_cons_succ]
    refine wpAnyH_take (i := 32) (oi := ?oi32) (v := ?v32) ?hi32 (by kernel_rfl) (by kernel_rfl) (by kernel_rfl) ?hQ32 ?hy32 (by assumption) ?rest32
    case hi32 => simp only [List.getElem?_toArray, List.getElem?_cons_succ, List.getElem?_cons_zero]; rfl
    case hQ32 => exact fun _ _ _ h => h
    case hy32 => refine Or.inl ⟨by rfl, ?_⟩; intro w hSw; (try dsimp only at hSw); go_simp; try with_reducible rfl
    try simp only [Act.put, List.setIfInBounds_toArray, List.set_cons_zero, List.set_cons_succ]
    refine wpAnyH_take (i := 35) (oi := ?oi35) (v := ?v35) ?hi35 (by kernel_rfl) (by kernel_rfl) (by kernel_rfl) ?hQ35 ?hy35 (by assumption) ?rest35
    case hi35 => simp only [List.getElem?_toArray, List.getElem?_cons_succ, List.getElem?_cons_zero]; rfl
    case hQ35 => exact fun _ _ _ h => h
    case hy35 => refine Or.inl ⟨by rfl, ?_⟩; intro w hSw; (try dsimp only at hSw); go_simp; try with_reducible rfl
    try simp only [Act.put, List.setIfInBounds_toArray, List.set_cons_zero, List.set_cons_succ]
    refine wpAnyH_take (i := 36) (oi := ?oi36) (v := ?v36) ?hi36 (by kernel_rfl) (by kernel_rfl) (by kernel_rfl) ?hQ36 ?hy36 (by assumption) ?rest36
    case hi36 => simp only [List.getElem?_toArray, List.getElem?_cons_succ, List.getElem?_cons_zero]; rfl
    case hQ36 => exact fun _ _ _ h => h
    case hy36 => refine Or.inl ⟨by rfl, ?_⟩; intro w hSw; (try dsimp only at hSw); go_simp; try with_reducible rfl
    try simp only [Act.put, List.setIfInBounds_toArray, List.set_cons_zero, List.set_cons_succ]
    refine wpAnyH_ready (rs := [30]) (by kernel_rfl) (by simp) ?_
    refine AllReadyH.cons rfl (fun K hK => ?_) AllReadyH.nil
    go_simp
    (with_reducible refine (ForeignArr { c with many := 0 } HLB.out (arr := #[.int .i64 c.host, .slice c.a c.l.length c.cap, .int .i64 c.first, .int .i64 0, .int .i64 c.tlb, .int .i64 c.asids, .int .i64 c.root]) rfl _ hE2 (HS.out.later bE2)).mono ?_)
    rintro e w33 ⟨a3, p3, rfl, hE3, bE3⟩
    have hE3 := hE3.drop
    have bE3 := bE2.trans bE3
    have sE3 : w33.cell? ⟨w.heap.size, 0, none⟩ = some (.int .i64 c.host) ∧ w33.cell? ⟨w.heap.size, 1, none⟩ = some (.slice c.a c.l.length c.cap) ∧ w33.cell? ⟨w.heap.size, 2, none⟩ = some (.int .i64 c.first) ∧ w33.cell? ⟨w.heap.size, 3, none⟩ = some (.int .i64 c.many) ∧ w33.cell? ⟨w.heap.size, 4, none⟩ = some (.int .i64 c.tlb) ∧ w33.cell? ⟨w.heap.size, 5, none⟩ = some (.int .i64 c.asids) ∧ w33.cell? ⟨w.heap.size, 6, none⟩ = some (.int .i64 c.root) ∧ w33.cell? ⟨s0, 0, none⟩ = some (.int .i64 (c.host + 1)) ∧ w33.cell? ⟨s0, 1, none⟩ = some (.slice c.a c.l.length c.cap) ∧ w33.cell? ⟨s0, 2, none⟩ = some (.int .i64 c.first) ∧ w33.cell? ⟨s0, 3, none⟩ = some (.int .i64 c.many) ∧ w33.cell? ⟨s0, 4, none⟩ = some (.int .i64 c.tlb) ∧ w33.cell? ⟨s0, 5, none⟩ = some (.int .i64 c.asids) ∧ w33.cell? ⟨s0, 6, none⟩ = some (.int .i64 c.root) ∧ w33.cell? ⟨s0 + 1, 0, none⟩ = some (.int .i64 c.host) ∧ w33.cell? ⟨s0 + 1, 1, none⟩ = some (.slice c.a c.l.length c.cap) ∧ w33.cell? ⟨s0 + 1, 2, none⟩ = some (.int .i64 c.first) ∧ w33.cell? ⟨s0 + 1, 3, none⟩ = some (.int .i64 0) ∧ w33.cell? ⟨s0 + 1, 4, none⟩ = some (.int .i64 c.tlb) ∧ w33.cell? ⟨s0 + 1, 5, none⟩ = some (.int .i64 c.asids) ∧ w33.cell? ⟨s0 + 1, 6, none⟩ = some (.int .i64 c.root) := and7 (conf_cells [_, _] _ hE3) (and7 (conf_cells [_] _ hE3) (conf_cells [] _ hE3))
    dsimp only
    refine hK.out _ _ ?_ (fun hHeld => ?_)
    · exact sE3
    clear hK K
    try simp only [Act.put, List.setIfInBounds_toArray, List.set_cons_zero, List.set_cons_succ]
    refine wpAnyH_take (i := 31) (oi := ?oi31) (v := ?v31) ?hi31 (by kernel_rfl) (by kernel_rfl) (by kernel_rfl) ?hQ31 ?hy31 (by assumption) ?rest31
    case hi31 => simp only [List.getElem?_toArray, List.getElem?_cons_succ, List.getElem?_cons_zero]; rfl
    case hQ31 => exact fun _ _ _ h => h
    case hy31 => refine Or.inl ⟨by rfl, ?_⟩; intro w hSw; (try dsimp only at hSw); go_simp; try with_reducible rfl
    try simp only [Act.put, List.setIfInBounds_toArray, List.set_cons_zero, List.set_cons_succ]
    refine wpAnyH_ready (rs := [33]) (by kernel_rfl) (by simp) ?_
    refine AllReadyH.cons rfl (fun K hK => ?_) AllReadyH.nil
    go_simp
    (with_reducible refine (ForeignArr c HLC.out (arr := #[.int .i64 c.host, .slice c.a c.l.length c.cap, .int .i64 c.first, .int .i64 c.many, .int .i64 c.tlb, .int .i64 c.asids, .int .i64 c.root]) rfl _ hE3 (HS.out.later bE3)).mono ?_)
    rintro e w34 ⟨a4, p4, rfl, hE4, bE4⟩
    have hE4 := hE4.drop
    have bE4 := bE3.trans bE4
    have sE4 : w34.cell? ⟨w.heap.size, 0, none⟩ = some (.int .i64 c.host) ∧ w34.cell? ⟨w.heap.size, 1, none⟩ = some (.slice c.a c.l.length c.cap) ∧ w34.cell? ⟨w.heap.size, 2, none⟩ = some (.int .i64 c.first) ∧ w34.cell? ⟨w.heap.size, 3, none⟩ = some (.int .i64 c.many) ∧ w34.cell? ⟨w.heap.size, 4, none⟩ = some (.int .i64 c.tlb) ∧ w34.cell? ⟨w.heap.size, 5, none⟩ = some (.int .i64 c.asids) ∧ w34.cell? ⟨w.heap.size, 6, none⟩ = some (.int .i64 c.root) ∧ w34.cell? ⟨s0, 0, none⟩ = some (.int .i64 (c.host + 1)) ∧ w34.cell? ⟨s0, 1, none⟩ = some (.slice c.a c.l.length c.cap) ∧ w34.cell? ⟨s0, 2, none⟩ = some (.int .i64 c.first) ∧ w34.cell? ⟨s0, 3, none⟩ = some (.int .i64 c.many) ∧ w34.cell? ⟨s0, 4, none⟩ = some (.int .i64 c.tlb) ∧ w34.cell? ⟨s0, 5, none⟩ = some (.int .i64 c.asids) ∧ w34.cell? ⟨s0, 6, none⟩ = some (.int .i64 c.root) ∧ w34.cell? ⟨s0 + 1, 0, none⟩ = some (.int .i64 c.host) ∧ w34.cell? ⟨s0 + 1, 1, none⟩ = some (.slice c.a c.l.length c.cap) ∧ w34.cell? ⟨s0 + 1, 2, none⟩ = some (.int .i64 c.first) ∧ w34.cell? ⟨s0 + 1, 3, none⟩ = some (.int .i64 0) ∧ w34.cell? ⟨s0 + 1, 4, none⟩ = some (.int .i64 c.tlb) ∧ w34.cell? ⟨s0 + 1, 5, none⟩ = some (.int .i64 c.asids) ∧ w34.cell? ⟨s0 + 1, 6, none⟩ = some (.int .i64 c.root) := and7 (conf_cells [_, _] _ hE4) (and7 (conf_cells [_] _ hE4) (conf_cells [] _ hE4))
    dsimp only
    refine hK.out _ _ ?_ (fun hHeld => ?_)
    · exact sE4
    clear hK K
    try simp only [Act.put, List.setIfInBounds_toArray, List.set_cons_zero, List.set_cons_succ]
    refine wpAnyH_take (i := 34) (oi := ?oi34) (v := ?v34) ?hi34 (by kernel_rfl) (by kernel_rfl) (by kernel_rfl) ?hQ34 ?hy34 (by assumption) ?rest34
    case hi34 => simp only [List.getElem?_toArray, List.getElem?_cons_succ, List.getElem?_cons_zero]; rfl
    case hQ34 => exact fun _ _ _ h => h
    case hy34 => refine Or.inl ⟨by rfl, ?_⟩; intro w hSw; (try dsimp only at hSw); go_simp; try with_reducible rfl
    try simp only [Act.put, List.setIfInBounds_toArray, List.set_cons_zero, List.set_cons_succ]
    refine wpAnyH_take (i := 37) (oi := ?oi37) (v := ?v37) ?hi37 (by kernel_rfl) (by kernel_rfl) (by kernel_rfl) ?hQ37 ?hy37 (by assumption) ?rest37
    case hi37 => simp only [List.getElem?_toArray, List.getElem?_cons_succ, List.getElem?_cons_zero]; rfl
    case hQ37 => exact fun _ _ _ h => h
    case hy37 => refine Or.inl ⟨by rfl, ?_⟩; intro w hSw; (try dsimp only at hSw); go_simp; try with_reducible rfl
    try simp only [Act.put, List.setIfInBounds_toArray, List.set_cons_zero, List.set_cons_succ]
    refine wpAnyH_take (i := 38) (oi := ?oi38) (v := ?v38) ?hi38 (by kernel_rfl) (by kernel_rfl) (by kernel_rfl) ?hQ38 ?hy38 (by assumption) ?rest38
    case hi38 => simp only [List.getElem?_toArray, List.getElem?_cons_succ, List.getElem?_cons_zero]; rfl
    case hQ38 => exact fun _ _ _ h => h
    case hy38 => refine Or.inl ⟨by rfl, ?_⟩; intro w hSw; (try dsimp only at hSw); go_simp; try with_reducible rfl
    try simp only [Act.put, List.setIfInBounds_toArray, List.set_cons_zero, List.set_cons_succ]
    refine wpAnyH_take (i := 39) (oi := ?oi39) (v := ?v39) ?hi39 (by kernel_rfl) (by kernel_rfl) (by kernel_rfl) ?hQ39 ?hy39 (by assumption) ?rest39
    case hi39 => simp only [List.getElem?_toArray, List.getElem?_cons_succ, List.getElem?_cons_zero]; rfl
    case hQ39 => exact fun _ _ _ h => h
    case hy39 => refine Or.inl ⟨by rfl, ?_⟩; intro w hSw; (try dsimp only at hSw); go_simp; try with_reducible rfl
    try simp only [Act.put, List.setIfInBounds_toArray, List.set_cons_zero, List.set_cons_succ]
    refine wpAnyH_take (i := 40) (oi := ?oi40) (v := ?v40) ?hi40 (by kernel_rfl) (by kernel_rfl) (by kernel_rfl) ?hQ40 ?hy40 (by assumption) ?rest40
    case hi40 => simp only [List.getElem?_toArray, List.getElem?_cons_succ, List.getElem?_cons_zero]; rfl
    case hQ40 => exact fun _ _ _ h => h
    case hy40 => refine Or.inl ⟨by rfl, ?_⟩; intro w hSw; (try dsimp only at hSw); go_simp; try with_reducible rfl
    try simp only [Act.put, List.setIfInBounds_toArray, List.set_cons_zero, List.set_cons_succ]
    refine wpAnyH_done (by kernel_rfl) ?_ _
    go_wp2_with fail
    go_ret
    exact ⟨rfl, bE4⟩

end Go.Proofs.Ytkgijfodjmkhgaa
