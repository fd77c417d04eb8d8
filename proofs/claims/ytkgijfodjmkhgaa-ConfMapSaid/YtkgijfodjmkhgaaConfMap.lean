/-
  ConfMap: with its map in another order a machine is as right, and whose the host's frames are is the same.
-/
import Derived.Test.YtkgijfodjmkhgaaConfArgs
import Derived.Deep.RegionHeld3
import Derived.BigRegion
import Derived.Test.YtkgijfodjmkhgaaReg
import Derived.StillTailTactics
import Derived.Deep.LoopGhost
namespace Go.Proofs.Ytkgijfodjmkhgaa
open Go.RowKit
set_option linter.unusedVariables false
set_option linter.unusedSimpArgs false

/-- Right, Image and Foreign at a machine written out. -/
theorem RightArr (c : ConfS) {b : Bool} (hb : decide (okC c) = b) {arr : Array Value} (ha : (confC c).toArray = arr) (w : World) {B : Nat} {X : List Asr} (hH : Has w B X) (hs : Src w c.a c.l) :
    Calls Try.prog 10 #[.agg arr] w fun e w' => e = .returned (.bool b) ∧ Has w' B X ∧ Below B w w' := by
  subst ha
  exact RightIs c hb w hH hs
theorem ForeignArr (c : ConfS) {l : List Int} (hl : allC c 0 = l) {arr : Array Value} (ha : (confC c).toArray = arr) (w : World) {B : Nat} {X : List Asr} (hH : Has w B X) (hs : Src w c.a c.l) :
    Calls Try.prog 15 #[.agg arr] w fun e w' => ∃ ao cap, e = .returned (.slice ao l.length cap) ∧ Has w' B (row 3 1 (.slice ao l.length cap) l.length (l.map (Value.int .i64)) :: X) ∧ Below B w w' := by
  subst ha hl
  refine (Foreign_calls c w hs).mono ?_
  intro e w' h
  obtain ⟨v, rfl, h2, h3⟩ := h.at hH
  obtain ⟨ao, cap, rfl, _, _, _⟩ := h2.row_form [] _
  exact ⟨ao, cap, rfl, h2, h3⟩
theorem ImageArr (c : ConfS) {l : List Int} (hl : allC c 1 = l) {arr : Array Value} (ha : (confC c).toArray = arr) (w : World) {B : Nat} {X : List Asr} (hH : Has w B X) (hs : Src w c.a c.l) :
    Calls Try.prog 13 #[.agg arr] w fun e w' => ∃ ao cap, e = .returned (.slice ao l.length cap) ∧ Has w' B (row 3 1 (.slice ao l.length cap) l.length (l.map (Value.int .i64)) :: X) ∧ Below B w w' := by
  subst ha hl
  refine (Image_calls c w hs).mono ?_
  intro e w' h
  obtain ⟨v, rfl, h2, h3⟩ := h.at hH
  obtain ⟨ao, cap, rfl, _, _, _⟩ := h2.row_form [] _
  exact ⟨ao, cap, rfl, h2, h3⟩

theorem and7 {a b c d e f g h : Prop} (x : a ∧ b ∧ c ∧ d ∧ e ∧ f ∧ g) (y : h) : a ∧ b ∧ c ∧ d ∧ e ∧ f ∧ g ∧ h :=
  ⟨x.1, x.2.1, x.2.2.1, x.2.2.2.1, x.2.2.2.2.1, x.2.2.2.2.2.1, x.2.2.2.2.2.2, y⟩

/-- The cells of a machine whose map is v. -/
def mapArr (c : ConfS) (v : Value) : Array Value := #[.int .i64 c.host, v, .int .i64 c.first, .int .i64 c.many, .int .i64 c.tlb, .int .i64 c.asids, .int .i64 c.root]
/-- Where the i-th of the turned list comes from. -/
def rotI (n : Nat) (at_ : Int) (i : Nat) : Nat := (((n : Int) - 1 - i + at_) % n).toNat
/-- The turned list, as far as it is done. -/
def rotL (l : List Int) (at_ : Int) (k : Nat) : List Int := (List.range k).map fun i => l.getD (rotI l.length at_ i) 0
theorem rotL_length (l : List Int) (at_ : Int) (k : Nat) : (rotL l at_ k).length = k := by simp [rotL]
theorem rotI_lt {n : Nat} (hn : 0 < n) (at_ : Int) (i : Nat) : rotI n at_ i < n := by
  unfold rotI
  have h1 := Int.emod_nonneg ((n : Int) - 1 - i + at_) (show (n : Int) ≠ 0 by omega)
  have h2 := Int.emod_lt_of_pos ((n : Int) - 1 - i + at_) (show 0 < (n : Int) by omega)
  omega
theorem rotL_succ {l : List Int} {at_ : Int} {k : Nat} {x : Int} (h : l[rotI l.length at_ k]? = some x) : rotL l at_ (k + 1) = rotL l at_ k ++ [x] := by
  unfold rotL
  rw [List.range_succ, List.map_append]
  simp [h]
theorem rotI_inj {n : Nat} (hn : 0 < n) (at_ : Int) {i j : Nat} (hi : i < n) (hj : j < n) (h : rotI n at_ i = rotI n at_ j) : i = j := by
  unfold rotI at h
  have h1 := Int.emod_nonneg ((n : Int) - 1 - i + at_) (show (n : Int) ≠ 0 by omega)
  have h2 := Int.emod_nonneg ((n : Int) - 1 - j + at_) (show (n : Int) ≠ 0 by omega)
  have h3 : ((n : Int) - 1 - i + at_) % n = ((n : Int) - 1 - j + at_) % n := by omega
  have h4 := Int.emod_emod_of_dvd
  have h5 : ((n : Int) - 1 - i + at_ - ((n : Int) - 1 - j + at_)) % n = 0 := Int.emod_eq_emod_iff_emod_sub_eq_zero.1 h3
  have h6 : ((j : Int) - i) % n = 0 := by
    have e : (n : Int) - 1 - i + at_ - ((n : Int) - 1 - j + at_) = (j : Int) - i := by omega
    rwa [e] at h5
  obtain ⟨q, hq⟩ := Int.dvd_of_emod_eq_zero h6
  have hq1 : q < 1 := by
    refine Int.not_le.1 fun h => ?_
    have := Int.mul_le_mul_of_nonneg_left h (show (0 : Int) ≤ n by omega)
    omega
  have hq2 : -1 < q := by
    refine Int.not_le.1 fun h => ?_
    have := Int.mul_le_mul_of_nonneg_left h (show (0 : Int) ≤ n by omega)
    omega
  obtain rfl : q = 0 := by omega
  simp at hq
  omega
theorem rng_perm (L : List Nat) (n : Nat) (hl : L.length = n) (hnd : L.Nodup) (hb : ∀ x ∈ L, x < n) : L.Perm (List.range n) := by
  refine (List.perm_ext_iff_of_nodup hnd List.nodup_range).2 fun x => ⟨fun h => List.mem_range.2 (hb x h), fun h => ?_⟩
  refine Classical.byContradiction fun hx => ?_
  have h1 := nodup_le L ((List.range n).erase x) hnd (fun y hy => (List.mem_erase_of_ne (fun e => hx (by rw [← e]; exact hy))).2 (List.mem_range.2 (hb y hy)))
  rw [List.length_erase_of_mem h, List.length_range, hl] at h1
  have := List.mem_range.1 h
  omega
/-- The turned list has the same members, each as often. -/
theorem rotL_perm (l : List Int) (at_ : Int) (hn : 0 < l.length) : (rotL l at_ l.length).Perm l := by
  have hp : ((List.range l.length).map (rotI l.length at_)).Perm (List.range l.length) := by
    have hnd : ((List.range l.length).map (rotI l.length at_)).Nodup := by
      rw [List.Nodup, List.pairwise_map]
      refine (List.pairwise_lt_range (n := l.length)).imp_of_mem fun {a b} ha hb hlt he => ?_
      have := rotI_inj hn at_ (List.mem_range.1 ha) (List.mem_range.1 hb) he
      omega
    refine rng_perm _ _ (by simp) hnd fun x hx => ?_
    rw [List.mem_map] at hx
    obtain ⟨i, _, rfl⟩ := hx
    exact rotI_lt hn at_ i
  have h2 := hp.map (fun i => l.getD i 0)
  rw [List.map_map] at h2
  have e : (List.range l.length).map (fun i => l.getD i 0) = l := by
    refine List.ext_getElem (by simp) fun i h1 h3 => ?_
    simp [h3]
  rw [e] at h2
  exact h2
theorem confP_perm {l l2 : List Int} (h : l2.Perm l) {host first many tlb asids root : Int} : ConfP l2 host first many tlb asids root ↔ ConfP l host first many tlb asids root := by
  constructor
  · rintro ⟨⟨g1, g2, g3, g4, g5, g6⟩, h2, h3, h4, h5, h6, h7, h8, h9, h10⟩
    exact ⟨⟨by rw [← h.length_eq]; exact g1, by rw [← h.length_eq]; exact g2, g3, g4, fun x hx => g5 x (h.mem_iff.2 hx), h.nodup_iff.1 g6⟩, h2, h3, fun x hx => h4 x (h.mem_iff.2 hx), h5, h6, h7, h8, h9, h10⟩
  · rintro ⟨⟨g1, g2, g3, g4, g5, g6⟩, h2, h3, h4, h5, h6, h7, h8, h9, h10⟩
    exact ⟨⟨by rw [h.length_eq]; exact g1, by rw [h.length_eq]; exact g2, g3, g4, fun x hx => g5 x (h.mem_iff.1 hx), h.nodup_iff.2 g6⟩, h2, h3, fun x hx => h4 x (h.mem_iff.1 hx), h5, h6, h7, h8, h9, h10⟩
theorem own_perm {l l2 : List Int} (h : l2.Perm l) (first many f : Int) : ownI l2 first many f = ownI l first many f := by
  unfold ownI
  by_cases hm : f ∈ l
  · rw [if_pos hm, if_pos (h.mem_iff.2 hm)]
  · rw [if_neg hm, if_neg (fun h2 => hm (h.mem_iff.1 h2))]
theorem ok_perm {c : ConfS} {a : Option Addr} {l2 : List Int} {cap : Nat} (h : l2.Perm c.l) : okC { c with a := a, l := l2, cap := cap } ↔ okC c := confP_perm h
theorem all_perm {c : ConfS} {a : Option Addr} {l2 : List Int} {cap : Nat} (h : l2.Perm c.l) (whose : Int) : allC { c with a := a, l := l2, cap := cap } whose = allC c whose := by
  unfold allC
  by_cases hok : okC c
  · rw [if_pos hok, if_pos ((ok_perm h).2 hok)]
    exact frs_same _ _ _ _ _ _ _ _ (fun n _ => by
      show ownI l2 c.first c.many n = whose ↔ _
      rw [own_perm h])
  · rw [if_neg hok, if_neg (fun h2 => hok ((ok_perm h).1 h2))]

set_option maxHeartbeats 4000000 in
set_option maxRecDepth 100000 in
theorem ConfMap_walk (c : ConfS) (at_ : Int) (w : World) (hc : ConfArg w c) (hat : (Lit.int .u8 at_).wf = true) :
    Calls Try.prog 7 #[.agg (confC c).toArray, .int .u8 at_] w fun e w' => e = .returned (.bool true) ∧ Below w.heap.size w w' := by
  obtain ⟨i0, hi0, hz0, hz1, hz2⟩ := info_parts infoConf
  have hHz : Has w w.heap.size [] := Has.nil (Nat.le_refl _)
  have hH1 := hHz.newblk w.heap.size 24 (confC c).toArray rfl
  have hB1 := below_new (Below.refl _ w) hHz (.cells (confC c).toArray 24)
  have HS := hid hc.src
  have HW := hid hc.wf
  have hsm := hc.src.small
  have CH := hid (head_true _ _ _ hH1)
  obtain ⟨t0, t1⟩ := bounds_u8 hat
  clear hat
  clear hc hHz hH1
  go_enter Try.func7, Try.ntmps7
  go_wp2_with fail
  refine CH.out.mono ?_
  rintro e w1 ⟨_, rfl, hH2, hB2⟩
  have hH2 : Has w1 w.heap.size [blk w.heap.size 24 (confC c).toArray] := hH2
  have hB2 := hB1.trans hB2
  have c1 := hH2.cell [] _ 1 (v := .slice c.a c.l.length c.cap) rfl
  clear CH hB1
  by_cases hz : c.l.length = 0
  · have e1 : (c.l.length == 0) = true := by rw [beq_iff_eq]; exact hz
    have e2 : ((c.l.length : Int) == 0) = true := by rw [beq_iff_eq]; omega
    go_wp2_with fail
    go_ret
    exact ⟨rfl, hB2⟩
  have e1 : (c.l.length == 0) = false := by rw [beq_eq_false_iff_ne]; exact hz
  have e2 : ((c.l.length : Int) == 0) = false := by rw [beq_eq_false_iff_ne]; omega
  have hz1 : ¬ c.l = [] := fun h => hz (by rw [h]; rfl)
  by_cases hbig : 900 < c.l.length
  · have e3 : decide (900 < c.l.length) = true := decide_eq_true hbig
    have e4 : decide (900 < (c.l.length : Int)) = true := decide_eq_true (by omega)
    go_wp2_with fail
    go_ret
    exact ⟨rfl, hB2⟩
  have e3 : decide (900 < c.l.length) = false := decide_eq_false hbig
  have e4 : decide (900 < (c.l.length : Int)) = false := decide_eq_false (by omega)
  obtain ⟨s0, hsz0⟩ : ∃ s0, w1.heap.size = s0 := ⟨_, rfl⟩
  have hH0 := hH2
  have hB0 := hB2
  obtain ⟨j0, hj0, jz0, jz1, jz2⟩ := info_parts infoIntC
  clear hH2 hB2
  have tok0 : True := trivial
  go_wp2_with (first
    | (refine wpList_load_blk [] _ hH0 24 (.tmp 2) rfl rfl rfl _ Try.underlying24 rfl conf_size ?_)
    | (have _t := tok0; refine wpList_store_all [] _ (hH0.newblk (s0) 24 confZ hsz0) 24 (.tmp 6) (.tmp 20) rfl rfl rfl (confC c).toArray rfl conf_size rfl (confC_one _) ?_; clear _t tok0; intro v0 hC0 bC0' hz; have bC0 := hB0.trans ((below_new (Below.refl _ _) hH0 _).trans bC0'); have zC0 : v0.heap.size = s0 + 1 := hz.trans (by simp [hsz0]); clear hz bC0'; have f0_0 := hC0.frozen [] _ 1; have k0_0 := hC0.cell [] _ 1 (v := .slice c.a c.l.length c.cap) rfl; have hC0_0 : Has (v0.setCell ⟨s0, 1, none⟩ (.slice none 0 0)) w.heap.size (blk (s0) 24 (confC { c with a := none, l := [], cap := 0 }).toArray :: _) := hC0.set [] _ 1 (.slice none 0 0); have bC0_0 := below_set bC0 [] _ hC0 1 (.slice none 0 0); have zC0_0 : (v0.setCell ⟨s0, 1, none⟩ (.slice none 0 0)).heap.size = s0 + 1 := (by simp [zC0]); have tok1 : True := trivial))
  have hN := hC0_0.nilrow 3 1
  clear hH0 hB0 hsz0 bC0 hC0 zC0 zC0_0 f0_0 k0_0 e1 e2 e3 e4 c1
  go_loopg [7] c.l.length (fun g i wr => ∃ (k : Nat) (v : Value), g + k = c.l.length ∧ i = .int .i64 k ∧ Has wr w.heap.size [row 3 1 v k ((rotL c.l at_ k).map (Value.int .i64)), blk s0 24 (mapArr c v), blk w.heap.size 24 (confC c).toArray] ∧ Below w.heap.size w wr)
  case atStart => exact ⟨0, .slice none 0 0, by omega, rfl, hN, bC0_0⟩
  case round =>
    obtain ⟨k, v, hk, rfl, hHr, hBr⟩ := hrel
    clear hN bC0_0 hC0_0
    obtain ⟨ao, cp, rfl, hc1, hc2, hgo⟩ := hHr.row_form [] _
    have HK := hid hk
    have m1 := Has.cell [_, _] _ hHr 1 (v := .slice c.a c.l.length c.cap) rfl
    have n1 := Has.cell [_] _ hHr 1 (v := .slice ao k cp) rfl
    by_cases hlt : k < c.l.length
    · have hrl := rotI_lt (show 0 < c.l.length by omega) at_ k
      obtain ⟨x, hx⟩ : ∃ x, c.l[rotI c.l.length at_ k]? = some x := ⟨_, List.getElem?_eq_getElem hrl⟩
      have hst := rotL_succ hx
      have HST := hid hst
      obtain ⟨gb, o, hca, hcell⟩ := (HS.out.later hBr).at hx
      rw [hca] at m1
      obtain ⟨r, hr⟩ : ∃ r, rotI c.l.length at_ k = r := ⟨_, rfl⟩
      rw [hr] at hrl hcell
      have hwA : IntKind.i64.wrap ((c.l.length : Int) - 1) = (c.l.length : Int) - 1 := IntWalk.i64_in _ (by omega)
      have hwB : IntKind.i64.wrap ((c.l.length : Int) - 1 - (k : Int)) = (c.l.length : Int) - 1 - (k : Int) := IntWalk.i64_in _ (by omega)
      have hw1 : IntKind.i64.wrap at_ = at_ := IntWalk.i64_in _ (by omega)
      have hwC : IntKind.i64.wrap ((c.l.length : Int) - 1 - (k : Int) + at_) = (c.l.length : Int) - 1 - (k : Int) + at_ := IntWalk.i64_in _ (by omega)
      have htm : ((c.l.length : Int) - 1 - (k : Int) + at_).tmod (c.l.length : Int) = (r : Int) := by
        rw [Int.tmod_eq_emod_of_nonneg (by omega), ← hr]
        unfold rotI
        have := Int.emod_nonneg ((c.l.length : Int) - 1 - (k : Int) + at_) (show (c.l.length : Int) ≠ 0 by omega)
        omega
      have hHd := hHr.drew
      have hBd : Below w.heap.size w wr.drew := hBr.drew
      have hRA := hHr.newblk wr.heap.size 3 #[.int .i64 x] rfl
      have bA := below_new hBr hHr (.cells #[.int .i64 x] 3)
      have qm := Has.cell [_, _, _] _ hRA 1 (v := .slice c.a c.l.length c.cap) rfl
      have qn := Has.cell [_, _] _ hRA 1 (v := .slice ao k cp) rfl
      have HCC := hid (fun (U : World) (hb : Below w.heap.size w U) => (show U.cell? ⟨gb, o + r, none⟩ = some (.int .i64 x) from by
        obtain ⟨gb2, o2, hca2, q⟩ := (HS.out.later hb).at hx
        rw [hca] at hca2
        cases hca2
        rw [hr] at q
        exact q))
      rw [hca] at qm
      have qx := HCC.out _ bA
      have n2 := Has.frozen [_] _ hHr 1
      have HCA := hid hca
      clear hst hx hr hgo hk hca
      go_wp2_with fail
      refine wp_region_held_drew (S := fun U => U.cell? ⟨w.heap.size, 1, none⟩ = some (.slice (some ⟨gb, o, none⟩) c.l.length c.cap) ∧ U.cell? ⟨gb, o + r, none⟩ = some (.int .i64 x)) (by kernel_rfl) ?_ (fun hHeld => ?_)
      · exact ⟨m1, hcell⟩
      refine wpAnyH_take (i := 0) (oi := ?oi0) (v := ?v0) ?hi0 (by kernel_rfl) (by kernel_rfl) (by kernel_rfl) ?hQ0 ?hy0 (by assumption) ?rest0
      case hi0 => simp only [List.getElem?_toArray, List.getElem?_cons_succ, List.getElem?_cons_zero]; rfl
      case hQ0 => exact fun _ _ _ h => h
      case hy0 => refine Or.inl ⟨by rfl, ?_⟩; intro w hSw; (try dsimp only at hSw); go_simp; try with_reducible rfl
      try simp only [Act.put, List.setIfInBounds_toArray, List.set_cons_zero, List.set_cons_succ]
      refine wpAnyH_take (i := 2) (oi := ?oi2) (v := ?v2) ?hi2 (by kernel_rfl) (by kernel_rfl) (by kernel_rfl) ?hQ2 ?hy2 (by assumption) ?rest2
      case hi2 => simp only [List.getElem?_toArray, List.getElem?_cons_succ, List.getElem?_cons_zero]; rfl
      case hQ2 => exact fun _ _ _ h => h
      case hy2 => refine Or.inl ⟨by rfl, ?_⟩; intro w hSw; (try dsimp only at hSw); go_simp; try with_reducible rfl
      try simp only [Act.put, List.setIfInBounds_toArray, List.set_cons_zero, List.set_cons_succ]
      refine wpAnyH_take (i := 3) (oi := ?oi3) (v := ?v3) ?hi3 (by kernel_rfl) (by kernel_rfl) (by kernel_rfl) ?hQ3 ?hy3 (by assumption) ?rest3
      case hi3 => simp only [List.getElem?_toArray, List.getElem?_cons_succ, List.getElem?_cons_zero]; rfl
      case hQ3 => exact fun _ _ _ h => h
      case hy3 => refine Or.inl ⟨by rfl, ?_⟩; intro w hSw; (try dsimp only at hSw); go_simp; try with_reducible rfl
      try simp only [Act.put, List.setIfInBounds_toArray, List.set_cons_zero, List.set_cons_succ]
      refine wpAnyH_take (i := 4) (oi := ?oi4) (v := ?v4) ?hi4 (by kernel_rfl) (by kernel_rfl) (by kernel_rfl) ?hQ4 ?hy4 (by assumption) ?rest4
      case hi4 => simp only [List.getElem?_toArray, List.getElem?_cons_succ, List.getElem?_cons_zero]; rfl
      case hQ4 => exact fun _ _ _ h => h
      case hy4 => refine Or.inl ⟨by rfl, ?_⟩; intro w hSw; (try dsimp only at hSw); go_simp; try with_reducible rfl
      try simp only [Act.put, List.setIfInBounds_toArray, List.set_cons_zero, List.set_cons_succ]
      refine wpAnyH_take (i := 5) (oi := ?oi5) (v := ?v5) ?hi5 (by kernel_rfl) (by kernel_rfl) (by kernel_rfl) ?hQ5 ?hy5 (by assumption) ?rest5
      case hi5 => simp only [List.getElem?_toArray, List.getElem?_cons_succ, List.getElem?_cons_zero]; rfl
      case hQ5 => exact fun _ _ _ h => h
      case hy5 => refine Or.inl ⟨by rfl, ?_⟩; intro w hSw; (try dsimp only at hSw); go_simp; try with_reducible rfl
      try simp only [Act.put, List.setIfInBounds_toArray, List.set_cons_zero, List.set_cons_succ]
      refine wpAnyH_take (i := 6) (oi := ?oi6) (v := ?v6) ?hi6 (by kernel_rfl) (by kernel_rfl) (by kernel_rfl) ?hQ6 ?hy6 (by assumption) ?rest6
      case hi6 => simp only [List.getElem?_toArray, List.getElem?_cons_succ, List.getElem?_cons_zero]; rfl
      case hQ6 => exact fun _ _ _ h => h
      case hy6 => refine Or.inl ⟨by rfl, ?_⟩; intro w hSw; (try dsimp only at hSw); go_simp; try with_reducible rfl
      try simp only [Act.put, List.setIfInBounds_toArray, List.set_cons_zero, List.set_cons_succ]
      refine wpAnyH_take (i := 7) (oi := ?oi7) (v := ?v7) ?hi7 (by kernel_rfl) (by kernel_rfl) (by kernel_rfl) ?hQ7 ?hy7 (by assumption) ?rest7
      case hi7 => simp only [List.getElem?_toArray, List.getElem?_cons_succ, List.getElem?_cons_zero]; rfl
      case hQ7 => exact fun _ _ _ h => h
      case hy7 => refine Or.inl ⟨by rfl, ?_⟩; intro w hSw; (try dsimp only at hSw); go_simp; try with_reducible rfl
      try simp only [Act.put, List.setIfInBounds_toArray, List.set_cons_zero, List.set_cons_succ]
      refine wpAnyH_take (i := 8) (oi := ?oi8) (v := ?v8) ?hi8 (by kernel_rfl) (by kernel_rfl) (by kernel_rfl) ?hQ8 ?hy8 (by assumption) ?rest8
      case hi8 => simp only [List.getElem?_toArray, List.getElem?_cons_succ, List.getElem?_cons_zero]; rfl
      case hQ8 => exact fun _ _ _ h => h
      case hy8 => refine Or.inl ⟨by rfl, ?_⟩; intro w hSw; (try dsimp only at hSw); go_simp; try with_reducible rfl
      try simp only [Act.put, List.setIfInBounds_toArray, List.set_cons_zero, List.set_cons_succ]
      refine wpAnyH_take (i := 9) (oi := ?oi9) (v := ?v9) ?hi9 (by kernel_rfl) (by kernel_rfl) (by kernel_rfl) ?hQ9 ?hy9 (by assumption) ?rest9
      case hi9 => simp only [List.getElem?_toArray, List.getElem?_cons_succ, List.getElem?_cons_zero]; rfl
      case hQ9 => exact fun _ _ _ h => h
      case hy9 => refine Or.inl ⟨by rfl, ?_⟩; intro w hSw; (try dsimp only at hSw); go_simp; try with_reducible rfl
      try simp only [Act.put, List.setIfInBounds_toArray, List.set_cons_zero, List.set_cons_succ]
      refine wpAnyH_take (i := 10) (oi := ?oi10) (v := ?v10) ?hi10 (by kernel_rfl) (by kernel_rfl) (by kernel_rfl) ?hQ10 ?hy10 (by assumption) ?rest10
      case hi10 => simp only [List.getElem?_toArray, List.getElem?_cons_succ, List.getElem?_cons_zero]; rfl
      case hQ10 => exact fun _ _ _ h => h
      case hy10 => refine Or.inl ⟨by rfl, ?_⟩; intro w hSw; (try dsimp only at hSw); go_simp; try with_reducible rfl
      try simp only [Act.put, List.setIfInBounds_toArray, List.set_cons_zero, List.set_cons_succ]
      refine wpAnyH_take (i := 11) (oi := ?oi11) (v := ?v11) ?hi11 (by kernel_rfl) (by kernel_rfl) (by kernel_rfl) ?hQ11 ?hy11 (by assumption) ?rest11
      case hi11 => simp only [List.getElem?_toArray, List.getElem?_cons_succ, List.getElem?_cons_zero]; rfl
      case hQ11 => exact fun _ _ _ h => h
      case hy11 => refine Or.inl ⟨by rfl, ?_⟩; intro w hSw; (try dsimp only at hSw); go_simp; try with_reducible rfl
      try simp only [Act.put, List.setIfInBounds_toArray, List.set_cons_zero, List.set_cons_succ]
      refine wpAnyH_take (i := 12) (oi := ?oi12) (v := ?v12) ?hi12 (by kernel_rfl) (by kernel_rfl) (by kernel_rfl) ?hQ12 ?hy12 (by assumption) ?rest12
      case hi12 => simp only [List.getElem?_toArray, List.getElem?_cons_succ, List.getElem?_cons_zero]; rfl
      case hQ12 => exact fun _ _ _ h => h
      case hy12 => refine Or.inl ⟨by rfl, ?_⟩; intro w hSw; (try dsimp only at hSw); go_simp; try with_reducible rfl
      try simp only [Act.put, List.setIfInBounds_toArray, List.set_cons_zero, List.set_cons_succ]
      refine wpAnyH_take (i := 13) (oi := ?oi13) (v := ?v13) ?hi13 (by kernel_rfl) (by kernel_rfl) (by kernel_rfl) ?hQ13 ?hy13 (by assumption) ?rest13
      case hi13 => simp only [List.getElem?_toArray, List.getElem?_cons_succ, List.getElem?_cons_zero]; rfl
      case hQ13 => exact fun _ _ _ h => h
      case hy13 => refine Or.inl ⟨by rfl, ?_⟩; intro w hSw; (try dsimp only at hSw); go_simp; try with_reducible rfl
      try simp only [Act.put, List.setIfInBounds_toArray, List.set_cons_zero, List.set_cons_succ]
      refine wpAnyH_take (i := 14) (oi := ?oi14) (v := ?v14) ?hi14 (by kernel_rfl) (by kernel_rfl) (by kernel_rfl) ?hQ14 ?hy14 (by assumption) ?rest14
      case hi14 => simp only [List.getElem?_toArray, List.getElem?_cons_succ, List.getElem?_cons_zero]; rfl
      case hQ14 => exact fun _ _ _ h => h
      case hy14 => refine Or.inl ⟨by rfl, ?_⟩; intro w hSw; (try dsimp only at hSw); go_simp; try with_reducible rfl
      try simp only [Act.put, List.setIfInBounds_toArray, List.set_cons_zero, List.set_cons_succ]
      refine wpAnyH_take (i := 15) (oi := ?oi15) (v := ?v15) ?hi15 (by kernel_rfl) (by kernel_rfl) (by kernel_rfl) ?hQ15 ?hy15 (by assumption) ?rest15
      case hi15 => simp only [List.getElem?_toArray, List.getElem?_cons_succ, List.getElem?_cons_zero]; rfl
      case hQ15 => exact fun _ _ _ h => h
      case hy15 => refine Or.inl ⟨by rfl, ?_⟩; intro w hSw; (try dsimp only at hSw); go_simp; try with_reducible rfl
      try simp only [Act.put, List.setIfInBounds_toArray, List.set_cons_zero, List.set_cons_succ]
      refine wpAnyH_take (i := 16) (oi := ?oi16) (v := ?v16) ?hi16 (by kernel_rfl) (by kernel_rfl) (by kernel_rfl) ?hQ16 ?hy16 (by assumption) ?rest16
      case hi16 => simp only [List.getElem?_toArray, List.getElem?_cons_succ, List.getElem?_cons_zero]; rfl
      case hQ16 => exact fun _ _ _ h => h
      case hy16 => refine Or.inl ⟨by rfl, ?_⟩; intro w hSw; (try dsimp only at hSw); go_simp; try with_reducible rfl
      try simp only [Act.put, List.setIfInBounds_toArray, List.set_cons_zero, List.set_cons_succ]
      refine wpAnyH_take (i := 17) (oi := ?oi17) (v := ?v17) ?hi17 (by kernel_rfl) (by kernel_rfl) (by kernel_rfl) ?hQ17 ?hy17 (by assumption) ?rest17
      case hi17 => simp only [List.getElem?_toArray, List.getElem?_cons_succ, List.getElem?_cons_zero]; rfl
      case hQ17 => exact fun _ _ _ h => h
      case hy17 => refine Or.inl ⟨by rfl, ?_⟩; intro w hSw; (try dsimp only at hSw); go_simp; try with_reducible rfl
      try simp only [Act.put, List.setIfInBounds_toArray, List.set_cons_zero, List.set_cons_succ]
      refine wpAnyH_take (i := 18) (oi := ?oi18) (v := ?v18) ?hi18 (by kernel_rfl) (by kernel_rfl) (by kernel_rfl) ?hQ18 ?hy18 (by assumption) ?rest18
      case hi18 => simp only [List.getElem?_toArray, List.getElem?_cons_succ, List.getElem?_cons_zero]; rfl
      case hQ18 => exact fun _ _ _ h => h
      case hy18 => refine Or.inl ⟨by rfl, ?_⟩; intro w hSw; (try dsimp only at hSw); go_simp; try with_reducible rfl
      try simp only [Act.put, List.setIfInBounds_toArray, List.set_cons_zero, List.set_cons_succ]
      refine wpAnyH_ready (rs := [1, 19]) (by kernel_rfl) (by simp) ?_
      refine AllReadyH.cons rfl (fun K hK => ?_) (AllReadyH.cons rfl (fun K hK => ?_) AllReadyH.nil)
      · go_simp
        refine hK.out _ _ ?_ (fun hHeld => ?_)
        · exact ⟨m1, hcell⟩
        clear hK K
        try simp only [Act.put, List.setIfInBounds_toArray, List.set_cons_zero, List.set_cons_succ]
        refine wpAnyH_ready (rs := [19]) (by kernel_rfl) (by simp) ?_
        refine AllReadyH.cons rfl (fun K hK => ?_) AllReadyH.nil
        go_simp
        refine hK.out _ _ ?_ (fun hHeld => ?_)
        · exact ⟨qm, qx⟩
        clear hK K
        try simp only [Act.put, List.setIfInBounds_toArray, List.set_cons_zero, List.set_cons_succ]
        have hk := HK.out
        have hst := HST.out
        have hwk : IntKind.i64.wrap ((k : Int) + 1) = (k : Int) + 1 := IntWalk.i64_in _ (by omega)
        refine wpAnyH_ready (rs := [20]) (by kernel_rfl) (by simp) ?_
        refine AllReadyH.cons rfl (fun K hK => ?_) AllReadyH.nil
        refine step_append_any [_] _ hRA.drew rfl (.tmp 30) (.tmp 48) 22 rfl j0 (.int .i64 0) 8 Try.underlying22 hj0 jz0 jz1 jz2 rfl (by decide) rfl ⟨wr.heap.size, 0, none⟩ 1 1 [.int .i64 x] rfl rfl (blk_adds [] _ hRA.drew) (by simp [Value.oneCell']) (by decide) (by show k + 1 ≤ 9223372036854775807 <;> omega) (by omega) ?_
        intro g2 cap2 w6 hH6 hB6
        have n3 := Has.frozen [_, _] _ hH6 1
        have n4 := Has.cell [_, _] _ hH6 1 (v := .slice ao k cp) rfl
        have qm6 := Has.cell [_, _, _] _ hH6 1 (v := .slice c.a c.l.length c.cap) rfl
        rw [HCA.out] at qm6
        have bB6 := bA.drew.trans hB6
        have qx6 := HCC.out _ bB6
        have hH7 := Has.set [_, _] _ hH6 1 (.slice (some ⟨g2, 0, none⟩) (k + 1) cap2)
        have bB7 := below_set bB6 [_, _] _ hH6 1 (.slice (some ⟨g2, 0, none⟩) (k + 1) cap2)
        have qm7 := Has.cell [_, _, _] _ hH7 1 (v := .slice c.a c.l.length c.cap) rfl
        rw [HCA.out] at qm7
        have qx7 := HCC.out _ bB7
        refine hK.out _ _ ?_ (fun hHeld => ?_)
        · exact ⟨qm6, qx6⟩
        clear hK K
        try simp only [Act.put, List.setIfInBounds_toArray, List.set_cons_zero, List.set_cons_succ]
        refine wpAnyH_take (i := 21) (oi := ?oi21) (v := ?v21) ?hi21 (by kernel_rfl) (by kernel_rfl) (by kernel_rfl) ?hQ21 ?hy21 (by assumption) ?rest21
        case hi21 => simp only [List.getElem?_toArray, List.getElem?_cons_succ, List.getElem?_cons_zero]; rfl
        case hQ21 => exact fun _ _ _ h => h
        case hy21 => refine Or.inl ⟨by rfl, ?_⟩; intro w hSw; (try dsimp only at hSw); go_simp; try with_reducible rfl
        try simp only [Act.put, List.setIfInBounds_toArray, List.set_cons_zero, List.set_cons_succ]
        refine wpAnyH_ready (rs := [22]) (by kernel_rfl) (by simp) ?_
        refine AllReadyH.cons rfl (fun K hK => ?_) AllReadyH.nil
        go_simp
        refine hK.out _ _ ?_ (fun hHeld => ?_)
        · exact ⟨qm7, qx7⟩
        clear hK K
        try simp only [Act.put, List.setIfInBounds_toArray, List.set_cons_zero, List.set_cons_succ]
        refine wpAnyH_done (by kernel_rfl) ?_ _
        clear qm6 qx6 qm7 qx7 n3 n4 hH6 hB6 qm qn qx hRA bA m1 n1 hcell HCC
        go_wp2_with fail
        go_roundg (gk - 1)
        case measure => have := HK.out; omega
        case rel => exact ⟨k + 1, .slice (some ⟨g2, 0, none⟩) (k + 1) cap2, by have := HK.out; omega, by go_num, by have h := hH7.drop; rw [hst]; simpa [mapArr] using h, bB7⟩
      · go_simp
        refine hK.out _ _ ?_ (fun hHeld => ?_)
        · exact ⟨qm, qx⟩
        clear hK K
        try simp only [Act.put, List.setIfInBounds_toArray, List.set_cons_zero, List.set_cons_succ]
        refine wpAnyH_ready (rs := [1]) (by kernel_rfl) (by simp) ?_
        refine AllReadyH.cons rfl (fun K hK => ?_) AllReadyH.nil
        go_simp
        refine hK.out _ _ ?_ (fun hHeld => ?_)
        · exact ⟨qm, qx⟩
        clear hK K
        try simp only [Act.put, List.setIfInBounds_toArray, List.set_cons_zero, List.set_cons_succ]
        have hk := HK.out
        have hst := HST.out
        have hwk : IntKind.i64.wrap ((k : Int) + 1) = (k : Int) + 1 := IntWalk.i64_in _ (by omega)
        refine wpAnyH_ready (rs := [20]) (by kernel_rfl) (by simp) ?_
        refine AllReadyH.cons rfl (fun K hK => ?_) AllReadyH.nil
        refine step_append_any [_] _ hRA.drew rfl (.tmp 30) (.tmp 48) 22 rfl j0 (.int .i64 0) 8 Try.underlying22 hj0 jz0 jz1 jz2 rfl (by decide) rfl ⟨wr.heap.size, 0, none⟩ 1 1 [.int .i64 x] rfl rfl (blk_adds [] _ hRA.drew) (by simp [Value.oneCell']) (by decide) (by show k + 1 ≤ 9223372036854775807 <;> omega) (by omega) ?_
        intro g2 cap2 w6 hH6 hB6
        have n3 := Has.frozen [_, _] _ hH6 1
        have n4 := Has.cell [_, _] _ hH6 1 (v := .slice ao k cp) rfl
        have qm6 := Has.cell [_, _, _] _ hH6 1 (v := .slice c.a c.l.length c.cap) rfl
        rw [HCA.out] at qm6
        have bB6 := bA.drew.trans hB6
        have qx6 := HCC.out _ bB6
        have hH7 := Has.set [_, _] _ hH6 1 (.slice (some ⟨g2, 0, none⟩) (k + 1) cap2)
        have bB7 := below_set bB6 [_, _] _ hH6 1 (.slice (some ⟨g2, 0, none⟩) (k + 1) cap2)
        have qm7 := Has.cell [_, _, _] _ hH7 1 (v := .slice c.a c.l.length c.cap) rfl
        rw [HCA.out] at qm7
        have qx7 := HCC.out _ bB7
        refine hK.out _ _ ?_ (fun hHeld => ?_)
        · exact ⟨qm6, qx6⟩
        clear hK K
        try simp only [Act.put, List.setIfInBounds_toArray, List.set_cons_zero, List.set_cons_succ]
        refine wpAnyH_take (i := 21) (oi := ?oi21b) (v := ?v21b) ?hi21b (by kernel_rfl) (by kernel_rfl) (by kernel_rfl) ?hQ21b ?hy21b (by assumption) ?rest21b
        case hi21b => simp only [List.getElem?_toArray, List.getElem?_cons_succ, List.getElem?_cons_zero]; rfl
        case hQ21b => exact fun _ _ _ h => h
        case hy21b => refine Or.inl ⟨by rfl, ?_⟩; intro w hSw; (try dsimp only at hSw); go_simp; try with_reducible rfl
        try simp only [Act.put, List.setIfInBounds_toArray, List.set_cons_zero, List.set_cons_succ]
        refine wpAnyH_ready (rs := [22]) (by kernel_rfl) (by simp) ?_
        refine AllReadyH.cons rfl (fun K hK => ?_) AllReadyH.nil
        go_simp
        refine hK.out _ _ ?_ (fun hHeld => ?_)
        · exact ⟨qm7, qx7⟩
        clear hK K
        try simp only [Act.put, List.setIfInBounds_toArray, List.set_cons_zero, List.set_cons_succ]
        refine wpAnyH_done (by kernel_rfl) ?_ _
        clear qm6 qx6 qm7 qx7 n3 n4 hH6 hB6 qm qn qx hRA bA m1 n1 hcell HCC
        go_wp2_with fail
        go_roundg (gk - 1)
        case measure => have := HK.out; omega
        case rel => exact ⟨k + 1, .slice (some ⟨g2, 0, none⟩) (k + 1) cap2, by have := HK.out; omega, by go_num, by have h := hH7.drop; rw [hst]; simpa [mapArr] using h, bB7⟩
    · obtain rfl : k = c.l.length := by omega
      obtain ⟨g0, hg0⟩ : ∃ g0, ao = some ⟨g0, 0, none⟩ := by
        rcases hHr.row_shape [] _ with ⟨h, h0⟩ | ⟨g', cap', h, _⟩
        · exact absurd h0 hz
        · cases h; exact ⟨_, rfl⟩
      subst hg0
      have hlen : (rotL c.l at_ c.l.length).length = c.l.length := rotL_length _ _ _
      have hperm := rotL_perm c.l at_ (by omega)
      obtain ⟨l2, hl2⟩ : ∃ l2, rotL c.l at_ c.l.length = l2 := ⟨_, rfl⟩
      rw [hl2] at hlen hperm hHr
      obtain ⟨q, hq⟩ : ∃ q, decide (okC c) = q := ⟨_, rfl⟩
      obtain ⟨li, hli⟩ : ∃ li, allC c 1 = li := ⟨_, rfl⟩
      obtain ⟨lf, hlf⟩ : ∃ lf, allC c 0 = lf := ⟨_, rfl⟩
      have hq2 : decide (okC { c with a := some ⟨g0, 0, none⟩, l := l2, cap := cp }) = q := by rw [← hq]; exact decide_eq_decide.2 (ok_perm hperm)
      have hli2 : allC { c with a := some ⟨g0, 0, none⟩, l := l2, cap := cp } 1 = li := (all_perm hperm 1).trans hli
      have hlf2 : allC { c with a := some ⟨g0, 0, none⟩, l := l2, cap := cp } 0 = lf := (all_perm hperm 0).trans hlf
      have hw2 : ∀ x ∈ l2, (Lit.int .i64 x).wf = true := fun x hx => HS.out.wf x (hperm.mem_iff.1 hx)
      have hs2 : l2.length ≤ 9223372036854775807 := by omega
      have HW2 := hid hw2
      have HS2 := hid hs2
      have HQ := hid hq
      have HQ2 := hid hq2
      have HLI := hid hli
      have HLI2 := hid hli2
      have HLF := hid hlf
      have HLF2 := hid hlf2
      have hE0 : Has wr.drew w.heap.size [row 3 1 (.slice (some ⟨g0, 0, none⟩) l2.length cp) l2.length (l2.map (Value.int .i64)), blk s0 24 (confC { c with a := some ⟨g0, 0, none⟩, l := l2, cap := cp }).toArray, blk w.heap.size 24 (confC c).toArray] := by
        rw [show (confC { c with a := some ⟨g0, 0, none⟩, l := l2, cap := cp }).toArray = mapArr c (.slice (some ⟨g0, 0, none⟩) c.l.length cp) from by simp [mapArr, confC, hlen], hlen]
        exact hHr.drew
      have bE0 : Below w.heap.size w wr.drew := hBr.drew
      have sE0 : wr.drew.cell? ⟨s0, 0, none⟩ = some (.int .i64 c.host) ∧ wr.drew.cell? ⟨s0, 1, none⟩ = some (.slice (some ⟨g0, 0, none⟩) l2.length cp) ∧ wr.drew.cell? ⟨s0, 2, none⟩ = some (.int .i64 c.first) ∧ wr.drew.cell? ⟨s0, 3, none⟩ = some (.int .i64 c.many) ∧ wr.drew.cell? ⟨s0, 4, none⟩ = some (.int .i64 c.tlb) ∧ wr.drew.cell? ⟨s0, 5, none⟩ = some (.int .i64 c.asids) ∧ wr.drew.cell? ⟨s0, 6, none⟩ = some (.int .i64 c.root) ∧ wr.drew.cell? ⟨w.heap.size, 0, none⟩ = some (.int .i64 c.host) ∧ wr.drew.cell? ⟨w.heap.size, 1, none⟩ = some (.slice c.a c.l.length c.cap) ∧ wr.drew.cell? ⟨w.heap.size, 2, none⟩ = some (.int .i64 c.first) ∧ wr.drew.cell? ⟨w.heap.size, 3, none⟩ = some (.int .i64 c.many) ∧ wr.drew.cell? ⟨w.heap.size, 4, none⟩ = some (.int .i64 c.tlb) ∧ wr.drew.cell? ⟨w.heap.size, 5, none⟩ = some (.int .i64 c.asids) ∧ wr.drew.cell? ⟨w.heap.size, 6, none⟩ = some (.int .i64 c.root) := and7 (conf_cells [_] _ hE0) (conf_cells [_, _] _ hE0)
      clear hw2 hs2 hq hq2 hli hli2 hlf hlf2 hl2 hperm hlen n1 hgo hk hHr hBr
      go_wp2_with fail
      go_region_held3 (fun U => U.cell? ⟨s0, 0, none⟩ = some (.int .i64 c.host) ∧ U.cell? ⟨s0, 1, none⟩ = some (.slice (some ⟨g0, 0, none⟩) l2.length cp) ∧ U.cell? ⟨s0, 2, none⟩ = some (.int .i64 c.first) ∧ U.cell? ⟨s0, 3, none⟩ = some (.int .i64 c.many) ∧ U.cell? ⟨s0, 4, none⟩ = some (.int .i64 c.tlb) ∧ U.cell? ⟨s0, 5, none⟩ = some (.int .i64 c.asids) ∧ U.cell? ⟨s0, 6, none⟩ = some (.int .i64 c.root) ∧ U.cell? ⟨w.heap.size, 0, none⟩ = some (.int .i64 c.host) ∧ U.cell? ⟨w.heap.size, 1, none⟩ = some (.slice c.a c.l.length c.cap) ∧ U.cell? ⟨w.heap.size, 2, none⟩ = some (.int .i64 c.first) ∧ U.cell? ⟨w.heap.size, 3, none⟩ = some (.int .i64 c.many) ∧ U.cell? ⟨w.heap.size, 4, none⟩ = some (.int .i64 c.tlb) ∧ U.cell? ⟨w.heap.size, 5, none⟩ = some (.int .i64 c.asids) ∧ U.cell? ⟨w.heap.size, 6, none⟩ = some (.int .i64 c.root))
        (with_reducible first | exact sE8 | exact sE7 | exact sE6 | exact sE5 | exact sE4 | exact sE3 | exact sE2 | exact sE1 | exact sE0)
        (first
        | (go_at_call 10; (with_reducible refine (RightArr { c with a := some ⟨g0, 0, none⟩, l := l2, cap := cp } HQ2.out (arr := #[.int .i64 c.host, .slice (some ⟨g0, 0, none⟩) l2.length cp, .int .i64 c.first, .int .i64 c.many, .int .i64 c.tlb, .int .i64 c.asids, .int .i64 c.root]) rfl _ hE0 (src_row [] _ hE0 HS2.out HW2.out)).mono ?_); rintro e w31 ⟨rfl, hE1, bE1⟩; have bE1 := bE0.trans bE1; have sE1 : w31.cell? ⟨s0, 0, none⟩ = some (.int .i64 c.host) ∧ w31.cell? ⟨s0, 1, none⟩ = some (.slice (some ⟨g0, 0, none⟩) l2.length cp) ∧ w31.cell? ⟨s0, 2, none⟩ = some (.int .i64 c.first) ∧ w31.cell? ⟨s0, 3, none⟩ = some (.int .i64 c.many) ∧ w31.cell? ⟨s0, 4, none⟩ = some (.int .i64 c.tlb) ∧ w31.cell? ⟨s0, 5, none⟩ = some (.int .i64 c.asids) ∧ w31.cell? ⟨s0, 6, none⟩ = some (.int .i64 c.root) ∧ w31.cell? ⟨w.heap.size, 0, none⟩ = some (.int .i64 c.host) ∧ w31.cell? ⟨w.heap.size, 1, none⟩ = some (.slice c.a c.l.length c.cap) ∧ w31.cell? ⟨w.heap.size, 2, none⟩ = some (.int .i64 c.first) ∧ w31.cell? ⟨w.heap.size, 3, none⟩ = some (.int .i64 c.many) ∧ w31.cell? ⟨w.heap.size, 4, none⟩ = some (.int .i64 c.tlb) ∧ w31.cell? ⟨w.heap.size, 5, none⟩ = some (.int .i64 c.asids) ∧ w31.cell? ⟨w.heap.size, 6, none⟩ = some (.int .i64 c.root) := and7 (conf_cells [_] _ hE1) (conf_cells [_, _] _ hE1))
        | (go_at_call 10; (with_reducible refine (RightArr c HQ.out (arr := #[.int .i64 c.host, .slice c.a c.l.length c.cap, .int .i64 c.first, .int .i64 c.many, .int .i64 c.tlb, .int .i64 c.asids, .int .i64 c.root]) rfl _ hE1 (HS.out.later bE1)).mono ?_); rintro e w32 ⟨rfl, hE2, bE2⟩; have bE2 := bE1.trans bE2; have sE2 : w32.cell? ⟨s0, 0, none⟩ = some (.int .i64 c.host) ∧ w32.cell? ⟨s0, 1, none⟩ = some (.slice (some ⟨g0, 0, none⟩) l2.length cp) ∧ w32.cell? ⟨s0, 2, none⟩ = some (.int .i64 c.first) ∧ w32.cell? ⟨s0, 3, none⟩ = some (.int .i64 c.many) ∧ w32.cell? ⟨s0, 4, none⟩ = some (.int .i64 c.tlb) ∧ w32.cell? ⟨s0, 5, none⟩ = some (.int .i64 c.asids) ∧ w32.cell? ⟨s0, 6, none⟩ = some (.int .i64 c.root) ∧ w32.cell? ⟨w.heap.size, 0, none⟩ = some (.int .i64 c.host) ∧ w32.cell? ⟨w.heap.size, 1, none⟩ = some (.slice c.a c.l.length c.cap) ∧ w32.cell? ⟨w.heap.size, 2, none⟩ = some (.int .i64 c.first) ∧ w32.cell? ⟨w.heap.size, 3, none⟩ = some (.int .i64 c.many) ∧ w32.cell? ⟨w.heap.size, 4, none⟩ = some (.int .i64 c.tlb) ∧ w32.cell? ⟨w.heap.size, 5, none⟩ = some (.int .i64 c.asids) ∧ w32.cell? ⟨w.heap.size, 6, none⟩ = some (.int .i64 c.root) := and7 (conf_cells [_] _ hE2) (conf_cells [_, _] _ hE2))
        | (go_at_call 13; (with_reducible refine (ImageArr { c with a := some ⟨g0, 0, none⟩, l := l2, cap := cp } HLI2.out (arr := #[.int .i64 c.host, .slice (some ⟨g0, 0, none⟩) l2.length cp, .int .i64 c.first, .int .i64 c.many, .int .i64 c.tlb, .int .i64 c.asids, .int .i64 c.root]) rfl _ hE2 (src_row [] _ hE2 HS2.out HW2.out)).mono ?_); rintro e w33 ⟨a3, p3, rfl, hE3, bE3⟩; have bE3 := bE2.trans bE3; have sE3 : w33.cell? ⟨s0, 0, none⟩ = some (.int .i64 c.host) ∧ w33.cell? ⟨s0, 1, none⟩ = some (.slice (some ⟨g0, 0, none⟩) l2.length cp) ∧ w33.cell? ⟨s0, 2, none⟩ = some (.int .i64 c.first) ∧ w33.cell? ⟨s0, 3, none⟩ = some (.int .i64 c.many) ∧ w33.cell? ⟨s0, 4, none⟩ = some (.int .i64 c.tlb) ∧ w33.cell? ⟨s0, 5, none⟩ = some (.int .i64 c.asids) ∧ w33.cell? ⟨s0, 6, none⟩ = some (.int .i64 c.root) ∧ w33.cell? ⟨w.heap.size, 0, none⟩ = some (.int .i64 c.host) ∧ w33.cell? ⟨w.heap.size, 1, none⟩ = some (.slice c.a c.l.length c.cap) ∧ w33.cell? ⟨w.heap.size, 2, none⟩ = some (.int .i64 c.first) ∧ w33.cell? ⟨w.heap.size, 3, none⟩ = some (.int .i64 c.many) ∧ w33.cell? ⟨w.heap.size, 4, none⟩ = some (.int .i64 c.tlb) ∧ w33.cell? ⟨w.heap.size, 5, none⟩ = some (.int .i64 c.asids) ∧ w33.cell? ⟨w.heap.size, 6, none⟩ = some (.int .i64 c.root) := and7 (conf_cells [_, _] _ hE3) (conf_cells [_, _, _] _ hE3))
        | (go_at_call 13; (with_reducible refine (ImageArr c HLI.out (arr := #[.int .i64 c.host, .slice c.a c.l.length c.cap, .int .i64 c.first, .int .i64 c.many, .int .i64 c.tlb, .int .i64 c.asids, .int .i64 c.root]) rfl _ hE3 (HS.out.later bE3)).mono ?_); rintro e w34 ⟨a4, p4, rfl, hE4, bE4⟩; have bE4 := bE3.trans bE4; have sE4 : w34.cell? ⟨s0, 0, none⟩ = some (.int .i64 c.host) ∧ w34.cell? ⟨s0, 1, none⟩ = some (.slice (some ⟨g0, 0, none⟩) l2.length cp) ∧ w34.cell? ⟨s0, 2, none⟩ = some (.int .i64 c.first) ∧ w34.cell? ⟨s0, 3, none⟩ = some (.int .i64 c.many) ∧ w34.cell? ⟨s0, 4, none⟩ = some (.int .i64 c.tlb) ∧ w34.cell? ⟨s0, 5, none⟩ = some (.int .i64 c.asids) ∧ w34.cell? ⟨s0, 6, none⟩ = some (.int .i64 c.root) ∧ w34.cell? ⟨w.heap.size, 0, none⟩ = some (.int .i64 c.host) ∧ w34.cell? ⟨w.heap.size, 1, none⟩ = some (.slice c.a c.l.length c.cap) ∧ w34.cell? ⟨w.heap.size, 2, none⟩ = some (.int .i64 c.first) ∧ w34.cell? ⟨w.heap.size, 3, none⟩ = some (.int .i64 c.many) ∧ w34.cell? ⟨w.heap.size, 4, none⟩ = some (.int .i64 c.tlb) ∧ w34.cell? ⟨w.heap.size, 5, none⟩ = some (.int .i64 c.asids) ∧ w34.cell? ⟨w.heap.size, 6, none⟩ = some (.int .i64 c.root) := and7 (conf_cells [_, _, _] _ hE4) (conf_cells [_, _, _, _] _ hE4))
        | (go_at_call 12; (with_reducible refine (keeps (SameInts_calls a3 a4 p3 p4 li li w34 (srci_row [_] _ hE4 rfl) (srci_row [] _ hE4 rfl)) hE4).mono ?_); rintro e w35 ⟨rfl, hE5, bE5⟩; rw [show (li == li) = true from by simp]; have bE5 := bE4.trans bE5; have sE5 : w35.cell? ⟨s0, 0, none⟩ = some (.int .i64 c.host) ∧ w35.cell? ⟨s0, 1, none⟩ = some (.slice (some ⟨g0, 0, none⟩) l2.length cp) ∧ w35.cell? ⟨s0, 2, none⟩ = some (.int .i64 c.first) ∧ w35.cell? ⟨s0, 3, none⟩ = some (.int .i64 c.many) ∧ w35.cell? ⟨s0, 4, none⟩ = some (.int .i64 c.tlb) ∧ w35.cell? ⟨s0, 5, none⟩ = some (.int .i64 c.asids) ∧ w35.cell? ⟨s0, 6, none⟩ = some (.int .i64 c.root) ∧ w35.cell? ⟨w.heap.size, 0, none⟩ = some (.int .i64 c.host) ∧ w35.cell? ⟨w.heap.size, 1, none⟩ = some (.slice c.a c.l.length c.cap) ∧ w35.cell? ⟨w.heap.size, 2, none⟩ = some (.int .i64 c.first) ∧ w35.cell? ⟨w.heap.size, 3, none⟩ = some (.int .i64 c.many) ∧ w35.cell? ⟨w.heap.size, 4, none⟩ = some (.int .i64 c.tlb) ∧ w35.cell? ⟨w.heap.size, 5, none⟩ = some (.int .i64 c.asids) ∧ w35.cell? ⟨w.heap.size, 6, none⟩ = some (.int .i64 c.root) := and7 (conf_cells [_, _, _] _ hE5) (conf_cells [_, _, _, _] _ hE5))
        | (go_at_call 15; (with_reducible refine (ForeignArr { c with a := some ⟨g0, 0, none⟩, l := l2, cap := cp } HLF2.out (arr := #[.int .i64 c.host, .slice (some ⟨g0, 0, none⟩) l2.length cp, .int .i64 c.first, .int .i64 c.many, .int .i64 c.tlb, .int .i64 c.asids, .int .i64 c.root]) rfl _ hE5 (src_row [_, _] _ hE5 HS2.out HW2.out)).mono ?_); rintro e w36 ⟨a6, p6, rfl, hE6, bE6⟩; have bE6 := bE5.trans bE6; have sE6 : w36.cell? ⟨s0, 0, none⟩ = some (.int .i64 c.host) ∧ w36.cell? ⟨s0, 1, none⟩ = some (.slice (some ⟨g0, 0, none⟩) l2.length cp) ∧ w36.cell? ⟨s0, 2, none⟩ = some (.int .i64 c.first) ∧ w36.cell? ⟨s0, 3, none⟩ = some (.int .i64 c.many) ∧ w36.cell? ⟨s0, 4, none⟩ = some (.int .i64 c.tlb) ∧ w36.cell? ⟨s0, 5, none⟩ = some (.int .i64 c.asids) ∧ w36.cell? ⟨s0, 6, none⟩ = some (.int .i64 c.root) ∧ w36.cell? ⟨w.heap.size, 0, none⟩ = some (.int .i64 c.host) ∧ w36.cell? ⟨w.heap.size, 1, none⟩ = some (.slice c.a c.l.length c.cap) ∧ w36.cell? ⟨w.heap.size, 2, none⟩ = some (.int .i64 c.first) ∧ w36.cell? ⟨w.heap.size, 3, none⟩ = some (.int .i64 c.many) ∧ w36.cell? ⟨w.heap.size, 4, none⟩ = some (.int .i64 c.tlb) ∧ w36.cell? ⟨w.heap.size, 5, none⟩ = some (.int .i64 c.asids) ∧ w36.cell? ⟨w.heap.size, 6, none⟩ = some (.int .i64 c.root) := and7 (conf_cells [_, _, _, _] _ hE6) (conf_cells [_, _, _, _, _] _ hE6))
        | (go_at_call 15; (with_reducible refine (ForeignArr c HLF.out (arr := #[.int .i64 c.host, .slice c.a c.l.length c.cap, .int .i64 c.first, .int .i64 c.many, .int .i64 c.tlb, .int .i64 c.asids, .int .i64 c.root]) rfl _ hE6 (HS.out.later bE6)).mono ?_); rintro e w37 ⟨a7, p7, rfl, hE7, bE7⟩; have bE7 := bE6.trans bE7; have sE7 : w37.cell? ⟨s0, 0, none⟩ = some (.int .i64 c.host) ∧ w37.cell? ⟨s0, 1, none⟩ = some (.slice (some ⟨g0, 0, none⟩) l2.length cp) ∧ w37.cell? ⟨s0, 2, none⟩ = some (.int .i64 c.first) ∧ w37.cell? ⟨s0, 3, none⟩ = some (.int .i64 c.many) ∧ w37.cell? ⟨s0, 4, none⟩ = some (.int .i64 c.tlb) ∧ w37.cell? ⟨s0, 5, none⟩ = some (.int .i64 c.asids) ∧ w37.cell? ⟨s0, 6, none⟩ = some (.int .i64 c.root) ∧ w37.cell? ⟨w.heap.size, 0, none⟩ = some (.int .i64 c.host) ∧ w37.cell? ⟨w.heap.size, 1, none⟩ = some (.slice c.a c.l.length c.cap) ∧ w37.cell? ⟨w.heap.size, 2, none⟩ = some (.int .i64 c.first) ∧ w37.cell? ⟨w.heap.size, 3, none⟩ = some (.int .i64 c.many) ∧ w37.cell? ⟨w.heap.size, 4, none⟩ = some (.int .i64 c.tlb) ∧ w37.cell? ⟨w.heap.size, 5, none⟩ = some (.int .i64 c.asids) ∧ w37.cell? ⟨w.heap.size, 6, none⟩ = some (.int .i64 c.root) := and7 (conf_cells [_, _, _, _, _] _ hE7) (conf_cells [_, _, _, _, _, _] _ hE7))
        | (go_at_call 12; (with_reducible refine (keeps (SameInts_calls a6 a7 p6 p7 lf lf w37 (srci_row [_] _ hE7 rfl) (srci_row [] _ hE7 rfl)) hE7).mono ?_); rintro e w38 ⟨rfl, hE8, bE8⟩; rw [show (lf == lf) = true from by simp]; have bE8 := bE7.trans bE8; have sE8 : w38.cell? ⟨s0, 0, none⟩ = some (.int .i64 c.host) ∧ w38.cell? ⟨s0, 1, none⟩ = some (.slice (some ⟨g0, 0, none⟩) l2.length cp) ∧ w38.cell? ⟨s0, 2, none⟩ = some (.int .i64 c.first) ∧ w38.cell? ⟨s0, 3, none⟩ = some (.int .i64 c.many) ∧ w38.cell? ⟨s0, 4, none⟩ = some (.int .i64 c.tlb) ∧ w38.cell? ⟨s0, 5, none⟩ = some (.int .i64 c.asids) ∧ w38.cell? ⟨s0, 6, none⟩ = some (.int .i64 c.root) ∧ w38.cell? ⟨w.heap.size, 0, none⟩ = some (.int .i64 c.host) ∧ w38.cell? ⟨w.heap.size, 1, none⟩ = some (.slice c.a c.l.length c.cap) ∧ w38.cell? ⟨w.heap.size, 2, none⟩ = some (.int .i64 c.first) ∧ w38.cell? ⟨w.heap.size, 3, none⟩ = some (.int .i64 c.many) ∧ w38.cell? ⟨w.heap.size, 4, none⟩ = some (.int .i64 c.tlb) ∧ w38.cell? ⟨w.heap.size, 5, none⟩ = some (.int .i64 c.asids) ∧ w38.cell? ⟨w.heap.size, 6, none⟩ = some (.int .i64 c.root) := and7 (conf_cells [_, _, _, _, _] _ hE8) (conf_cells [_, _, _, _, _, _] _ hE8)))
      all_goals (
        go_wp2_with fail
        go_ret
        exact ⟨rfl, bE8⟩)

end Go.Proofs.Ytkgijfodjmkhgaa
