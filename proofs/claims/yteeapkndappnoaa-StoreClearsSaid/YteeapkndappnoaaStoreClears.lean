/-
  StoreClears: a slot that is cleared is empty, its word 0; it is not cleared twice; all other slots are as they were.
-/
import Derived.Test.YteeapkndappnoaaStoHead
import Derived.Deep.LoopGhost
import Derived.Test.YteeapkndappnoaaStoWord
namespace Go.Proofs.Yteeapkndappnoaa
open Go.RowKit
set_option linter.unusedVariables false
set_option linter.unusedSimpArgs false

theorem row_adds {T : TypeId} {w : World} {B g n cap : Nat} {xs : List Value} (L1 L2 : List Asr) (h : Has w B (L1 ++ row T 1 (.slice (some ⟨g, 0, none⟩) n cap) n xs :: L2)) : ∀ j u, xs[j]? = some u → w.cell? ((⟨g, 0, none⟩ : Addr).add j) = some u := by
  intro j u hj
  have e : (⟨g, 0, none⟩ : Addr).add j = ⟨g, j, none⟩ := by unfold Addr.add; split <;> simp_all
  rw [e]
  exact h.row_cell L1 L2 j hj
theorem row_ne_blk {T T' : TypeId} {w : World} {B g n cap b : Nat} {xs : List Value} {cs : Array Value} {fr : Nat × Nat} (L1 L2 : List Asr) (h : Has w B (L1 ++ row T 1 (.slice (some ⟨g, 0, none⟩) n cap) n xs :: L2)) (hb : w.heap[b]? = some (.cells cs T' fr)) (hT : T ≠ T') : b ≠ g := by
  rintro rfl
  obtain ⟨hr, _⟩ := h.row_at L1 L2
  rcases hr.2 with ⟨hv, _⟩ | ⟨g', cap', cur, hv, _, hgg, _⟩
  · cases hv
  · cases hv
    rw [hb] at hgg
    injection hgg with e
    injection e with e1 e2 e3
    exact hT e2.symm
theorem frame_take {W : List Int} {n f : Nat} (hW : W.length = n * 8) (hf : f < n) : W.take (f * 8) ++ frameW W n (f : Int) = W.take ((f + 1) * 8) := by
  unfold frameW
  rw [if_pos ⟨by omega, by omega⟩, Int.toNat_natCast, ← List.take_add]
  congr 1
  omega
theorem u64s_one (W : List Int) : ∀ u ∈ u64s W, u.oneCell' = true := by simp [u64s, Value.oneCell']
/-- What clearing a slot does to all words. -/
theorem clear_words {n : Nat} {first many : Int} {S : StS} (h : okS n first many S) (hI : WordI n S) {f i : Int} {y : SlotS} (hs : slotAt S.ps f i = some y) : (clearS n S f i).W = S.W.set (wat f i) 0 ∧ clearB S f i = (y.kd != 0) ∧ slotAt (clearS n S f i).ps f i = some slotZ ∧ clearB (clearS n S f i) f i = false := by
  have hw := slot_wok h hs
  have hwl := wat_lt hw
  have hlen := hI.len
  have hc : clearB S f i = (y.kd != 0) := by unfold clearB; rw [hs]
  have hat := hI.at_ f i y hs
  have h3 : slotAt (clearS n S f i).ps f i = some slotZ := by
    rw [slotAt_clear, if_pos ⟨rfl, rfl⟩, hs]
    show some (clr y) = some slotZ
    unfold clr
    by_cases hk : y.kd = 0
    · rw [if_pos hk]
      rcases hat with ⟨h1, _⟩ | ⟨h1, _⟩
      · rw [h1]
      · omega
    · rw [if_neg hk]
  refine ⟨?_, hc, h3, by unfold clearB; rw [h3]; rfl⟩
  by_cases hk : y.kd = 0
  · have hcf : ¬ clearB S f i = true := by rw [hc]; simp [hk]
    unfold clearS
    rw [if_neg hcf]
    rcases hat with ⟨_, h1⟩ | ⟨h1, _⟩
    · refine List.ext_getElem? fun j => ?_
      rw [List.getElem?_set]
      by_cases e : wat f i = j
      · rw [if_pos e, if_pos (by omega), ← e]
        rw [List.getD_eq_getElem?_getD, List.getElem?_eq_getElem (by omega)] at h1
        rw [List.getElem?_eq_getElem (by omega)]
        simpa using h1
      · rw [if_neg e]
    · omega
  · have hct : clearB S f i = true := by rw [hc]; simp [hk]
    rw [(clear_put hct).1]
    show setW S.W n f i (wordOf slotZ 0) = _
    unfold setW
    rw [if_pos hw]
    rfl

set_option maxHeartbeats 4000000 in
set_option maxRecDepth 100000 in
theorem StoreClears_walk (oa : Option Addr) (olen ocap : Nat) (l : List OpS) (at_ i : Int) (w : World) (hA : ArgRow w 11 oa olen (l.flatMap opL)) (hl : ∀ x ∈ l, OpOk x) (hat : (Lit.int .u8 at_).wf = true) (hi : (Lit.int .u8 i).wf = true) :
    Calls Try.prog 8 #[.slice oa olen ocap, .int .u8 at_, .int .u8 i] w fun e w' => e = .returned (.bool true) ∧ Below w.heap.size w w' := by
  obtain rfl := sops_len hA
  have HA := hid hA
  have HOK := hid hl
  have hol := hA.small
  have hHz : Has w w.heap.size [] := Has.nil (Nat.le_refl _)
  have hH0 : Has w w.heap.size [] := hHz
  have hB0 := Below.refl w.heap.size w
  obtain ⟨t0, t1⟩ := bounds_u8 hat
  obtain ⟨t2, t3⟩ := bounds_u8 hi
  clear hA hl hat hi hHz
  go_enter Try.func8, Try.ntmps8
  go_wp2_with fail
  refine (head_true _ _ _ hH0).mono ?_
  rintro e w1 ⟨_, rfl, hH1, hB1⟩
  have hB1 := hB0.trans hB1
  go_wp2_with fail
  refine (MemNew_yes 24 (by decide) (by decide) w1 _ _ hH1).mono ?_
  rintro e w2 ⟨hb, rfl, hH2, hB2⟩
  have hB2 := hB1.trans hB2
  have hH2 : Has w2 w.heap.size (MemA hb 24 (List.replicate (24 * 8) 0) :: []) := hH2
  clear hH0 hB0 hH1 hB1
  by_cases hbig : 200 < l.length
  · have e1 : decide (200 < l.length) = true := decide_eq_true hbig
    have e2 : decide (200 < (l.length : Int)) = true := decide_eq_true (by omega)
    go_wp2_with fail
    go_ret
    exact ⟨rfl, hB2⟩
  have e1 : decide (200 < l.length) = false := decide_eq_false hbig
  have e2 : decide (200 < (l.length : Int)) = false := decide_eq_false (by omega)
  go_wp2_with fail
  refine (NewIs hb 24 6 9 w2 _ _ _ (by decide) hH2).mono ?_
  rintro e w3 ⟨sb, rfl, hH3, hB3⟩
  have hB3 := hB2.trans hB3
  clear hH2 hB2 e1 e2
  go_wp2_with fail
  go_loopg [10] l.length (fun g i wr => ∃ j : Nat, g + j = l.length ∧ i = .int .i64 j ∧ Has wr w.heap.size (staL sb hb 24 6 9 (runS 24 ⟨List.replicate (24 * 8) 0, freshL 6 9 0, []⟩ (l.take j)) []) ∧ Below w.heap.size w wr)
  case atStart => exact ⟨0, by omega, rfl, hH3, hB3⟩
  case round =>
    obtain ⟨j, hj, rfl, hHr, hBr⟩ := hrel
    clear hH3 hB3
    have HJ := hid hj
    by_cases hlt : j < l.length
    · obtain ⟨x, hx⟩ : ∃ x, l[j]? = some x := ⟨_, List.getElem?_eq_getElem hlt⟩
      obtain ⟨b, of, rfl, hc⟩ := sops_at HA.out hBr hx
      have PA := hid hc
      have hst := runS_succ (n := 24) (S := ⟨List.replicate (24 * 8) 0, freshL 6 9 0, []⟩) hx
      have HST := hid hst
      have HX := hid (HOK.out x (List.mem_of_getElem? hx))
      clear hc hst hx hj
      go_wp2_with (refine wpList_load_at 35 (.tmp 50) rfl rfl ⟨b, of + j * 11, none⟩ rfl _ (opL x) PA.out Try.underlying35 rfl op_size ?_)
      refine (play_calls sb hb 24 6 9 _ x HX.out wr _ _ hHr).mono ?_
      rintro e w4 ⟨rfl, hH4, hB4⟩
      clear PA
      go_wp2_with fail
      go_roundg (gk - 1)
      case measure => have := HJ.out; omega
      case rel => exact ⟨j + 1, by have := HJ.out; omega, by go_num, by rw [HST.out]; exact hH4, hBr.trans hB4⟩
    · obtain rfl : j = l.length := by omega
      rw [List.take_length] at hHr
      obtain ⟨S, hS⟩ : ∃ S, runS 24 ⟨List.replicate (24 * 8) 0, freshL 6 9 0, []⟩ l = S := ⟨_, rfl⟩
      rw [hS] at hHr
      have HRUN := hid hS
      clear hj HJ hlt hS HOK HA
      have hinv := run_new (n := 24) (first := 6) (many := 9) (by decide) (W := List.replicate (24 * 8) 0) (by simp) (by decide) l
      rw [HRUN.out] at hinv
      clear HRUN
      obtain ⟨hP, hWI, _, _⟩ := hinv
      have HP := hid hP
      have HWI := hid hWI
      have HWL := hid hWI.len
      have hpl := hP.len
      obtain ⟨iu, hiu, zu0, zu1, zu2⟩ := info_parts infoU64
      clear hP hWI
      go_wp2_with fail
      refine (AllIs sb hb 24 6 9 S wr _ _ _ rfl hHr).mono ?_
      rintro e v1 ⟨ao, acap, rfl, hV1, b1⟩
      have bA := hBr.trans b1
      obtain ⟨pl, hpl2⟩ : ∃ pl : List Int, S.ps.map (·.f) = pl := ⟨_, rfl⟩
      have hpll : pl.length = S.ps.length := by rw [← hpl2]; simp
      rw [hpl2] at hV1 ⊢
      have HPL := hid hpl2
      clear hHr hBr b1 hpl2
      by_cases hz : pl.length = 0
      · have e3 : (pl.length == 0) = true := by rw [beq_iff_eq]; exact hz
        have e3' : ((pl.length : Int) == 0) = true := by rw [beq_iff_eq]; omega
        have hps : S.ps = [] := List.eq_nil_of_length_eq_zero (by omega)
        have hcb : clearB S 6 0 = false := by unfold clearB; rw [hps]; rfl
        have CC := hid (ClearIs sb hb 24 6 9 S v1 _ _ 6 0 false _ hcb rfl hV1)
        clear hps hcb hz hpll
        go_wp2_with fail
        refine CC.out.mono ?_
        rintro e v2 ⟨rfl, hV2, b2⟩
        go_wp2_with fail
        go_ret
        exact ⟨rfl, bA.trans b2⟩
      have e3 : (pl.length == 0) = false := by rw [beq_eq_false_iff_ne]; exact hz
      have e3' : ((pl.length : Int) == 0) = false := by rw [beq_eq_false_iff_ne]; omega
      have u0 : 0 ≤ at_ % (pl.length : Int) := Int.emod_nonneg _ (by omega)
      have u1 : at_ % (pl.length : Int) < pl.length := Int.emod_lt_of_pos _ (by omega)
      obtain ⟨r, hr⟩ : ∃ r : Nat, at_ % (pl.length : Int) = (r : Int) := ⟨(at_ % (pl.length : Int)).toNat, by omega⟩
      have htr : at_.tmod (pl.length : Int) = (r : Int) := by rw [Int.tmod_eq_emod_of_nonneg t0, hr]
      have u2 : 0 ≤ i % 8 := Int.emod_nonneg _ (by decide)
      have u3 : i % 8 < 8 := Int.emod_lt_of_pos _ (by decide)
      obtain ⟨k, hk⟩ : ∃ k : Nat, i % 8 = (k : Int) := ⟨(i % 8).toNat, by omega⟩
      have htk : i.tmod 8 = (k : Int) := by rw [Int.tmod_eq_emod_of_nonneg t2, hk]
      have k8 : k < 8 := by omega
      have hr5 : r < pl.length := by omega
      have hwa : IntKind.i64.wrap at_ = at_ := IntWalk.i64_in _ (by omega)
      have hwr : IntKind.i64.wrap (r : Int) = (r : Int) := IntWalk.i64_in _ (by omega)
      have hwk8 : IntKind.u8.wrap (k : Int) = (k : Int) := by have : IntKind.u8.wrap (k : Int) = (k : Int) % 256 := rfl; rw [this]; exact Int.emod_eq_of_lt (by omega) (by omega)
      have hwk : IntKind.i64.wrap (k : Int) = (k : Int) := IntWalk.i64_in _ (by omega)
      have hpz : ¬ (pl.length : Int) = 0 := by omega
      obtain ⟨pg, hpg⟩ : ∃ pg, S.ps[r]? = some pg := ⟨_, List.getElem?_eq_getElem (by omega)⟩
      have hpm := List.mem_of_getElem? hpg
      have hrg := HP.out.rg pg hpm
      obtain ⟨p, hpf⟩ : ∃ p : Nat, pg.f = (p : Int) := ⟨pg.f.toNat, by omega⟩
      have hp24 : p < 24 := by omega
      have hpa : pl[r]? = some (p : Int) := by rw [← HPL.out, List.getElem?_map, hpg, ← hpf]; rfl
      have h8 := HP.out.s8 pg hpm
      obtain ⟨y, hy⟩ : ∃ y, pg.s[k]? = some y := ⟨_, List.getElem?_eq_getElem (by omega)⟩
      have hsl : slotAt S.ps (p : Int) (k : Int) = some y := by
        rw [← hpf]
        exact slotAt_intro (pageAt_of HP.out.nd hpm) (by omega) (by simpa using hy)
      obtain ⟨hw1, hw2, hw3, hw4⟩ := clear_words HP.out HWI.out hsl
      obtain ⟨T, hT⟩ : ∃ T, clearS 24 S (p : Int) (k : Int) = T := ⟨_, rfl⟩
      rw [hT] at hw1 hw3 hw4
      have HTW := hid (show T.W = S.W.set (p * 8 + k) 0 from by rw [hw1]; rfl)
      have HWK := hid (slot_wok HP.out hsl)
      have HWL2 := hid (show T.W.length = 24 * 8 from by rw [hw1, List.length_set]; exact HWL.out)
      have HSL := hid hsl
      have HT := hid hT
      have HC1 := hid hw2
      have HS2 := hid hw3
      have HC2 := hid hw4
      obtain ⟨ao1, cap1, hv, _, _, hao⟩ := Has.row_form [_, _] _ hV1
      obtain ⟨ag, hag⟩ := hao (by omega)
      have hao2 : ao = some ⟨ag, 0, none⟩ := by injection hv with h1 h2 h3; rw [h1, hag]
      subst hao2
      have cl : v1.cell? ⟨ag, r, none⟩ = some (.int .i64 p) := Has.row_cell [_, _] _ hV1 r (by simp [hpa])
      have CS := hid (SlotIs sb hb 24 6 9 S v1 _ _ p k y true (by rw [hsl]; rfl) (by rw [hsl]; rfl) hV1)
      have zs := zeroSlotL
      have tok1 : True := trivial
      have hpl3 : pl.length ≤ 256 := by omega
      clear hpll hpl hpg hpm hrg hpf hpa h8 hy hsl hw1 hw2 hw3 hw4 hT hv hao hz u0 u1 u2 u3
      go_wp2_with fail
      refine CS.out.mono ?_
      rintro e v4 ⟨rfl, hV4, b4⟩
      have bA := bA.trans b4
      have hA4 := hV4.newblk v4.heap.size 42 #[.int .i64 0, .int .i64 0, .bool false, .bool false, .bool false] rfl
      have bA := below_new bA hV4 (.cells #[.int .i64 0, .int .i64 0, .bool false, .bool false, .bool false] 42)
      clear CS b4 hV1 cl hr htr hk htk hwa hwr hwk8 hwk hpz
      go_wp2_with (have _t := tok1; refine wpList_store_all [] _ hA4 42 (.tmp 14) (.tmp 80) rfl rfl rfl (slotC y) rfl slot_size rfl (slot_one _) ?_; clear _t tok1; intro v5 hV5 b5 hz; clear hz)
      have bA := bA.trans b5
      have hV6 : Has v5 w.heap.size (staL sb hb 24 6 9 S (blk v4.heap.size 42 (slotC y) :: row 3 1 (.slice (some ⟨ag, 0, none⟩) pl.length acap) pl.length (pl.map (Value.int .i64)) :: [])) := toX hV5
      clear hA4 hV4 b5 hV5
      go_wp2_with fail
      go_loopg [16, 17] 24 (fun g v i wq => ∃ (f : Nat) (u : Value), g + f = 24 ∧ v = u ∧ i = .int .i64 f ∧ Has wq w.heap.size (staL sb hb 24 6 9 S (row 55 1 u (f * 8) (u64s (S.W.take (f * 8))) :: blk v4.heap.size 42 (slotC y) :: row 3 1 (.slice (some ⟨ag, 0, none⟩) pl.length acap) pl.length (pl.map (Value.int .i64)) :: [])) ∧ Below w.heap.size w wq)
      case atStart => exact ⟨0, .slice none 0 0, by omega, rfl, rfl, toX (hV6.nilrow 55 1), bA⟩
      case round =>
        clear hV6 bA
        obtain ⟨f, u, hf, rfl, rfl, hV, bV⟩ := hrel
        have HF := hid hf
        obtain ⟨ua, ucap, rfl, _, _, _⟩ := Has.row_form [_, _] _ hV
        by_cases hlf : f < 24
        · have hlf' : (f : Int) < 24 := by omega
          have hft := frame_take HWL.out hlf
          have hfl := frameW_length (f := (f : Int)) HWL.out ⟨by omega, by omega⟩
          have CFR := hid (Frame_calls hb 24 S.W f wr _ _ (hV.perm (List.Perm.swap _ _ _)))
          rw [hfl] at CFR
          have HFT := hid hft
          have HFL2 := hid hfl
          clear hft hfl hf
          go_wp2_with fail
          refine CFR.out.mono ?_
          rintro e x1 ⟨fv, rfl, hX1, b1⟩
          have bV := bV.trans b1
          obtain ⟨fa, fcap, rfl, _, _, hfa⟩ := hX1.row_form [] _
          obtain ⟨fg, rfl⟩ := hfa (by omega)
          clear CFR b1 hV hfa
          go_wp2_with (at_builtin; refine wpList_append_row [_, _, _] _ hX1 rfl (.tmp 86) (.tmp 89) 62 rfl iu (.int .u64 0) 8 Try.underlying62 hiu zu0 zu1 zu2 rfl (by decide) rfl ⟨fg, 0, none⟩ 8 fcap (u64s (frameW S.W 24 f)) rfl (by rw [u64s_length, HFL2.out]) (row_adds [] _ hX1) (u64s_one _) (by decide) (by unfold maxLen; omega) (by omega) ?_; intro g2 cap2 x2 hX2 b2)
          have hX2 : Has x2 w.heap.size (row 55 1 (.slice (some ⟨fg, 0, none⟩) 8 fcap) 8 (u64s (frameW S.W 24 f)) :: MemA hb 24 S.W :: StoA sb hb 24 6 9 S.F S.ps :: row 55 1 (.slice (some ⟨g2, 0, none⟩) (f * 8 + 8) cap2) (f * 8 + 8) (u64s (S.W.take (f * 8)) ++ u64s (frameW S.W 24 f)) :: _) := hX2
          rw [u64s_app, HFT.out] at hX2
          go_roundg (gk - 1)
          case measure => have := HF.out; omega
          case rel => exact ⟨f + 1, .slice (some ⟨g2, 0, none⟩) (f * 8 + 8) cap2, by have := HF.out; omega, rfl, by go_num, by rw [show (f + 1) * 8 = f * 8 + 8 by omega] at hX2 ⊢; exact hX2.drop.perm (List.Perm.swap _ _ _), bV.trans b2⟩
        · obtain rfl : f = 24 := by omega
          clear hf HF hlf
          obtain ⟨wa, hwa0⟩ : ∃ x, x = ua := ⟨_, rfl⟩
          obtain ⟨wcap, hwc0⟩ : ∃ x, x = ucap := ⟨_, rfl⟩
          subst hwa0 hwc0
          have hlenW : (S.W.take (24 * 8)) = S.W := List.take_of_length_le (by rw [HWL.out]; omega)
          rw [hlenW] at hV
          clear hlenW
          have CC := hid (ClearIs sb hb 24 6 9 S wr _ _ p k (y.kd != 0) T HC1.out HT.out hV)
          go_wp2_with fail
          refine CC.out.mono ?_
          rintro e x3 ⟨rfl, hX3, b3⟩
          have bV := bV.trans b3
          have CS2 := hid (SlotIs sb hb 24 6 9 T x3 _ _ p k slotZ true (by rw [HS2.out]; rfl) (by rw [HS2.out]; rfl) hX3)
          clear CC b3 hV
          go_wp2_with fail
          refine CS2.out.mono ?_
          rintro e x4 ⟨rfl, hX4, b4⟩
          have bV := bV.trans b4
          have hA7 := hX4.newblk x4.heap.size 42 #[.int .i64 0, .int .i64 0, .bool false, .bool false, .bool false] rfl
          have bV := below_new bV hX4 (.cells #[.int .i64 0, .int .i64 0, .bool false, .bool false, .bool false] 42)
          have tok2 : True := trivial
          clear CS2 b4 hX3
          go_wp2_with (have _t := tok2; refine wpList_store_all [] _ hA7 42 (.tmp 19) (.tmp 100) rfl rfl rfl (slotC slotZ) rfl slot_size rfl (slot_one _) ?_; clear _t tok2; intro v8 hV8 b8 hz; clear hz)
          have bV := bV.trans b8
          have hV9 : Has v8 w.heap.size (staL sb hb 24 6 9 T (blk x4.heap.size 42 (slotC slotZ) :: row 55 1 (.slice wa (24 * 8) wcap) (24 * 8) (u64s S.W) :: blk v4.heap.size 42 (slotC y) :: row 3 1 (.slice (some ⟨ag, 0, none⟩) pl.length acap) pl.length (pl.map (Value.int .i64)) :: [])) := toX hV8
          clear hA7 hX4 b8 hV8
          go_wp2_with fail
          go_loopg [21, 22] 24 (fun g v i wq => ∃ (f : Nat) (u : Value), g + f = 24 ∧ v = u ∧ i = .int .i64 f ∧ Has wq w.heap.size (staL sb hb 24 6 9 T (row 55 1 u (f * 8) (u64s (T.W.take (f * 8))) :: blk x4.heap.size 42 (slotC slotZ) :: row 55 1 (.slice wa (24 * 8) wcap) (24 * 8) (u64s S.W) :: blk v4.heap.size 42 (slotC y) :: row 3 1 (.slice (some ⟨ag, 0, none⟩) pl.length acap) pl.length (pl.map (Value.int .i64)) :: [])) ∧ Below w.heap.size w wq)
          case atStart => exact ⟨0, .slice none 0 0, by omega, rfl, rfl, toX (hV9.nilrow 55 1), bV⟩
          case round =>
            clear hV9 bV
            obtain ⟨f, u, hf, rfl, rfl, hV, bV⟩ := hrel
            have HF := hid hf
            obtain ⟨ua, ucap, rfl, _, _, _⟩ := Has.row_form [_, _] _ hV
            by_cases hlf : f < 24
            · have hlf' : (f : Int) < 24 := by omega
              have hft := frame_take HWL2.out hlf
              have hfl := frameW_length (f := (f : Int)) HWL2.out ⟨by omega, by omega⟩
              have CFR := hid (Frame_calls hb 24 T.W f wr _ _ (hV.perm (List.Perm.swap _ _ _)))
              rw [hfl] at CFR
              have HFT := hid hft
              have HFL2 := hid hfl
              clear hft hfl hf
              go_wp2_with fail
              refine CFR.out.mono ?_
              rintro e x1 ⟨fv, rfl, hX1, b1⟩
              have bV := bV.trans b1
              obtain ⟨fa, fcap, rfl, _, _, hfa⟩ := hX1.row_form [] _
              obtain ⟨fg, rfl⟩ := hfa (by omega)
              clear CFR b1 hV hfa
              go_wp2_with (at_builtin; refine wpList_append_row [_, _, _] _ hX1 rfl (.tmp 106) (.tmp 109) 62 rfl iu (.int .u64 0) 8 Try.underlying62 hiu zu0 zu1 zu2 rfl (by decide) rfl ⟨fg, 0, none⟩ 8 fcap (u64s (frameW T.W 24 f)) rfl (by rw [u64s_length, HFL2.out]) (row_adds [] _ hX1) (u64s_one _) (by decide) (by unfold maxLen; omega) (by omega) ?_; intro g2 cap2 x2 hX2 b2)
              have hX2 : Has x2 w.heap.size (row 55 1 (.slice (some ⟨fg, 0, none⟩) 8 fcap) 8 (u64s (frameW T.W 24 f)) :: MemA hb 24 T.W :: StoA sb hb 24 6 9 T.F T.ps :: row 55 1 (.slice (some ⟨g2, 0, none⟩) (f * 8 + 8) cap2) (f * 8 + 8) (u64s (T.W.take (f * 8)) ++ u64s (frameW T.W 24 f)) :: _) := hX2
              rw [u64s_app, HFT.out] at hX2
              go_roundg (gk - 1)
              case measure => have := HF.out; omega
              case rel => exact ⟨f + 1, .slice (some ⟨g2, 0, none⟩) (f * 8 + 8) cap2, by have := HF.out; omega, rfl, by go_num, by rw [show (f + 1) * 8 = f * 8 + 8 by omega] at hX2 ⊢; exact hX2.drop.perm (List.Perm.swap _ _ _), bV.trans b2⟩
            · obtain rfl : f = 24 := by omega
              clear hf HF hlf
              have hwl8 := wat_lt HWK.out
              have hlenN : (T.W.take (24 * 8)) = T.W := List.take_of_length_le (by rw [HWL2.out]; omega)
              rw [hlenN] at hV
              clear hlenN
              obtain ⟨wg, hwg⟩ : ∃ wg, wa = some ⟨wg, 0, none⟩ := by obtain ⟨a1, c1, hv, _, _, hg⟩ := Has.row_form [_, _, _, _] _ hV; obtain ⟨g, hg⟩ := hg (by decide); injection hv with h1 h2 h3; exact ⟨g, by rw [h1, hg]⟩
              subst hwg
              have k4 := Has.row_frozen [_, _, _, _] _ hV (p * 8 + k)
              have hpl9 : p * 8 + k < 192 := by unfold wat at hwl8; simpa using hwl8
              obtain ⟨oldw, how⟩ : ∃ o, S.W[p * 8 + k]? = some o := ⟨_, List.getElem?_eq_getElem (by rw [HWL.out]; exact hpl9)⟩
              have k5 := Has.row_cell [_, _, _, _] _ hV (p * 8 + k) (u64s_get how)
              have hset := Has.row_set [_, _, _, _] _ hV (p * 8 + k) (by rw [u64s_length, HWL.out]; exact hpl9) (.int .u64 0)
              rw [u64s_set] at hset
              obtain ⟨_, hgw⟩ := Has.row_at [_, _, _, _] _ hV
              have hbset : Below w.heap.size w (wr.setCell ⟨wg, p * 8 + k, none⟩ (.int .u64 0)) := bV.trans ((Below.refl _ _).setCell (p := ⟨wg, p * 8 + k, none⟩) (hgw wg rfl).1 _)
              have hws : S.W.set (p * 8 + k) 0 = T.W := HTW.out.symm
              rw [hws] at hset
              have wr1 : IntKind.i64.wrap (8 * (p : Int)) = 8 * (p : Int) := IntWalk.i64_in _ (by omega)
              have wr2 : IntKind.i64.wrap (8 * (p : Int) + (k : Int)) = 8 * (p : Int) + (k : Int) := IntWalk.i64_in _ (by omega)
              have wr3 : (8 * (p : Int) + (k : Int)).toNat = p * 8 + k := by omega
              have wr4 : 8 * (p : Int) + (k : Int) < 192 := by omega
              have wr5 : (0 : Int) ≤ 8 * (p : Int) + (k : Int) := by omega
              have kb := Has.cell [_, _, _, _, _] _ hV 0 (v := .int .i64 y.kd) rfl
              have ks0 := Has.cell [_, _, _] _ hV 0 (v := .int .i64 0) rfl
              have ks1 := Has.cell [_, _, _] _ hV 1 (v := .int .i64 0) rfl
              have ks2 := Has.cell [_, _, _] _ hV 2 (v := .bool false) rfl
              have ks3 := Has.cell [_, _, _] _ hV 3 (v := .bool false) rfl
              have ks4 := Has.cell [_, _, _] _ hV 4 (v := .bool false) rfl
              have hB1' := (Has.blk_at [_, _, _, _, _] _ hV).1
              have hB2' := (Has.blk_at [_, _, _] _ hV).1
              have ne1 := row_ne_blk [_, _, _, _] _ hV hB1' (by decide)
              have ne2 := row_ne_blk [_, _, _, _] _ hV hB2' (by decide)
              have ne1' := ne1.symm
              have ne2' := ne2.symm
              have hE : ∀ W, Sem.run Try.prog (binOp .eql 42 (.agg #[.int .i64 0, .int .i64 0, .bool false, .bool false, .bool false]) (.agg #[.int .i64 0, .int .i64 0, .bool false, .bool false, .bool false])) W = .ok (.bool true) W := fun W => (slotS_eql slotZ slotZ W).trans (by simp)
              have hsetW : Has (wr.setCell ⟨wg, p * 8 + k, none⟩ (.int .u64 0)) w.heap.size (staL sb hb 24 6 9 T (row 55 1 (.slice ua (24 * 8) ucap) (24 * 8) (u64s T.W) :: blk x4.heap.size 42 (slotC slotZ) :: row 55 1 (.slice (some ⟨wg, 0, none⟩) (24 * 8) wcap) (24 * 8) (u64s T.W) :: blk v4.heap.size 42 (slotC y) :: row 3 1 (.slice (some ⟨ag, 0, none⟩) pl.length acap) pl.length (pl.map (Value.int .i64)) :: [])) := hset
              have CC3 := hid (fun (W : World) (hW : Has W w.heap.size (staL sb hb 24 6 9 T (row 55 1 (.slice ua (24 * 8) ucap) (24 * 8) (u64s T.W) :: blk x4.heap.size 42 (slotC slotZ) :: row 55 1 (.slice (some ⟨wg, 0, none⟩) (24 * 8) wcap) (24 * 8) (u64s T.W) :: blk v4.heap.size 42 (slotC y) :: row 3 1 (.slice (some ⟨ag, 0, none⟩) pl.length acap) pl.length (pl.map (Value.int .i64)) :: []))) => ClearIs sb hb 24 6 9 T W _ _ p k false T HC2.out (by unfold clearS; rw [HC2.out]; rfl) hW)
              have HWL3 := hid HWL2.out
              clear hB1' hB2' hset hV hgw how hws hwl8
              go_wp2_with fail
              refine (CC3.out _ hsetW).mono ?_
              rintro e x9 ⟨rfl, hX9, b9⟩
              have bZ := hbset.trans b9
              have hsw := SameWords_calls (some ⟨wg, 0, none⟩) ua wcap ucap T.W T.W x9 (srcu_row [_, _, _, _] _ hX9 HWL3.out.symm) (srcu_row [_, _] _ hX9 HWL3.out.symm)
              rw [show (T.W == T.W) = true from by simp, HWL3.out] at hsw
              have HSW := hid hsw
              clear CC3 hsetW hbset b9 hsw k4 k5 kb ks0 ks1 ks2 ks3 ks4 ne1 ne2 ne1' ne2'
              go_wp2_with fail
              refine (keeps HSW.out hX9).mono ?_
              rintro e x10 ⟨rfl, hX10, b10⟩
              go_wp2_with fail
              go_ret
              exact ⟨rfl, bZ.trans b10⟩

end Go.Proofs.Yteeapkndappnoaa
