/-
  StoreDrops: a page that is dropped is gone, no slot tells it, and its frame is the next.
-/
import Derived.Test.YteeapkndappnoaaStoHead
import Derived.Deep.LoopGhost
import Derived.Test.YteeapkndappnoaaStoWord
namespace Go.Proofs.Yteeapkndappnoaa
open Go.RowKit
set_option linter.unusedVariables false
set_option linter.unusedSimpArgs false

def wasL (ps : List PageS) : List SlotS := ps.flatMap (·.s)
theorem slotsL_snoc (l : List SlotS) (x : SlotS) : slotsL (l ++ [x]) = slotsL l ++ slotL x := by simp [slotsL]
theorem wasL_succ {ps : List PageS} {j : Nat} {p : PageS} (h : ps[j]? = some p) (h8 : p.s.length = 8) : wasL (ps.take (j + 1)) = wasL (ps.take j) ++ p.s.take 8 := by
  have e : p.s.take 8 = p.s := List.take_of_length_le (by omega)
  unfold wasL
  rw [List.take_add_one, h, List.flatMap_append, e]
  simp
theorem wasL_length : ∀ {ps : List PageS}, (∀ p ∈ ps, p.s.length = 8) → (wasL ps).length = 8 * ps.length
  | [], _ => rfl
  | p :: ps, h => by
    have h1 := h p (by simp)
    have h2 := wasL_length (ps := ps) fun q hq => h q (by simp [hq])
    have e : wasL (p :: ps) = p.s ++ wasL ps := rfl
    rw [e, List.length_append, h1, h2, List.length_cons]
    omega
theorem wasL_get : ∀ {ps : List PageS}, (∀ p ∈ ps, p.s.length = 8) → ∀ {a i : Nat} {p : PageS} {y : SlotS}, ps[a]? = some p → p.s[i]? = some y → (wasL ps)[8 * a + i]? = some y
  | [], _, a, i, p, y, ha, _ => by simp at ha
  | q :: ps, h, 0, i, p, y, ha, hi => by
    simp at ha
    subst ha
    have e : wasL (q :: ps) = q.s ++ wasL ps := rfl
    have hl := (List.getElem?_eq_some_iff.1 hi).1
    rw [e, Nat.mul_zero, Nat.zero_add, List.getElem?_append_left hl, hi]
  | q :: ps, h, a + 1, i, p, y, ha, hi => by
    have h1 := h q (by simp)
    have e : wasL (q :: ps) = q.s ++ wasL ps := rfl
    rw [e, List.getElem?_append_right (by omega), h1, show 8 * (a + 1) + i - 8 = 8 * a + i from by omega]
    exact wasL_get (fun p hp => h p (by simp [hp])) (by simpa using ha) hi
theorem drop_last {n : Nat} {S : StS} {p : Int} (hd : dropB S p = true) : takeV (dropS n S p).F = p := by
  unfold dropS
  rw [if_pos hd]
  show takeV ((dropC n S p).F ++ [p]) = p
  unfold takeV
  rw [List.getLast?_append]
  rfl
theorem drop_gone {n : Nat} {S : StS} {p : Int} (hd : dropB S p = true) : dropB (dropS n S p) p = false := by
  unfold dropB
  rw [isPage_drop hd]
  simp
theorem drop_told {n : Nat} {first many : Int} {S : StS} (hP : okS n first many S) {p : Int} (hd : dropB S p = true) : toldL 1 p (allS (dropS n S p).ps) = [] := by
  have hQ := okS_drop hP p
  apply List.eq_nil_iff_forall_not_mem.2
  rintro ⟨f, i⟩ hm
  obtain ⟨y, hy, h1, h2⟩ := (toldL_mem hQ.nd hQ.s8).1 hm
  rw [slotAt_drop hP.nd hP.s8 hd] at hy
  by_cases hf : f = p
  · rw [if_pos hf] at hy
    exact absurd hy (by simp)
  · rw [if_neg hf] at hy
    cases hs : slotAt S.ps f i with
    | none =>
      rw [hs] at hy
      exact absurd hy (by simp)
    | some x =>
      rw [hs] at hy
      simp only [Option.map_some, Option.some.injEq] at hy
      by_cases hx : x.kd = 1 ∧ x.to = p
      · rw [if_pos hx] at hy
        have e : clr x = slotZ := by
          unfold clr
          rw [if_neg (by omega)]
        rw [e] at hy
        rw [← hy] at h1
        exact absurd h1 (by decide)
      · rw [if_neg hx] at hy
        rw [← hy] at h1 h2
        exact hx ⟨h1, h2⟩
theorem make_frame {S : StS} {k : KeyS} {p : Int} (h : takeV S.F = p) : makeB S k = true → makeV S k = p := fun hb => by
  unfold makeV
  rw [if_pos hb, h]
theorem infoSlot : (Try.prog.info? 42).map (fun i => (i.zero, i.size, i.bytes)) = some (some (.agg #[.int .i64 0, .int .i64 0, .bool false, .bool false, .bool false]), 5, 24) := by kernel_rfl

theorem snocW {w : World} {B : Nat} {P Q : Asr} {V : Value} {l : List SlotS} {x : SlotS} {X : List Asr} (h : Has w B (P :: Q :: row 42 5 V (l.length + 1) (slotsL l ++ slotL x) :: X)) : Has w B (P :: Q :: row 42 5 V (l ++ [x]).length (slotsL (l ++ [x])) :: X) := by
  rw [slotsL_snoc, List.length_append]
  exact h

set_option maxHeartbeats 12000000 in
set_option maxRecDepth 100000 in
theorem StoreDrops_walk (oa : Option Addr) (olen ocap : Nat) (l : List OpS) (at_ : Int) (k : KeyS) (w : World) (hA : ArgRow w 11 oa olen (l.flatMap opL)) (hl : ∀ x ∈ l, OpOk x) (hat : (Lit.int .u8 at_).wf = true) (hk : KeyOk k) :
    Calls Try.prog 4 #[.slice oa olen ocap, .int .u8 at_, .agg (keyC k)] w fun e w' => e = .returned (.bool true) ∧ Below w.heap.size w w' := by
  obtain rfl := sops_len hA
  have HA := hid hA
  have HOK := hid hl
  have hol := hA.small
  have hHz : Has w w.heap.size [] := Has.nil (Nat.le_refl _)
  have hH0 : Has _ w.heap.size [blk w.heap.size 31 (keyC k)] := hHz.newblk w.heap.size 31 (keyC k) rfl
  have hB0 := below_new (Below.refl _ w) hHz (.cells (keyC k) 31)
  obtain ⟨t0, t1⟩ := bounds_u8 hat
  clear hA hl hat hk hHz
  go_enter Try.func4, Try.ntmps4
  go_wp2_with fail
  refine (head_true _ _ _ hH0).mono ?_
  rintro e w1 ⟨_, rfl, hH1, hB1⟩
  have hB1 := hB0.trans hB1
  go_wp2_with fail
  refine (MemNew_yes 24 (by decide) (by decide) w1 _ _ hH1).mono ?_
  rintro e w2 ⟨hb, rfl, hH2, hB2⟩
  have hB2 := hB1.trans hB2
  have hH2 : Has w2 w.heap.size (MemA hb 24 (List.replicate (24 * 8) 0) :: [blk w.heap.size 31 (keyC k)]) := hH2
  clear hH0 hB0 hH1 hB1
  by_cases hbig : 200 < l.length
  · have e1 : decide (200 < l.length) = true := decide_eq_true hbig
    have e2 : decide (200 < (l.length : Int)) = true := decide_eq_true (by omega)
    go_wp2_with fail
    go_ret
    exact ⟨rfl, hB2⟩
  have e1 : decide (200 < l.length) = false := decide_eq_false hbig
  have e2 : decide (200 < (l.length : Int)) = false := decide_eq_false (by omega)
  go_wp2_with fail
  refine (NewIs hb 24 6 9 w2 _ _ _ (by decide) hH2).mono ?_
  rintro e w3 ⟨sb, rfl, hH3, hB3⟩
  have hB3 := hB2.trans hB3
  clear hH2 hB2 e1 e2
  go_wp2_with fail
  go_loopg [10] l.length (fun g i wr => ∃ j : Nat, g + j = l.length ∧ i = .int .i64 j ∧ Has wr w.heap.size (staL sb hb 24 6 9 (runS 24 ⟨List.replicate (24 * 8) 0, freshL 6 9 0, []⟩ (l.take j)) [blk w.heap.size 31 (keyC k)]) ∧ Below w.heap.size w wr)
  case atStart => exact ⟨0, by omega, rfl, hH3, hB3⟩
  case round =>
    obtain ⟨j, hj, rfl, hHr, hBr⟩ := hrel
    clear hH3 hB3
    have HJ := hid hj
    by_cases hlt : j < l.length
    · obtain ⟨x, hx⟩ : ∃ x, l[j]? = some x := ⟨_, List.getElem?_eq_getElem hlt⟩
      obtain ⟨b, of, rfl, hc⟩ := sops_at HA.out hBr hx
      have PA := hid hc
      have hst := runS_succ (n := 24) (S := ⟨List.replicate (24 * 8) 0, freshL 6 9 0, []⟩) hx
      have HST := hid hst
      have HX := hid (HOK.out x (List.mem_of_getElem? hx))
      clear hc hst hx hj
      go_wp2_with (refine wpList_load_at 35 (.tmp 52) rfl rfl ⟨b, of + j * 11, none⟩ rfl _ (opL x) PA.out Try.underlying35 rfl op_size ?_)
      refine (play_calls sb hb 24 6 9 _ x HX.out wr _ _ hHr).mono ?_
      rintro e w4 ⟨rfl, hH4, hB4⟩
      clear PA
      go_wp2_with fail
      go_roundg (gk - 1)
      case measure => have := HJ.out; omega
      case rel => exact ⟨j + 1, by have := HJ.out; omega, by go_num, by rw [HST.out]; exact hH4, hBr.trans hB4⟩
    · obtain rfl : j = l.length := by omega
      rw [List.take_length] at hHr
      obtain ⟨S, hS⟩ : ∃ S, runS 24 ⟨List.replicate (24 * 8) 0, freshL 6 9 0, []⟩ l = S := ⟨_, rfl⟩
      rw [hS] at hHr
      have HRUN := hid hS
      clear hj HJ hlt hS HOK HA
      have hinv := run_new (n := 24) (first := 6) (many := 9) (by decide) (W := List.replicate (24 * 8) 0) (by simp) (by decide) l
      rw [HRUN.out] at hinv
      clear HRUN
      obtain ⟨hP, _, _, _⟩ := hinv
      have HP := hid hP
      have hpl := hP.len
      obtain ⟨i0, hi0, z0, z1, z2⟩ := info_parts infoSlot
      clear hP
      go_wp2_with fail
      refine (AllIs sb hb 24 6 9 S wr _ _ _ rfl hHr).mono ?_
      rintro e v1 ⟨ao, acap, rfl, hV1, b1⟩
      have bA := hBr.trans b1
      obtain ⟨pl, hpl2⟩ : ∃ pl : List Int, S.ps.map (·.f) = pl := ⟨_, rfl⟩
      have hpll : pl.length = S.ps.length := by rw [← hpl2]; simp
      rw [hpl2] at hV1 ⊢
      have HPL := hid hpl2
      clear hHr hBr b1 hpl2
      by_cases hz : pl.length = 0
      · have e3 : (pl.length == 0) = true := by rw [beq_iff_eq]; exact hz
        have e3' : ((pl.length : Int) == 0) = true := by rw [beq_iff_eq]; omega
        have hps : S.ps = [] := List.eq_nil_of_length_eq_zero (by omega)
        have hcb : dropB S 6 = false := by unfold dropB; rw [hps]; rfl
        have CC := hid (DropIs sb hb 24 6 9 S v1 _ _ 6 false _ (by decide) hcb rfl hV1)
        clear hps hcb hz hpll
        go_wp2_with fail
        refine CC.out.mono ?_
        rintro e v2 ⟨rfl, hV2, b2⟩
        go_wp2_with fail
        go_ret
        exact ⟨rfl, bA.trans b2⟩
      have e3 : (pl.length == 0) = false := by rw [beq_eq_false_iff_ne]; exact hz
      have e3' : ((pl.length : Int) == 0) = false := by rw [beq_eq_false_iff_ne]; omega
      have u0 : 0 ≤ at_ % (pl.length : Int) := Int.emod_nonneg _ (by omega)
      have u1 : at_ % (pl.length : Int) < pl.length := Int.emod_lt_of_pos _ (by omega)
      obtain ⟨r, hr⟩ : ∃ r : Nat, at_ % (pl.length : Int) = (r : Int) := ⟨(at_ % (pl.length : Int)).toNat, by omega⟩
      have htr : at_.tmod (pl.length : Int) = (r : Int) := by rw [Int.tmod_eq_emod_of_nonneg t0, hr]
      have hr5 : r < pl.length := by omega
      have hwa : IntKind.i64.wrap at_ = at_ := IntWalk.i64_in _ (by omega)
      have hwr : IntKind.i64.wrap (r : Int) = (r : Int) := IntWalk.i64_in _ (by omega)
      have hpz : ¬ (pl.length : Int) = 0 := by omega
      obtain ⟨pg, hpg⟩ : ∃ pg, S.ps[r]? = some pg := ⟨_, List.getElem?_eq_getElem (by omega)⟩
      have hpm := List.mem_of_getElem? hpg
      have hrg := HP.out.rg pg hpm
      obtain ⟨p, hpf⟩ : ∃ p : Int, pg.f = p := ⟨_, rfl⟩
      have hpa : pl[r]? = some p := by rw [← HPL.out, List.getElem?_map, hpg, ← hpf]; rfl
      have hpo := pageAt_of HP.out.nd hpm
      have hdb : dropB S p = true := by unfold dropB; rw [← hpf, hpo]; rfl
      have hpw : (Lit.int .i64 p).wf = true := WalkArith.wf_i64 (by omega)
      obtain ⟨ao1, cap1, hv, _, _, hao⟩ := Has.row_form [_, _] _ hV1
      obtain ⟨ag, hag⟩ := hao (by omega)
      have hao2 : ao = some ⟨ag, 0, none⟩ := by injection hv with h1 h2 h3; rw [h1, hag]
      subst hao2
      have cl : v1.cell? ⟨ag, r, none⟩ = some (.int .i64 p) := Has.row_cell [_, _] _ hV1 r (by simp [hpa])
      have hpl3 : pl.length ≤ 256 := by omega
      have HPLL := hid hpll
      have HDB := hid hdb
      have HPW := hid hpw
      have hV2 : Has v1 w.heap.size (staL sb hb 24 6 9 S (row 42 5 (.slice none 0 0) (wasL (S.ps.take 0)).length (slotsL (wasL (S.ps.take 0))) :: row 3 1 (.slice (some ⟨ag, 0, none⟩) pl.length acap) pl.length (pl.map (Value.int .i64)) :: blk w.heap.size 31 (keyC k) :: [])) := toX (hV1.nilrow 42 5)
      clear hpll hpl hpg hpm hrg hpf hpa hpo hdb hpw hv hao hz hV1
      go_wp2_with fail
      clear cl hr htr hwa hwr u0 u1 e3 e3' hr5 hpz t0 t1
      go_loopg [13, 14] pl.length (fun g v i wq => ∃ (a : Nat) (V : Value), g + a = pl.length ∧ v = V ∧ i = .int .i64 a ∧ Has wq w.heap.size (staL sb hb 24 6 9 S (row 42 5 V (wasL (S.ps.take a)).length (slotsL (wasL (S.ps.take a))) :: row 3 1 (.slice (some ⟨ag, 0, none⟩) pl.length acap) pl.length (pl.map (Value.int .i64)) :: blk w.heap.size 31 (keyC k) :: [])) ∧ Below w.heap.size w wq)
      case atStart => exact ⟨0, _, by omega, rfl, rfl, hV2, bA⟩
      case round =>
        clear hV2 bA
        obtain ⟨a, V, ha, rfl, rfl, hV, bV⟩ := hrel
        obtain ⟨Vo, Vc, rfl, _, _, _⟩ := Has.row_form [_, _] _ hV
        have HA1 := hid ha
        by_cases hla : a < pl.length
        · have hlen := HPLL.out
          obtain ⟨q, hq⟩ : ∃ q, S.ps[a]? = some q := ⟨_, List.getElem?_eq_getElem (by omega)⟩
          have hqm := List.mem_of_getElem? hq
          have hqa : pl[a]? = some q.f := by rw [← HPL.out, List.getElem?_map, hq]; rfl
          have hqo := pageAt_of HP.out.nd hqm
          have h8 := HP.out.s8 q hqm
          have hal := wasL_succ hq h8
          have hlw : (wasL (S.ps.take a)).length ≤ 2048 := by
            rw [wasL_length (fun p hp => HP.out.s8 p (List.mem_of_mem_take hp)), List.length_take]
            omega
          have HQO := hid (And.intro hqo h8)
          have HQA := hid hqa
          have HAL := hid hal
          have HLW := hid hlw
          have zs := zeroSlotL
          have hV6 : Has wr w.heap.size (staL sb hb 24 6 9 S (row 42 5 (.slice Vo (wasL (S.ps.take a) ++ q.s.take 0).length Vc) (wasL (S.ps.take a) ++ q.s.take 0).length (slotsL (wasL (S.ps.take a) ++ q.s.take 0)) :: row 3 1 (.slice (some ⟨ag, 0, none⟩) pl.length acap) pl.length (pl.map (Value.int .i64)) :: blk w.heap.size 31 (keyC k) :: [])) := by
            rw [List.take_zero, List.append_nil]
            exact hV
          have hVe : (Value.slice Vo (wasL (S.ps.take a)).length Vc) = .slice Vo (wasL (S.ps.take a) ++ q.s.take 0).length Vc := by rw [List.take_zero, List.append_nil]
          obtain ⟨ga, hga⟩ : ∃ ga, ga = gk := ⟨_, rfl⟩
          have HGA := hid hga
          clear hq hqm hqa hqo h8 hal ha hlen hga hlw hV
          rw [hVe]
          clear hVe
          go_wp2_with fail
          go_loopg [13, 15] 8 (fun g v i' wq => ∃ (i : Nat) (V : Value), g + i = 8 ∧ v = V ∧ i' = .int .i64 i ∧ Has wq w.heap.size (staL sb hb 24 6 9 S (row 42 5 V (wasL (S.ps.take a) ++ q.s.take i).length (slotsL (wasL (S.ps.take a) ++ q.s.take i)) :: row 3 1 (.slice (some ⟨ag, 0, none⟩) pl.length acap) pl.length (pl.map (Value.int .i64)) :: blk w.heap.size 31 (keyC k) :: [])) ∧ Below w.heap.size w wq)
          case atStart => exact ⟨0, _, by omega, rfl, rfl, hV6, bV⟩
          case round =>
            clear hV6 bV
            obtain ⟨i, V, hi, rfl, rfl, hV, bV⟩ := hrel
            obtain ⟨Wo, Wc, rfl, _, _, _⟩ := Has.row_form [_, _] _ hV
            have HI := hid hi
            by_cases hli : i < 8
            · have hli' : (i : Int) < 8 := by omega
              obtain ⟨y, hy⟩ : ∃ y, q.s[i]? = some y := ⟨_, List.getElem?_eq_getElem (by have := HQO.out.2; omega)⟩
              have hsl : slotAt S.ps q.f (i : Int) = some y := slotAt_intro HQO.out.1 (by omega) (by simpa using hy)
              have hsu : q.s.take (i + 1) = q.s.take i ++ [y] := by rw [List.take_add_one, hy]; rfl
              have hpre : wasL (S.ps.take a) ++ q.s.take (i + 1) = (wasL (S.ps.take a) ++ q.s.take i) ++ [y] := by rw [hsu, List.append_assoc]
              have hl1 : (wasL (S.ps.take a) ++ q.s.take i).length ≤ 2056 := by
                have := HLW.out
                rw [List.length_append, List.length_take]
                omega
              obtain ⟨LI, hLI⟩ : ∃ LI, wasL (S.ps.take a) ++ q.s.take i = LI := ⟨_, rfl⟩
              rw [hLI] at hpre hl1 hV ⊢
              have HPRE := hid hpre
              have CS := hid (SlotIs sb hb 24 6 9 S wr _ _ q.f i y true (by rw [hsl]; rfl) (by rw [hsl]; rfl) hV)
              have cl : wr.cell? ⟨ag, a, none⟩ = some (.int .i64 q.f) := Has.row_cell [_, _, _] _ hV a (by simp [HQA.out])
              have tok2 : True := trivial
              have tok3 : True := trivial
              clear hy hsl hsu hpre hi hLI
              go_wp2_with fail
              refine CS.out.mono ?_
              rintro e x1 ⟨rfl, hX1, b1⟩
              have bV := bV.trans b1
              have hA7 := hX1.newblk x1.heap.size 42 #[.int .i64 0, .int .i64 0, .bool false, .bool false, .bool false] rfl
              have bV := below_new bV hX1 (.cells #[.int .i64 0, .int .i64 0, .bool false, .bool false, .bool false] 42)
              clear CS b1 hX1 hV cl
              go_wp2_with (first
                | (have _t := tok2; refine wpList_store_all [] _ hA7 42 (.tmp 16) (.tmp 92) rfl rfl rfl (slotC y) rfl slot_size rfl (slot_one _) ?_; clear _t tok2; intro x2 hX2 b2 hz; clear hz; have bW := bV.trans b2; have hX4 : Has x2 w.heap.size (staL sb hb 24 6 9 S (row 42 5 (.slice Wo LI.length Wc) (LI).length (slotsL (LI)) :: row 3 1 (.slice (some ⟨ag, 0, none⟩) pl.length acap) pl.length (pl.map (Value.int .i64)) :: blk w.heap.size 31 (keyC k) :: [])) := hX2.drop; have hX3 : Has x2 w.heap.size ([] ++ blk x1.heap.size 42 #[.int .i64 y.kd, .int .i64 y.to, .bool y.w, .bool y.u, .bool y.x] :: staL sb hb 24 6 9 S (row 42 5 (.slice Wo LI.length Wc) (LI).length (slotsL (LI)) :: row 3 1 (.slice (some ⟨ag, 0, none⟩) pl.length acap) pl.length (pl.map (Value.int .i64)) :: blk w.heap.size 31 (keyC k) :: [])) := hX2)
                | (refine wpList_load_blk [] _ hX3 42 (.tmp 16) rfl rfl rfl _ Try.underlying42 rfl slot_size ?_)
                | (at_builtin; refine wpList_append_row [_, _] _ (hX4.alloc _) rfl (.tmp 94) (.tmp 96) 51 rfl i0 (.agg #[.int .i64 0, .int .i64 0, .bool false, .bool false, .bool false]) 24 Try.underlying51 hi0 z0 z1 z2 rfl (by decide) rfl ⟨x2.heap.size, 0, none⟩ 1 1 (slotL y) rfl rfl (blk_adds [] _ (hX4.newblk x2.heap.size 42 (slotL y).toArray rfl)) (slot_one _) (by decide) (by unfold maxLen; omega) (by omega) ?_; intro g2 cap2 x6 hX6 b6; have bW := (below_new bW hX4 (.cells (slotL y).toArray 42)).trans b6))
              go_roundg (gk - 1)
              case measure => have := HI.out; omega
              case rel => exact ⟨i + 1, .slice (some ⟨g2, 0, none⟩) (LI.length + 1) cap2, by have := HI.out; omega, rfl, by go_num, by rw [HPRE.out]; exact snocW hX6, bW⟩
            · obtain rfl : i = 8 := by omega
              rw [← HAL.out] at hV ⊢
              clear hi HI hli
              go_wp2_with fail
              go_roundg (ga - 1)
              case measure => have := HA1.out; have := HGA.out; omega
              case rel => exact ⟨a + 1, _, by have := HA1.out; have := HGA.out; omega, rfl, by go_num, hV, bV⟩
        · obtain rfl : a = pl.length := by omega
          have e9 : S.ps.take pl.length = S.ps := List.take_of_length_le (by have := HPLL.out; omega)
          rw [e9] at hV ⊢
          clear ha HA1 hla e9
          obtain ⟨L, hL⟩ : ∃ L, wasL S.ps = L := ⟨_, rfl⟩
          have hLn : L.length = 8 * pl.length := by rw [← hL, wasL_length HP.out.s8, HPLL.out]
          rw [hL] at hV ⊢
          have HL := hid hL
          have HLN := hid hLn
          obtain ⟨T, hT⟩ : ∃ T, dropS 24 S p = T := ⟨_, rfl⟩
          have hgo := drop_gone (n := 24) HDB.out
          have hto := drop_told (n := 24) HP.out HDB.out
          have hfr := drop_last (n := 24) HDB.out
          rw [hT] at hgo hto hfr
          have hTT : dropS 24 T p = T := by unfold dropS; rw [hgo]; rfl
          have CD := hid (DropIs sb hb 24 6 9 S wr _ _ p true T HPW.out HDB.out hT hV)
          have CD2 := hid (fun (W : World) (X : List Asr) (hX : Has W w.heap.size (staL sb hb 24 6 9 T X)) => DropIs sb hb 24 6 9 T W _ _ p false T HPW.out hgo hTT hX)
          have CP := hid (fun (W : World) (X : List Asr) (hX : Has W w.heap.size (staL sb hb 24 6 9 T X)) => ParentsIs sb hb 24 6 9 T W _ _ p [] hto hX)
          have HT := hid hT
          have HFR := hid hfr
          clear hL hLn hT hgo hto hfr hTT z0 z1 z2 hi0
          clear i0
          go_wp2_with fail
          refine CD.out.mono ?_
          rintro e x1 ⟨rfl, hX1, b1⟩
          have bV := bV.trans b1
          clear CD b1 hV
          go_wp2_with fail
          refine (CD2.out _ _ hX1).mono ?_
          rintro e x2 ⟨rfl, hX2, b2⟩
          have bV := bV.trans b2
          clear CD2 b2 hX1
          go_wp2_with fail
          refine (CP.out _ _ hX2).mono ?_
          rintro e x3 ⟨po, pcap, rfl, hX3, b3⟩
          have bV := bV.trans b3
          have hX4 : Has x3 w.heap.size (staL sb hb 24 6 9 T (row 42 5 (.slice Vo L.length Vc) L.length (slotsL L) :: row 3 1 (.slice (some ⟨ag, 0, none⟩) pl.length acap) pl.length (pl.map (Value.int .i64)) :: blk w.heap.size 31 (keyC k) :: [])) := Has.drop (fromX hX3)
          clear CP b3 hX2 hX3
          go_wp2_with fail
          go_loopg [18] pl.length (fun g i wq => ∃ a : Nat, g + a = pl.length ∧ i = .int .i64 a ∧ Has wq w.heap.size (staL sb hb 24 6 9 T (row 42 5 (.slice Vo L.length Vc) L.length (slotsL L) :: row 3 1 (.slice (some ⟨ag, 0, none⟩) pl.length acap) pl.length (pl.map (Value.int .i64)) :: blk w.heap.size 31 (keyC k) :: [])) ∧ Below w.heap.size w wq)
          case atStart => exact ⟨0, by omega, rfl, hX4, bV⟩
          case round =>
            clear hX4 bV
            obtain ⟨a, ha, rfl, hV, bV⟩ := hrel
            have HA1 := hid ha
            by_cases hla : a < pl.length
            · have hlen := HPLL.out
              obtain ⟨q, hq⟩ : ∃ q, S.ps[a]? = some q := ⟨_, List.getElem?_eq_getElem (by omega)⟩
              have hqm := List.mem_of_getElem? hq
              have hqa : pl[a]? = some q.f := by rw [← HPL.out, List.getElem?_map, hq]; rfl
              have hqo := pageAt_of HP.out.nd hqm
              have h8 := HP.out.s8 q hqm
              have HQO := hid (And.intro hqo h8)
              have HQA := hid hqa
              have HQ := hid hq
              have zs := zeroSlotL
              obtain ⟨ga, hga⟩ : ∃ ga, ga = gk := ⟨_, rfl⟩
              have HGA := hid hga
              clear hq hqm hqa hqo h8 ha hlen hga
              go_wp2_with fail
              go_loopg [19] 8 (fun g i' wq => ∃ i : Nat, g + i = 8 ∧ i' = .int .i64 i ∧ Has wq w.heap.size (staL sb hb 24 6 9 T (row 42 5 (.slice Vo L.length Vc) L.length (slotsL L) :: row 3 1 (.slice (some ⟨ag, 0, none⟩) pl.length acap) pl.length (pl.map (Value.int .i64)) :: blk w.heap.size 31 (keyC k) :: [])) ∧ Below w.heap.size w wq)
              case atStart => exact ⟨0, by omega, rfl, hV, bV⟩
              case round =>
                clear hV bV
                obtain ⟨i, hi, rfl, hV, bV⟩ := hrel
                have HI := hid hi
                by_cases hli : i < 8
                · have hli' : (i : Int) < 8 := by omega
                  obtain ⟨y, hy⟩ : ∃ y, q.s[i]? = some y := ⟨_, List.getElem?_eq_getElem (by have := HQO.out.2; omega)⟩
                  have hsl : slotAt S.ps q.f (i : Int) = some y := slotAt_intro HQO.out.1 (by omega) (by simpa using hy)
                  have hget : L[8 * a + i]? = some y := by rw [← HL.out]; exact wasL_get HP.out.s8 HQ.out hy
                  have hsd := slotAt_drop (n := 24) HP.out.nd HP.out.s8 HDB.out q.f (i : Int)
                  rw [hsl, HT.out] at hsd
                  obtain ⟨z, hz⟩ : ∃ z, 8 * a + i = z := ⟨_, rfl⟩
                  rw [hz] at hget
                  have hw8 : IntKind.i64.wrap (8 * (a : Int)) = 8 * (a : Int) := IntWalk.i64_in _ (by omega)
                  have hwz : IntKind.i64.wrap (8 * (a : Int) + (i : Int)) = (z : Int) := by
                    rw [← hz]
                    have e : ((8 * a + i : Nat) : Int) = 8 * (a : Int) + (i : Int) := by omega
                    rw [e]
                    exact IntWalk.i64_in _ (by omega)
                  have hzl : z < L.length := (List.getElem?_eq_some_iff.1 hget).1
                  have hzl' : (z : Int) < (L.length : Int) := by omega
                  obtain ⟨Wo, Wc, hv, _, _, hao⟩ := Has.row_form [_, _] _ hV
                  injection hv with h1 h2 h3
                  subst h1 h3
                  obtain ⟨wg, hwg⟩ := hao (by omega)
                  subst hwg
                  have PA := hid (fun (W : World) (Y : List Asr) (hY : Has W w.heap.size (Y ++ row 42 5 (.slice (some ⟨wg, 0, none⟩) L.length Vc) L.length (slotsL L) :: row 3 1 (.slice (some ⟨ag, 0, none⟩) pl.length acap) pl.length (pl.map (Value.int .i64)) :: blk w.heap.size 31 (keyC k) :: [])) => Has.row_part Y _ hY (z * 5) (slotL y) (fun i u hu => by
                    have hi : i < 5 := by have := (List.getElem?_eq_some_iff.1 hu).1; simpa [slotL] using this
                    rw [slotsL, flat_get slotL 5 (fun _ => rfl) L z i y hget hi]
                    exact hu))
                  have cl : ∀ (W : World) (Y : List Asr), Has W w.heap.size (Y ++ row 42 5 (.slice (some ⟨wg, 0, none⟩) L.length Vc) L.length (slotsL L) :: row 3 1 (.slice (some ⟨ag, 0, none⟩) pl.length acap) pl.length (pl.map (Value.int .i64)) :: blk w.heap.size 31 (keyC k) :: []) → W.cell? ⟨ag, a, none⟩ = some (.int .i64 q.f) := fun W Y hY => by
                    have hY2 : Has W w.heap.size ((Y ++ [row 42 5 (.slice (some ⟨wg, 0, none⟩) L.length Vc) L.length (slotsL L)]) ++ row 3 1 (.slice (some ⟨ag, 0, none⟩) pl.length acap) pl.length (pl.map (Value.int .i64)) :: blk w.heap.size 31 (keyC k) :: []) := by simpa using hY
                    exact Has.row_cell (Y ++ [row 42 5 (.slice (some ⟨wg, 0, none⟩) L.length Vc) L.length (slotsL L)]) _ hY2 a (by simp [HQA.out])
                  have HCL := hid cl
                  have c1 := HCL.out _ [_, _] hV
                  have tok2 : True := trivial
                  have tok3 : True := trivial
                  clear hy hsl hget hi hz cl hao
                  by_cases hqp : q.f = p
                  · rw [if_pos hqp] at hsd
                    have q1 : (q.f == p) = true := by rw [beq_iff_eq]; exact hqp
                    have CS := hid (SlotIs sb hb 24 6 9 T wr _ _ q.f i slotZ false (by rw [hsd]; rfl) (by rw [hsd]; rfl) hV)
                    clear hsd hqp
                    go_wp2_with fail
                    refine CS.out.mono ?_
                    rintro e x1 ⟨rfl, hX1, b1⟩
                    have bV := bV.trans b1
                    have hA7 := hX1.newblk x1.heap.size 42 #[.int .i64 0, .int .i64 0, .bool false, .bool false, .bool false] rfl
                    have bV := below_new bV hX1 (.cells #[.int .i64 0, .int .i64 0, .bool false, .bool false, .bool false] 42)
                    clear CS b1 hX1 hV c1
                    go_wp2_with (first
                      | (have _t := tok2; refine wpList_store_all [] _ hA7 42 (.tmp 20) (.tmp 132) rfl rfl rfl (slotC slotZ) rfl slot_size rfl (slot_one _) ?_; clear _t tok2; intro x2 hX2 b2 hz; clear hz; have bW := bV.trans b2; have PX := PA.out _ [_, _, _] hX2; have hX2 := toX hX2; have hA8 := hX2.newblk x2.heap.size 42 #[.int .i64 0, .int .i64 0, .bool false, .bool false, .bool false] rfl; have bW := below_new bW hX2 (.cells #[.int .i64 0, .int .i64 0, .bool false, .bool false, .bool false] 42))
                      | (have _t := tok3; refine wpList_load_at 42 (.tmp 139) rfl rfl ⟨wg, z * 5, none⟩ rfl _ (slotL y) PX Try.underlying42 rfl slot_size ?_)
                      | (have _t := tok3; refine wpList_store_all [] _ hA8 42 (.tmp 22) (.tmp 140) rfl rfl rfl (slotL y).toArray rfl slot_size rfl (slot_one _) ?_; clear _t tok3; intro x3 hX3 b3 hz; clear hz; have bW := bW.trans b3; have c2 := HCL.out _ [_, _, _, _] hX3; have y0 := hX3.cell [] _ 0 (v := .int .i64 y.kd) rfl; have y1 := hX3.cell [] _ 1 (v := .int .i64 y.to) rfl))
                    go_roundg (gk - 1)
                    case measure => have := HI.out; omega
                    case rel => exact ⟨i + 1, by have := HI.out; omega, by go_num, hX3.pick [1, 2, 4, 5, 6], bW⟩
                  · rw [if_neg hqp] at hsd
                    have q1 : (q.f == p) = false := by rw [beq_eq_false_iff_ne]; exact hqp
                    by_cases hk1 : y.kd = 1
                    · have k1 : (y.kd == 1) = true := by rw [beq_iff_eq]; exact hk1
                      have k1' : (y.kd != 1) = false := by rw [hk1]; rfl
                      by_cases hyp : y.to = p
                      · have t1 : (y.to == p) = true := by rw [beq_iff_eq]; exact hyp
                        have t1' : (y.to != p) = false := by rw [hyp]; simp
                        have hx : slotAt T.ps q.f (i : Int) = some slotZ := by
                          rw [hsd, Option.map_some, if_pos ⟨hk1, hyp⟩]
                          unfold clr
                          rw [if_neg (by omega)]
                        have CS := hid (SlotIs sb hb 24 6 9 T wr _ _ q.f i slotZ true (by rw [hx]; rfl) (by rw [hx]; rfl) hV)
                        clear hsd hqp hk1 hyp hx
                        go_wp2_with fail
                        refine CS.out.mono ?_
                        rintro e x1 ⟨rfl, hX1, b1⟩
                        have bV := bV.trans b1
                        have hA7 := hX1.newblk x1.heap.size 42 #[.int .i64 0, .int .i64 0, .bool false, .bool false, .bool false] rfl
                        have bV := below_new bV hX1 (.cells #[.int .i64 0, .int .i64 0, .bool false, .bool false, .bool false] 42)
                        clear CS b1 hX1 hV c1
                        have hN0 : ∀ W, Sem.run Try.prog (binOp .neq 42 (.agg (slotC slotZ)) (.agg #[.int .i64 0, .int .i64 0, .bool false, .bool false, .bool false])) W = .ok (.bool false) W := fun W => (slotS_neq slotZ slotZ W).trans (by simp)
                        go_wp2_with (first
                          | (have _t := tok2; refine wpList_store_all [] _ hA7 42 (.tmp 20) (.tmp 132) rfl rfl rfl (slotC slotZ) rfl slot_size rfl (slot_one _) ?_; clear _t tok2; intro x2 hX2 b2 hz; clear hz; have bW := bV.trans b2; have PX := PA.out _ [_, _, _] hX2; have hX2 := toX hX2; have hA8 := hX2.newblk x2.heap.size 42 #[.int .i64 0, .int .i64 0, .bool false, .bool false, .bool false] rfl; have bW := below_new bW hX2 (.cells #[.int .i64 0, .int .i64 0, .bool false, .bool false, .bool false] 42))
                          | (have _t := tok3; refine wpList_load_at 42 (.tmp 139) rfl rfl ⟨wg, z * 5, none⟩ rfl _ (slotL y) PX Try.underlying42 rfl slot_size ?_)
                          | (have _t := tok3; refine wpList_store_all [] _ hA8 42 (.tmp 22) (.tmp 140) rfl rfl rfl (slotL y).toArray rfl slot_size rfl (slot_one _) ?_; clear _t tok3; intro x3 hX3 b3 hz; clear hz; have bW := bW.trans b3; have c2 := HCL.out _ [_, _, _, _] hX3; have y0 := hX3.cell [] _ 0 (v := .int .i64 y.kd) rfl; have y1 := hX3.cell [] _ 1 (v := .int .i64 y.to) rfl)
                          | (refine wpList_load_blk [_,_,_] _ hX3 42 (.tmp 20) rfl rfl rfl _ Try.underlying42 rfl slot_size ?_)
                          | (refine wpList_load_blk [] _ hX3 42 (.tmp 22) rfl rfl rfl _ Try.underlying42 rfl slot_size ?_))
                        go_roundg (gk - 1)
                        case measure => have := HI.out; omega
                        case rel => exact ⟨i + 1, by have := HI.out; omega, by go_num, hX3.pick [1, 2, 4, 5, 6], bW⟩
                      · have t1 : (y.to == p) = false := by rw [beq_eq_false_iff_ne]; exact hyp
                        have t1' : (y.to != p) = true := by simpa using hyp
                        have hx : slotAt T.ps q.f (i : Int) = some y := by rw [hsd, Option.map_some, if_neg (fun h => hyp h.2)]
                        have CS := hid (SlotIs sb hb 24 6 9 T wr _ _ q.f i y true (by rw [hx]; rfl) (by rw [hx]; rfl) hV)
                        clear hsd hqp hk1 hyp hx
                        go_wp2_with fail
                        refine CS.out.mono ?_
                        rintro e x1 ⟨rfl, hX1, b1⟩
                        have bV := bV.trans b1
                        have hA7 := hX1.newblk x1.heap.size 42 #[.int .i64 0, .int .i64 0, .bool false, .bool false, .bool false] rfl
                        have bV := below_new bV hX1 (.cells #[.int .i64 0, .int .i64 0, .bool false, .bool false, .bool false] 42)
                        clear CS b1 hX1 hV c1
                        have hN0 : ∀ W, Sem.run Try.prog (binOp .neq 42 (.agg (slotC y)) (.agg (slotL y).toArray)) W = .ok (.bool false) W := fun W => (slotS_neq y y W).trans (by simp)
                        go_wp2_with (first
                          | (have _t := tok2; refine wpList_store_all [] _ hA7 42 (.tmp 20) (.tmp 132) rfl rfl rfl (slotC y) rfl slot_size rfl (slot_one _) ?_; clear _t tok2; intro x2 hX2 b2 hz; clear hz; have bW := bV.trans b2; have PX := PA.out _ [_, _, _] hX2; have hX2 := toX hX2; have hA8 := hX2.newblk x2.heap.size 42 #[.int .i64 0, .int .i64 0, .bool false, .bool false, .bool false] rfl; have bW := below_new bW hX2 (.cells #[.int .i64 0, .int .i64 0, .bool false, .bool false, .bool false] 42))
                          | (have _t := tok3; refine wpList_load_at 42 (.tmp 139) rfl rfl ⟨wg, z * 5, none⟩ rfl _ (slotL y) PX Try.underlying42 rfl slot_size ?_)
                          | (have _t := tok3; refine wpList_store_all [] _ hA8 42 (.tmp 22) (.tmp 140) rfl rfl rfl (slotL y).toArray rfl slot_size rfl (slot_one _) ?_; clear _t tok3; intro x3 hX3 b3 hz; clear hz; have bW := bW.trans b3; have c2 := HCL.out _ [_, _, _, _] hX3; have y0 := hX3.cell [] _ 0 (v := .int .i64 y.kd) rfl; have y1 := hX3.cell [] _ 1 (v := .int .i64 y.to) rfl)
                          | (refine wpList_load_blk [_,_,_] _ hX3 42 (.tmp 20) rfl rfl rfl _ Try.underlying42 rfl slot_size ?_)
                          | (refine wpList_load_blk [] _ hX3 42 (.tmp 22) rfl rfl rfl _ Try.underlying42 rfl slot_size ?_))
                        go_roundg (gk - 1)
                        case measure => have := HI.out; omega
                        case rel => exact ⟨i + 1, by have := HI.out; omega, by go_num, hX3.pick [1, 2, 4, 5, 6], bW⟩
                    · have k1 : (y.kd == 1) = false := by rw [beq_eq_false_iff_ne]; exact hk1
                      have k1' : (y.kd != 1) = true := by simpa using hk1
                      have hx : slotAt T.ps q.f (i : Int) = some y := by rw [hsd, Option.map_some, if_neg (fun h => hk1 h.1)]
                      have CS := hid (SlotIs sb hb 24 6 9 T wr _ _ q.f i y true (by rw [hx]; rfl) (by rw [hx]; rfl) hV)
                      clear hsd hqp hk1 hx
                      go_wp2_with fail
                      refine CS.out.mono ?_
                      rintro e x1 ⟨rfl, hX1, b1⟩
                      have bV := bV.trans b1
                      have hA7 := hX1.newblk x1.heap.size 42 #[.int .i64 0, .int .i64 0, .bool false, .bool false, .bool false] rfl
                      have bV := below_new bV hX1 (.cells #[.int .i64 0, .int .i64 0, .bool false, .bool false, .bool false] 42)
                      clear CS b1 hX1 hV c1
                      have hN0 : ∀ W, Sem.run Try.prog (binOp .neq 42 (.agg (slotC y)) (.agg (slotL y).toArray)) W = .ok (.bool false) W := fun W => (slotS_neq y y W).trans (by simp)
                      go_wp2_with (first
                        | (have _t := tok2; refine wpList_store_all [] _ hA7 42 (.tmp 20) (.tmp 132) rfl rfl rfl (slotC y) rfl slot_size rfl (slot_one _) ?_; clear _t tok2; intro x2 hX2 b2 hz; clear hz; have bW := bV.trans b2; have PX := PA.out _ [_, _, _] hX2; have hX2 := toX hX2; have hA8 := hX2.newblk x2.heap.size 42 #[.int .i64 0, .int .i64 0, .bool false, .bool false, .bool false] rfl; have bW := below_new bW hX2 (.cells #[.int .i64 0, .int .i64 0, .bool false, .bool false, .bool false] 42))
                        | (have _t := tok3; refine wpList_load_at 42 (.tmp 139) rfl rfl ⟨wg, z * 5, none⟩ rfl _ (slotL y) PX Try.underlying42 rfl slot_size ?_)
                        | (have _t := tok3; refine wpList_store_all [] _ hA8 42 (.tmp 22) (.tmp 140) rfl rfl rfl (slotL y).toArray rfl slot_size rfl (slot_one _) ?_; clear _t tok3; intro x3 hX3 b3 hz; clear hz; have bW := bW.trans b3; have c2 := HCL.out _ [_, _, _, _] hX3; have y0 := hX3.cell [] _ 0 (v := .int .i64 y.kd) rfl; have y1 := hX3.cell [] _ 1 (v := .int .i64 y.to) rfl)
                        | (refine wpList_load_blk [_,_,_] _ hX3 42 (.tmp 20) rfl rfl rfl _ Try.underlying42 rfl slot_size ?_)
                        | (refine wpList_load_blk [] _ hX3 42 (.tmp 22) rfl rfl rfl _ Try.underlying42 rfl slot_size ?_))
                      go_roundg (gk - 1)
                      case measure => have := HI.out; omega
                      case rel => exact ⟨i + 1, by have := HI.out; omega, by go_num, hX3.pick [1, 2, 4, 5, 6], bW⟩
                · obtain rfl : i = 8 := by omega
                  clear hi HI hli
                  go_wp2_with fail
                  go_roundg (ga - 1)
                  case measure => have := HA1.out; have := HGA.out; omega
                  case rel => exact ⟨a + 1, by have := HA1.out; have := HGA.out; omega, by go_num, hV, bV⟩
            · obtain rfl : a = pl.length := by omega
              obtain ⟨mv, hmv⟩ : ∃ v, makeV T k = v := ⟨_, rfl⟩
              obtain ⟨mb, hmb⟩ : ∃ b, makeB T k = b := ⟨_, rfl⟩
              have hmk := make_frame (k := k) HFR.out
              rw [hmv, hmb] at hmk
              have CM := hid (MakeIs sb hb 24 6 9 T wr _ _ k mv mb _ hmv hmb rfl hV)
              have HMK := hid hmk
              clear ha HA1 hla hmv hmb hmk
              go_wp2_with (refine wpList_load_blk [_, _, _, _] _ hV 31 (.tmp 5) rfl rfl rfl _ Try.underlying31 rfl key_size ?_)
              refine CM.out.mono ?_
              rintro e x1 ⟨rfl, hX1, b1⟩
              clear CM
              cases mb with
              | false =>
                go_wp2_with fail
                go_ret
                exact ⟨rfl, bV.trans b1⟩
              | true =>
                have e4 : (mv == p) = true := by rw [beq_iff_eq]; exact HMK.out rfl
                go_wp2_with fail
                go_ret
                exact ⟨rfl, bV.trans b1⟩

end Go.Proofs.Yteeapkndappnoaa
