/-
  StoreApart: pages are apart, within the frames that they may have, and of unlike, right keys, by which each is found; as many are free as are no pages.
-/
import Derived.Test.YteeapkndappnoaaStoHead
import Derived.Deep.LoopGhost
import Derived.Test.YteeapkndappnoaaStoInv
namespace Go.Proofs.Yteeapkndappnoaa
open Go.RowKit
set_option linter.unusedVariables false
set_option linter.unusedSimpArgs false

theorem findK_of {ps : List PageS} (hn : (ps.map (·.k)).Nodup) {p : PageS} (hp : p ∈ ps) : findK ps p.k = some p := by
  unfold findK
  induction ps with
  | nil => cases hp
  | cons q ps ih =>
    rw [List.map_cons, List.nodup_cons] at hn
    rcases List.mem_cons.1 hp with rfl | hp
    · simp
    · have hne : ¬ q.k = p.k := fun e => hn.1 (List.mem_map.2 ⟨p, hp, e.symm⟩)
      rw [List.find?_cons_of_neg (by simpa using hne)]
      exact ih hn.2 hp
theorem framesOf_count {ps : List PageS} (hn : (ps.map (·.f)).Nodup) (is : KeyS → Bool) {p : PageS} (hp : p ∈ ps) : (framesOf is ps).count p.f = if is p.k then 1 else 0 := by
  unfold framesOf
  have hs : ((ps.filter fun p => is p.k).map (·.f)).Nodup := hn.sublist (List.Sublist.map _ (List.filter_sublist))
  by_cases h : is p.k = true
  · rw [if_pos h, hs.count, if_pos (List.mem_map.2 ⟨p, List.mem_filter.2 ⟨hp, h⟩, rfl⟩)]
  · rw [if_neg h]
    refine List.count_eq_zero.2 fun hm => ?_
    obtain ⟨q, hq, e⟩ := List.mem_map.1 hm
    obtain ⟨hq1, hq2⟩ := List.mem_filter.1 hq
    have h1 := pageAt_of hn hq1
    rw [e, pageAt_of hn hp] at h1
    injection h1 with h1
    rw [h1] at h
    exact h hq2
theorem ofP_own (k : KeyS) : ofP k.g k = (k.ro == 0) := by simp [ofP]
theorem count_take {l : List Int} {k : Nat} {x y : Int} (h : l[k]? = some x) : (l.take (k + 1)).count y = (l.take k).count y + (if x = y then 1 else 0) := by
  rw [List.take_add_one, h, List.count_append]
  by_cases e : x = y <;> simp [e]

set_option maxHeartbeats 4000000 in
set_option maxRecDepth 100000 in
theorem StoreApart_walk (many : Int) (oa : Option Addr) (olen ocap : Nat) (l : List OpS) (w : World) (hmany : (Lit.int .u8 many).wf = true) (hA : ArgRow w 11 oa olen (l.flatMap opL)) (hl : ∀ x ∈ l, OpOk x) :
    Calls Try.prog 6 #[.int .u8 many, .slice oa olen ocap] w fun e w' => e = .returned (.bool true) ∧ Below w.heap.size w w' := by
  obtain rfl := sops_len hA
  have HA := hid hA
  have HOK := hid hl
  have hol := hA.small
  have hHz : Has w w.heap.size [] := Has.nil (Nat.le_refl _)
  have hH0 : Has w w.heap.size [] := hHz
  have hB0 := Below.refl w.heap.size w
  obtain ⟨t0, t1⟩ := bounds_u8 hmany
  have u0 : 0 ≤ many % 19 := Int.emod_nonneg _ (by decide)
  have u1 : many % 19 < 19 := Int.emod_lt_of_pos _ (by decide)
  obtain ⟨m, hm⟩ : ∃ m : Nat, many % 19 = (m : Int) := ⟨(many % 19).toNat, by omega⟩
  have m18 : m ≤ 18 := by omega
  have htm : many.tmod 19 = (m : Int) := by rw [Int.tmod_eq_emod_of_nonneg t0, hm]
  have hw8 : IntKind.u8.wrap (m : Int) = (m : Int) := by have : IntKind.u8.wrap (m : Int) = (m : Int) % 256 := rfl; rw [this]; exact Int.emod_eq_of_lt (by omega) (by omega)
  have hw64 : IntKind.i64.wrap (m : Int) = (m : Int) := IntWalk.i64_in _ (by omega)
  have e18 : decide ((18 : Int) < (m : Int)) = false := decide_eq_false (by omega)
  have e18' : decide (18 < m) = false := decide_eq_false (by omega)
  clear hmany
  clear hA hl hHz
  go_enter Try.func6, Try.ntmps6
  go_wp2_with fail
  refine (head_true _ _ _ hH0).mono ?_
  rintro e w1 ⟨_, rfl, hH1, hB1⟩
  have hB1 := hB0.trans hB1
  go_wp2_with fail
  refine (MemNew_yes 24 (by decide) (by decide) w1 _ _ hH1).mono ?_
  rintro e w2 ⟨hb, rfl, hH2, hB2⟩
  have hB2 := hB1.trans hB2
  have hH2 : Has w2 w.heap.size (MemA hb 24 (List.replicate (24 * 8) 0) :: []) := hH2
  clear hH0 hB0 hH1 hB1
  by_cases hbig : 200 < l.length
  · have e1 : decide (200 < l.length) = true := decide_eq_true hbig
    have e2 : decide (200 < (l.length : Int)) = true := decide_eq_true (by omega)
    go_wp2_with fail
    go_ret
    exact ⟨rfl, hB2⟩
  have e1 : decide (200 < l.length) = false := decide_eq_false hbig
  have e2 : decide (200 < (l.length : Int)) = false := decide_eq_false (by omega)
  go_wp2_with fail
  refine (NewIs hb 24 6 (m : Int) w2 _ _ _ ⟨by decide, by omega, by decide, by omega, by omega⟩ hH2).mono ?_
  rintro e w3 ⟨sb, rfl, hH3, hB3⟩
  have hB3 := hB2.trans hB3
  clear hH2 hB2 e1 e2
  go_wp2_with fail
  go_loopg [9] l.length (fun g i wr => ∃ j : Nat, g + j = l.length ∧ i = .int .i64 j ∧ Has wr w.heap.size (staL sb hb 24 6 (m : Int) (runS 24 ⟨List.replicate (24 * 8) 0, freshL 6 (m : Int) 0, []⟩ (l.take j)) []) ∧ Below w.heap.size w wr)
  case atStart => exact ⟨0, by omega, rfl, hH3, hB3⟩
  case round =>
    obtain ⟨j, hj, rfl, hHr, hBr⟩ := hrel
    clear hH3 hB3
    have HJ := hid hj
    by_cases hlt : j < l.length
    · obtain ⟨x, hx⟩ : ∃ x, l[j]? = some x := ⟨_, List.getElem?_eq_getElem hlt⟩
      obtain ⟨b, of, rfl, hc⟩ := sops_at HA.out hBr hx
      have PA := hid hc
      have hst := runS_succ (n := 24) (S := ⟨List.replicate (24 * 8) 0, freshL 6 (m : Int) 0, []⟩) hx
      have HX := hid (HOK.out x (List.mem_of_getElem? hx))
      obtain ⟨S, hS⟩ : ∃ S, runS 24 ⟨List.replicate (24 * 8) 0, freshL 6 (m : Int) 0, []⟩ (l.take (j + 1)) = S := ⟨_, rfl⟩
      have HRS := hid hS
      rw [hS] at hst
      have HST := hid hst
      clear hc hst hx hj hS
      go_wp2_with (refine wpList_load_at 35 (.tmp 54) rfl rfl ⟨b, of + j * 11, none⟩ rfl _ (opL x) PA.out Try.underlying35 rfl op_size ?_)
      refine (play_calls sb hb 24 6 (m : Int) _ x HX.out wr _ _ hHr).mono ?_
      rintro e v1 ⟨rfl, hV1, b1⟩
      rw [← HST.out] at hV1
      have bA := hBr.trans b1
      have hP := StoA.fits hV1
      have HP := hid hP
      have hln := hP.ln
      have hpl := hP.len
      clear PA HX HST hHr hBr b1 hP
      obtain ⟨gj, hgj⟩ : ∃ gj, gj = gk := ⟨_, rfl⟩
      have HGJ := hid hgj
      clear hgj
      go_wp2_with fail
      refine (AllIs sb hb 24 6 (m : Int) S v1 _ _ _ rfl hV1).mono ?_
      rintro e v2 ⟨ao, acap, rfl, hV2, b2⟩
      have bA := bA.trans b2
      obtain ⟨pl, hpl2⟩ : ∃ pl : List Int, S.ps.map (·.f) = pl := ⟨_, rfl⟩
      have hpll : pl.length = S.ps.length := by rw [← hpl2]; simp
      rw [hpl2] at hV2 ⊢
      have HPL := hid hpl2
      clear hV1 b2 hpl2
      have CL := hid (LeftIs sb hb 24 6 (m : Int) S v2 _ _ _ rfl hV2)
      have e3 : IntKind.i64.wrap (((S.F.length : Nat) : Int) + (pl.length : Int)) = (m : Int) := by rw [hpll, hln]; exact IntWalk.i64_in _ (by omega)
      go_wp2_with fail
      refine CL.out.mono ?_
      rintro e v3 ⟨rfl, hV3, b3⟩
      have bA := bA.trans b3
      clear CL b3 hV2
      go_wp2_with fail
      go_loopg [11] pl.length (fun g i wq => ∃ a : Nat, g + a = pl.length ∧ i = .int .i64 a ∧ Has wq w.heap.size (staL sb hb 24 6 (m : Int) S [row 3 1 (.slice ao pl.length acap) pl.length (pl.map (Value.int .i64))]) ∧ Below w.heap.size w wq)
      case atStart => exact ⟨0, by omega, rfl, hV3, bA⟩
      case round =>
        clear hV3 bA
        obtain ⟨a, ha, rfl, hV3, bA⟩ := hrel
        have HAA := hid ha
        by_cases hla : a < pl.length
        · obtain ⟨p, hp⟩ : ∃ p, S.ps[a]? = some p := ⟨_, List.getElem?_eq_getElem (by omega)⟩
          have hpm := List.mem_of_getElem? hp
          have hpa : pl[a]? = some p.f := by rw [← HPL.out, List.getElem?_map, hp]; rfl
          have hrg := HP.out.rg p hpm
          have hrk := HP.out.ok p hpm
          have hpo := pageAt_of HP.out.nd hpm
          have CK := hid (KeyIs sb hb 24 6 (m : Int) S p.f p.k true (by unfold keyAt; rw [hpo]) (by rw [hpo]; rfl) wr _ _ hV3)
          have HFK := hid (findK_of HP.out.kd hpm)
          have HCT := hid (framesOf_count HP.out.nd (ofP p.k.g) hpm)
          obtain ⟨ao1, cap1, hv, _, _, hao⟩ := Has.row_form [_, _] _ hV3
          obtain ⟨g, hg⟩ := hao (by omega)
          have hao2 : ao = some ⟨g, 0, none⟩ := by injection hv with h1 h2 h3; rw [h1, hg]
          subst hao2
          have cl : wr.cell? ⟨g, a, none⟩ = some (.int .i64 p.f) := Has.row_cell [_, _] _ hV3 a (by simp [hpa])
          have HPA := hid hpa
          have HRG := hid hrg
          have HRK := hid hrk
          have zk := zeroKeyL
          clear hp hpm hpa hpo hv hao hrg hrk ha
          go_wp2_with fail
          refine CK.out.mono ?_
          rintro e v4 ⟨rfl, hV4, b4⟩
          have bA := bA.trans b4
          have hA4 := hV4.newblk v4.heap.size 31 (keyC keyZ) rfl
          have bA := below_new bA hV4 (.cells (keyC keyZ) 31)
          clear CK b4 hV3 cl
          have tok1 : True := trivial
          go_wp2_with (have _t := tok1; refine wpList_store_all [] _ hA4 31 (.tmp 12) (.tmp 79) rfl rfl rfl (keyC p.k) rfl key_size rfl (key_one _) ?_; clear _t tok1; intro v5 hV5 b5 hz; clear hz; have hV6 := toX hV5; have z0 := Has.cell [_, _] _ hV6 0 (v := .int .i64 p.k.g) rfl; have z1 := Has.cell [_, _] _ hV6 1 (v := .int .i64 p.k.lv) rfl; have z2 := Has.cell [_, _] _ hV6 2 (v := .int .i64 p.k.ro) rfl)
          have bA := bA.trans b5
          have hV6 : Has v5 w.heap.size (staL sb hb 24 6 (m : Int) S (blk v4.heap.size 31 (keyC p.k) :: row 3 1 (.slice (some ⟨g, 0, none⟩) pl.length acap) pl.length (pl.map (Value.int .i64)) :: [])) := hV6
          refine (FindIs sb hb 24 6 (m : Int) S p.k p.f true (by rw [HFK.out]) (by rw [HFK.out]; rfl) v5 _ _ hV6).mono ?_
          rintro e v7 ⟨rfl, hV7, b7⟩
          have bA := bA.trans b7
          have hV7 : Has v7 w.heap.size (staL sb hb 24 6 (m : Int) S (blk v4.heap.size 31 (keyC p.k) :: row 3 1 (.slice (some ⟨g, 0, none⟩) pl.length acap) pl.length (pl.map (Value.int .i64)) :: [])) := hV7
          clear z0 z1 z2 hV6 hV5 hA4 b5 b7
          have z0 := Has.cell [_, _] _ hV7 0 (v := .int .i64 p.k.g) rfl
          have z1 := Has.cell [_, _] _ hV7 1 (v := .int .i64 p.k.lv) rfl
          have z2 := Has.cell [_, _] _ hV7 2 (v := .int .i64 p.k.ro) rfl
          have cl : v7.cell? ⟨g, a, none⟩ = some (.int .i64 p.f) := Has.row_cell [_, _, _] _ hV7 a (by simp [HPA.out])
          have e4 : decide (p.f < 6) = false := decide_eq_false (by have := HRG.out.1; omega)
          have e5 : IntKind.i64.wrap (6 + (m : Int)) = 6 + (m : Int) := IntWalk.i64_in _ (by omega)
          have e6 : decide (6 + (m : Int) ≤ p.f) = false := decide_eq_false (by have := HRG.out.2; omega)
          have e7 : decide (p.k.lv < 1) = false := decide_eq_false (by have := HRK.out.1; omega)
          have e8 : decide (3 < p.k.lv) = false := decide_eq_false (by have := HRK.out.2.1; omega)
          obtain ⟨of, hof⟩ : ∃ of, framesOf (ofP p.k.g) S.ps = of := ⟨_, rfl⟩
          have hol2 : of.length ≤ 256 := by rw [← hof]; exact Nat.le_trans (framesOf_le _ _) hpl
          have hct := HCT.out
          rw [hof, ofP_own] at hct
          have HOF := hid hof
          have HC2 := hid hct
          clear hof hct HCT
          by_cases hro : p.k.ro = 0
          · have r1 : (p.k.ro == 0) = true := by rw [beq_iff_eq]; exact hro
            have r2 : (p.k.ro != 0) = false := by simp [hro]
            have hc3 : of.count p.f = 1 := by have := HC2.out; rw [r1] at this; simpa using this
            have HC3 := hid hc3
            clear hc3 hro
            go_wp2_with fail
            refine (OfIs sb hb 24 6 (m : Int) S v7 _ _ p.k.g of HOF.out hV7).mono ?_
            rintro e v8 ⟨oo, ocap2, rfl, hV8, b8⟩
            have bA := bA.trans b8
            have hV8 : Has v8 w.heap.size (staL sb hb 24 6 (m : Int) S (row 3 1 (.slice oo of.length ocap2) of.length (of.map (Value.int .i64)) :: blk v4.heap.size 31 (keyC p.k) :: row 3 1 (.slice (some ⟨g, 0, none⟩) pl.length acap) pl.length (pl.map (Value.int .i64)) :: [])) := hV8
            clear z0 z1 z2 cl hV7 b8 e4 e5 e6 e7 e8
            obtain ⟨ga, hga⟩ : ∃ ga, ga = gk := ⟨_, rfl⟩
            have HGA := hid hga
            clear hga
            go_wp2_with fail
            go_loopg [17, 18] of.length (fun g' n i wz => ∃ c : Nat, g' + c = of.length ∧ n = .int .i64 (((of.take c).count p.f : Nat) : Int) ∧ i = .int .i64 c ∧ Has wz w.heap.size (staL sb hb 24 6 (m : Int) S (row 3 1 (.slice oo of.length ocap2) of.length (of.map (Value.int .i64)) :: blk v4.heap.size 31 (keyC p.k) :: row 3 1 (.slice (some ⟨g, 0, none⟩) pl.length acap) pl.length (pl.map (Value.int .i64)) :: [])) ∧ Below w.heap.size w wz)
            case atStart => exact ⟨0, by omega, rfl, rfl, hV8, bA⟩
            case round =>
              clear hV8 bA
              obtain ⟨c, hc, rfl, rfl, hV8, bA⟩ := hrel
              have HCC := hid hc
              have hcl : (of.take c).count p.f ≤ of.length := Nat.le_trans List.count_le_length (by simp; omega)
              by_cases hlc : c < of.length
              · obtain ⟨y, hy⟩ : ∃ y, of[c]? = some y := ⟨_, List.getElem?_eq_getElem hlc⟩
                obtain ⟨oo1, cap3, hv, _, _, hoo⟩ := Has.row_form [_, _] _ hV8
                obtain ⟨g4, hg4⟩ := hoo (by omega)
                have hoo2 : oo = some ⟨g4, 0, none⟩ := by injection hv with h1 h2 h3; rw [h1, hg4]
                subst hoo2
                have cy : wr.cell? ⟨g4, c, none⟩ = some (.int .i64 y) := Has.row_cell [_, _] _ hV8 c (by simp [hy])
                have hct := count_take (y := p.f) hy
                have HCT := hid hct
                clear hv hoo hy hct hc
                by_cases hyf : y = p.f
                · have r5 : (y == p.f) = true := by rw [beq_iff_eq]; exact hyf
                  have HYF := hid hyf
                  clear hyf
                  go_wp2_with fail
                  go_roundg (gk - 1)
                  case measure => have := HCC.out; omega
                  case rel => exact ⟨c + 1, by have := HCC.out; omega, by rw [HCT.out, if_pos HYF.out]; go_num, by go_num, hV8, bA⟩
                · have r5 : (y == p.f) = false := by rw [beq_eq_false_iff_ne]; exact hyf
                  have HYF := hid hyf
                  clear hyf
                  go_wp2_with fail
                  go_roundg (gk - 1)
                  case measure => have := HCC.out; omega
                  case rel => exact ⟨c + 1, by have := HCC.out; omega, by rw [HCT.out, if_neg HYF.out]; rfl, by go_num, hV8, bA⟩
              · obtain rfl : c = of.length := by omega
                rw [List.take_length, HC3.out]
                have z2 := Has.cell [_, _, _] _ hV8 2 (v := .int .i64 p.k.ro) rfl
                clear hc HCC hlc hcl
                go_wp2_with fail
                go_roundg (ga - 1)
                case measure => have := HAA.out; have := HGA.out; omega
                case rel => exact ⟨a + 1, by have := HAA.out; have := HGA.out; omega, by go_num, Has.drop (fromX (Has.drop (fromX hV8))), bA⟩
          · have r1 : (p.k.ro == 0) = false := by rw [beq_eq_false_iff_ne]; exact hro
            have r2 : (p.k.ro != 0) = true := by simp [hro]
            have hlv : p.k.lv = 1 := HRK.out.2.2.2.2.resolve_left hro
            have r3 : (p.k.lv != 1) = false := by simp [hlv]
            have r4 : (p.k.lv == 1) = true := by simp [hlv]
            have hc3 : of.count p.f = 0 := by have := HC2.out; rw [r1] at this; simpa using this
            have HC3 := hid hc3
            clear hc3 hro hlv
            go_wp2_with fail
            refine (OfIs sb hb 24 6 (m : Int) S v7 _ _ p.k.g of HOF.out hV7).mono ?_
            rintro e v8 ⟨oo, ocap2, rfl, hV8, b8⟩
            have bA := bA.trans b8
            have hV8 : Has v8 w.heap.size (staL sb hb 24 6 (m : Int) S (row 3 1 (.slice oo of.length ocap2) of.length (of.map (Value.int .i64)) :: blk v4.heap.size 31 (keyC p.k) :: row 3 1 (.slice (some ⟨g, 0, none⟩) pl.length acap) pl.length (pl.map (Value.int .i64)) :: [])) := hV8
            clear z0 z1 z2 cl hV7 b8 e4 e5 e6 e7 e8
            obtain ⟨ga, hga⟩ : ∃ ga, ga = gk := ⟨_, rfl⟩
            have HGA := hid hga
            clear hga
            go_wp2_with fail
            go_loopg [17, 18] of.length (fun g' n i wz => ∃ c : Nat, g' + c = of.length ∧ n = .int .i64 (((of.take c).count p.f : Nat) : Int) ∧ i = .int .i64 c ∧ Has wz w.heap.size (staL sb hb 24 6 (m : Int) S (row 3 1 (.slice oo of.length ocap2) of.length (of.map (Value.int .i64)) :: blk v4.heap.size 31 (keyC p.k) :: row 3 1 (.slice (some ⟨g, 0, none⟩) pl.length acap) pl.length (pl.map (Value.int .i64)) :: [])) ∧ Below w.heap.size w wz)
            case atStart => exact ⟨0, by omega, rfl, rfl, hV8, bA⟩
            case round =>
              clear hV8 bA
              obtain ⟨c, hc, rfl, rfl, hV8, bA⟩ := hrel
              have HCC := hid hc
              have hcl : (of.take c).count p.f ≤ of.length := Nat.le_trans List.count_le_length (by simp; omega)
              by_cases hlc : c < of.length
              · obtain ⟨y, hy⟩ : ∃ y, of[c]? = some y := ⟨_, List.getElem?_eq_getElem hlc⟩
                obtain ⟨oo1, cap3, hv, _, _, hoo⟩ := Has.row_form [_, _] _ hV8
                obtain ⟨g4, hg4⟩ := hoo (by omega)
                have hoo2 : oo = some ⟨g4, 0, none⟩ := by injection hv with h1 h2 h3; rw [h1, hg4]
                subst hoo2
                have cy : wr.cell? ⟨g4, c, none⟩ = some (.int .i64 y) := Has.row_cell [_, _] _ hV8 c (by simp [hy])
                have hct := count_take (y := p.f) hy
                have HCT := hid hct
                clear hv hoo hy hct hc
                by_cases hyf : y = p.f
                · have r5 : (y == p.f) = true := by rw [beq_iff_eq]; exact hyf
                  have HYF := hid hyf
                  clear hyf
                  go_wp2_with fail
                  go_roundg (gk - 1)
                  case measure => have := HCC.out; omega
                  case rel => exact ⟨c + 1, by have := HCC.out; omega, by rw [HCT.out, if_pos HYF.out]; go_num, by go_num, hV8, bA⟩
                · have r5 : (y == p.f) = false := by rw [beq_eq_false_iff_ne]; exact hyf
                  have HYF := hid hyf
                  clear hyf
                  go_wp2_with fail
                  go_roundg (gk - 1)
                  case measure => have := HCC.out; omega
                  case rel => exact ⟨c + 1, by have := HCC.out; omega, by rw [HCT.out, if_neg HYF.out]; rfl, by go_num, hV8, bA⟩
              · obtain rfl : c = of.length := by omega
                rw [List.take_length, HC3.out]
                have z2 := Has.cell [_, _, _] _ hV8 2 (v := .int .i64 p.k.ro) rfl
                clear hc HCC hlc hcl
                go_wp2_with fail
                go_roundg (ga - 1)
                case measure => have := HAA.out; have := HGA.out; omega
                case rel => exact ⟨a + 1, by have := HAA.out; have := HGA.out; omega, by go_num, Has.drop (fromX (Has.drop (fromX hV8))), bA⟩
        · obtain rfl : a = pl.length := by omega
          clear ha HAA hla
          go_wp2_with fail
          go_roundg (gj - 1)
          case measure => have := HJ.out; have := HGJ.out; omega
          case rel => exact ⟨j + 1, by have := HJ.out; have := HGJ.out; omega, by go_num, by rw [HRS.out]; exact Has.drop (fromX hV3), bA⟩
    · obtain rfl : j = l.length := by omega
      clear hj HJ hlt
      go_wp2_with fail
      go_ret
      exact ⟨rfl, hBr⟩

end Go.Proofs.Yteeapkndappnoaa
