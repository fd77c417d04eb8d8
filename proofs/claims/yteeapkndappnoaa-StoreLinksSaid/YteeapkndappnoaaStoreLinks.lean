/-
  StoreLinks: Parents and Leaves are just the slots that tell it, in order; a child is a page of the next lower level.
-/
import Derived.Test.YteeapkndappnoaaStoHead
import Derived.Deep.LoopGhost
import Derived.Test.YteeapkndappnoaaStoWord
namespace Go.Proofs.Yteeapkndappnoaa
open Go.RowKit
set_option linter.unusedVariables false
set_option linter.unusedSimpArgs false

theorem ats_le (kd to : Int) {ps : List PageS} (h8 : ∀ p ∈ ps, p.s.length = 8) (hl : ps.length ≤ 256) {a i : Nat} {p : PageS} (ha : a ≤ ps.length) (hp : i ≤ p.s.length) (hi : i ≤ 8) : (toldL kd to (allS (ps.take a) ++ slotsTo p i)).length ≤ 2056 := by
  refine Nat.le_trans (toldL_le _ _ _) ?_
  rw [List.length_append, allS_length (fun p hp => h8 p (List.mem_of_mem_take hp)), slotsTo_length p i hp, List.length_take]
  omega

theorem toK2 {w : World} {B : Nat} {P Q K R L : Asr} {X : List Asr} (h : Has w B (P :: Q :: K :: R :: L :: X)) : Has w B (R :: P :: Q :: L :: K :: X) :=
  (h.front [P, Q, K] (L :: X)).perm (List.Perm.cons R (List.Perm.cons P (List.Perm.cons Q (List.Perm.swap L K X))))
theorem dropT2 {w : World} {B : Nat} {P Q K R : Asr} {X : List Asr} (h : Has w B (P :: Q :: K :: R :: X)) : Has w B (P :: Q :: X) := Has.drop (fromX (Has.drop (fromX h)))
theorem dropK13 {w : World} {B : Nat} {P Q R L K : Asr} {X : List Asr} (h : Has w B (P :: Q :: R :: L :: K :: X)) : Has w B (P :: Q :: R :: L :: X) := (h.front [P, Q, R, L] X).drop
theorem fin0 {w : World} {B : Nat} {P Q : Asr} {V U : Value} {l m : List (Int × Int)} {x : Int × Int} {X : List Asr} (h : Has w B (P :: Q :: row 46 2 V l.length (atsL l) :: row 46 2 U m.length (atsL m) :: X)) : Has w B (P :: Q :: row 46 2 V (l ++ if false = true then [x] else []).length (atsL (l ++ if false = true then [x] else [])) :: row 46 2 U (m ++ if false = true then [x] else []).length (atsL (m ++ if false = true then [x] else [])) :: X) := by simpa using h
theorem fin1 {w : World} {B : Nat} {P Q : Asr} {V U : Value} {l m : List (Int × Int)} {x : Int × Int} {X : List Asr} (h : Has w B (P :: Q :: row 46 2 V (l.length + 1) (atsL l ++ atL x) :: row 46 2 U m.length (atsL m) :: X)) : Has w B (P :: Q :: row 46 2 V (l ++ if true = true then [x] else []).length (atsL (l ++ if true = true then [x] else [])) :: row 46 2 U (m ++ if false = true then [x] else []).length (atsL (m ++ if false = true then [x] else [])) :: X) := by
  simpa [atsL_snoc] using h
theorem fin2 {w : World} {B : Nat} {P Q : Asr} {V U : Value} {l m : List (Int × Int)} {x : Int × Int} {X : List Asr} (h : Has w B (P :: Q :: row 46 2 V l.length (atsL l) :: row 46 2 U (m.length + 1) (atsL m ++ atL x) :: X)) : Has w B (P :: Q :: row 46 2 V (l ++ if false = true then [x] else []).length (atsL (l ++ if false = true then [x] else [])) :: row 46 2 U (m ++ if true = true then [x] else []).length (atsL (m ++ if true = true then [x] else [])) :: X) := by
  simpa [atsL_snoc] using h

set_option maxHeartbeats 4000000 in
set_option maxRecDepth 100000 in
theorem StoreLinks_walk (oa : Option Addr) (olen ocap : Nat) (l : List OpS) (to : Int) (w : World) (hA : ArgRow w 11 oa olen (l.flatMap opL)) (hl : ∀ x ∈ l, OpOk x) (hto : (Lit.int .i64 to).wf = true) :
    Calls Try.prog 3 #[.slice oa olen ocap, .int .i64 to] w fun e w' => e = .returned (.bool true) ∧ Below w.heap.size w w' := by
  obtain rfl := sops_len hA
  have HA := hid hA
  have HOK := hid hl
  have hol := hA.small
  have hHz : Has w w.heap.size [] := Has.nil (Nat.le_refl _)
  have hH0 : Has w w.heap.size [] := hHz
  have hB0 := Below.refl w.heap.size w
  clear hA hl hto hHz
  go_enter Try.func3, Try.ntmps3
  go_wp2_with fail
  refine (head_true _ _ _ hH0).mono ?_
  rintro e w1 ⟨_, rfl, hH1, hB1⟩
  have hB1 := hB0.trans hB1
  go_wp2_with fail
  refine (MemNew_yes 24 (by decide) (by decide) w1 _ _ hH1).mono ?_
  rintro e w2 ⟨hb, rfl, hH2, hB2⟩
  have hB2 := hB1.trans hB2
  have hH2 : Has w2 w.heap.size (MemA hb 24 (List.replicate (24 * 8) 0) :: []) := hH2
  clear hH0 hB0 hH1 hB1
  by_cases hbig : 200 < l.length
  · have e1 : decide (200 < l.length) = true := decide_eq_true hbig
    have e2 : decide (200 < (l.length : Int)) = true := decide_eq_true (by omega)
    go_wp2_with fail
    go_ret
    exact ⟨rfl, hB2⟩
  have e1 : decide (200 < l.length) = false := decide_eq_false hbig
  have e2 : decide (200 < (l.length : Int)) = false := decide_eq_false (by omega)
  go_wp2_with fail
  refine (NewIs hb 24 6 9 w2 _ _ _ (by decide) hH2).mono ?_
  rintro e w3 ⟨sb, rfl, hH3, hB3⟩
  have hB3 := hB2.trans hB3
  clear hH2 hB2 e1 e2
  go_wp2_with fail
  go_loopg [8] l.length (fun g i wr => ∃ j : Nat, g + j = l.length ∧ i = .int .i64 j ∧ Has wr w.heap.size (staL sb hb 24 6 9 (runS 24 ⟨List.replicate (24 * 8) 0, freshL 6 9 0, []⟩ (l.take j)) []) ∧ Below w.heap.size w wr)
  case atStart => exact ⟨0, by omega, rfl, hH3, hB3⟩
  case round =>
    obtain ⟨j, hj, rfl, hHr, hBr⟩ := hrel
    clear hH3 hB3
    have HJ := hid hj
    by_cases hlt : j < l.length
    · obtain ⟨x, hx⟩ : ∃ x, l[j]? = some x := ⟨_, List.getElem?_eq_getElem hlt⟩
      obtain ⟨b, of, rfl, hc⟩ := sops_at HA.out hBr hx
      have PA := hid hc
      have hst := runS_succ (n := 24) (S := ⟨List.replicate (24 * 8) 0, freshL 6 9 0, []⟩) hx
      have HST := hid hst
      have HX := hid (HOK.out x (List.mem_of_getElem? hx))
      clear hc hst hx hj
      go_wp2_with (refine wpList_load_at 35 (.tmp 47) rfl rfl ⟨b, of + j * 11, none⟩ rfl _ (opL x) PA.out Try.underlying35 rfl op_size ?_)
      refine (play_calls sb hb 24 6 9 _ x HX.out wr _ _ hHr).mono ?_
      rintro e w4 ⟨rfl, hH4, hB4⟩
      clear PA
      go_wp2_with fail
      go_roundg (gk - 1)
      case measure => have := HJ.out; omega
      case rel => exact ⟨j + 1, by have := HJ.out; omega, by go_num, by rw [HST.out]; exact hH4, hBr.trans hB4⟩
    · obtain rfl : j = l.length := by omega
      rw [List.take_length] at hHr
      obtain ⟨S, hS⟩ : ∃ S, runS 24 ⟨List.replicate (24 * 8) 0, freshL 6 9 0, []⟩ l = S := ⟨_, rfl⟩
      rw [hS] at hHr
      have HRUN := hid hS
      clear hj HJ hlt hS HOK HA
      have hinv := run_new (n := 24) (first := 6) (many := 9) (by decide) (W := List.replicate (24 * 8) 0) (by simp) (by decide) l
      rw [HRUN.out] at hinv
      clear HRUN
      obtain ⟨hP, hWI, _, hLI⟩ := hinv
      have HP := hid hP
      have HWI := hid hWI
      have HLI := hid hLI
      have hpl := hP.len
      obtain ⟨i0, hi0, z0, z1, z2⟩ := info_parts infoAt
      clear hP hWI hLI
      go_wp2_with fail
      refine (AllIs sb hb 24 6 9 S wr _ _ _ rfl hHr).mono ?_
      rintro e v1 ⟨ao, acap, rfl, hV1, b1⟩
      have bA := hBr.trans b1
      obtain ⟨pl, hpl2⟩ : ∃ pl : List Int, S.ps.map (·.f) = pl := ⟨_, rfl⟩
      have hpll : pl.length = S.ps.length := by rw [← hpl2]; simp
      rw [hpl2] at hV1 ⊢
      have HPL := hid hpl2
      have HPLL := hid hpll
      have hpl3 : pl.length ≤ 256 := by omega
      clear hHr hBr b1 hpl2 hpll hpl
      have hV2 : Has v1 w.heap.size (staL sb hb 24 6 9 S (row 46 2 (.slice none 0 0) (toldL 1 to (allS (S.ps.take 0))).length (atsL (toldL 1 to (allS (S.ps.take 0)))) :: row 46 2 (.slice none 0 0) (toldL 2 to (allS (S.ps.take 0))).length (atsL (toldL 2 to (allS (S.ps.take 0)))) :: row 3 1 (.slice ao pl.length acap) pl.length (pl.map (Value.int .i64)) :: [])) := toX (Has.nilrow (toX (hV1.nilrow 46 2)) 46 2)
      clear hV1
      go_wp2_with fail
      go_loopg [10, 11, 12] pl.length (fun g v u i wq => ∃ (a : Nat) (V U : Value), g + a = pl.length ∧ v = V ∧ u = U ∧ i = .int .i64 a ∧ Has wq w.heap.size (staL sb hb 24 6 9 S (row 46 2 V (toldL 1 to (allS (S.ps.take a))).length (atsL (toldL 1 to (allS (S.ps.take a)))) :: row 46 2 U (toldL 2 to (allS (S.ps.take a))).length (atsL (toldL 2 to (allS (S.ps.take a)))) :: row 3 1 (.slice ao pl.length acap) pl.length (pl.map (Value.int .i64)) :: [])) ∧ Below w.heap.size w wq)
      case atStart => exact ⟨0, _, _, by omega, rfl, rfl, rfl, hV2, bA⟩
      case round =>
        clear hV2 bA
        obtain ⟨a, V, U, ha, rfl, rfl, rfl, hV, bV⟩ := hrel
        obtain ⟨Vo, Vc, rfl, _, _, _⟩ := Has.row_form [_, _] _ hV
        obtain ⟨Uo, Uc, rfl, _, _, _⟩ := Has.row_form [_, _, _] _ hV
        have HA1 := hid ha
        by_cases hla : a < pl.length
        · have hlen := HPLL.out
          obtain ⟨p, hp⟩ : ∃ p, S.ps[a]? = some p := ⟨_, List.getElem?_eq_getElem (by omega)⟩
          have hpm := List.mem_of_getElem? hp
          have hpa : pl[a]? = some p.f := by rw [← HPL.out, List.getElem?_map, hp]; rfl
          have hpo := pageAt_of HP.out.nd hpm
          have h8 := HP.out.s8 p hpm
          have hrk := HP.out.ok p hpm
          have hka : keyAt S.ps p.f = p.k := by unfold keyAt; rw [hpo]
          have CK := hid (KeyIs sb hb 24 6 9 S p.f p.k true hka (by rw [hpo]; rfl) wr _ _ hV)
          obtain ⟨ao1, cap1, hv, _, _, hao⟩ := Has.row_form [_, _, _, _] _ hV
          obtain ⟨ag, hag⟩ := hao (by omega)
          have hao2 : ao = some ⟨ag, 0, none⟩ := by injection hv with h1 h2 h3; rw [h1, hag]
          subst hao2
          have cl : wr.cell? ⟨ag, a, none⟩ = some (.int .i64 p.f) := Has.row_cell [_, _, _, _] _ hV a (by simp [hpa])
          have hal := allS_succ hp h8
          have HPO := hid (And.intro hpo h8)
          have HPA := hid hpa
          have HKA := hid hka
          have HAL := hid hal
          have HRK := hid hrk
          have hap : a ≤ S.ps.length := by omega
          have HAP := hid hap
          have zk := zeroKeyL
          have zs := zeroSlotL
          have za := zeroAt
          have tok1 : True := trivial
          clear hp hpm hpa hpo h8 hrk hka hv hao hal ha hap hlen
          go_wp2_with fail
          refine CK.out.mono ?_
          rintro e v4 ⟨rfl, hV4, b4⟩
          have bV := bV.trans b4
          obtain ⟨kb13, hkb⟩ : ∃ b, v4.heap.size = b := ⟨_, rfl⟩
          have hA4 := hV4.newblk kb13 31 (keyC keyZ) hkb
          have bV := below_new bV hV4 (.cells (keyC keyZ) 31)
          clear CK b4 hV4 hV cl
          go_wp2_with (have _t := tok1; refine wpList_store_all [] _ hA4 31 (.tmp 13) (.tmp 65) rfl rfl rfl (keyC p.k) rfl key_size rfl (key_one _) ?_; clear _t tok1; intro v5 hV5 b5 hz; clear hz)
          have bV := bV.trans b5
          have hV6 : Has v5 w.heap.size (staL sb hb 24 6 9 S (row 46 2 (.slice Vo (toldL 1 to (allS (S.ps.take a))).length Vc) (toldL 1 to (allS (S.ps.take a))).length (atsL (toldL 1 to (allS (S.ps.take a)))) :: row 46 2 (.slice Uo (toldL 2 to (allS (S.ps.take a))).length Uc) (toldL 2 to (allS (S.ps.take a))).length (atsL (toldL 2 to (allS (S.ps.take a)))) :: blk kb13 31 (keyC p.k) :: row 3 1 (.slice (some ⟨ag, 0, none⟩) pl.length acap) pl.length (pl.map (Value.int .i64)) :: [])) := toX (toK2 (toX hV5))
          have hV6 : Has v5 w.heap.size (staL sb hb 24 6 9 S (row 46 2 (.slice Vo (toldL 1 to (allS (S.ps.take a))).length Vc) (toldL 1 to (allS (S.ps.take a) ++ slotsTo p 0)).length (atsL (toldL 1 to (allS (S.ps.take a) ++ slotsTo p 0))) :: row 46 2 (.slice Uo (toldL 2 to (allS (S.ps.take a))).length Uc) (toldL 2 to (allS (S.ps.take a) ++ slotsTo p 0)).length (atsL (toldL 2 to (allS (S.ps.take a) ++ slotsTo p 0))) :: blk kb13 31 (keyC p.k) :: row 3 1 (.slice (some ⟨ag, 0, none⟩) pl.length acap) pl.length (pl.map (Value.int .i64)) :: [])) := by
            have e : slotsTo p 0 = [] := by simp [slotsTo]
            rw [e, List.append_nil]
            exact hV6
          obtain ⟨ga, hga⟩ : ∃ ga, ga = gk := ⟨_, rfl⟩
          have HGA := hid hga
          clear hA4 b5 hV5 hga hkb
          go_loopg [10, 11, 15] 8 (fun g v u i' wq => ∃ (i : Nat) (V U : Value), g + i = 8 ∧ v = V ∧ u = U ∧ i' = .int .i64 i ∧ Has wq w.heap.size (staL sb hb 24 6 9 S (row 46 2 V (toldL 1 to (allS (S.ps.take a) ++ slotsTo p i)).length (atsL (toldL 1 to (allS (S.ps.take a) ++ slotsTo p i))) :: row 46 2 U (toldL 2 to (allS (S.ps.take a) ++ slotsTo p i)).length (atsL (toldL 2 to (allS (S.ps.take a) ++ slotsTo p i))) :: blk kb13 31 (keyC p.k) :: row 3 1 (.slice (some ⟨ag, 0, none⟩) pl.length acap) pl.length (pl.map (Value.int .i64)) :: [])) ∧ Below w.heap.size w wq)
          case atStart => exact ⟨0, _, _, by omega, rfl, rfl, rfl, hV6, bV⟩
          case round =>
            clear hV6 bV
            obtain ⟨i, V, U, hi, rfl, rfl, rfl, hV, bV⟩ := hrel
            obtain ⟨Vo, Vc, rfl, _, _, _⟩ := Has.row_form [_, _] _ hV
            obtain ⟨Uo, Uc, rfl, _, _, _⟩ := Has.row_form [_, _, _] _ hV
            have HI := hid hi
            by_cases hli : i < 8
            · have hli' : (i : Int) < 8 := by omega
              obtain ⟨y, hy⟩ : ∃ y, p.s[i]? = some y := ⟨_, List.getElem?_eq_getElem (by have := HPO.out.2; omega)⟩
              have hsl : slotAt S.ps p.f (i : Int) = some y := slotAt_intro HPO.out.1 (by omega) (by simpa using hy)
              have hsw := HWI.out.at_ _ _ _ hsl
              have hlk := HLI.out _ _ _ hsl
              rw [HKA.out] at hlk
              have hsu := slotsTo_succ hy
              have hpre : allS (S.ps.take a) ++ slotsTo p (i + 1) = (allS (S.ps.take a) ++ slotsTo p i) ++ [((p.f, (i : Int)), y)] := by rw [hsu, List.append_assoc]
              have hl1 := ats_le 1 to HP.out.s8 (by have := HPLL.out; omega) (p := p) HAP.out (i := i) (by have := HPO.out.2; omega) (by omega)
              have hl2 := ats_le 2 to HP.out.s8 (by have := HPLL.out; omega) (p := p) HAP.out (i := i) (by have := HPO.out.2; omega) (by omega)
              have HPRE := hid hpre
              have CS := hid (SlotIs sb hb 24 6 9 S wr _ _ p.f i y true (by rw [hsl]; rfl) (by rw [hsl]; rfl) hV)
              have cl : wr.cell? ⟨ag, a, none⟩ = some (.int .i64 p.f) := Has.row_cell [_, _, _, _, _] _ hV a (by simp [HPA.out])
              obtain ⟨kc, hkc⟩ : ∃ k, keyAt S.ps y.to = k := ⟨_, rfl⟩
              obtain ⟨bc, hbc⟩ : ∃ b, (pageAt S.ps y.to).isSome = b := ⟨_, rfl⟩
              rw [hkc, hbc] at hlk
              have hlv := HRK.out.1
              have hlv2 := HRK.out.2.1
              have hw1 : IntKind.i64.wrap (p.k.lv - 1) = p.k.lv - 1 := IntWalk.i64_in _ (by omega)
              have HLV := hid (And.intro hlv hlv2)
              have HKC := hid (And.intro hkc hbc)
              have HSW := hid hsw
              have HLK := hid hlk
              have tok2 : True := trivial
              have tok3 : True := trivial
              clear hy hsl hsw hlk hsu hpre hkc hbc hlv hlv2 hi
              go_wp2_with fail
              refine CS.out.mono ?_
              rintro e x1 ⟨rfl, hX1, b1⟩
              have bV := bV.trans b1
              obtain ⟨sb16, hsb⟩ : ∃ b, x1.heap.size = b := ⟨_, rfl⟩
              have hA7 := hX1.newblk sb16 42 #[.int .i64 0, .int .i64 0, .bool false, .bool false, .bool false] hsb
              have bV := below_new bV hX1 (.cells #[.int .i64 0, .int .i64 0, .bool false, .bool false, .bool false] 42)
              clear CS b1 hX1 hV cl
              go_wp2_with (have _t := tok2; refine wpList_store_all [] _ hA7 42 (.tmp 16) (.tmp 79) rfl rfl rfl (slotC y) rfl slot_size rfl (slot_one _) ?_; clear _t tok2; intro x2 hX2 b2 hz; clear hz; have y0 := hX2.cell [] _ 0 (v := .int .i64 y.kd) rfl; have y1 := hX2.cell [] _ 1 (v := .int .i64 y.to) rfl)
              have bV := bV.trans b2
              have hX2 := toX hX2
              refine (KeyIs sb hb 24 6 9 S y.to kc bc HKC.out.1 HKC.out.2 x2 _ _ hX2).mono ?_
              rintro e x3 ⟨rfl, hX3, b3⟩
              have bV := bV.trans b3
              obtain ⟨kb18, hkb⟩ : ∃ b, x3.heap.size = b := ⟨_, rfl⟩
              have hA8 := hX3.newblk kb18 31 (keyC keyZ) hkb
              have bV := below_new bV hX3 (.cells (keyC keyZ) 31)
              clear y0 y1 hA7 hX2 b2 b3 hsb
              have hX9 : ∀ x4 : World, Has x4 w.heap.size ([] ++ blk kb18 31 (keyC kc) :: staL sb hb 24 6 9 S (blk sb16 42 (slotC y) :: row 46 2 (.slice Vo (toldL 1 to (allS (S.ps.take a) ++ slotsTo p i)).length Vc) (toldL 1 to (allS (S.ps.take a) ++ slotsTo p i)).length (atsL (toldL 1 to (allS (S.ps.take a) ++ slotsTo p i))) :: row 46 2 (.slice Uo (toldL 2 to (allS (S.ps.take a) ++ slotsTo p i)).length Uc) (toldL 2 to (allS (S.ps.take a) ++ slotsTo p i)).length (atsL (toldL 2 to (allS (S.ps.take a) ++ slotsTo p i))) :: blk kb13 31 (keyC p.k) :: row 3 1 (.slice (some ⟨ag, 0, none⟩) pl.length acap) pl.length (pl.map (Value.int .i64)) :: [])) → Has x4 w.heap.size (staL sb hb 24 6 9 S (blk kb18 31 (keyC kc) :: blk sb16 42 (slotC y) :: row 46 2 (.slice Vo (toldL 1 to (allS (S.ps.take a) ++ slotsTo p i)).length Vc) (toldL 1 to (allS (S.ps.take a) ++ slotsTo p i)).length (atsL (toldL 1 to (allS (S.ps.take a) ++ slotsTo p i))) :: row 46 2 (.slice Uo (toldL 2 to (allS (S.ps.take a) ++ slotsTo p i)).length Uc) (toldL 2 to (allS (S.ps.take a) ++ slotsTo p i)).length (atsL (toldL 2 to (allS (S.ps.take a) ++ slotsTo p i))) :: blk kb13 31 (keyC p.k) :: row 3 1 (.slice (some ⟨ag, 0, none⟩) pl.length acap) pl.length (pl.map (Value.int .i64)) :: [])) := fun x4 h => toX h
              have HX9 := hid hX9
              clear hX9
              rcases HSW.out with ⟨hy0, _⟩ | ⟨hk12, _⟩
              · have hkd : y.kd = 0 := by rw [hy0]; rfl
                have k1 : (y.kd == 1) = false := by rw [hkd]; rfl
                have k2 : (y.kd == 2) = false := by rw [hkd]; rfl
                have k0 : (y.kd == 0) = true := by rw [hkd]; rfl
                have HT1 := hid (show tellB 1 to y = false from by unfold tellB; rw [k1]; rfl)
                have HT2 := hid (show tellB 2 to y = false from by unfold tellB; rw [k2]; rfl)
                clear hkd
                go_wp2_with (have _t := tok3; refine wpList_store_all [] _ hA8 31 (.tmp 18) (.tmp 86) rfl rfl rfl (keyC kc) rfl key_size rfl (key_one _) ?_; clear _t tok3; intro x4 hX4 b4 hz; clear hz; have hX5 := HX9.out _ hX4; have bW := bV.trans b4; have m0 := Has.cell [_, _, _] _ hX5 0 (v := .int .i64 y.kd) rfl; have m1 := Has.cell [_, _, _] _ hX5 1 (v := .int .i64 y.to) rfl; have m2 := Has.cell [_, _] _ hX5 1 (v := .int .i64 kc.lv) rfl; have m3 := Has.cell [_, _, _, _, _, _] _ hX5 1 (v := .int .i64 p.k.lv) rfl; have m4 : x4.cell? ⟨ag, a, none⟩ = some (.int .i64 p.f) := Has.row_cell [_, _, _, _, _, _, _] _ hX5 a (by simp [HPA.out]))
                go_roundg (gk - 1)
                case measure => have := HI.out; omega
                case rel => exact ⟨i + 1, _, _, by have := HI.out; omega, rfl, rfl, by go_num, by rw [HPRE.out, toldL_snoc, toldL_snoc, HT1.out, HT2.out]; exact fin0 (dropT2 hX5), bW⟩
              · rcases hk12 with hkd | hkd
                · obtain ⟨hbt, hlvt⟩ := HLK.out.1 hkd
                  have q1 : (kc.lv == p.k.lv - 1) = true := by rw [beq_iff_eq]; exact hlvt
                  have q2 : (kc.lv != p.k.lv - 1) = false := by simp [hlvt]
                  subst hbt
                  clear hlvt
                  by_cases hyt : y.to = to
                  · have k1 : (y.kd == 1) = true := by rw [hkd]; rfl
                    have k2 : (y.kd == 2) = false := by rw [hkd]; rfl
                    have k0 : (y.kd == 0) = false := by rw [hkd]; rfl
                    have t9 : (y.to == to) = true := by rw [beq_iff_eq]; exact hyt
                    have HT1 := hid (show tellB 1 to y = true from by unfold tellB; rw [k1, t9]; rfl)
                    have HT2 := hid (show tellB 2 to y = false from by unfold tellB; rw [k2]; rfl)
                    clear hkd hyt
                    go_wp2_with (first | (have _t := tok3; refine wpList_store_all [] _ hA8 31 (.tmp 18) (.tmp 86) rfl rfl rfl (keyC kc) rfl key_size rfl (key_one _) ?_; clear _t tok3; intro x4 hX4 b4 hz; clear hz; have hX5 := HX9.out _ hX4; have bW := bV.trans b4; have m0 := Has.cell [_, _, _] _ hX5 0 (v := .int .i64 y.kd) rfl; have m1 := Has.cell [_, _, _] _ hX5 1 (v := .int .i64 y.to) rfl; have m2 := Has.cell [_, _] _ hX5 1 (v := .int .i64 kc.lv) rfl; have m3 := Has.cell [_, _, _, _, _, _] _ hX5 1 (v := .int .i64 p.k.lv) rfl; have m4 : x4.cell? ⟨ag, a, none⟩ = some (.int .i64 p.f) := Has.row_cell [_, _, _, _, _, _, _] _ hX5 a (by simp [HPA.out])) | (at_builtin; refine wpList_append_row [_, _, _, _] _ (hX5.alloc _) rfl (.tmp 122) (.tmp 129) 38 rfl i0 (.agg #[.int .i64 0, .int .i64 0]) 16 Try.underlying38 hi0 z0 z1 z2 rfl (by decide) rfl ⟨x4.heap.size, 0, none⟩ 1 1 (atL (p.f, (i : Int))) rfl rfl (blk_adds [] _ (hX5.newblk x4.heap.size 46 (atL (p.f, (i : Int))).toArray rfl)) (at_one _) (by decide) (by unfold maxLen; omega) (by omega) ?_; intro g2 cap2 x6 hX6 b6; have bW := (below_new bW hX5 (.cells (atL (p.f, (i : Int))).toArray 46)).trans b6; have n0 := Has.cell [_, _, _] _ hX6 0 (v := .int .i64 y.kd) rfl; have n1 := Has.cell [_, _, _] _ hX6 1 (v := .int .i64 y.to) rfl; have n4 : x6.cell? ⟨ag, a, none⟩ = some (.int .i64 p.f) := Has.row_cell [_, _, _, _, _, _, _] _ hX6 a (by simp [HPA.out])))
                    go_roundg (gk - 1)
                    case measure => have := HI.out; omega
                    case rel => exact ⟨i + 1, .slice (some ⟨g2, 0, none⟩) ((toldL 1 to (allS (S.ps.take a) ++ slotsTo p i)).length + 1) cap2, _, by have := HI.out; omega, rfl, rfl, by go_num, by rw [HPRE.out, toldL_snoc, toldL_snoc, HT1.out, HT2.out]; exact fin1 (dropT2 hX6), bW⟩
                  · have k1 : (y.kd == 1) = true := by rw [hkd]; rfl
                    have k2 : (y.kd == 2) = false := by rw [hkd]; rfl
                    have k0 : (y.kd == 0) = false := by rw [hkd]; rfl
                    have t9 : (y.to == to) = false := by rw [beq_eq_false_iff_ne]; exact hyt
                    have HT1 := hid (show tellB 1 to y = false from by unfold tellB; rw [k1, t9]; rfl)
                    have HT2 := hid (show tellB 2 to y = false from by unfold tellB; rw [k2]; rfl)
                    clear hkd hyt
                    go_wp2_with (have _t := tok3; refine wpList_store_all [] _ hA8 31 (.tmp 18) (.tmp 86) rfl rfl rfl (keyC kc) rfl key_size rfl (key_one _) ?_; clear _t tok3; intro x4 hX4 b4 hz; clear hz; have hX5 := HX9.out _ hX4; have bW := bV.trans b4; have m0 := Has.cell [_, _, _] _ hX5 0 (v := .int .i64 y.kd) rfl; have m1 := Has.cell [_, _, _] _ hX5 1 (v := .int .i64 y.to) rfl; have m2 := Has.cell [_, _] _ hX5 1 (v := .int .i64 kc.lv) rfl; have m3 := Has.cell [_, _, _, _, _, _] _ hX5 1 (v := .int .i64 p.k.lv) rfl; have m4 : x4.cell? ⟨ag, a, none⟩ = some (.int .i64 p.f) := Has.row_cell [_, _, _, _, _, _, _] _ hX5 a (by simp [HPA.out]))
                    go_roundg (gk - 1)
                    case measure => have := HI.out; omega
                    case rel => exact ⟨i + 1, _, _, by have := HI.out; omega, rfl, rfl, by go_num, by rw [HPRE.out, toldL_snoc, toldL_snoc, HT1.out, HT2.out]; exact fin0 (dropT2 hX5), bW⟩
                · have hlvt := HLK.out.2 hkd
                  have q1 : (p.k.lv == 1) = true := by rw [beq_iff_eq]; exact hlvt
                  have q2 : (p.k.lv != 1) = false := by simp [hlvt]
                  clear hlvt
                  by_cases hyt : y.to = to
                  · have k1 : (y.kd == 1) = false := by rw [hkd]; rfl
                    have k2 : (y.kd == 2) = true := by rw [hkd]; rfl
                    have k0 : (y.kd == 0) = false := by rw [hkd]; rfl
                    have t9 : (y.to == to) = true := by rw [beq_iff_eq]; exact hyt
                    have HT1 := hid (show tellB 1 to y = false from by unfold tellB; rw [k1]; rfl)
                    have HT2 := hid (show tellB 2 to y = true from by unfold tellB; rw [k2, t9]; rfl)
                    clear hkd hyt
                    go_wp2_with (first | (have _t := tok3; refine wpList_store_all [] _ hA8 31 (.tmp 18) (.tmp 86) rfl rfl rfl (keyC kc) rfl key_size rfl (key_one _) ?_; clear _t tok3; intro x4 hX4 b4 hz; clear hz; have hX5 := HX9.out _ hX4; have bW := bV.trans b4; have m0 := Has.cell [_, _, _] _ hX5 0 (v := .int .i64 y.kd) rfl; have m1 := Has.cell [_, _, _] _ hX5 1 (v := .int .i64 y.to) rfl; have m2 := Has.cell [_, _] _ hX5 1 (v := .int .i64 kc.lv) rfl; have m3 := Has.cell [_, _, _, _, _, _] _ hX5 1 (v := .int .i64 p.k.lv) rfl; have m4 : x4.cell? ⟨ag, a, none⟩ = some (.int .i64 p.f) := Has.row_cell [_, _, _, _, _, _, _] _ hX5 a (by simp [HPA.out])) | (at_builtin; refine wpList_append_row [_, _, _, _, _] _ (hX5.alloc _) rfl (.tmp 140) (.tmp 147) 38 rfl i0 (.agg #[.int .i64 0, .int .i64 0]) 16 Try.underlying38 hi0 z0 z1 z2 rfl (by decide) rfl ⟨x4.heap.size, 0, none⟩ 1 1 (atL (p.f, (i : Int))) rfl rfl (blk_adds [] _ (hX5.newblk x4.heap.size 46 (atL (p.f, (i : Int))).toArray rfl)) (at_one _) (by decide) (by unfold maxLen; omega) (by omega) ?_; intro g2 cap2 x6 hX6 b6; have bW := (below_new bW hX5 (.cells (atL (p.f, (i : Int))).toArray 46)).trans b6; have n0 := Has.cell [_, _, _] _ hX6 0 (v := .int .i64 y.kd) rfl; have n1 := Has.cell [_, _, _] _ hX6 1 (v := .int .i64 y.to) rfl; have n4 : x6.cell? ⟨ag, a, none⟩ = some (.int .i64 p.f) := Has.row_cell [_, _, _, _, _, _, _] _ hX6 a (by simp [HPA.out])))
                    go_roundg (gk - 1)
                    case measure => have := HI.out; omega
                    case rel => exact ⟨i + 1, _, .slice (some ⟨g2, 0, none⟩) ((toldL 2 to (allS (S.ps.take a) ++ slotsTo p i)).length + 1) cap2, by have := HI.out; omega, rfl, rfl, by go_num, by rw [HPRE.out, toldL_snoc, toldL_snoc, HT1.out, HT2.out]; exact fin2 (dropT2 hX6), bW⟩
                  · have k1 : (y.kd == 1) = false := by rw [hkd]; rfl
                    have k2 : (y.kd == 2) = true := by rw [hkd]; rfl
                    have k0 : (y.kd == 0) = false := by rw [hkd]; rfl
                    have t9 : (y.to == to) = false := by rw [beq_eq_false_iff_ne]; exact hyt
                    have HT1 := hid (show tellB 1 to y = false from by unfold tellB; rw [k1]; rfl)
                    have HT2 := hid (show tellB 2 to y = false from by unfold tellB; rw [k2, t9]; rfl)
                    clear hkd hyt
                    go_wp2_with (have _t := tok3; refine wpList_store_all [] _ hA8 31 (.tmp 18) (.tmp 86) rfl rfl rfl (keyC kc) rfl key_size rfl (key_one _) ?_; clear _t tok3; intro x4 hX4 b4 hz; clear hz; have hX5 := HX9.out _ hX4; have bW := bV.trans b4; have m0 := Has.cell [_, _, _] _ hX5 0 (v := .int .i64 y.kd) rfl; have m1 := Has.cell [_, _, _] _ hX5 1 (v := .int .i64 y.to) rfl; have m2 := Has.cell [_, _] _ hX5 1 (v := .int .i64 kc.lv) rfl; have m3 := Has.cell [_, _, _, _, _, _] _ hX5 1 (v := .int .i64 p.k.lv) rfl; have m4 : x4.cell? ⟨ag, a, none⟩ = some (.int .i64 p.f) := Has.row_cell [_, _, _, _, _, _, _] _ hX5 a (by simp [HPA.out]))
                    go_roundg (gk - 1)
                    case measure => have := HI.out; omega
                    case rel => exact ⟨i + 1, _, _, by have := HI.out; omega, rfl, rfl, by go_num, by rw [HPRE.out, toldL_snoc, toldL_snoc, HT1.out, HT2.out]; exact fin0 (dropT2 hX5), bW⟩
            · obtain rfl : i = 8 := by omega
              rw [← HAL.out] at hV ⊢
              clear hi HI hli
              go_wp2_with fail
              go_roundg (ga - 1)
              case measure => have := HA1.out; have := HGA.out; omega
              case rel => exact ⟨a + 1, _, _, by have := HA1.out; have := HGA.out; omega, rfl, rfl, by go_num, dropK13 hV, bV⟩
        · obtain rfl : a = pl.length := by omega
          have e9 : S.ps.take pl.length = S.ps := List.take_of_length_le (by have := HPLL.out; omega)
          rw [e9] at hV ⊢
          obtain ⟨l1, hl1⟩ : ∃ l1, toldL 1 to (allS S.ps) = l1 := ⟨_, rfl⟩
          obtain ⟨l2, hl2⟩ : ∃ l2, toldL 2 to (allS S.ps) = l2 := ⟨_, rfl⟩
          rw [hl1, hl2] at hV ⊢
          have CP := hid (ParentsIs sb hb 24 6 9 S wr _ _ to l1 hl1 hV)
          have HL2 := hid hl2
          clear ha HA1 hla e9 hl1 hl2
          go_wp2_with fail
          refine CP.out.mono ?_
          rintro e x1 ⟨pa, pcap, rfl, hX1, b1⟩
          have bV := bV.trans b1
          clear CP hV b1
          go_wp2_with fail
          refine (sameAts_is pa Vo pcap Vc l1 l1 true (by simp) x1 (srca_row [_, _] _ hX1 rfl) (srca_row [_, _, _] _ hX1 rfl) _ _ hX1).mono ?_
          rintro e x2 ⟨rfl, hX2, b2⟩
          have bV := bV.trans b2
          have CP := hid (LeavesIs sb hb 24 6 9 S x2 _ _ to l2 HL2.out hX2)
          clear hX1 b2
          go_wp2_with fail
          refine CP.out.mono ?_
          rintro e x3 ⟨qa, qcap, rfl, hX3, b3⟩
          have bV := bV.trans b3
          clear CP hX2 b3
          go_wp2_with fail
          refine (sameAts_is qa Uo qcap Uc l2 l2 true (by simp) x3 (srca_row [_, _] _ hX3 rfl) (srca_row [_, _, _, _, _] _ hX3 rfl) _ _ hX3).mono ?_
          rintro e x4 ⟨rfl, hX4, b4⟩
          go_wp2_with fail
          go_ret
          exact ⟨rfl, bV.trans b4⟩

end Go.Proofs.Yteeapkndappnoaa
