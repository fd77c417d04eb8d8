/-
  StoreWords: the words of a page's frame are those of its slots; no frame is changed but a page's.
-/
import Derived.Test.YteeapkndappnoaaStoHead
import Derived.Deep.LoopGhost
import Derived.Test.YteeapkndappnoaaStoWord
import Derived.Test.YteeapkndappnoaaWas
import Derived.Test.YteeapkndappnoaaPteHead
import Derived.Test.YteeapkndappnoaaPteRefGet
import Derived.Deep.RegionHeld3
namespace Go.Proofs.Yteeapkndappnoaa
open Go.RowKit
set_option linter.unusedVariables false
set_option linter.unusedSimpArgs false

theorem pteZ_size : (Try.prog.info? 67).map (fun i => i.size) = some 9 := by kernel_rfl
theorem pteZ_one : ∀ u ∈ (#[.bool false, .bool false, .bool false, .bool false, .bool false, .bool false, .bool false, .bool false, .int .i64 0] : Array Value).toList, u.oneCell' = true := by simp [Value.oneCell']

theorem zero24 (w : World) : Sem.run Try.prog (zeroValue 63) w = .ok (.agg (List.replicate 24 (Value.slice none 0 0)).toArray) w := by kernel_rfl
theorem zeroPteS (w : World) : (zeroValue 67).run Try.prog w = .ok (.agg #[.bool false, .bool false, .bool false, .bool false, .bool false, .bool false, .bool false, .bool false, .int .i64 0]) w := by kernel_rfl
theorem getR_yes {W : List Int} {n : Nat} {f i : Int} (h : wok n f i) : getR W n f i = .tuple #[.int .u64 (W.getD (wat f i) 0), .bool true] := by
  unfold getR
  rw [if_pos h, decide_eq_true h]
theorem EGetIs (V : Nat) (hV : V < 18446744073709551616) (E : PteS) (hE : getS V = E) (x : Int) (hx : x = (V : Int)) (w : World) : Calls Try.prog 29 #[.int .u64 x] w fun e w' => e = .returned (.agg (pteC E)) ∧ Below w.heap.size w w' := by
  subst hE hx
  exact ERGet_calls V hV w
/-- What the document's Get says of a slot's word. -/
theorem slot_get {y : SlotS} {V : Int} (h : SlotW 24 y V) : ∃ (N : Nat) (E : PteS), V = (N : Int) ∧ N < 18446744073709551616 ∧ getS N = E ∧ ((y = slotZ ∧ N = 0 ∧ E = ⟨false, false, false, false, false, false, false, false, 0⟩) ∨ ((y.kd = 1 ∨ y.kd = 2) ∧ ∃ h : Int, E = pteOf y h ∧ (y.kd = 1 → h = y.to))) := by
  rcases h with ⟨h1, h2⟩ | ⟨h1, hh, h2, h3, h4, h5⟩
  · exact ⟨0, getS 0, by omega, by decide, rfl, .inl ⟨h1, rfl, by decide⟩⟩
  · have hok : putOk (pteOf y hh) = true := by
      rw [putOk_iff]
      exact ⟨rfl, h2, by show hh < 1048576; omega⟩
    exact ⟨putN (pteOf y hh), _, h4, putN_lt _ hok, rfl, .inr ⟨h1, hh, get_put _ hok, h5⟩⟩

set_option maxHeartbeats 4000000 in
set_option maxRecDepth 100000 in
theorem StoreWords_walk (oa : Option Addr) (olen ocap : Nat) (l : List OpS) (v : Int) (w : World) (hA : ArgRow w 11 oa olen (l.flatMap opL)) (hl : ∀ x ∈ l, OpOk x) (hv : (Lit.int .u64 v).wf = true) :
    Calls Try.prog 7 #[.slice oa olen ocap, .int .u64 v] w fun e w' => e = .returned (.bool true) ∧ Below w.heap.size w w' := by
  obtain rfl := sops_len hA
  have HA := hid hA
  have HOK := hid hl
  have hol := hA.small
  have hHz : Has w w.heap.size [] := Has.nil (Nat.le_refl _)
  have hH0 : Has w w.heap.size [] := hHz
  have hB0 := Below.refl w.heap.size w
  clear hA hl hv hHz
  go_enter Try.func7, Try.ntmps7
  go_wp2_with fail
  refine (head_true _ _ _ hH0).mono ?_
  rintro e w1 ⟨_, rfl, hH1, hB1⟩
  have hB1 := hB0.trans hB1
  go_wp2_with fail
  refine (MemNew_yes 24 (by decide) (by decide) w1 _ _ hH1).mono ?_
  rintro e w2 ⟨hb, rfl, hH2, hB2⟩
  have hB2 := hB1.trans hB2
  have hH2 : Has w2 w.heap.size (MemA hb 24 (List.replicate (24 * 8) 0) :: []) := hH2
  clear hH0 hB0 hH1 hB1
  by_cases hbig : 200 < l.length
  · have e1 : decide (200 < l.length) = true := decide_eq_true hbig
    have e2 : decide (200 < (l.length : Int)) = true := decide_eq_true (by omega)
    go_wp2_with fail
    go_ret
    exact ⟨rfl, hB2⟩
  have e1 : decide (200 < l.length) = false := decide_eq_false hbig
  have e2 : decide (200 < (l.length : Int)) = false := decide_eq_false (by omega)
  go_wp2_with fail
  go_loopg [7] 24 (fun g i wq => ∃ (k : Nat) (W : List Int), g + k = 24 ∧ i = .int .i64 k ∧ Has wq w.heap.size [MemA hb 24 W] ∧ Below w.heap.size w wq)
  case atStart => exact ⟨0, _, by omega, rfl, hH2, hB2⟩
  case round =>
    clear hH2 hB2
    obtain ⟨k, W, hk, rfl, hHr, hBr⟩ := hrel
    have HK := hid hk
    by_cases hlt : k < 24
    · have hlt' : (k : Int) < 24 := by omega
      have hm0 : 0 ≤ (k : Int) % 8 := Int.emod_nonneg _ (by decide)
      have hm1 : (k : Int) % 8 < 8 := Int.emod_lt_of_pos _ (by decide)
      have htm : (k : Int).tmod 8 = (k : Int) % 8 := Int.tmod_eq_emod_of_nonneg (by omega)
      have hwm : IntKind.i64.wrap ((k : Int) % 8) = (k : Int) % 8 := IntWalk.i64_in _ (by omega)
      have CS := hid (fun (i : Int) => Set_calls hb 24 W k i v wr _ _ hHr)
      clear hk
      go_wp2_with fail
      refine (CS.out _).mono ?_
      rintro e w4 ⟨rfl, hH4, hB4⟩
      clear CS
      go_wp2_with fail
      go_roundg (gk - 1)
      case measure => have := HK.out; omega
      case rel => exact ⟨k + 1, _, by have := HK.out; omega, by go_num, hH4, hBr.trans hB4⟩
    · obtain rfl : k = 24 := by omega
      have HW := hid (MemA.fits hHr).2.2
      obtain ⟨wo, rfl⟩ : ∃ wo : World, wo = wr := ⟨_, rfl⟩
      have hWA := WasA.new (hHr.newblk wo.heap.size 63 (List.replicate 24 (Value.slice none 0 0)).toArray rfl)
      have hBA := below_new hBr hHr (.cells (List.replicate 24 (Value.slice none 0 0)).toArray 63)
      have z24 := zero24
      clear hk HK hlt
      go_wp2_with fail
      clear z24
      go_loopg [9] 24 (fun g i wq => ∃ (k : Nat) (ps : List (Value × List Int)), g + k = 24 ∧ ps.length = k ∧ i = .int .i64 k ∧ (∀ (j : Nat) (p : Value × List Int), ps[j]? = some p → p.2 = frameW W 24 j) ∧ Has wq w.heap.size [WasA wo.heap.size 24 63 ps, MemA hb 24 W] ∧ Below w.heap.size w wq)
      case atStart => exact ⟨0, [], by omega, rfl, rfl, fun j p h => by simp at h, hWA, hBA⟩
      case round =>
        obtain ⟨k, ps, hk, hpl, rfl, hps, hHs, hBs⟩ := hrel
        have HPS := hid hps
        clear hWA hHr hBr hps hBA
        generalize wo.heap.size = wb at *
        have HK := hid hk
        by_cases hlt : k < 24
        · subst hpl
          have hlt' : (ps.length : Int) < 24 := by omega
          have CF := hid (Frame_calls hb 24 W ps.length wr _ _ (hHs.perm (List.Perm.swap _ _ _)))
          clear hk
          go_wp2_with fail
          refine CF.out.mono ?_
          rintro e w5 ⟨v5, rfl, hH5, hB5⟩
          have hB5 := hBs.trans hB5
          have hH6 : Has w5 w.heap.size [row 55 1 v5 (frameW W 24 ps.length).length (u64s (frameW W 24 ps.length)), WasA wb 24 63 ps, MemA hb 24 W] := hH5.pick [0, 2, 1]
          obtain ⟨c5, f5, b5⟩ := WasA.next [_] _ hH6 hlt
          have hS := WasA.set hH6 hlt
          have hBS := hB5.setCell (p := ⟨wb, ps.length, none⟩) b5 v5
          obtain ⟨a5, cp5, rfl, _, _, _⟩ := hH6.row_form [] _
          clear CF hHs hH5 hH6
          go_wp2_with fail
          go_roundg (gk - 1)
          case measure => have := HK.out; omega
          case rel => exact ⟨ps.length + 1, _, by have := HK.out; omega, by simp, by go_num, fun j p hj => by
            by_cases e : j < ps.length
            · rw [List.getElem?_append_left e] at hj
              exact HPS.out j p hj
            · by_cases e2 : j = ps.length
              · subst e2
                rw [List.getElem?_append_right (Nat.le_refl _), Nat.sub_self] at hj
                simp at hj
                rw [← hj]
              · rw [List.getElem?_eq_none (by simp; omega)] at hj
                exact absurd hj (by simp), hS, hBS⟩
        · have HPL := hid (show ps.length = 24 from by omega)
          obtain rfl : k = 24 := by omega
          have hH2 : Has wr w.heap.size (MemA hb 24 W :: [WasA wb 24 63 ps]) := hHs.perm (List.Perm.swap _ _ _)
          have hB2 := hBs
          clear hk HK hlt hpl hHs hBs
          obtain ⟨w2, rfl⟩ : ∃ w2 : World, w2 = wr := ⟨_, rfl⟩
          go_wp2_with fail
          refine (NewIs hb 24 6 9 w2 _ _ _ (by decide) hH2).mono ?_
          rintro e w3 ⟨sb, rfl, hH3, hB3⟩
          have hB3 := hB2.trans hB3
          clear hH2 hB2
          go_wp2_with fail
          go_loopg [11] l.length (fun g i wr => ∃ j : Nat, g + j = l.length ∧ i = .int .i64 j ∧ Has wr w.heap.size (staL sb hb 24 6 9 (runS 24 ⟨W, freshL 6 9 0, []⟩ (l.take j)) [WasA wb 24 63 ps]) ∧ Below w.heap.size w wr)
          case atStart => exact ⟨0, by omega, rfl, hH3, hB3⟩
          case round =>
            obtain ⟨j, hj, rfl, hHr, hBr⟩ := hrel
            clear hH3 hB3
            have HJ := hid hj
            by_cases hlt : j < l.length
            · obtain ⟨x, hx⟩ : ∃ x, l[j]? = some x := ⟨_, List.getElem?_eq_getElem hlt⟩
              obtain ⟨b, of, rfl, hc⟩ := sops_at HA.out hBr hx
              have PA := hid hc
              have hst := runS_succ (n := 24) (S := ⟨W, freshL 6 9 0, []⟩) hx
              have HST := hid hst
              have HX := hid (HOK.out x (List.mem_of_getElem? hx))
              clear hc hst hx hj
              go_wp2_with (refine wpList_load_at 35 (.tmp 68) rfl rfl ⟨b, of + j * 11, none⟩ rfl _ (opL x) PA.out Try.underlying35 rfl op_size ?_)
              refine (play_calls sb hb 24 6 9 _ x HX.out wr _ _ hHr).mono ?_
              rintro e w4 ⟨rfl, hH4, hB4⟩
              clear PA
              go_wp2_with fail
              go_roundg (gk - 1)
              case measure => have := HJ.out; omega
              case rel => exact ⟨j + 1, by have := HJ.out; omega, by go_num, by rw [HST.out]; exact hH4, hBr.trans hB4⟩
            · obtain rfl : j = l.length := by omega
              rw [List.take_length] at hHr
              obtain ⟨S, hS⟩ : ∃ S, runS 24 ⟨W, freshL 6 9 0, []⟩ l = S := ⟨_, rfl⟩
              rw [hS] at hHr
              have HRUN := hid hS
              clear hj HJ hlt hS HOK HA
              have hinv := run_new (n := 24) (first := 6) (many := 9) (by decide) (W := W) HW.out (by decide) l
              rw [HRUN.out] at hinv
              clear HRUN
              obtain ⟨hP, hWI, hOI, _⟩ := hinv
              have HP := hid hP
              have HWI := hid hWI
              have HOI := hid hOI
              clear hP hWI hOI
              go_wp2_with fail
              go_loopg [12] 24 (fun g i wq => ∃ f : Nat, g + f = 24 ∧ i = .int .i64 f ∧ Has wq w.heap.size (staL sb hb 24 6 9 S [WasA wb 24 63 ps]) ∧ Below w.heap.size w wq)
              case atStart => exact ⟨0, by omega, rfl, hHr, hBr⟩
              case round =>
                clear hHr hBr
                obtain ⟨f, hf, rfl, hV, bV⟩ := hrel
                have HF := hid hf
                by_cases hlf : f < 24
                · have hlf' : (f : Int) < 24 := by omega
                  obtain ⟨mine, hmine⟩ : ∃ b, (pageAt S.ps (f : Int)).isSome = b := ⟨_, rfl⟩
                  obtain ⟨kf, hkf⟩ : ∃ k, keyAt S.ps (f : Int) = k := ⟨_, rfl⟩
                  have CK := hid (KeyIs sb hb 24 6 9 S f kf mine hkf hmine wr _ _ hV)
                  have HM := hid hmine
                  have zk := zeroKeyL
                  have tok1 : True := trivial
                  clear hmine hkf hf
                  go_wp2_with fail
                  refine CK.out.mono ?_
                  rintro e v4 ⟨rfl, hV4, b4⟩
                  have bV := bV.trans b4
                  have hA4 := hV4.newblk v4.heap.size 31 (keyC keyZ) rfl
                  have bV := below_new bV hV4 (.cells (keyC keyZ) 31)
                  clear CK b4 hV
                  cases mine with
                  | false =>
                    go_wp2_with (have _t := tok1; refine wpList_store_all [] _ hA4 31 (.tmp 13) (.tmp 79) rfl rfl rfl (keyC kf) rfl key_size rfl (key_one _) ?_; clear _t tok1; intro v5 hV5 b5 hz; clear hz)
                    have bV := bV.trans b5
                    have hV6 : Has v5 w.heap.size (staL sb hb 24 6 9 S [WasA wb 24 63 ps]) := hV5.drop
                    clear hA4 hV4 b5 hV5
                    by_cases hin : 6 ≤ f ∧ f < 15
                    · have q1 : decide ((f : Int) < 6) = false := decide_eq_false (by omega)
                      have q1' : decide (f < 6) = false := decide_eq_false (by omega)
                      have q2 : decide ((15 : Int) ≤ (f : Int)) = false := decide_eq_false (by omega)
                      have q2' : decide (15 ≤ f) = false := decide_eq_false (by omega)
                      clear hin
                      go_quiet (fail)
                      have hV7 := hV6.drewN nq
                      have bV := below_drewNS bV nq
                      go_wp2_with fail
                      go_roundg (gk - 1)
                      case measure => have := HF.out; omega
                      case rel => exact ⟨f + 1, by have := HF.out; omega, by go_num, hV7, bV⟩
                    · have hfr : frameW S.W 24 f = frameW W 24 f := frameW_same HWI.out.len HW.out (fun i hi hf2 => HOI.out.at_ _ _ ⟨by omega, by omega, by omega, by omega⟩ (by omega))
                      obtain ⟨⟨pv, pF⟩, hp⟩ : ∃ p, ps[f]? = some p := ⟨_, List.getElem?_eq_getElem (by rw [HPL.out]; exact hlf)⟩
                      have hpF : pF = frameW W 24 f := HPS.out f _ hp
                      subst hpF
                      have HPP := hid hp
                      have HFR := hid hfr
                      have hVM : Has v5 w.heap.size [MemA hb 24 S.W, WasA wb 24 63 ps, StoA sb hb 24 6 9 S.F S.ps] := hV6.pick [1, 2, 0]
                      obtain ⟨pa, pc, rfl, _⟩ := WasA.src [_] _ hVM hp
                      have c0 := WasA.cell [_] _ hVM.drew hp
                      have CF := hid (Frame_calls hb 24 S.W f v5.drew _ _ hVM.drew)
                      have bD : Below w.heap.size w v5.drew := bV.drew
                      clear hfr hp
                      by_cases h6 : f < 6
                      · have q1 : decide ((f : Int) < 6) = true := decide_eq_true (by omega)
                        have q1' : decide (f < 6) = true := decide_eq_true h6
                        clear hin
                        refine wp_region_held_drew (S := fun U => U.cell? ⟨wb, f, none⟩ = some (.slice pa (frameW W 24 f).length pc)) (by kernel_rfl) ?_ (fun hHeld => ?_)
                        · exact c0
                        refine wpAnyH_take (i := 0) (oi := ?oi0a) (v := ?v0a) ?hi0a (by kernel_rfl) (by kernel_rfl) (by kernel_rfl) ?hQ0a ?hy0a (by assumption) ?rest0a
                        case hi0a => simp only [List.getElem?_toArray, List.getElem?_cons_succ, List.getElem?_cons_zero]; rfl
                        case hQ0a => exact fun _ _ _ h => h
                        case hy0a => refine Or.inl ⟨by rfl, ?_⟩; intro w hSw; (try dsimp only at hSw); go_simp; try with_reducible rfl
                        try simp only [Act.put, List.setIfInBounds_toArray, List.set_cons_zero, List.set_cons_succ]
                        refine wpAnyH_take (i := 1) (oi := ?oi1a) (v := ?v1a) ?hi1a (by kernel_rfl) (by kernel_rfl) (by kernel_rfl) ?hQ1a ?hy1a (by assumption) ?rest1a
                        case hi1a => simp only [List.getElem?_toArray, List.getElem?_cons_succ, List.getElem?_cons_zero]; rfl
                        case hQ1a => exact fun _ _ _ h => h
                        case hy1a => refine Or.inl ⟨by rfl, ?_⟩; intro w hSw; (try dsimp only at hSw); go_simp; try with_reducible rfl
                        try simp only [Act.put, List.setIfInBounds_toArray, List.set_cons_zero, List.set_cons_succ]
                        refine wpAnyH_take (i := 2) (oi := ?oi2a) (v := ?v2a) ?hi2a (by kernel_rfl) (by kernel_rfl) (by kernel_rfl) ?hQ2a ?hy2a (by assumption) ?rest2a
                        case hi2a => simp only [List.getElem?_toArray, List.getElem?_cons_succ, List.getElem?_cons_zero]; rfl
                        case hQ2a => exact fun _ _ _ h => h
                        case hy2a => refine Or.inl ⟨by rfl, ?_⟩; intro w hSw; (try dsimp only at hSw); go_simp; try with_reducible rfl
                        try simp only [Act.put, List.setIfInBounds_toArray, List.set_cons_zero, List.set_cons_succ]
                        refine wpAnyH_take (i := 3) (oi := ?oi3a) (v := undef) ?hi3a (by kernel_rfl) (by kernel_rfl) (by kernel_rfl) ?hQ3a ?hy3a (by assumption) ?rest3a
                        case hi3a => simp only [List.getElem?_toArray, List.getElem?_cons_succ, List.getElem?_cons_zero]; rfl
                        case hQ3a => exact fun _ _ _ h => h
                        case hy3a => exact Or.inr ⟨by rfl, rfl⟩
                        try simp only [Act.put, List.setIfInBounds_toArray, List.set_cons_zero, List.set_cons_succ]
                        refine wpAnyH_take (i := 4) (oi := ?oi4a) (v := undef) ?hi4a (by kernel_rfl) (by kernel_rfl) (by kernel_rfl) ?hQ4a ?hy4a (by assumption) ?rest4a
                        case hi4a => simp only [List.getElem?_toArray, List.getElem?_cons_succ, List.getElem?_cons_zero]; rfl
                        case hQ4a => exact fun _ _ _ h => h
                        case hy4a => exact Or.inr ⟨by rfl, rfl⟩
                        try simp only [Act.put, List.setIfInBounds_toArray, List.set_cons_zero, List.set_cons_succ]
                        refine wpAnyH_take (i := 5) (oi := ?oi5a) (v := ?v5a) ?hi5a (by kernel_rfl) (by kernel_rfl) (by kernel_rfl) ?hQ5a ?hy5a (by assumption) ?rest5a
                        case hi5a => simp only [List.getElem?_toArray, List.getElem?_cons_succ, List.getElem?_cons_zero]; rfl
                        case hQ5a => exact fun _ _ _ h => h
                        case hy5a => refine Or.inl ⟨by rfl, ?_⟩; intro w hSw; (try dsimp only at hSw); go_simp; try with_reducible rfl
                        try simp only [Act.put, List.setIfInBounds_toArray, List.set_cons_zero, List.set_cons_succ]
                        refine wpAnyH_take (i := 6) (oi := ?oi6a) (v := ?v6a) ?hi6a (by kernel_rfl) (by kernel_rfl) (by kernel_rfl) ?hQ6a ?hy6a (by assumption) ?rest6a
                        case hi6a => simp only [List.getElem?_toArray, List.getElem?_cons_succ, List.getElem?_cons_zero]; rfl
                        case hQ6a => exact fun _ _ _ h => h
                        case hy6a => refine Or.inl ⟨by rfl, ?_⟩; intro w hSw; (try dsimp only at hSw); go_simp; try with_reducible rfl
                        try simp only [Act.put, List.setIfInBounds_toArray, List.set_cons_zero, List.set_cons_succ]
                        refine wpAnyH_take (i := 7) (oi := ?oi7a) (v := ?v7a) ?hi7a (by kernel_rfl) (by kernel_rfl) (by kernel_rfl) ?hQ7a ?hy7a (by assumption) ?rest7a
                        case hi7a => simp only [List.getElem?_toArray, List.getElem?_cons_succ, List.getElem?_cons_zero]; rfl
                        case hQ7a => exact fun _ _ _ h => h
                        case hy7a => refine Or.inl ⟨by rfl, ?_⟩; intro w hSw; (try dsimp only at hSw); go_simp; try with_reducible rfl
                        try simp only [Act.put, List.setIfInBounds_toArray, List.set_cons_zero, List.set_cons_succ]
                        refine wpAnyH_take (i := 8) (oi := ?oi8a) (v := ?v8a) ?hi8a (by kernel_rfl) (by kernel_rfl) (by kernel_rfl) ?hQ8a ?hy8a (by assumption) ?rest8a
                        case hi8a => simp only [List.getElem?_toArray, List.getElem?_cons_succ, List.getElem?_cons_zero]; rfl
                        case hQ8a => exact fun _ _ _ h => h
                        case hy8a => refine Or.inl ⟨by rfl, ?_⟩; intro w hSw; (try dsimp only at hSw); go_simp; try with_reducible rfl
                        try simp only [Act.put, List.setIfInBounds_toArray, List.set_cons_zero, List.set_cons_succ]
                        refine wpAnyH_take (i := 10) (oi := ?oi10a) (v := ?v10a) ?hi10a (by kernel_rfl) (by kernel_rfl) (by kernel_rfl) ?hQ10a ?hy10a (by assumption) ?rest10a
                        case hi10a => simp only [List.getElem?_toArray, List.getElem?_cons_succ, List.getElem?_cons_zero]; rfl
                        case hQ10a => exact fun _ _ _ h => h
                        case hy10a => refine Or.inl ⟨by rfl, ?_⟩; intro w hSw; (try dsimp only at hSw); go_simp; try with_reducible rfl
                        try simp only [Act.put, List.setIfInBounds_toArray, List.set_cons_zero, List.set_cons_succ]
                        refine wpAnyH_take (i := 11) (oi := ?oi11a) (v := ?v11a) ?hi11a (by kernel_rfl) (by kernel_rfl) (by kernel_rfl) ?hQ11a ?hy11a (by assumption) ?rest11a
                        case hi11a => simp only [List.getElem?_toArray, List.getElem?_cons_succ, List.getElem?_cons_zero]; rfl
                        case hQ11a => exact fun _ _ _ h => h
                        case hy11a => refine Or.inl ⟨by rfl, ?_⟩; intro w hSw; (try dsimp only at hSw); go_simp; try with_reducible rfl
                        try simp only [Act.put, List.setIfInBounds_toArray, List.set_cons_zero, List.set_cons_succ]
                        refine wpAnyH_take (i := 12) (oi := ?oi12a) (v := ?v12a) ?hi12a (by kernel_rfl) (by kernel_rfl) (by kernel_rfl) ?hQ12a ?hy12a (by assumption) ?rest12a
                        case hi12a => simp only [List.getElem?_toArray, List.getElem?_cons_succ, List.getElem?_cons_zero]; rfl
                        case hQ12a => exact fun _ _ _ h => h
                        case hy12a => refine Or.inl ⟨by rfl, ?_⟩; intro w hSw; (try dsimp only at hSw); go_simp; try with_reducible rfl
                        try simp only [Act.put, List.setIfInBounds_toArray, List.set_cons_zero, List.set_cons_succ]
                        refine wpAnyH_ready (rs := [9]) (by kernel_rfl) (by simp) ?_
                        refine AllReadyH.cons rfl (fun K hK => ?_) AllReadyH.nil
                        go_simp
                        go_at_call 27
                        (with_reducible refine CF.out.mono ?_)
                        rintro e w8 ⟨v8, rfl, hH8, hB8⟩
                        rw [HFR.out] at hH8
                        have c8 := WasA.cell [_, _] _ hH8 HPP.out
                        obtain ⟨a8, cp8, rfl, _, _, _⟩ := hH8.row_form [] _
                        dsimp only
                        refine hK.out _ _ ?_ (fun hHeld => ?_)
                        · exact c8
                        clear hK K
                        try simp only [Act.put, List.setIfInBounds_toArray, List.set_cons_zero, List.set_cons_succ]
                        refine wpAnyH_ready (rs := [13]) (by kernel_rfl) (by simp) ?_
                        refine AllReadyH.cons rfl (fun K hK => ?_) AllReadyH.nil
                        go_simp
                        go_at_call 28
                        (with_reducible refine (keeps (SameWords_calls a8 pa cp8 pc _ _ w8 (srcu_row [] _ hH8 rfl) (WasA.srcAt [_, _] _ hH8 HPP.out)) hH8).mono ?_)
                        rintro e w9 ⟨rfl, hH9, hB9⟩
                        rw [show (frameW W 24 f == frameW W 24 f) = true from by simp]
                        have c9 := WasA.cell [_, _] _ hH9 HPP.out
                        dsimp only
                        refine hK.out _ _ ?_ (fun hHeld => ?_)
                        · exact c9
                        clear hK K
                        try simp only [Act.put, List.setIfInBounds_toArray, List.set_cons_zero, List.set_cons_succ]
                        refine wpAnyH_take (i := 14) (oi := ?oi14a) (v := ?v14a) ?hi14a (by kernel_rfl) (by kernel_rfl) (by kernel_rfl) ?hQ14a ?hy14a (by assumption) ?rest14a
                        case hi14a => simp only [List.getElem?_toArray, List.getElem?_cons_succ, List.getElem?_cons_zero]; rfl
                        case hQ14a => exact fun _ _ _ h => h
                        case hy14a => refine Or.inl ⟨by rfl, ?_⟩; intro w hSw; (try dsimp only at hSw); go_simp; try with_reducible rfl
                        try simp only [Act.put, List.setIfInBounds_toArray, List.set_cons_zero, List.set_cons_succ]
                        refine wpAnyH_take (i := 15) (oi := ?oi15a) (v := ?v15a) ?hi15a (by kernel_rfl) (by kernel_rfl) (by kernel_rfl) ?hQ15a ?hy15a (by assumption) ?rest15a
                        case hi15a => simp only [List.getElem?_toArray, List.getElem?_cons_succ, List.getElem?_cons_zero]; rfl
                        case hQ15a => exact fun _ _ _ h => h
                        case hy15a => refine Or.inl ⟨by rfl, ?_⟩; intro w hSw; (try dsimp only at hSw); go_simp; try with_reducible rfl
                        try simp only [Act.put, List.setIfInBounds_toArray, List.set_cons_zero, List.set_cons_succ]
                        refine wpAnyH_done (by kernel_rfl) ?_ _
                        go_wp2_with fail
                        go_roundg (gk - 1)
                        case measure => have := HF.out; omega
                        case rel => exact ⟨f + 1, by have := HF.out; omega, by go_num, hH9.pick [3, 1, 2], (bD.trans hB8).trans hB9⟩
                      · have q1 : decide ((f : Int) < 6) = false := decide_eq_false (by omega)
                        have q1' : decide (f < 6) = false := decide_eq_false h6
                        have q2 : decide ((15 : Int) ≤ (f : Int)) = true := decide_eq_true (by omega)
                        have q2' : decide (15 ≤ f) = true := decide_eq_true (by omega)
                        clear hin
                        refine wp_region_held_drew (S := fun U => U.cell? ⟨wb, f, none⟩ = some (.slice pa (frameW W 24 f).length pc)) (by kernel_rfl) ?_ (fun hHeld => ?_)
                        · exact c0
                        refine wpAnyH_take (i := 0) (oi := ?oi0b) (v := ?v0b) ?hi0b (by kernel_rfl) (by kernel_rfl) (by kernel_rfl) ?hQ0b ?hy0b (by assumption) ?rest0b
                        case hi0b => simp only [List.getElem?_toArray, List.getElem?_cons_succ, List.getElem?_cons_zero]; rfl
                        case hQ0b => exact fun _ _ _ h => h
                        case hy0b => refine Or.inl ⟨by rfl, ?_⟩; intro w hSw; (try dsimp only at hSw); go_simp; try with_reducible rfl
                        try simp only [Act.put, List.setIfInBounds_toArray, List.set_cons_zero, List.set_cons_succ]
                        refine wpAnyH_take (i := 1) (oi := ?oi1b) (v := ?v1b) ?hi1b (by kernel_rfl) (by kernel_rfl) (by kernel_rfl) ?hQ1b ?hy1b (by assumption) ?rest1b
                        case hi1b => simp only [List.getElem?_toArray, List.getElem?_cons_succ, List.getElem?_cons_zero]; rfl
                        case hQ1b => exact fun _ _ _ h => h
                        case hy1b => refine Or.inl ⟨by rfl, ?_⟩; intro w hSw; (try dsimp only at hSw); go_simp; try with_reducible rfl
                        try simp only [Act.put, List.setIfInBounds_toArray, List.set_cons_zero, List.set_cons_succ]
                        refine wpAnyH_take (i := 2) (oi := ?oi2b) (v := ?v2b) ?hi2b (by kernel_rfl) (by kernel_rfl) (by kernel_rfl) ?hQ2b ?hy2b (by assumption) ?rest2b
                        case hi2b => simp only [List.getElem?_toArray, List.getElem?_cons_succ, List.getElem?_cons_zero]; rfl
                        case hQ2b => exact fun _ _ _ h => h
                        case hy2b => refine Or.inl ⟨by rfl, ?_⟩; intro w hSw; (try dsimp only at hSw); go_simp; try with_reducible rfl
                        try simp only [Act.put, List.setIfInBounds_toArray, List.set_cons_zero, List.set_cons_succ]
                        refine wpAnyH_take (i := 3) (oi := ?oi3b) (v := ?v3b) ?hi3b (by kernel_rfl) (by kernel_rfl) (by kernel_rfl) ?hQ3b ?hy3b (by assumption) ?rest3b
                        case hi3b => simp only [List.getElem?_toArray, List.getElem?_cons_succ, List.getElem?_cons_zero]; rfl
                        case hQ3b => exact fun _ _ _ h => h
                        case hy3b => refine Or.inl ⟨by rfl, ?_⟩; intro w hSw; (try dsimp only at hSw); go_simp; try with_reducible rfl
                        try simp only [Act.put, List.setIfInBounds_toArray, List.set_cons_zero, List.set_cons_succ]
                        refine wpAnyH_take (i := 4) (oi := ?oi4b) (v := ?v4b) ?hi4b (by kernel_rfl) (by kernel_rfl) (by kernel_rfl) ?hQ4b ?hy4b (by assumption) ?rest4b
                        case hi4b => simp only [List.getElem?_toArray, List.getElem?_cons_succ, List.getElem?_cons_zero]; rfl
                        case hQ4b => exact fun _ _ _ h => h
                        case hy4b => refine Or.inl ⟨by rfl, ?_⟩; intro w hSw; (try dsimp only at hSw); go_simp; try with_reducible rfl
                        try simp only [Act.put, List.setIfInBounds_toArray, List.set_cons_zero, List.set_cons_succ]
                        refine wpAnyH_take (i := 5) (oi := ?oi5b) (v := ?v5b) ?hi5b (by kernel_rfl) (by kernel_rfl) (by kernel_rfl) ?hQ5b ?hy5b (by assumption) ?rest5b
                        case hi5b => simp only [List.getElem?_toArray, List.getElem?_cons_succ, List.getElem?_cons_zero]; rfl
                        case hQ5b => exact fun _ _ _ h => h
                        case hy5b => refine Or.inl ⟨by rfl, ?_⟩; intro w hSw; (try dsimp only at hSw); go_simp; try with_reducible rfl
                        try simp only [Act.put, List.setIfInBounds_toArray, List.set_cons_zero, List.set_cons_succ]
                        refine wpAnyH_take (i := 6) (oi := ?oi6b) (v := ?v6b) ?hi6b (by kernel_rfl) (by kernel_rfl) (by kernel_rfl) ?hQ6b ?hy6b (by assumption) ?rest6b
                        case hi6b => simp only [List.getElem?_toArray, List.getElem?_cons_succ, List.getElem?_cons_zero]; rfl
                        case hQ6b => exact fun _ _ _ h => h
                        case hy6b => refine Or.inl ⟨by rfl, ?_⟩; intro w hSw; (try dsimp only at hSw); go_simp; try with_reducible rfl
                        try simp only [Act.put, List.setIfInBounds_toArray, List.set_cons_zero, List.set_cons_succ]
                        refine wpAnyH_take (i := 7) (oi := ?oi7b) (v := ?v7b) ?hi7b (by kernel_rfl) (by kernel_rfl) (by kernel_rfl) ?hQ7b ?hy7b (by assumption) ?rest7b
                        case hi7b => simp only [List.getElem?_toArray, List.getElem?_cons_succ, List.getElem?_cons_zero]; rfl
                        case hQ7b => exact fun _ _ _ h => h
                        case hy7b => refine Or.inl ⟨by rfl, ?_⟩; intro w hSw; (try dsimp only at hSw); go_simp; try with_reducible rfl
                        try simp only [Act.put, List.setIfInBounds_toArray, List.set_cons_zero, List.set_cons_succ]
                        refine wpAnyH_take (i := 8) (oi := ?oi8b) (v := ?v8b) ?hi8b (by kernel_rfl) (by kernel_rfl) (by kernel_rfl) ?hQ8b ?hy8b (by assumption) ?rest8b
                        case hi8b => simp only [List.getElem?_toArray, List.getElem?_cons_succ, List.getElem?_cons_zero]; rfl
                        case hQ8b => exact fun _ _ _ h => h
                        case hy8b => refine Or.inl ⟨by rfl, ?_⟩; intro w hSw; (try dsimp only at hSw); go_simp; try with_reducible rfl
                        try simp only [Act.put, List.setIfInBounds_toArray, List.set_cons_zero, List.set_cons_succ]
                        refine wpAnyH_take (i := 10) (oi := ?oi10b) (v := ?v10b) ?hi10b (by kernel_rfl) (by kernel_rfl) (by kernel_rfl) ?hQ10b ?hy10b (by assumption) ?rest10b
                        case hi10b => simp only [List.getElem?_toArray, List.getElem?_cons_succ, List.getElem?_cons_zero]; rfl
                        case hQ10b => exact fun _ _ _ h => h
                        case hy10b => refine Or.inl ⟨by rfl, ?_⟩; intro w hSw; (try dsimp only at hSw); go_simp; try with_reducible rfl
                        try simp only [Act.put, List.setIfInBounds_toArray, List.set_cons_zero, List.set_cons_succ]
                        refine wpAnyH_take (i := 11) (oi := ?oi11b) (v := ?v11b) ?hi11b (by kernel_rfl) (by kernel_rfl) (by kernel_rfl) ?hQ11b ?hy11b (by assumption) ?rest11b
                        case hi11b => simp only [List.getElem?_toArray, List.getElem?_cons_succ, List.getElem?_cons_zero]; rfl
                        case hQ11b => exact fun _ _ _ h => h
                        case hy11b => refine Or.inl ⟨by rfl, ?_⟩; intro w hSw; (try dsimp only at hSw); go_simp; try with_reducible rfl
                        try simp only [Act.put, List.setIfInBounds_toArray, List.set_cons_zero, List.set_cons_succ]
                        refine wpAnyH_take (i := 12) (oi := ?oi12b) (v := ?v12b) ?hi12b (by kernel_rfl) (by kernel_rfl) (by kernel_rfl) ?hQ12b ?hy12b (by assumption) ?rest12b
                        case hi12b => simp only [List.getElem?_toArray, List.getElem?_cons_succ, List.getElem?_cons_zero]; rfl
                        case hQ12b => exact fun _ _ _ h => h
                        case hy12b => refine Or.inl ⟨by rfl, ?_⟩; intro w hSw; (try dsimp only at hSw); go_simp; try with_reducible rfl
                        try simp only [Act.put, List.setIfInBounds_toArray, List.set_cons_zero, List.set_cons_succ]
                        refine wpAnyH_ready (rs := [9]) (by kernel_rfl) (by simp) ?_
                        refine AllReadyH.cons rfl (fun K hK => ?_) AllReadyH.nil
                        go_simp
                        go_at_call 27
                        (with_reducible refine CF.out.mono ?_)
                        rintro e w8 ⟨v8, rfl, hH8, hB8⟩
                        rw [HFR.out] at hH8
                        have c8 := WasA.cell [_, _] _ hH8 HPP.out
                        obtain ⟨a8, cp8, rfl, _, _, _⟩ := hH8.row_form [] _
                        dsimp only
                        refine hK.out _ _ ?_ (fun hHeld => ?_)
                        · exact c8
                        clear hK K
                        try simp only [Act.put, List.setIfInBounds_toArray, List.set_cons_zero, List.set_cons_succ]
                        refine wpAnyH_ready (rs := [13]) (by kernel_rfl) (by simp) ?_
                        refine AllReadyH.cons rfl (fun K hK => ?_) AllReadyH.nil
                        go_simp
                        go_at_call 28
                        (with_reducible refine (keeps (SameWords_calls a8 pa cp8 pc _ _ w8 (srcu_row [] _ hH8 rfl) (WasA.srcAt [_, _] _ hH8 HPP.out)) hH8).mono ?_)
                        rintro e w9 ⟨rfl, hH9, hB9⟩
                        rw [show (frameW W 24 f == frameW W 24 f) = true from by simp]
                        have c9 := WasA.cell [_, _] _ hH9 HPP.out
                        dsimp only
                        refine hK.out _ _ ?_ (fun hHeld => ?_)
                        · exact c9
                        clear hK K
                        try simp only [Act.put, List.setIfInBounds_toArray, List.set_cons_zero, List.set_cons_succ]
                        refine wpAnyH_take (i := 14) (oi := ?oi14b) (v := ?v14b) ?hi14b (by kernel_rfl) (by kernel_rfl) (by kernel_rfl) ?hQ14b ?hy14b (by assumption) ?rest14b
                        case hi14b => simp only [List.getElem?_toArray, List.getElem?_cons_succ, List.getElem?_cons_zero]; rfl
                        case hQ14b => exact fun _ _ _ h => h
                        case hy14b => refine Or.inl ⟨by rfl, ?_⟩; intro w hSw; (try dsimp only at hSw); go_simp; try with_reducible rfl
                        try simp only [Act.put, List.setIfInBounds_toArray, List.set_cons_zero, List.set_cons_succ]
                        refine wpAnyH_take (i := 15) (oi := ?oi15b) (v := ?v15b) ?hi15b (by kernel_rfl) (by kernel_rfl) (by kernel_rfl) ?hQ15b ?hy15b (by assumption) ?rest15b
                        case hi15b => simp only [List.getElem?_toArray, List.getElem?_cons_succ, List.getElem?_cons_zero]; rfl
                        case hQ15b => exact fun _ _ _ h => h
                        case hy15b => refine Or.inl ⟨by rfl, ?_⟩; intro w hSw; (try dsimp only at hSw); go_simp; try with_reducible rfl
                        try simp only [Act.put, List.setIfInBounds_toArray, List.set_cons_zero, List.set_cons_succ]
                        refine wpAnyH_done (by kernel_rfl) ?_ _
                        go_wp2_with fail
                        go_roundg (gk - 1)
                        case measure => have := HF.out; omega
                        case rel => exact ⟨f + 1, by have := HF.out; omega, by go_num, hH9.pick [3, 1, 2], (bD.trans hB8).trans hB9⟩
                  | true =>
                    obtain ⟨p, hpo⟩ := Option.isSome_iff_exists.1 HM.out
                    obtain ⟨hpm, hpf⟩ := pageAt_mem hpo
                    have h8 := HP.out.s8 p hpm
                    have HPO := hid (And.intro hpo h8)
                    clear hpo hpm hpf h8
                    go_wp2_with (have _t := tok1; refine wpList_store_all [] _ hA4 31 (.tmp 13) (.tmp 79) rfl rfl rfl (keyC kf) rfl key_size rfl (key_one _) ?_; clear _t tok1; intro v5 hV5 b5 hz; clear hz)
                    have bV := bV.trans b5
                    have hV6 : Has v5 w.heap.size (staL sb hb 24 6 9 S [WasA wb 24 63 ps]) := hV5.drop
                    clear hA4 hV4 b5 hV5
                    obtain ⟨gf, hgf⟩ : ∃ gf, gf = gk := ⟨_, rfl⟩
                    have HGF := hid hgf
                    clear hgf
                    go_loopg [15] 8 (fun g i' wq => ∃ i : Nat, g + i = 8 ∧ i' = .int .i64 i ∧ Has wq w.heap.size (staL sb hb 24 6 9 S [WasA wb 24 63 ps]) ∧ Below w.heap.size w wq)
                    case atStart => exact ⟨0, by omega, rfl, hV6, bV⟩
                    case round =>
                      clear hV6 bV
                      obtain ⟨i, hi, rfl, hV, bV⟩ := hrel
                      have HI := hid hi
                      by_cases hli : i < 8
                      · have hli' : (i : Int) < 8 := by omega
                        obtain ⟨y, hy⟩ : ∃ y, p.s[i]? = some y := ⟨_, List.getElem?_eq_getElem (by have := HPO.out.2; omega)⟩
                        have hsl : slotAt S.ps (f : Int) (i : Int) = some y := slotAt_intro HPO.out.1 (by omega) (by simpa using hy)
                        have hsw := HWI.out.at_ _ _ _ hsl
                        have hgr := getR_yes (W := S.W) (slot_wok HP.out hsl)
                        obtain ⟨N, E, hN, hN64, hNE, hcs⟩ := slot_get hsw
                        rw [hN] at hgr
                        obtain ⟨VV, hVV⟩ : ∃ VV : Int, (N : Int) = VV := ⟨_, rfl⟩
                        rw [hVV] at hgr
                        have CG := hid (GetIs sb hb 24 6 9 S wr _ _ f i VV true hgr hV)
                        have CS := hid (SlotIs sb hb 24 6 9 S wr _ _ f i y true (by rw [hsl]; rfl) (by rw [hsl]; rfl) hV)
                        have CE := hid (fun (W : World) => EGetIs N hN64 E hNE VV hVV.symm W)
                        have HVV := hid hVV
                        have HCS := hid hcs
                        have zs := zeroSlotL
                        have zp := zeroPteS
                        have tok2 : True := trivial
                        have tok3 : True := trivial
                        clear hy hsl hsw hgr hN hN64 hNE hcs hVV hi
                        go_wp2_with fail
                        refine CG.out.mono ?_
                        rintro e w' ⟨rfl, rfl⟩
                        go_wp2_with fail
                        refine CS.out.mono ?_
                        rintro e x1 ⟨rfl, hX1, b1⟩
                        have bV := bV.trans b1
                        have hA5 := hX1.newblk x1.heap.size 42 #[.int .i64 0, .int .i64 0, .bool false, .bool false, .bool false] rfl
                        have bV := below_new bV hX1 (.cells #[.int .i64 0, .int .i64 0, .bool false, .bool false, .bool false] 42)
                        clear CG CS b1 hV
                        go_wp2_with (have _t := tok2; refine wpList_store_all [] _ hA5 42 (.tmp 18) (.tmp 115) rfl rfl rfl (slotC y) rfl slot_size rfl (slot_one _) ?_; clear _t tok2; intro x2 hX2 b2 hz; clear hz)
                        have bV := bV.trans b2
                        have hX2 := toX hX2
                        refine (keeps (CE.out x2) hX2).mono ?_
                        rintro e x3 ⟨rfl, hX3, b3⟩
                        have bV := bV.trans b3
                        have hA6 := hX3.newblk x3.heap.size 67 #[.bool false, .bool false, .bool false, .bool false, .bool false, .bool false, .bool false, .bool false, .int .i64 0] rfl
                        have bV := below_new bV hX3 (.cells #[.bool false, .bool false, .bool false, .bool false, .bool false, .bool false, .bool false, .bool false, .int .i64 0] 67)
                        clear CE b2 b3 hX2 hA5 hX1
                        rcases HCS.out with ⟨hy0, hN0, hE0⟩ | ⟨hk12, hh, hE1, hc1⟩
                        · have hvz : VV = 0 := by rw [← HVV.out, hN0]; rfl
                          subst hvz hy0
                          have hNeq : ∀ W, Sem.run Try.prog (binOp .neq 67 (.agg (pteC E)) (.agg #[.bool false, .bool false, .bool false, .bool false, .bool false, .bool false, .bool false, .bool false, .int .i64 0])) W = .ok (.bool false) W := fun W => by
                            rw [hE0]
                            exact (pte_neq ⟨false, false, false, false, false, false, false, false, 0⟩ ⟨false, false, false, false, false, false, false, false, 0⟩ W).trans (by simp)
                          clear hN0 hE0
                          go_wp2_with (first
                            | (have _t := tok3; refine wpList_store_all [] _ hA6 67 (.tmp 20) (.tmp 118) rfl rfl rfl (pteC E) rfl (pte_size _) rfl (pte_one _) ?_; clear _t tok3; intro x4 hX4 b4 hz; clear hz; have bW := bV.trans b4; have hX4 := toX hX4; have hA7 := hX4.newblk x4.heap.size 67 #[.bool false, .bool false, .bool false, .bool false, .bool false, .bool false, .bool false, .bool false, .int .i64 0] rfl; have bW := below_new bW hX4 (.cells #[.bool false, .bool false, .bool false, .bool false, .bool false, .bool false, .bool false, .bool false, .int .i64 0] 67); have tok6 : True := trivial)
                            | (have _t := tok6; refine wpList_store_all [] _ hA7 67 (.tmp 21) (.tmp 119) rfl rfl rfl #[.bool false, .bool false, .bool false, .bool false, .bool false, .bool false, .bool false, .bool false, .int .i64 0] rfl pteZ_size rfl pteZ_one ?_; clear _t tok6; intro x5 hX5 b5 hz; clear hz; have bW := bW.trans b5; have y0 := hX5.cell [_, _, _, _] _ 0 (v := .int .i64 0) rfl; have y1 := hX5.cell [_, _, _, _] _ 1 (v := .int .i64 0) rfl; have y2 := hX5.cell [_, _, _, _] _ 2 (v := .bool false) rfl; have y3 := hX5.cell [_, _, _, _] _ 3 (v := .bool false) rfl; have y4 := hX5.cell [_, _, _, _] _ 4 (v := .bool false) rfl; have tok7 : True := trivial)
                            | (refine wpList_load_blk [_, _, _] _ hX5 67 (.tmp 20) rfl rfl rfl _ Try.underlying67 rfl (pte_size _) ?_)
                            | (refine wpList_load_blk [] _ hX5 67 (.tmp 21) rfl rfl rfl _ Try.underlying67 rfl pteZ_size ?_))
                          go_roundg (gk - 1)
                          case measure => have := HI.out; omega
                          case rel => exact ⟨i + 1, by have := HI.out; omega, by go_num, hX5.pick [1, 2, 5], bW⟩
                        · have hNeq : ∀ W, Sem.run Try.prog (binOp .neq 67 (.agg (pteC E)) (.agg (pteC E))) W = .ok (.bool false) W := fun W => (pte_neq E E W).trans (by simp)
                          have hfr : E.Frame = hh := by rw [hE1]; rfl
                          have hArr : ∀ z : Int, z = hh → (#[.bool true, .bool y.w, .bool y.u, .bool false, .bool false, .bool false, .bool (!y.x), .bool false, .int .i64 z] : Array Value) = pteC E := fun z hz => by rw [hE1, hz]; rfl
                          have HARR := hid hArr
                          have HC1 := hid hc1
                          have hE8 : ∀ (W : World) (B b : Nat) (L1 L2 : List Asr), Has W B (L1 ++ blk b 67 (pteC E) :: L2) → W.cell? ⟨b, 8, none⟩ = some (.int .i64 hh) := fun W B b L1 L2 h => by rw [← hfr]; exact h.cell L1 L2 8 rfl
                          have HE8 := hid hE8
                          have tok4 : True := trivial
                          have tok5 : True := trivial
                          clear hE1 hfr hArr hc1 hE8
                          rcases hk12 with hkd | hkd
                          · have hto : hh = y.to := HC1.out hkd
                            have k0 : (y.kd == 0) = false := by rw [hkd]; rfl
                            have k0' : (y.kd != 0) = true := by rw [hkd]; rfl
                            have k1 : (y.kd == 1) = true := by rw [hkd]; rfl
                            subst hto
                            clear hkd
                            go_wp2_with (first
                              | (have _t := tok3; refine wpList_store_all [] _ hA6 67 (.tmp 20) (.tmp 118) rfl rfl rfl (pteC E) rfl (pte_size _) rfl (pte_one _) ?_; clear _t tok3; intro x4 hX4 b4 hz; clear hz; have bW := bV.trans b4; have hX4 := toX hX4; have hA7 := hX4.newblk x4.heap.size 67 #[.bool false, .bool false, .bool false, .bool false, .bool false, .bool false, .bool false, .bool false, .int .i64 0] rfl; have bW := below_new bW hX4 (.cells #[.bool false, .bool false, .bool false, .bool false, .bool false, .bool false, .bool false, .bool false, .int .i64 0] 67); have tok6 : True := trivial)
                              | (have _t := tok6; refine wpList_store_all [] _ hA7 67 (.tmp 21) (.tmp 119) rfl rfl rfl #[.bool false, .bool false, .bool false, .bool false, .bool false, .bool false, .bool false, .bool false, .int .i64 0] rfl pteZ_size rfl pteZ_one ?_; clear _t tok6; intro x5 hX5 b5 hz; clear hz; have bW := bW.trans b5; have y0 := hX5.cell [_, _, _, _] _ 0 (v := .int .i64 y.kd) rfl; have y1 := hX5.cell [_, _, _, _] _ 1 (v := .int .i64 y.to) rfl; have y2 := hX5.cell [_, _, _, _] _ 2 (v := .bool y.w) rfl; have y3 := hX5.cell [_, _, _, _] _ 3 (v := .bool y.u) rfl; have y4 := hX5.cell [_, _, _, _] _ 4 (v := .bool y.x) rfl; have y8 := HE8.out _ _ _ [_, _, _] _ hX5; have tok7 : True := trivial)
                              | (have _t := tok7; refine wpList_store_all [] _ hX5 67 (.tmp 21) (.tmp 135) rfl rfl rfl (pteC E) (congrArg Value.agg (HARR.out _ rfl)) (pte_size _) rfl (pte_one _) ?_; clear _t tok7; intro x6 hX6 b6 hz; clear hz; have bW := bW.trans b6; have u0 := hX6.cell [_, _, _, _] _ 0 (v := .int .i64 y.kd) rfl; have u1 := hX6.cell [_, _, _, _] _ 1 (v := .int .i64 y.to) rfl; have u8 := HE8.out _ _ _ [_, _, _] _ hX6)
                              | (refine wpList_load_blk [_, _, _] _ hX6 67 (.tmp 20) rfl rfl rfl _ Try.underlying67 rfl (pte_size _) ?_)
                              | (refine wpList_load_blk [] _ hX6 67 (.tmp 21) rfl rfl rfl _ Try.underlying67 rfl (pte_size _) ?_))
                            go_roundg (gk - 1)
                            case measure => have := HI.out; omega
                            case rel => exact ⟨i + 1, by have := HI.out; omega, by go_num, hX6.pick [1, 2, 5], bW⟩
                          · have k0 : (y.kd == 0) = false := by rw [hkd]; rfl
                            have k0' : (y.kd != 0) = true := by rw [hkd]; rfl
                            have k1 : (y.kd == 1) = false := by rw [hkd]; rfl
                            clear hkd
                            go_wp2_with (first
                              | (have _t := tok3; refine wpList_store_all [] _ hA6 67 (.tmp 20) (.tmp 118) rfl rfl rfl (pteC E) rfl (pte_size _) rfl (pte_one _) ?_; clear _t tok3; intro x4 hX4 b4 hz; clear hz; have bW := bV.trans b4; have hX4 := toX hX4; have hA7 := hX4.newblk x4.heap.size 67 #[.bool false, .bool false, .bool false, .bool false, .bool false, .bool false, .bool false, .bool false, .int .i64 0] rfl; have bW := below_new bW hX4 (.cells #[.bool false, .bool false, .bool false, .bool false, .bool false, .bool false, .bool false, .bool false, .int .i64 0] 67); have tok6 : True := trivial)
                              | (have _t := tok6; refine wpList_store_all [] _ hA7 67 (.tmp 21) (.tmp 119) rfl rfl rfl #[.bool false, .bool false, .bool false, .bool false, .bool false, .bool false, .bool false, .bool false, .int .i64 0] rfl pteZ_size rfl pteZ_one ?_; clear _t tok6; intro x5 hX5 b5 hz; clear hz; have bW := bW.trans b5; have y0 := hX5.cell [_, _, _, _] _ 0 (v := .int .i64 y.kd) rfl; have y1 := hX5.cell [_, _, _, _] _ 1 (v := .int .i64 y.to) rfl; have y2 := hX5.cell [_, _, _, _] _ 2 (v := .bool y.w) rfl; have y3 := hX5.cell [_, _, _, _] _ 3 (v := .bool y.u) rfl; have y4 := hX5.cell [_, _, _, _] _ 4 (v := .bool y.x) rfl; have y8 := HE8.out _ _ _ [_, _, _] _ hX5; have tok7 : True := trivial)
                              | (have _t := tok7; refine wpList_store_all [] _ hX5 67 (.tmp 21) (.tmp 135) rfl rfl rfl (pteC E) (congrArg Value.agg (HARR.out _ rfl)) (pte_size _) rfl (pte_one _) ?_; clear _t tok7; intro x6 hX6 b6 hz; clear hz; have bW := bW.trans b6; have u0 := hX6.cell [_, _, _, _] _ 0 (v := .int .i64 y.kd) rfl; have u1 := hX6.cell [_, _, _, _] _ 1 (v := .int .i64 y.to) rfl; have u8 := HE8.out _ _ _ [_, _, _] _ hX6)
                              | (refine wpList_load_blk [_, _, _] _ hX6 67 (.tmp 20) rfl rfl rfl _ Try.underlying67 rfl (pte_size _) ?_)
                              | (refine wpList_load_blk [] _ hX6 67 (.tmp 21) rfl rfl rfl _ Try.underlying67 rfl (pte_size _) ?_))
                            go_roundg (gk - 1)
                            case measure => have := HI.out; omega
                            case rel => exact ⟨i + 1, by have := HI.out; omega, by go_num, hX6.pick [1, 2, 5], bW⟩
                      · obtain rfl : i = 8 := by omega
                        clear hi HI hli
                        go_wp2_with fail
                        go_roundg (gf - 1)
                        case measure => have := HF.out; have := HGF.out; omega
                        case rel => exact ⟨f + 1, by have := HF.out; have := HGF.out; omega, by go_num, hV, bV⟩
                · obtain rfl : f = 24 := by omega
                  clear hf HF hlf
                  go_wp2_with fail
                  go_ret
                  exact ⟨rfl, bV⟩

end Go.Proofs.Yteeapkndappnoaa
