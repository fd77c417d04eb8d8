/-
  TlbPlays: calls of one of any size answer as the document says; so do all that is known, and what is of any page.
-/
import Derived.Test.YtcfphdebekbbkaaTlbArgs2
import Derived.Test.YtcfphdebekbbkaaTlbRef2
import Derived.Deep.CutBlock
import Derived.Deep.DeepCutAuto
namespace Go.Proofs.Ytcfphdebekbbkaa
open Go.RowKit
set_option linter.unusedVariables false
set_option linter.unusedSimpArgs false

theorem top_lenP {l : List TOp} {w : World} {a : Option Addr} {len : Nat} (hA : ArgRow w 9 a len (l.flatMap topC)) : l.length = len := by
  have h1 := hA.lc
  rw [flat_length topC 9 (fun _ => rfl)] at h1
  omega
theorem top_addsP {l : List TOp} {w w' : World} {a : Option Addr} {len : Nat} (hA : ArgRow w 9 a len (l.flatMap topC)) (hb : Below w.heap.size w w') {b o : Nat} (ha : a = some ⟨b, o, none⟩) {k : Nat} {x : TOp} (hk : l[k]? = some x) : ∀ j u, (topC x)[j]? = some u → w'.cell? ((⟨b, o + k * 9, none⟩ : Addr).add j) = some u := by
  intro j u hj
  rw [addr_add]
  obtain ⟨h1, h2, h3⟩ := hA
  have hl : l.length = len := by rw [flat_length topC 9 (fun _ => rfl)] at h1; omega
  have := (List.getElem?_eq_some_iff.1 hk).1
  obtain ⟨b', o', e', hlt, hc⟩ := h3 (by omega)
  rw [ha] at e'
  injection e' with e'
  injection e' with e1 e2 e3
  subst e1 e2
  exact ArgRow.elem (f := topC) (size := 9) (fun _ => rfl) hlt hc hb k j _ hk hj
theorem top_sizeP {x : TOp} : (Try.prog.info? 46).map (fun i => i.size) = some (topC x).length := by
  rw [show (topC x).length = 9 from rfl]; kernel_rfl
theorem top_sizeP' {x : TOp} : (Try.prog.info? 46).map (fun i => i.size) = some (topC x).toArray.size := by
  rw [show (topC x).toArray.size = 9 from rfl]; kernel_rfl
theorem top_oneP (x : TOp) : ∀ u ∈ (topC x).toArray.toList, u.oneCell' = true := by simp [topC, Value.oneCell']
def topZP : Array Value := #[.int .i64 0, .int .i64 0, .int .i64 0, .int .i64 0, .bool false, .bool false, .bool false, .bool false, .int .i64 0]
theorem part_addsP {w : World} {B b : Nat} {T : TypeId} {x : TOp} (L1 L2 : List Asr) (hH : Has w B (L1 ++ blk b T (topC x).toArray :: L2)) : ∀ j u, (hitC x.H)[j]? = some u → w.cell? ((⟨b, 1, none⟩ : Addr).add j) = some u := by
  intro j u hj
  rw [addr_add]
  have hj7 : j < 7 := by have := (List.getElem?_eq_some_iff.1 hj).1; rw [hitC_length] at this; exact this
  refine hH.cell L1 L2 (1 + j) ?_
  match j, hj7 with
  | 0, _ => exact hj
  | 1, _ => exact hj
  | 2, _ => exact hj
  | 3, _ => exact hj
  | 4, _ => exact hj
  | 5, _ => exact hj
  | 6, _ => exact hj
theorem getV_pair (L : List HitS) (a p : Int) : ∃ f s, getV L a p = .tuple #[.agg (hitC f).toArray, .bool s] := ⟨_, _, rfl⟩
theorem RTlbNew_yes (n : Nat) (h1 : 1 ≤ n) (h2 : n ≤ 512) (w : World) (B : Nat) (X : List Asr) (hH : Has w B X) :
    Calls Try.prog 18 #[.int .i64 n] w fun e w' => ∃ b, e = .returned (.pointer (some ⟨b, 0, none⟩)) ∧ Has w' B (RTlbA b n [] :: X) ∧ Below B w w' := by
  refine (RTlbNew_calls n w B X hH).mono ?_
  rintro e w' (⟨h, _⟩ | ⟨b, m, hm, _, _, he, hh, hb⟩)
  · exact absurd ⟨by omega, by omega⟩ h
  · obtain rfl : n = m := by omega
    exact ⟨b, he, hh, hb⟩
theorem RTlbNew_no (f : Int) (h : ¬ (1 ≤ f ∧ f ≤ 512)) (w : World) (B : Nat) (X : List Asr) (hH : Has w B X) :
    Calls Try.prog 18 #[.int .i64 f] w fun e w' => e = .returned (.pointer none) ∧ Has w' B X ∧ Below B w w' := by
  refine (RTlbNew_calls f w B X hH).mono ?_
  rintro e w' (⟨_, he⟩ | ⟨b, m, hm, h1, h2, _⟩)
  · exact he
  · exact absurd ⟨by omega, by omega⟩ h

set_option maxHeartbeats 1000000 in
set_option maxRecDepth 100000 in
theorem TlbPlays_walk (most : Int) (aa : Option Addr) (len cap : Nat) (l : List TOp) (asid page : Int) (w : World) (hwm : (Lit.int .i64 most).wf = true) (hA : ArgRow w 9 aa len (l.flatMap topC)) (hl : ∀ x ∈ l, TOk x) (hs : (Lit.int .i64 asid).wf = true) (hp : (Lit.int .i64 page).wf = true) :
    Calls Try.prog 7 #[.int .i64 most, .slice aa len cap, .int .i64 asid, .int .i64 page] w fun e w' => e = .returned (.bool true) ∧ Below w.heap.size w w' := by
  obtain rfl := top_lenP hA
  have hH0 : Has w w.heap.size [] := Has.nil (Nat.le_refl _)
  have HA := hid hA
  have HOK := hid hl
  clear hA hl hs hp hwm
  go_enter Try.func7, Try.ntmps7
  go_wp2_with fail
  refine (head_true w _ [] hH0).mono ?_
  rintro e w1 ⟨_, rfl, hH1, hB1⟩
  by_cases hin : 1 ≤ most ∧ most ≤ 512
  · obtain ⟨n, rfl⟩ := Int.eq_ofNat_of_zero_le (show 0 ≤ most by omega)
    have n1 : 1 ≤ n := by omega
    have n2 : n ≤ 512 := by omega
    clear hin
    go_wp2_with fail
    refine (TlbNew_yes n n1 n2 w1 _ _ hH1).mono ?_
    rintro e w2 ⟨t, rfl, hH2, hB2'⟩
    have hB2 := hB1.trans hB2'
    go_wp2_with fail
    refine (RTlbNew_yes n n1 n2 w2 _ _ hH2).mono ?_
    rintro e w3 ⟨r, rfl, hH3, hB3'⟩
    have hB3 := hB2.trans hB3'
    clear hH1 hB1 hH0 hH2 hB2 hB2' hB3' n1 n2
    by_cases hbig : 300 < l.length
    · have e1 : decide (300 < l.length) = true := by rw [decide_eq_true_eq]; omega
      have e2 : decide (300 < (l.length : Int)) = true := by rw [decide_eq_true_eq]; omega
      go_wp2_with fail
      go_ret
      exact ⟨rfl, hB3⟩
    have e1 : decide (300 < l.length) = false := by rw [decide_eq_false_iff_not]; omega
    have e2 : decide (300 < (l.length : Int)) = false := by rw [decide_eq_false_iff_not]; omega
    go_wp2_with fail
    go_loopg [12] l.length (fun g i wr => ∃ (k : Nat) (L : List HitS), g + k = l.length ∧ i = .int .i64 k ∧ Has wr w.heap.size [RTlbA r n L, TlbA t n L] ∧ Below w.heap.size w wr)
    case atStart => exact ⟨0, [], by omega, rfl, hH3, hB3⟩
    case round =>
      obtain ⟨k, L, hk, rfl, hHr, hBr⟩ := hrel
      clear hH3 hB3
      by_cases hlt : k < l.length
      · obtain ⟨x, hx⟩ : ∃ x, l[k]? = some x := ⟨_, List.getElem?_eq_getElem hlt⟩
        obtain ⟨b, o, rfl, _, _⟩ := HA.out.mem (by omega)
        have P1 := hid (top_addsP HA.out hBr rfl hx)
        have HX := hid (HOK.out x (List.mem_of_getElem? hx))
        obtain ⟨ob, hob⟩ : ∃ ob, wr.heap.size = ob := ⟨_, rfl⟩
        have tok1 : True := trivial
        have tok2 : True := trivial
        have hk300 : k < 300 := by omega
        have HK := hid hk
        clear hx hk
        go_upto_block 2 with (first
          | (have _t := tok1; refine wpList_load_at 46 (.tmp 53) rfl rfl ⟨b, o + k * 9, none⟩ rfl _ (topC x) P1.out Try.underlying46 rfl top_sizeP ?_; clear _t tok1)
          | (have _t := tok2; refine wpList_store_all [] _ (hHr.newblk ob 46 topZP hob) 46 (.tmp 13) (.tmp 54) rfl rfl rfl _ rfl top_sizeP' rfl (top_oneP x) ?_; clear _t tok2; intro w4 hH4 hB4' hz4; clear hz4; have hB4 := hBr.trans ((below_new (Below.refl _ _) hHr _).trans hB4'); clear hB4' hHr hBr; have k0 := hH4.cell [] _ 0 (v := .int .i64 x.What) rfl; have k1 := hH4.cell [] _ 1 (v := .int .i64 x.H.a) rfl; have k2 := hH4.cell [] _ 2 (v := .int .i64 x.H.p) rfl; have k8 := hH4.cell [] _ 8 (v := .int .i64 x.N) rfl))
        clear hob
        go_cut [14] (fun s14 wx => s14 = .bool true ∧ ∃ L', Has wx w.heap.size [RTlbA r n L', TlbA t n L'] ∧ Below w.heap.size w wx)
        case first =>
          by_cases h3 : x.What = 3
          · have e3 : (x.What == 3) = true := by rw [beq_iff_eq]; exact h3
            clear h3
            go_wp2_with fail
            refine (Drop_calls t n L x.H.a x.H.p w4 _ _ (hH4.front [_, _] _)).mono ?_
            rintro e w5 ⟨rfl, hH5, hB5'⟩
            have hB5 := hB4.trans hB5'
            have k1 := hH5.cell [_] _ 1 (v := .int .i64 x.H.a) rfl
            have k2 := hH5.cell [_] _ 2 (v := .int .i64 x.H.p) rfl
            clear hB5' hH4 hB4
            have cr := RDrop_calls r n L x.H.a x.H.p w5 _ _ (hH5.front [_, _] _)
            obtain ⟨an, han⟩ : ∃ an, L.any (keyB x.H.a x.H.p) = an := ⟨_, rfl⟩
            rw [han] at cr ⊢
            have CR := hid cr
            clear cr han
            go_wp2_with fail
            refine CR.out.mono ?_
            rintro e w6 ⟨rfl, hH6, hB6'⟩
            have hB6 := hB5.trans hB6'
            cases an
            all_goals (
              go_wp2_with fail
              go_meet
              exact ⟨rfl, _, (hH6.front [_, _] _).drop, hB6⟩)
          · have e3 : (x.What == 3) = false := by rw [beq_eq_false_iff_ne]; exact h3
            by_cases h4 : x.What = 4
            · have e4 : (x.What == 4) = true := by rw [beq_iff_eq]; exact h4
              clear h3 h4
              go_wp2_with fail
              refine (Flush_calls t n L x.H.a w4 _ _ (hH4.front [_, _] _)).mono ?_
              rintro e w5 ⟨rfl, hH5, hB5'⟩
              have hB5 := hB4.trans hB5'
              have k1 := hH5.cell [_] _ 1 (v := .int .i64 x.H.a) rfl
              clear hB5' hH4 hB4
              have CR := hid (RFlush_calls r n L x.H.a w5 _ _ (hH5.front [_, _] _))
              go_wp2_with fail
              refine CR.out.mono ?_
              rintro e w6 ⟨rfl, hH6, hB6'⟩
              have hB6 := hB5.trans hB6'
              go_wp2_with fail
              go_meet
              exact ⟨rfl, _, (hH6.front [_, _] _).drop, hB6⟩
            · have e4 : (x.What == 4) = false := by rw [beq_eq_false_iff_ne]; exact h4
              by_cases h5 : x.What = 5
              · have e5 : (x.What == 5) = true := by rw [beq_iff_eq]; exact h5
                clear h3 h4 h5
                go_wp2_with fail
                refine (All_calls t n L w4 _ _ (hH4.front [_, _] _)).mono ?_
                rintro e w5 ⟨rfl, hH5, hB5'⟩
                have hB5 := hB4.trans hB5'
                clear hB5' hH4 hB4
                have CR := hid (RAll_calls r n L w5 _ _ (hH5.front [_, _] _))
                go_wp2_with fail
                refine CR.out.mono ?_
                rintro e w6 ⟨rfl, hH6, hB6'⟩
                have hB6 := hB5.trans hB6'
                go_wp2_with fail
                go_meet
                exact ⟨rfl, _, (hH6.front [_, _] _).drop, hB6⟩
              · have e5 : (x.What == 5) = false := by rw [beq_eq_false_iff_ne]; exact h5
                by_cases h6 : x.What = 6
                · have e6 : (x.What == 6) = true := by rw [beq_iff_eq]; exact h6
                  clear h3 h4 h5 h6
                  go_wp2_with fail
                  refine (Pick_calls t n L x.N HX.out.n w4 _ _ (hH4.front [_, _] _)).mono ?_
                  rintro e w5 ⟨rfl, hH5, hB5'⟩
                  have hB5 := hB4.trans hB5'
                  have k8 := hH5.cell [_] _ 8 (v := .int .i64 x.N) rfl
                  clear hB5' hH4 hB4
                  have cr := RPick_calls r n L x.N HX.out.n w5 _ _ (hH5.front [_, _] _)
                  obtain ⟨an, han⟩ : ∃ an, decide (0 < L.length) = an := ⟨_, rfl⟩
                  rw [han] at cr ⊢
                  have CR := hid cr
                  clear cr han
                  go_wp2_with fail
                  refine CR.out.mono ?_
                  rintro e w6 ⟨rfl, hH6, hB6'⟩
                  have hB6 := hB5.trans hB6'
                  cases an
                  all_goals (
                    go_wp2_with fail
                    go_meet
                    exact ⟨rfl, _, (hH6.front [_, _] _).drop, hB6⟩)
                · have e6 : (x.What == 6) = false := by rw [beq_eq_false_iff_ne]; exact h6
                  clear h3 h4 h5 h6
                  have P2 := hid (part_addsP [] _ hH4)
                  go_wp2_with (refine wpList_load_at 30 (.tmp 58) rfl rfl ⟨ob, 1, none⟩ rfl _ (hitC x.H) P2.out Try.underlying30 rfl hit_size ?_)
                  refine (Put_calls t n L x.H w4 _ _ (hH4.front [_, _] _)).mono ?_
                  rintro e w5 ⟨rfl, hH5, hB5'⟩
                  have hB5 := hB4.trans hB5'
                  clear hB5' hH4 hB4
                  have P3 := hid (part_addsP [_] _ hH5)
                  have CR := hid (RPut_calls r n L x.H w5 _ _ (hH5.front [_, _] _))
                  go_wp2_with (refine wpList_load_at 30 (.tmp 62) rfl rfl ⟨ob, 1, none⟩ rfl _ (hitC x.H) P3.out Try.underlying30 rfl hit_size ?_)
                  refine CR.out.mono ?_
                  rintro e w6 ⟨rfl, hH6, hB6'⟩
                  have hB6 := hB5.trans hB6'
                  go_wp2_with fail
                  go_meet
                  exact ⟨rfl, _, (hH6.front [_, _] _).drop, hB6⟩
        case rest =>
          obtain ⟨rfl, L', hH6, hB6⟩ := hcut
          clear hH4 hB4
          have cg := Get_calls t n L' asid page wc _ _ (hH6.front [_] _)
          obtain ⟨f, sv, hgv⟩ := getV_pair L' asid page
          rw [hgv] at cg
          have CG := hid cg
          have HGV := hid hgv
          clear cg hgv
          go_wp2_with fail
          refine CG.out.mono ?_
          rintro e w7 ⟨rfl, hH7, hB7'⟩
          have hB7 := hB6.trans hB7'
          clear hH6 hB6 hB7' CG
          have tokA : True := trivial
          go_wp2_with (have _t := tokA; refine wpList_store_all [] _ (hH7.newblk w7.heap.size 30 hitZ rfl) 30 (.tmp 17) (.tmp 120) rfl rfl rfl _ rfl hit_size' rfl (hitC_one _) ?_; clear _t tokA; intro w8 hH8 kk8 hz4; clear hz4; have hB8 := hB7.trans ((below_new (Below.refl _ _) hH7 _).trans kk8); clear hH7 hB7 kk8; generalize w7.heap.size = px at *)
          have cg := RGet_calls r n L' asid page w8 _ _ (hH8.front [_, _] _)
          rw [HGV.out] at cg
          have CG := hid cg
          clear cg
          refine CG.out.mono ?_
          rintro e w9 ⟨rfl, hH9, hB9'⟩
          have hB9 := hB8.trans hB9'
          clear hH8 hB8 hB9' CG
          have tokA : True := trivial
          have hne : ∀ W, Sem.run Try.prog (binOp .neq 30 (.agg (hitC f).toArray) (.agg (hitC f).toArray)) W = .ok (.bool false) W := fun W => by
            have := hit_neq f f W
            rwa [show (!decide (f = f)) = false from by simp] at this
          have hsv : (sv != sv) = false := by cases sv <;> rfl
          go_wp2_with (first
            | (have _t := tokA; refine wpList_store_all [] _ (hH9.newblk w9.heap.size 30 hitZ rfl) 30 (.tmp 19) (.tmp 127) rfl rfl rfl _ rfl hit_size' rfl (hitC_one _) ?_; clear _t tokA; intro w10 hH10 kk10 hz4; clear hz4; have hB10 := hB9.trans ((below_new (Below.refl _ _) hH9 _).trans kk10); clear hH9 hB9 kk10; generalize w9.heap.size = py at *)
            | (refine wpList_load_blk [_, _] _ hH10 30 (.tmp 17) rfl rfl rfl _ Try.underlying30 rfl hit_size' ?_)
            | (refine wpList_load_blk [] _ hH10 30 (.tmp 19) rfl rfl rfl _ Try.underlying30 rfl hit_size' ?_))
          refine (List_calls t n L' w10 _ _ (hH10.front [_, _, _] _)).mono ?_
          rintro e w11 ⟨v1, rfl, hH11, hB11'⟩
          have hB11 := hB10.trans hB11'
          clear hH10 hB10 hB11'
          obtain ⟨a1, c1, rfl, _, _, _⟩ := hH11.row_form [] _
          go_wp2_with fail
          refine (RList_calls r n L' w11 _ _ (hH11.front [_, _, _] _)).mono ?_
          rintro e w12 ⟨v2, rfl, hH12, hB12'⟩
          have hB12 := hB11.trans hB12'
          clear hH11 hB11 hB12'
          obtain ⟨a2, c2, rfl, _, _, _⟩ := hH12.row_form [] _
          have cs := Same_calls a1 a2 c1 c2 L' L' w12 (srch_row [_, _] _ hH12 rfl) (srch_row [] _ hH12 rfl)
          rw [show decide (L' = L') = true from by simp] at cs
          have CS := hid cs
          clear cs
          go_wp2_with fail
          refine (keeps CS.out hH12).mono ?_
          rintro e w13 ⟨rfl, hH13, hB13'⟩
          have hB13 := hB12.trans hB13'
          clear hH12 hB12 hB13' CS
          go_wp2_with fail
          refine (Many_calls t n L' w13 _ _ (hH13.front [_, _, _] _)).mono ?_
          rintro e w14 ⟨rfl, rfl⟩
          go_wp2_with fail
          refine (RMany_calls r n L' w13 _ _ (hH13.front [_] _)).mono ?_
          rintro e w14 ⟨rfl, rfl⟩
          go_wp2_with fail
          go_roundg (gk - 1)
          case measure => have := HK.out; omega
          case rel => exact ⟨k + 1, L', by have := HK.out; omega, by go_num, (((hH13.drop.front [_] _).drop.front [_, _] _).drop.front [_, _] _).drop, hB13⟩
      · obtain rfl : k = l.length := by omega
        go_wp2_with fail
        go_ret
        exact ⟨rfl, hBr⟩
  · go_wp2_with fail
    refine (TlbNew_no most hin w1 _ _ hH1).mono ?_
    rintro e w2 ⟨rfl, hH2, hB2'⟩
    have hB2 := hB1.trans hB2'
    go_wp2_with fail
    refine (RTlbNew_no most hin w2 _ _ hH2).mono ?_
    rintro e w3 ⟨rfl, hH3, hB3'⟩
    have hB3 := hB2.trans hB3'
    go_wp2_with fail
    go_ret
    exact ⟨rfl, hB3⟩

end Go.Proofs.Ytcfphdebekbbkaa
