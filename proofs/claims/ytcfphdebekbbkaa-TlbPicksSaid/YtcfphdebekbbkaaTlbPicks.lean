/-
  TlbPicks: each Pick takes just one; as many as there are take all; others stay in their order.
-/
import Derived.Test.YtcfphdebekbbkaaTlbArgs2
import Derived.Deep.CutBlock
import Derived.StillTailTactics
import Derived.IntWalk
import Derived.Deep.DeepCutAuto
namespace Go.Proofs.Ytcfphdebekbbkaa
open Go.RowKit Go.Deep Go.ChangeShapes Go.WideShapes
set_option linter.unusedVariables false
set_option linter.unusedSimpArgs false

theorem open_ints {H : Type} {enc : TypeId × Value → H} {w : World} {base : Nat} {spare : Nat → Bool} {held : Bool} {a : Option Addr} {len cap : Nat} {d : DataW H} {p : List MemPlace}
    (h : DataW.Trod enc Try.prog w base spare held 36 (.slice a len cap) d p) : ∃ l : List Int, l.length = len ∧ ArgRow w 1 a len (l.flatMap fun x => [.int .i64 x]) ∧ ∀ x ∈ l, (Lit.int .i64 x).wf = true :=
  open_row (fun x => [.int .i64 x]) (fun x => (Lit.int .i64 x).wf = true) 1 (fun _ => rfl) (by decide) Try.underlying36 (by kernel_rfl) (fun fuel cs x hh => open_int_elem Try.underlying3 fuel cs x hh) h

/-- The rest of hits, from the k-th on. -/
theorem tail_hits (ao : Option Addr) (cp k : Nat) (L : List HitS) (hk : k ≤ L.length) (hcap : L.length ≤ cp) : ∃ ao' c', (∀ W, Sem.run Try.prog (Instr.slice 22 (.slice ao L.length cp) (some (.int .i64 (k : Int))) none none) W = .ok (.slice ao' (L.drop k).length c') W) ∧ ∀ W, SrcH W ao L → SrcH W ao' (L.drop k) := by
  have hu := Try.underlying22
  have hz : ∀ W, Sem.run Try.prog (sizeOf 30) W = .ok 7 W := fun W => by kernel_rfl
  have hel : Try.prog.elem 22 = 30 := by kernel_rfl
  refine ⟨if cp = k then ao else ao.map (·.add (k * 7)), cp - k, fun W => ?_, fun W hs => ?_⟩
  · rw [run_slice_l (P := Try.prog) W 22 ao L.length cp (by rw [hel]; exact hu) .i64 k (by omega) (by omega), hel, hz]
    simp [Result.andThen, sliced]
  · refine ⟨by have := hs.small; simp; omega, fun hpos => ?_⟩
    simp at hpos
    obtain ⟨b, o, rfl, hlt, hc⟩ := hs.mem (by omega)
    rw [if_neg (by omega)]
    refine ⟨b, o + k * 7, by simp [Addr.add], hlt, fun j u hj => ?_⟩
    rw [← hitsC_drop, List.getElem?_drop] at hj
    have := hc _ u hj
    rwa [← Nat.add_assoc] at this
theorem hit_eql' (g h : HitS) {r : Bool} (hr : decide (g = h) = r) : ∀ W, Sem.run Try.prog (binOp .eql 30 (.agg #[.int .i64 g.a, .int .i64 g.p, .int .i64 g.f, .bool g.w, .bool g.u, .bool g.x, .bool g.d]) (.agg #[.int .i64 h.a, .int .i64 h.p, .int .i64 h.f, .bool h.w, .bool h.u, .bool h.x, .bool h.d])) W = .ok (.bool r) W := fun W => by
  rw [← hr]
  exact hit_eql g h W
theorem SrcH.cellsP {W : World} {b k : Nat} {L : List HitS} {h : HitS} (hs : SrcH W (some ⟨b, 0, none⟩) L) (hk : L[k]? = some h) : W.cell? ⟨b, k * 7, none⟩ = some (.int .i64 h.a) ∧ W.cell? ⟨b, k * 7 + 1, none⟩ = some (.int .i64 h.p) ∧ W.cell? ⟨b, k * 7 + 2, none⟩ = some (.int .i64 h.f) ∧ W.cell? ⟨b, k * 7 + 3, none⟩ = some (.bool h.w) ∧ W.cell? ⟨b, k * 7 + 4, none⟩ = some (.bool h.u) ∧ W.cell? ⟨b, k * 7 + 5, none⟩ = some (.bool h.x) ∧ W.cell? ⟨b, k * 7 + 6, none⟩ = some (.bool h.d) := by
  have h0 := hs.at rfl hk 0 (u := .int .i64 h.a) rfl
  have h1 := hs.at rfl hk 1 (u := .int .i64 h.p) rfl
  have h2 := hs.at rfl hk 2 (u := .int .i64 h.f) rfl
  have h3 := hs.at rfl hk 3 (u := .bool h.w) rfl
  have h4 := hs.at rfl hk 4 (u := .bool h.u) rfl
  have h5 := hs.at rfl hk 5 (u := .bool h.x) rfl
  have h6 := hs.at rfl hk 6 (u := .bool h.d) rfl
  simp only [Nat.zero_add, Nat.add_zero] at h0 h1 h2 h3 h4 h5 h6
  exact ⟨h0, h1, h2, h3, h4, h5, h6⟩
theorem drop_erase {L : List HitS} {j : Nat} (hj : j < L.length) : (L.eraseIdx j).drop j = L.drop (j + 1) := by
  rw [List.eraseIdx_eq_take_drop_succ, List.drop_append, List.drop_of_length_le (by simp; omega), List.length_take, Nat.min_eq_left (by omega), Nat.sub_self]
  simp
theorem uniq_next {L : List HitS} {j : Nat} (hu : uniq L) {x y : HitS} (hx : (L.eraseIdx j)[j]? = some x) (hy : L[j]? = some y) : decide (x = y) = false := by
  rw [List.getElem?_eraseIdx_of_ge (by omega)] at hx
  rw [decide_eq_false_iff_not]
  intro e
  subst e
  obtain ⟨h1, e1⟩ := List.getElem?_eq_some_iff.1 hx
  obtain ⟨h2, e2⟩ := List.getElem?_eq_some_iff.1 hy
  have := List.pairwise_iff_getElem.1 hu j (j + 1) h2 h1 (by omega)
  rw [e1, e2] at this
  exact this ⟨rfl, rfl⟩

set_option maxHeartbeats 1000000 in
set_option maxRecDepth 100000 in
theorem TlbPicks_walk (aa : Option Addr) (len cap : Nat) (l : List HitS) (pa : Option Addr) (plen pcap : Nat) (ps : List Int) (w : World) (hA : ArgRow w 7 aa len (hitsC l)) (hl : ∀ x ∈ l, HitOk x) (hP : ArgRow w 1 pa plen (ps.flatMap fun x => [.int .i64 x])) (hps : ∀ x ∈ ps, (Lit.int .i64 x).wf = true) :
    Calls Try.prog 4 #[.slice aa len cap, .slice pa plen pcap] w fun e w' => e = .returned (.bool true) ∧ Below w.heap.size w w' := by
  obtain rfl := hits_len hA
  have hP := hP.ints
  obtain rfl : ps.length = plen := by have := hP.lc; simpa using this
  have hH0 : Has w w.heap.size [] := Has.nil (Nat.le_refl _)
  have HS := hid hA.srch
  have HPI := hid hP
  have HPS := hid hps
  clear hA hl hP hps
  go_enter Try.func4, Try.ntmps4
  go_wp2_with fail
  refine (head_true w _ [] hH0).mono ?_
  rintro e w1 ⟨_, rfl, hH1, hB1⟩
  go_wp2_with fail
  refine (TlbNew_yes 64 (by decide) (by decide) w1 _ _ hH1).mono ?_
  rintro e w2 ⟨t, rfl, hH2, hB2⟩
  have hB2 := hB1.trans hB2
  clear hH1 hB1 hH0
  by_cases hbig : 300 < l.length
  · have e1 : decide (300 < l.length) = true := by rw [decide_eq_true_eq]; omega
    have e2 : decide (300 < (l.length : Int)) = true := by rw [decide_eq_true_eq]; omega
    go_wp2_with fail
    go_ret
    exact ⟨rfl, hB2⟩
  · have e1 : decide (300 < l.length) = false := by rw [decide_eq_false_iff_not]; omega
    have e2 : decide (300 < (l.length : Int)) = false := by rw [decide_eq_false_iff_not]; omega
    by_cases hbig2 : 300 < ps.length
    · have e3 : decide (300 < ps.length) = true := by rw [decide_eq_true_eq]; omega
      have e4 : decide (300 < (ps.length : Int)) = true := by rw [decide_eq_true_eq]; omega
      go_wp2_with fail
      go_ret
      exact ⟨rfl, hB2⟩
    have e3 : decide (300 < ps.length) = false := by rw [decide_eq_false_iff_not]; omega
    have e4 : decide (300 < (ps.length : Int)) = false := by rw [decide_eq_false_iff_not]; omega
    go_wp2_with fail
    go_loopw [7] (fun i wr => ∃ (k : Nat) (L : List HitS), k ≤ l.length ∧ i = .int .i64 k ∧ Has wr w.heap.size [TlbA t 64 L] ∧ Below w.heap.size w wr) (fun i _ => l.length - (intOf i).toNat)
    case atStart => exact ⟨0, [], by omega, rfl, hH2, hB2⟩
    case round =>
      obtain ⟨k, L, hk, rfl, hHr, hBr⟩ := hrel
      clear hH2 hB2
      by_cases hlt : k < l.length
      · obtain ⟨h, hh⟩ : ∃ h, l[k]? = some h := ⟨_, List.getElem?_eq_getElem hlt⟩
        obtain ⟨b, o, rfl, _, _⟩ := HS.out.mem (by omega)
        have P := hid ((HS.out.later hBr).adds rfl hh)
        clear hh
        go_wp2_with (refine wpList_load_at 30 (.tmp 41) rfl rfl ⟨b, o + k * 7, none⟩ rfl _ (hitC h) P.out Try.underlying30 rfl hit_size ?_)
        refine (Put_calls t 64 L h wr _ _ hHr).mono ?_
        rintro e w3 ⟨rfl, hH3, hB3⟩
        go_wp2_with fail
        go_roundw
        case rel => exact ⟨k + 1, _, by omega, by go_num, hH3, hBr.trans hB3⟩
        case measure => simp [intOf] <;> omega
      · obtain rfl : k = l.length := by omega
        clear hk hlt e1 e2
        obtain ⟨wo, rfl⟩ : ∃ wo : World, wo = wr := ⟨_, rfl⟩
        obtain ⟨Lo, rfl⟩ : ∃ Lo : List HitS, Lo = L := ⟨_, rfl⟩
        go_wp2_with fail
        go_loopg [8] ps.length (fun g i wr => ∃ (k : Nat) (L : List HitS), g + k = ps.length ∧ i = .int .i64 k ∧ Has wr w.heap.size [TlbA t 64 L] ∧ Below w.heap.size w wr)
        case atStart => exact ⟨0, Lo, by omega, rfl, hHr, hBr⟩
        case round =>
          obtain ⟨gr, rfl⟩ : ∃ gr, gr = gk := ⟨gk, rfl⟩
          obtain ⟨k, L, hk, rfl, hHs, hBs⟩ := hrel
          clear hHr hBr
          have HK := hid hk
          by_cases hlt : k < ps.length
          · obtain ⟨x, hx⟩ : ∃ x, ps[k]? = some x := ⟨_, List.getElem?_eq_getElem hlt⟩
            obtain ⟨pb, po, rfl, hpb, hpc⟩ := HPI.out.mem (by omega)
            have hxw := HPS.out x (List.mem_of_getElem? hx)
            have HXW := hid hxw
            have hI := (TlbA.open hHs).choose_spec.choose_spec.1
            have hL64 : L.length ≤ 64 := hI.2.2.1
            have HU := hid hI.2.2.2
            have hcx := fun W (hW : Below w.heap.size w W) => ArgRow.later hpb hpc hW k (u := .int .i64 x) (by simp [hx])
            have HCX := hid hcx
            have hk300 : k < 300 := by omega
            clear hx hxw hpc hpb hI hcx hk
            obtain ⟨wq, rfl⟩ : ∃ wq : World, wq = wr := ⟨_, rfl⟩
            go_wp2_with fail
            refine (List_calls t 64 L wq _ _ hHs).mono ?_
            rintro e w4 ⟨v, rfl, hH4, hB4'⟩
            have hB4 := hBs.trans hB4'
            clear hB4' hHs hBs
            obtain ⟨ao, cp, rfl, hcpL, _, hao⟩ := hH4.row_form [] _
            have cx := HCX.out w4 hB4
            go_wp2_with fail
            refine (Pick_calls t 64 L x HXW.out w4 _ _ (hH4.front [_] _)).mono ?_
            rintro e w5 ⟨rfl, hH5, hB5'⟩
            have hB5 := hB4.trans hB5'
            clear hB5' hH4 hB4 cx
            obtain ⟨M, hM⟩ : ∃ M, pickL L x = M := ⟨_, rfl⟩
            rw [hM] at hH5
            by_cases h0 : L.length = 0
            · obtain rfl : M = L := by rw [← hM]; unfold pickL; rw [if_pos h0]
              obtain rfl : M = [] := List.eq_nil_of_length_eq_zero h0
              clear hM h0 hao hL64
              go_wp2_with fail
              refine (List_calls t 64 [] w5 _ _ hH5).mono ?_
              rintro e w6 ⟨v6, rfl, hH6, hB6'⟩
              have hB6 := hB5.trans hB6'
              clear hB6' hH5 hB5
              obtain ⟨an, cn, rfl, hcnM, _, han⟩ := hH6.row_form [] _
              go_wp2_with fail
              go_loopg [12] 1 (fun g i wr => i = .int .i64 0 ∧ w6 = wr)
              case atStart => exact ⟨rfl, rfl⟩
              case round =>
                obtain ⟨rfl, rfl⟩ := hrel
                go_wp2_with fail
                go_quiet (fail)
                have hH7 := hH6.drewN nq
                have hB7 := below_drewN hB6 nq
                generalize w6.drewN nq = w7 at *
                clear hH6 hB6
                go_wp2_with fail
                go_quiet (fail)
                have hH8 := hH7.drewN nq
                have hB8 := below_drewN hB7 nq
                go_wp2_with fail
                go_roundg (gr - 1)
                case measure => have := HK.out; omega
                case rel => exact ⟨k + 1, [], by have := HK.out; omega, by go_num, (hH8.drop.front [_] _).drop, hB8⟩
            · obtain ⟨j, hj, hMe⟩ : ∃ j, j < L.length ∧ M = L.eraseIdx j := ⟨pickK L.length x, pickK_lt (by omega) x, by rw [← hM]; unfold pickL; rw [if_neg h0]⟩
              obtain ⟨m, hm⟩ : ∃ m, L.length = m + 1 := ⟨L.length - 1, by omega⟩
              have hMl : M.length = m := by rw [hMe, List.length_eraseIdx_of_lt hj]; omega
              have e5 : decide (0 < L.length) = true := by rw [decide_eq_true_eq]; omega
              rw [e5]
              obtain ⟨g, rfl⟩ := hao (by omega)
              have HM := hid hMe
              have HLM := hid hm
              have HML := hid hMl
              have hdr := drop_erase hj
              rw [← hMe] at hdr
              have HDR := hid hdr
              have hjm : j < m + 1 := by omega
              rw [hm] at hH5 hcpL e5 hL64 ⊢
              have cl := List_calls t 64 M w5 _ _ hH5
              rw [hMl] at cl
              have CL := hid cl
              clear hM hMe hm hMl h0 hdr cl hao hj
              have e6 : decide (0 < m + 1) = true := by rw [decide_eq_true_eq]; omega
              have e7 : decide (0 < (m : Int) + 1) = true := by rw [decide_eq_true_eq]; omega
              have e8 : (if 0 < m then (m : Int) else 0) = (m : Int) := by
                by_cases h : 0 < m
                · rw [if_pos h]
                · rw [if_neg h]; omega
              go_wp2_with fail
              refine CL.out.mono ?_
              rintro e w6 ⟨v6, rfl, hH6, hB6'⟩
              have hB6 := hB5.trans hB6'
              clear hB6' hH5 hB5 CL
              obtain ⟨an, cn, rfl, hcnM, _, han⟩ := hH6.row_form [] _
              go_wp2_with fail
              go_loopg [12] m (fun gg i wr => ∃ c : Nat, gg + c = m ∧ i = .int .i64 c ∧ c ≤ j ∧ Has wr w.heap.size [row 30 7 (.slice an m cn) m (hitsC M), TlbA t 64 M, row 30 7 (.slice (some ⟨g, 0, none⟩) (m + 1) cp) (m + 1) (hitsC L)] ∧ Below w.heap.size w wr)
              case atStart => exact ⟨0, by omega, rfl, by omega, hH6, hB6⟩
              case round =>
                obtain ⟨gc, rfl⟩ : ∃ gc, gc = gk := ⟨gk, rfl⟩
                obtain ⟨c, hc, rfl, hcj, hH7, hB7⟩ := hrel
                have HKC := hid hc
                clear hH6 hB6 hc
                by_cases hlj : c < j
                · have hcm : c < m := by omega
                  obtain ⟨gn, rfl⟩ := han (by omega)
                  obtain ⟨x1, hx1⟩ : ∃ x1, L[c]? = some x1 := ⟨_, List.getElem?_eq_getElem (by have := HLM.out; omega)⟩
                  have hx2 : M[c]? = some x1 := by rw [HM.out, List.getElem?_eraseIdx_of_lt hlj]; exact hx1
                  obtain ⟨c0, c1, c2, c3, c4, c5, c6⟩ := (srch_row [] _ hH7 HML.out.symm).cellsP hx2
                  obtain ⟨d0, d1, d2, d3, d4, d5, d6⟩ := (srch_row [_, _] _ hH7 HLM.out.symm).cellsP hx1
                  have heq := hit_eql' x1 x1 (r := true) (by simp)
                  clear hx1 hx2
                  go_wp2_with fail
                  go_quiet (fail)
                  have hH8 := hH7.drewN nq
                  have hB8 := below_drewN hB7 nq
                  go_wp2_with fail
                  go_roundg (gc - 1)
                  case measure => have := HKC.out; omega
                  case rel => exact ⟨c + 1, by have := HKC.out; omega, by go_num, by omega, hH8, hB8⟩
                · obtain rfl : c = j := by omega
                  by_cases hcm : c < m
                  · obtain ⟨gn, hgn⟩ := han (by omega)
                    subst hgn
                    obtain ⟨x1, hx1⟩ : ∃ x1, L[c]? = some x1 := ⟨_, List.getElem?_eq_getElem (by have := HLM.out; omega)⟩
                    obtain ⟨x2, hx2⟩ : ∃ x2, M[c]? = some x2 := ⟨_, List.getElem?_eq_getElem (by have := HML.out; omega)⟩
                    obtain ⟨c0, c1, c2, c3, c4, c5, c6⟩ := (srch_row [] _ hH7 HML.out.symm).cellsP hx2
                    obtain ⟨d0, d1, d2, d3, d4, d5, d6⟩ := (srch_row [_, _] _ hH7 HLM.out.symm).cellsP hx1
                    have heq := hit_eql' x2 x1 (r := false) (by rw [HM.out] at hx2; exact uniq_next HU.out hx2 hx1)
                    clear hx1 hx2
                    go_wp2_with fail
                    go_quiet (fail)
                    have hH8 := hH7.drewN nq
                    have hB8 := below_drewN hB7 nq
                    generalize wr.drewN nq = w8 at *
                    clear c0 c1 c2 c3 c4 c5 c6 d0 d1 d2 d3 d4 d5 d6 heq hH7 hB7
                    go_wp2_with fail
                    have hs1 := srch_row [] _ hH8 HML.out.symm
                    have hs2 := srch_row [_, _] _ hH8 HLM.out.symm
                    obtain ⟨a1, c1, r1, z1⟩ := tail_hits (some ⟨gn, 0, none⟩) cn c M (by have := HML.out; omega) (by have := HML.out; omega)
                    obtain ⟨a2, c2, r2, z2⟩ := tail_hits (some ⟨g, 0, none⟩) cp (c + 1) L (by have := HLM.out; omega) (by have := HLM.out; omega)
                    rw [HDR.out] at r1 z1
                    rw [HML.out] at r1
                    rw [HLM.out] at r2
                    have r2' : ∀ W, Sem.run Try.prog (Instr.slice 22 (.slice (some ⟨g, 0, none⟩) (m + 1) cp) (some (.int .i64 ((c : Int) + 1))) none none) W = .ok (.slice a2 (L.drop (c + 1)).length c2) W := r2
                    obtain ⟨D, hD⟩ : ∃ D, L.drop (c + 1) = D := ⟨_, rfl⟩
                    rw [hD] at r1 z1 r2' z2
                    have cs := Same_calls a1 a2 c1 c2 D D _ (z1 _ (hs1.later (Below.refl _ _).drew)) (z2 _ (hs2.later (Below.refl _ _).drew))
                    rw [show decide (D = D) = true from by simp] at cs
                    have CS := hid cs
                    have hHd := hH8.drew
                    have hBd : Below w.heap.size w _ := hB8.drew
                    clear cs r2 z1 z2 hs1 hs2 hD
                    go_wp2_with fail
                    have hwr : IntKind.i64.wrap ((c : Int) + 1) = (c : Int) + 1 := IntWalk.i64_in _ (by omega)
                    go_still_tail 9, (by kernel_rfl)
                    change wpList _ _ _ _ _ (w8.drew)
                    clear hwr
                    go_wp2_with (go_at_call 17; refine (keeps CS.out hHd).mono ?_; rintro e w9 ⟨rfl, hH9, hB9⟩)
                    go_roundg (gr - 1)
                    case measure => have := HK.out; omega
                    case rel => exact ⟨k + 1, M, by have := HK.out; omega, by go_num, (hH9.drop.front [_] _).drop, hBd.trans hB9⟩
                  · have e9 : decide (c < m) = false := by rw [decide_eq_false_iff_not]; omega
                    have e10 : decide ((c : Int) < (m : Int)) = false := by rw [decide_eq_false_iff_not]; omega
                    go_wp2_with fail
                    go_quiet (fail)
                    have hH8 := hH7.drewN nq
                    have hB8 := below_drewN hB7 nq
                    generalize wr.drewN nq = w8 at *
                    clear hH7 hB7
                    go_wp2_with fail
                    have hs1 := srch_row [] _ hH8 HML.out.symm
                    have hs2 := srch_row [_, _] _ hH8 HLM.out.symm
                    obtain ⟨a1, c1, r1, z1⟩ := tail_hits an cn c M (by have := HML.out; omega) (by have := HML.out; omega)
                    obtain ⟨a2, c2, r2, z2⟩ := tail_hits (some ⟨g, 0, none⟩) cp (c + 1) L (by have := HLM.out; omega) (by have := HLM.out; omega)
                    rw [HDR.out] at r1 z1
                    rw [HML.out] at r1
                    rw [HLM.out] at r2
                    have r2' : ∀ W, Sem.run Try.prog (Instr.slice 22 (.slice (some ⟨g, 0, none⟩) (m + 1) cp) (some (.int .i64 ((c : Int) + 1))) none none) W = .ok (.slice a2 (L.drop (c + 1)).length c2) W := r2
                    obtain ⟨D, hD⟩ : ∃ D, L.drop (c + 1) = D := ⟨_, rfl⟩
                    rw [hD] at r1 z1 r2' z2
                    have cs := Same_calls a1 a2 c1 c2 D D _ (z1 _ (hs1.later (Below.refl _ _).drew)) (z2 _ (hs2.later (Below.refl _ _).drew))
                    rw [show decide (D = D) = true from by simp] at cs
                    have CS := hid cs
                    have hHd := hH8.drew
                    have hBd : Below w.heap.size w _ := hB8.drew
                    clear cs r2 z1 z2 hs1 hs2 hD
                    go_wp2_with fail
                    have hwr : IntKind.i64.wrap ((c : Int) + 1) = (c : Int) + 1 := IntWalk.i64_in _ (by omega)
                    go_still_tail 9, (by kernel_rfl)
                    change wpList _ _ _ _ _ (w8.drew)
                    clear hwr
                    go_wp2_with (go_at_call 17; refine (keeps CS.out hHd).mono ?_; rintro e w9 ⟨rfl, hH9, hB9⟩)
                    go_roundg (gr - 1)
                    case measure => have := HK.out; omega
                    case rel => exact ⟨k + 1, M, by have := HK.out; omega, by go_num, (hH9.drop.front [_] _).drop, hBd.trans hB9⟩
          · obtain rfl : k = ps.length := by omega
            go_wp2_with fail
            go_ret
            exact ⟨rfl, hBs⟩

end Go.Proofs.Ytcfphdebekbbkaa
