/-
  The document's own answer to layer 13.
-/
import Derived.Test.YtkgijfodjmkhgaaConf
import Derived.Test.YtkgijfodjmkhgaaConfB
import Derived.Test.YtkgijfodjmkhgaaFreeRef
import Derived.Test.YtkgijfodjmkhgaaGmapRef
import Derived.StillTailTactics
namespace Go.Proofs.Ytkgijfodjmkhgaa
open Go.RowKit
set_option linter.unusedVariables false
set_option linter.unusedSimpArgs false

/-- A list of ints in memory, whatever they are. -/
structure SrcI (w : World) (a : Option Addr) (l : List Int) : Prop where
  small : l.length ≤ 9223372036854775807
  mem : 0 < l.length → ∃ b o, a = some ⟨b, o, none⟩ ∧ b < w.heap.size ∧ ∀ j u, (l.map (Value.int .i64))[j]? = some u → w.cell? ⟨b, o + j, none⟩ = some u
theorem SrcI.later {w w' : World} {a : Option Addr} {l : List Int} (h : SrcI w a l) (hb : Below w.heap.size w w') : SrcI w' a l :=
  ⟨h.small, fun h0 => by
    obtain ⟨b, o, ha, hlt, hc⟩ := h.mem h0
    exact ⟨b, o, ha, Nat.lt_of_lt_of_le hlt hb.size, fun j u hj => ArgRow.later hlt hc hb j hj⟩⟩
theorem SrcI.at {w : World} {a : Option Addr} {l : List Int} (h : SrcI w a l) {b o : Nat} (ha : a = some ⟨b, o, none⟩) {k : Nat} {x : Int} (hk : l[k]? = some x) : w.cell? ⟨b, o + k, none⟩ = some (.int .i64 x) := by
  have := (List.getElem?_eq_some_iff.1 hk).1
  obtain ⟨b', o', e, hlt, hc⟩ := h.mem (by omega)
  rw [ha] at e
  injection e with e
  injection e with e1 e2 e3
  subst e1 e2
  exact hc k _ (by simp [hk])
theorem Src.srcI {w : World} {a : Option Addr} {l : List Int} (h : Src w a l) : SrcI w a l := ⟨h.small, h.mem⟩
theorem srci_row {w : World} {B cap n : Nat} {ao : Option Addr} {T : TypeId} {l : List Int} (L1 L2 : List Asr) (hH : Has w B (L1 ++ row T 1 (.slice ao n cap) n (l.map (Value.int .i64)) :: L2)) (hn : n = l.length) : SrcI w ao l := by
  subst hn
  rcases hH.row_shape L1 L2 with ⟨h, h0⟩ | ⟨g', cap', h, h1, h2, _, hg⟩
  · exact ⟨by omega, by omega⟩
  · cases h
    refine ⟨by unfold maxLen at h2; omega, fun _ => ⟨g', 0, rfl, hg, fun j u hj => ?_⟩⟩
    rw [Nat.zero_add]
    exact hH.row_cell L1 L2 j hj

theorem below_drewNI {w w' : World} {B : Nat} (h : Below B w w') (n : Nat) : Below B w (w'.drewN n) := h.trans ⟨rfl, rfl, rfl, Nat.le_refl _, fun _ _ => rfl⟩

set_option maxHeartbeats 1000000 in
set_option maxRecDepth 100000 in
/-- SameInts. -/
theorem SameInts_calls (a b : Option Addr) (ca cb : Nat) (l m : List Int) (w : World) (h1 : SrcI w a l) (h2 : SrcI w b m) :
    Calls Try.prog 12 #[.slice a l.length ca, .slice b m.length cb] w fun e w' => e = .returned (.bool (l == m)) ∧ Below w.heap.size w w' := by
  have s1 := h1.small
  have s2 := h2.small
  by_cases hn : l.length = m.length
  · have e1 : (l.length == m.length) = true := by rw [beq_iff_eq]; exact hn
    have H1 := hid h1
    have H2 := hid h2
    rw [← hn]
    have HN := hid hn
    clear h1 h2 hn e1 s2
    go_enter Try.func12, Try.ntmps12
    go_wp2_with fail
    go_loopw [5] (fun i wr => ∃ k : Nat, k ≤ l.length ∧ i = .int .i64 k ∧ Below w.heap.size w wr ∧ ∀ j, j < k → l[j]? = m[j]?) (fun i _ => l.length - (intOf i).toNat)
    case atStart => exact ⟨0, by omega, rfl, Below.refl _ _, fun j h => by omega⟩
    case round =>
      obtain ⟨k, hk, rfl, hBr, hall⟩ := hrel
      have HALL := hid hall
      clear hall
      by_cases hlt : k < l.length
      · obtain ⟨x, hx⟩ : ∃ x, l[k]? = some x := ⟨l[k], List.getElem?_eq_getElem hlt⟩
        obtain ⟨y, hy⟩ : ∃ y, m[k]? = some y := ⟨_, List.getElem?_eq_getElem (by have := HN.out; omega)⟩
        obtain ⟨ba, oa, rfl, _, _⟩ := H1.out.mem (by omega)
        obtain ⟨bb, ob, rfl, _, _⟩ := H2.out.mem (by have := HN.out; omega)
        have c1 := (H1.out.later hBr).at rfl hx
        have c2 := (H2.out.later hBr).at rfl hy
        by_cases hxy : x = y
        · subst hxy
          have HX := hid (And.intro hx hy)
          clear hx hy
          go_wp2_with fail
          go_quiet (fail)
          have hBq := below_drewNI hBr nq
          go_wp2_with fail
          go_roundw
          case rel => exact ⟨k + 1, by omega, by go_num, hBq, fun j hj => by
            by_cases e : j = k
            · subst e; rw [HX.out.1, HX.out.2]
            · exact HALL.out j (by omega)⟩
          case measure => simp [intOf] <;> omega
        · have e1 : (x == y) = false := by rw [beq_eq_false_iff_ne]; exact hxy
          have hr : (l == m) = false := by
            rw [beq_eq_false_iff_ne]
            intro e
            rw [e, hy] at hx
            injection hx with hx
            exact hxy hx.symm
          have HR := hid hr
          clear hx hy hxy hr
          go_wp2_with fail
          go_quiet (fail)
          have hBq := below_drewNI hBr nq
          go_wp2_with fail
          go_ret
          exact ⟨by rw [HR.out]; rfl, hBq⟩
      · obtain rfl : k = l.length := by omega
        have hr : (l == m) = true := by
          rw [beq_iff_eq]
          refine List.ext_getElem? fun i => ?_
          by_cases hi : i < l.length
          · exact HALL.out i hi
          · rw [List.getElem?_eq_none (by omega), List.getElem?_eq_none (by have := HN.out; omega)]
        have HR := hid hr
        clear hr
        go_wp2_with fail
        go_ret
        exact ⟨by rw [HR.out]; rfl, hBr⟩
  · have e1 : (l.length == m.length) = false := by rw [beq_eq_false_iff_ne]; exact hn
    have e2 : ((l.length : Int) == (m.length : Int)) = false := by rw [beq_eq_false_iff_ne]; omega
    have hr : (l == m) = false := by
      rw [beq_eq_false_iff_ne]
      intro e
      exact hn (by rw [e])
    rw [hr]
    clear hr h1 h2
    go_enter Try.func12, Try.ntmps12
    go_wp2_with fail
    go_ret
    exact ⟨rfl, Below.refl _ _⟩

theorem in_calls (a : Option Addr) (cap : Nat) (l : List Int) (f : Int) (w : World) (hs : Src w a l) :
    Calls Try.prog 26 #[.slice a l.length cap, .int .i64 f] w fun e w' => e = .returned (.bool (decide (f ∈ l))) ∧ w = w' := by
  have HS := hid fun (k : Nat) x (hk : l[k]? = some x) => hs.at hk
  have hsm := hs.small
  obtain ⟨q, hq⟩ : ∃ q, decide (f ∈ l) = q := ⟨_, rfl⟩
  rw [hq]
  have HQ := hid hq
  clear hs hq
  go_enter Try.func26, Try.ntmps26
  go_wp2_with fail
  go_loopw [5] (fun i wr => ∃ k : Nat, k ≤ l.length ∧ i = .int .i64 k ∧ wr = w ∧ ∀ (j : Nat) x, j < k → l[j]? = some x → ¬ x = f) (fun i _ => l.length - (intOf i).toNat)
  case atStart => exact ⟨0, by omega, rfl, rfl, fun j x h => by omega⟩
  case round =>
    obtain ⟨k, hk, rfl, rfl, hall⟩ := hrel
    have HALL := hid hall
    clear hall
    by_cases hlt : k < l.length
    · obtain ⟨x, hx⟩ : ∃ x, l[k]? = some x := ⟨_, List.getElem?_eq_getElem hlt⟩
      obtain ⟨gb, o, rfl, hc⟩ := HS.out k x hx
      have HX := hid hx
      clear hx
      by_cases hq : x = f
      · have e1 : (x == f) = true := by simpa using hq
        obtain rfl : q = true := by rw [← HQ.out]; exact decide_eq_true (by rw [← hq]; exact List.mem_of_getElem? HX.out)
        clear hq
        go_wp2_with fail
        go_ret
        exact ⟨rfl, rfl⟩
      · have e1 : (x == f) = false := by simpa using hq
        have HN := hid hq
        clear hq
        go_wp2_with fail
        go_roundw
        case rel => exact ⟨k + 1, by omega, by go_num, by trivial, fun j y hj hy => by
            by_cases e : j = k
            · subst e
              rw [HX.out] at hy
              injection hy with hy
              rw [← hy]
              exact HN.out
            · exact HALL.out j y (by omega) hy⟩
        case measure => simp [intOf] <;> omega
    · obtain rfl : k = l.length := by omega
      obtain rfl : q = false := by
        rw [← HQ.out]
        refine decide_eq_false fun hm => ?_
        obtain ⟨j, hj⟩ := List.mem_iff_getElem?.1 hm
        exact HALL.out j f (List.getElem?_eq_some_iff.1 hj).1 hj rfl
      go_wp2_with fail
      go_ret
      exact ⟨rfl, rfl⟩

theorem pool_lit (host : Int) (a : Option Addr) (len cap : Nat) (first many tlb asids root f : Int) (w : World) (h0 : 0 ≤ first) (hf0 : 0 ≤ f) (hf1 : f ≤ 256) :
    Calls Try.prog 24 #[.agg #[.int .i64 host, .slice a len cap, .int .i64 first, .int .i64 many, .int .i64 tlb, .int .i64 asids, .int .i64 root], .int .i64 f] w fun e w' => e = .returned (.bool (decide (poolP first many f))) ∧ Below w.heap.size w w' := by
  have hH0 : Has w w.heap.size [] := Has.nil (Nat.le_refl _)
  have hH1 := hH0.newblk w.heap.size 24 #[.int .i64 host, .slice a len cap, .int .i64 first, .int .i64 many, .int .i64 tlb, .int .i64 asids, .int .i64 root] rfl
  have hB1 := below_new (Below.refl _ w) hH0 (.cells #[.int .i64 host, .slice a len cap, .int .i64 first, .int .i64 many, .int .i64 tlb, .int .i64 asids, .int .i64 root] 24)
  have c2 := hH1.cell [] _ 2 (v := .int .i64 first) rfl
  have c3 := hH1.cell [] _ 3 (v := .int .i64 many) rfl
  clear hH0 hH1
  by_cases h1 : first ≤ f
  · have e1 : decide (first ≤ f) = true := decide_eq_true h1
    by_cases h2 : f - first < many
    · have e2 : decide (f - first < many) = true := decide_eq_true h2
      rw [decide_eq_true (show poolP first many f from ⟨h1, h2⟩)]
      go_enter Try.func24, Try.ntmps24
      go_wp2_with fail
      go_ret
      exact ⟨rfl, hB1⟩
    · have e2 : decide (f - first < many) = false := decide_eq_false h2
      rw [decide_eq_false (show ¬ poolP first many f from fun h => h2 h.2)]
      go_enter Try.func24, Try.ntmps24
      go_wp2_with fail
      go_ret
      exact ⟨rfl, hB1⟩
  · have e1 : decide (first ≤ f) = false := decide_eq_false h1
    rw [decide_eq_false (show ¬ poolP first many f from fun h => h1 h.1)]
    go_enter Try.func24, Try.ntmps24
    go_wp2_with fail
    go_ret
    exact ⟨rfl, hB1⟩

theorem RefNew_any (first many : Int) (w : World) (B : Nat) (X : List Asr) (hH : Has w B X) :
    Calls Try.prog 23 #[.int .i64 first, .int .i64 many] w fun e w' => ((freeP first many ∧ ∃ b, e = .returned (.pointer (some ⟨b, 0, none⟩))) ∨ (¬ freeP first many ∧ e = .returned (.pointer none))) ∧ Has w' B X ∧ Below B w w' := by
  by_cases h : freeP first many
  · refine (RefNew_ok first many h.1 h.2.1 h.2.2.1 h.2.2.2 w B X hH).mono ?_
    rintro e w' ⟨b, rfl, hH2, hB2⟩
    exact ⟨.inl ⟨h, b, rfl⟩, hH2.drop, hB2⟩
  · refine (RefNew_no first many (by unfold freeP at h; omega) w).mono ?_
    rintro e w' ⟨rfl, rfl⟩
    exact ⟨.inr ⟨h, rfl⟩, hH, Below.refl _ _⟩

set_option maxHeartbeats 4000000 in
set_option maxRecDepth 100000 in
theorem RRight_calls (c : ConfS) (w : World) (hs : Src w c.a c.l) :
    Calls Try.prog 11 #[.agg (confC c).toArray] w fun e w' => e = .returned (.bool (decide (okC c))) ∧ Below w.heap.size w w' := by
  have hH0 : Has w w.heap.size [] := Has.nil (Nat.le_refl _)
  have hH1 := hH0.newblk w.heap.size 24 (confC c).toArray rfl
  have hB1 := below_new (Below.refl _ w) hH0 (.cells (confC c).toArray 24)
  have CG := hid (RNew_calls c.a c.cap c.l c.host _ (hs.later hB1) hH1)
  have HS := hid hs
  have hsm := hs.small
  have c0 := hH1.cell [] _ 0 (v := .int .i64 c.host) rfl
  have c1 := hH1.cell [] _ 1 (v := .slice c.a c.l.length c.cap) rfl
  clear hs hH0
  obtain ⟨q, hq⟩ : ∃ q, decide (okC c) = q := ⟨_, rfl⟩
  rw [hq]
  have HQ := hid hq
  clear hq
  go_enter Try.func11, Try.ntmps11
  go_wp2_with fail
  refine CG.out.mono ?_
  rintro e w1 (⟨hno, rfl, hH2, hB2⟩ | ⟨hg, gb, rfl, hH2, hB2⟩)
  · have hB2 := hB1.trans hB2
    have hq : q = false := by rw [← HQ.out]; exact decide_eq_false fun h => hno h.g
    subst hq
    clear hno CG c0 c1 hH1 hB1
    go_wp2_with fail
    go_ret
    exact ⟨rfl, hB2⟩
  · have hB2 := hB1.trans hB2
    have hH2 := hH2.drop
    have c0 := hH2.cell [] _ 0 (v := .int .i64 c.host) rfl
    have c2 := hH2.cell [] _ 2 (v := .int .i64 c.first) rfl
    have c3 := hH2.cell [] _ 3 (v := .int .i64 c.many) rfl
    have HG := hid hg
    clear hg CG c1 hH1 hB1
    go_wp2_with fail
    refine (RefNew_any c.first c.many w1 _ _ hH2).mono ?_
    rintro e w2 ⟨⟨hf, fb, rfl⟩ | ⟨hf, rfl⟩, hH3, hB3⟩
    · have hB3 := hB2.trans hB3
      have c0 := hH3.cell [] _ 0 (v := .int .i64 c.host) rfl
      have c2 := hH3.cell [] _ 2 (v := .int .i64 c.first) rfl
      have c3 := hH3.cell [] _ 3 (v := .int .i64 c.many) rfl
      obtain ⟨f1, f2, f3, f4⟩ := hf
      have HF := hid (show freeP c.first c.many from ⟨f1, f2, f3, f4⟩)
      have f5 : 0 ≤ c.first + c.many := by omega
      have f6 : c.first + c.many ≤ 256 := by omega
      clear hH2 hB2
      by_cases h1 : c.first + c.many ≤ c.host
      · have e1 : decide (c.host < c.first + c.many) = false := decide_eq_false (by omega)
        have H1 := hid h1
        clear h1 f2 f3 f4
        go_wp2_with fail
        clear c0 c2 c3 e1 f5 f6
        go_loopw [3] (fun i wr => ∃ k : Nat, k ≤ c.l.length ∧ i = .int .i64 k ∧ Has wr w.heap.size [blk w.heap.size 24 (confC c).toArray] ∧ Below w.heap.size w wr ∧ ∀ (j : Nat) x, j < k → c.l[j]? = some x → ¬ poolP c.first c.many x) (fun i _ => c.l.length - (intOf i).toNat)
        case atStart => exact ⟨0, by omega, rfl, hH3, hB3, fun j x h => by omega⟩
        case round =>
          obtain ⟨k, hk, rfl, hHr, hBr, hall⟩ := hrel
          have HALL := hid hall
          clear hall hH3 hB3
          have c1 := hHr.cell [] _ 1 (v := .slice c.a c.l.length c.cap) rfl
          by_cases hlt : k < c.l.length
          · obtain ⟨x, hx⟩ : ∃ x, c.l[k]? = some x := ⟨_, List.getElem?_eq_getElem hlt⟩
            obtain ⟨gb, o, hca, hc⟩ := (HS.out.later hBr).at hx
            rw [hca] at c1
            have hr := confP_range HG.out x (List.mem_of_getElem? hx)
            have HX := hid hx
            have c0 := hHr.cell [] _ 0 (v := .int .i64 c.host) rfl
            have c2 := hHr.cell [] _ 2 (v := .int .i64 c.first) rfl
            have c3 := hHr.cell [] _ 3 (v := .int .i64 c.many) rfl
            have c4 := hHr.cell [] _ 4 (v := .int .i64 c.tlb) rfl
            have c5 := hHr.cell [] _ 5 (v := .int .i64 c.asids) rfl
            have c6 := hHr.cell [] _ 6 (v := .int .i64 c.root) rfl
            clear hx hca
            go_wp2_with fail
            go_still_tail 6, (by kernel_rfl)
            change wpList _ _ _ _ _ (wr.drew)
            have hHd := hHr.drew
            have hBd : Below w.heap.size w wr.drew := hBr.drew
            go_wp2_with fail
            refine (keeps (pool_lit c.host (some ⟨gb, o, none⟩) c.l.length c.cap c.first c.many c.tlb c.asids c.root x wr.drew f1 hr.1 hr.2) hHd).mono ?_
            rintro e w4 ⟨rfl, hH4, hB4⟩
            have hB4 := hBd.trans hB4
            clear c0 c1 c2 c3 c4 c5 c6 hHr hBr hHd hBd hr
            by_cases hp : poolP c.first c.many x
            · rw [decide_eq_true hp]
              obtain rfl : q = false := by rw [← HQ.out]; exact decide_eq_false fun h => h.p x (List.mem_of_getElem? HX.out) hp
              clear hp
              go_wp2_with fail
              go_ret
              exact ⟨rfl, hB4⟩
            · rw [decide_eq_false hp]
              have HP := hid hp
              clear hp
              go_wp2_with fail
              go_roundw
              case rel => exact ⟨k + 1, by omega, by go_num, hH4, hB4, fun j y hj hy => by
                  by_cases e : j = k
                  · subst e
                    rw [HX.out] at hy
                    injection hy with hy
                    rw [← hy]
                    exact HP.out
                  · exact HALL.out j y (by omega) hy⟩
              case measure => simp [intOf] <;> omega
          · obtain rfl : k = c.l.length := by omega
            have hp : ∀ x ∈ c.l, ¬ poolP c.first c.many x := fun x hm => by
              obtain ⟨j, hj⟩ := List.mem_iff_getElem?.1 hm
              exact HALL.out j x (List.getElem?_eq_some_iff.1 hj).1 hj
            have c4 := hHr.cell [] _ 4 (v := .int .i64 c.tlb) rfl
            have c5 := hHr.cell [] _ 5 (v := .int .i64 c.asids) rfl
            have c6 := hHr.cell [] _ 6 (v := .int .i64 c.root) rfl
            have hqq : (decide (1 ≤ c.tlb) && decide (c.tlb ≤ 64) && decide (1 ≤ c.asids) && decide (c.asids ≤ 8) && decide (0 ≤ c.root) && decide (c.root ≤ 255)) = q := by
              rw [← HQ.out]
              simp only [← Bool.decide_and]
              exact decide_eq_decide.2 ⟨fun ⟨⟨⟨⟨⟨h1, h2⟩, h3⟩, h4⟩, h5⟩, h6⟩ => ⟨HG.out, HF.out, H1.out, hp, h1, h2, h3, h4, h5, h6⟩, fun h => ⟨⟨⟨⟨⟨h.t1, h.t2⟩, h.a1⟩, h.a2⟩, h.r1⟩, h.r2⟩⟩
            have HQQ := hid hqq
            clear hqq hp
            obtain h10 | h10 : 1 ≤ c.tlb ∨ ¬ 1 ≤ c.tlb := Decidable.em _
            · have g0 : decide (1 ≤ c.tlb) = true := decide_eq_true h10
              obtain h11 | h11 : c.tlb ≤ 64 ∨ ¬ c.tlb ≤ 64 := Decidable.em _
              · have g1 : decide (c.tlb ≤ 64) = true := decide_eq_true h11
                obtain h12 | h12 : 1 ≤ c.asids ∨ ¬ 1 ≤ c.asids := Decidable.em _
                · have g2 : decide (1 ≤ c.asids) = true := decide_eq_true h12
                  obtain h13 | h13 : c.asids ≤ 8 ∨ ¬ c.asids ≤ 8 := Decidable.em _
                  · have g3 : decide (c.asids ≤ 8) = true := decide_eq_true h13
                    obtain h14 | h14 : 0 ≤ c.root ∨ ¬ 0 ≤ c.root := Decidable.em _
                    · have g4 : decide (0 ≤ c.root) = true := decide_eq_true h14
                      obtain h15 | h15 : c.root ≤ 255 ∨ ¬ c.root ≤ 255 := Decidable.em _
                      · have g5 : decide (c.root ≤ 255) = true := decide_eq_true h15
                        obtain rfl : q = true := by rw [← HQQ.out, g0, g1, g2, g3, g4, g5]; rfl
                        go_wp2_with fail
                        go_ret
                        exact ⟨rfl, hBr⟩
                      · have g5 : decide (c.root ≤ 255) = false := decide_eq_false h15
                        obtain rfl : q = false := by rw [← HQQ.out, g0, g1, g2, g3, g4, g5]; simp
                        go_wp2_with fail
                        go_ret
                        exact ⟨rfl, hBr⟩
                    · have g4 : decide (0 ≤ c.root) = false := decide_eq_false h14
                      obtain rfl : q = false := by rw [← HQQ.out, g0, g1, g2, g3, g4]; simp
                      go_wp2_with fail
                      go_ret
                      exact ⟨rfl, hBr⟩
                  · have g3 : decide (c.asids ≤ 8) = false := decide_eq_false h13
                    obtain rfl : q = false := by rw [← HQQ.out, g0, g1, g2, g3]; simp
                    go_wp2_with fail
                    go_ret
                    exact ⟨rfl, hBr⟩
                · have g2 : decide (1 ≤ c.asids) = false := decide_eq_false h12
                  obtain rfl : q = false := by rw [← HQQ.out, g0, g1, g2]; simp
                  go_wp2_with fail
                  go_ret
                  exact ⟨rfl, hBr⟩
              · have g1 : decide (c.tlb ≤ 64) = false := decide_eq_false h11
                obtain rfl : q = false := by rw [← HQQ.out, g0, g1]; simp
                go_wp2_with fail
                go_ret
                exact ⟨rfl, hBr⟩
            · have g0 : decide (1 ≤ c.tlb) = false := decide_eq_false h10
              obtain rfl : q = false := by rw [← HQQ.out, g0]; simp
              go_wp2_with fail
              go_ret
              exact ⟨rfl, hBr⟩
      · have e1 : decide (c.host < c.first + c.many) = true := decide_eq_true (by omega)
        have hq : q = false := by rw [← HQ.out]; exact decide_eq_false fun h => h1 h.h
        subst hq
        clear h1 f2 f3 f4
        go_wp2_with fail
        go_ret
        exact ⟨rfl, hB3⟩
    · have hB3 := hB2.trans hB3
      have hq : q = false := by rw [← HQ.out]; exact decide_eq_false fun h => hf h.f
      subst hq
      clear hf c0 c2 hH2 hB2
      go_wp2_with fail
      go_ret
      exact ⟨rfl, hB3⟩

end Go.Proofs.Ytkgijfodjmkhgaa
