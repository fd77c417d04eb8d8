/-
  Right of package conf, and whose a frame is.
-/
import Derived.Test.YtkgijfodjmkhgaaConf
import Derived.Test.YtkgijfodjmkhgaaFree
import Derived.Test.YtkgijfodjmkhgaaGmapNew
namespace Go.Proofs.Ytkgijfodjmkhgaa
open Go.RowKit
set_option linter.unusedVariables false
set_option linter.unusedSimpArgs false

theorem Src.later {w w' : World} {a : Option Addr} {l : List Int} (h : Src w a l) (hb : Below w.heap.size w w') : Src w' a l :=
  ⟨h.small, h.wf, fun h0 => by
    obtain ⟨b, o, rfl, hlt, hc⟩ := h.mem h0
    exact ⟨b, o, rfl, Nat.lt_of_lt_of_le hlt hb.size, fun j u hj => ArgRow.later hlt hc hb j hj⟩⟩
theorem Src.at {w : World} {a : Option Addr} {l : List Int} (h : Src w a l) {k : Nat} {x : Int} (hk : l[k]? = some x) : ∃ b o, a = some ⟨b, o, none⟩ ∧ w.cell? ⟨b, o + k, none⟩ = some (.int .i64 x) := by
  obtain ⟨b, o, rfl, _, hc⟩ := h.mem (by have := (List.getElem?_eq_some_iff.1 hk).1; omega)
  exact ⟨b, o, rfl, hc k _ (by simp [hk])⟩

theorem within_calls (n a b : Int) (w : World) : Calls Try.prog 21 #[.int .i64 n, .int .i64 a, .int .i64 b] w fun e w' => e = .returned (.bool (decide (a ≤ n) && decide (n ≤ b))) ∧ w = w' := by
  by_cases h1 : a ≤ n
  · have e1 : decide (a ≤ n) = true := decide_eq_true h1
    rw [e1]
    go_enter Try.func21, Try.ntmps21
    go_wp2_with fail
    go_ret
    exact ⟨rfl, rfl⟩
  · have e1 : decide (a ≤ n) = false := decide_eq_false h1
    rw [e1]
    go_enter Try.func21, Try.ntmps21
    go_wp2_with fail
    go_ret
    exact ⟨rfl, rfl⟩

/-- The closure: is a frame the shadow pages'? -/
theorem meets_calls (cb : Nat) (first many f : Int) (w : World) (c2 : w.cell? ⟨cb, 2, none⟩ = some (.int .i64 first)) (c3 : w.cell? ⟨cb, 3, none⟩ = some (.int .i64 many)) (h0 : 0 ≤ first) (hf0 : 0 ≤ f) (hf1 : f ≤ 256) :
    Calls Try.prog 19 #[.int .i64 f, .pointer (some ⟨cb, 0, none⟩)] w fun e w' => e = .returned (.bool (decide (poolP first many f))) ∧ w = w' := by
  by_cases h1 : first ≤ f
  · have e1 : decide (first ≤ f) = true := decide_eq_true h1
    by_cases h2 : f - first < many
    · have e2 : decide (f - first < many) = true := decide_eq_true h2
      rw [decide_eq_true (show poolP first many f from ⟨h1, h2⟩)]
      go_enter Try.func19, Try.ntmps19
      go_wp2_with fail
      go_ret
      exact ⟨rfl, rfl⟩
    · have e2 : decide (f - first < many) = false := decide_eq_false h2
      rw [decide_eq_false (show ¬ poolP first many f from fun h => h2 h.2)]
      go_enter Try.func19, Try.ntmps19
      go_wp2_with fail
      go_ret
      exact ⟨rfl, rfl⟩
  · have e1 : decide (first ≤ f) = false := decide_eq_false h1
    rw [decide_eq_false (show ¬ poolP first many f from fun h => h1 h.1)]
    go_enter Try.func19, Try.ntmps19
    go_wp2_with fail
    go_ret
    exact ⟨rfl, rfl⟩

theorem IndexMeets (a : Option Addr) (cap : Nat) (l : List Int) (cb : Nat) (first many : Int) (w : World) (hs : Src w a l) (c2 : w.cell? ⟨cb, 2, none⟩ = some (.int .i64 first)) (c3 : w.cell? ⟨cb, 3, none⟩ = some (.int .i64 many)) (h0 : 0 ≤ first) (hl : ∀ x ∈ l, 0 ≤ x ∧ x ≤ 256) :
    Calls Try.prog 28 #[.slice a l.length cap, .func (.func 19) #[] #[.pointer (some ⟨cb, 0, none⟩)]] w fun e w' => ∃ r, e = .returned (.int .i64 r) ∧ w = w' ∧ ((r = -1 ∧ ∀ x ∈ l, ¬ poolP first many x) ∨ (0 ≤ r ∧ ∃ x ∈ l, poolP first many x)) := by
  have CM := hid fun x (hx : x ∈ l) => meets_calls cb first many x w c2 c3 h0 (hl x hx).1 (hl x hx).2
  have HS := hid fun (k : Nat) x (hk : l[k]? = some x) => hs.at hk
  have hsm := hs.small
  clear hs hl c2 c3 h0
  go_enter Try.func28, Try.ntmps28
  go_wp2_with fail
  go_loopw [5, 8] (fun _ i wr => ∃ k : Nat, k ≤ l.length ∧ i = .int .i64 k ∧ wr = w ∧ ∀ (j : Nat) x, j < k → l[j]? = some x → ¬ poolP first many x) (fun _ i _ => l.length - (intOf i).toNat)
  case atStart => exact ⟨0, by omega, rfl, rfl, fun j x h => by omega⟩
  case round =>
    obtain ⟨k, hk, rfl, rfl, hall⟩ := hrel
    have HALL := hid hall
    clear hall
    by_cases hlt : k < l.length
    · obtain ⟨x, hx⟩ : ∃ x, l[k]? = some x := ⟨_, List.getElem?_eq_getElem hlt⟩
      obtain ⟨gb, o, rfl, hc⟩ := HS.out k x hx
      have cc := CM.out x (List.mem_of_getElem? hx)
      obtain ⟨qb, hqb⟩ : ∃ qb, decide (poolP first many x) = qb := ⟨_, rfl⟩
      rw [hqb] at cc
      have CC := hid cc
      have HX := hid (And.intro hx hqb)
      clear cc hx hqb
      go_wp2_with fail
      refine CC.out.mono ?_
      rintro e w2 ⟨rfl, rfl⟩
      cases qb with
      | true =>
        go_wp2_with fail
        go_ret
        exact ⟨(k : Int), rfl, rfl, .inr ⟨by omega, x, List.mem_of_getElem? HX.out.1, of_decide_eq_true HX.out.2⟩⟩
      | false =>
        go_wp2_with fail
        go_roundw
        case rel => exact ⟨k + 1, by omega, by go_num, by trivial, fun j y hj hy => by
            by_cases e : j = k
            · subst e
              rw [HX.out.1] at hy
              injection hy with hy
              rw [← hy]
              exact of_decide_eq_false HX.out.2
            · exact HALL.out j y (by omega) hy⟩
        case measure => simp [intOf] <;> omega
    · obtain rfl : k = l.length := by omega
      go_wp2_with fail
      go_ret
      exact ⟨-1, rfl, by trivial, .inl ⟨by trivial, fun x hm => by
        obtain ⟨j, hj⟩ := List.mem_iff_getElem?.1 hm
        exact HALL.out j x (List.getElem?_eq_some_iff.1 hj).1 hj⟩⟩

theorem ContainsMeets (a : Option Addr) (cap : Nat) (l : List Int) (cb : Nat) (first many : Int) (w : World) (hs : Src w a l) (c2 : w.cell? ⟨cb, 2, none⟩ = some (.int .i64 first)) (c3 : w.cell? ⟨cb, 3, none⟩ = some (.int .i64 many)) (h0 : 0 ≤ first) (hl : ∀ x ∈ l, 0 ≤ x ∧ x ≤ 256) :
    Calls Try.prog 20 #[.slice a l.length cap, .func (.func 19) #[] #[.pointer (some ⟨cb, 0, none⟩)]] w fun e w' => e = .returned (.bool (!decide (∀ x ∈ l, ¬ poolP first many x))) ∧ w = w' := by
  have CI := hid (IndexMeets a cap l cb first many w hs c2 c3 h0 hl)
  clear hs c2 c3 h0 hl
  go_enter Try.func20, Try.ntmps20
  go_wp2_with fail
  refine CI.out.mono ?_
  rintro e w1 ⟨r, rfl, rfl, ⟨rfl, h⟩ | ⟨hr, h⟩⟩
  · have HH := hid h
    clear h CI
    go_wp2_with fail
    go_ret
    exact ⟨by rw [decide_eq_true HH.out]; rfl, rfl⟩
  · have HH := hid h
    have e1 : decide (0 ≤ r) = true := decide_eq_true hr
    clear h CI
    go_wp2_with fail
    go_ret
    exact ⟨by
      obtain ⟨x, hx, hp⟩ := HH.out
      rw [decide_eq_false (fun h => h x hx hp)]; rfl, rfl⟩

theorem Index_calls (a : Option Addr) (cap : Nat) (l : List Int) (f : Int) (w : World) (hs : Src w a l) :
    Calls Try.prog 35 #[.slice a l.length cap, .int .i64 f] w fun e w' => ∃ r, e = .returned (.int .i64 r) ∧ w = w' ∧ ((r = -1 ∧ f ∉ l) ∨ (0 ≤ r ∧ f ∈ l)) := by
  have HS := hid fun (k : Nat) x (hk : l[k]? = some x) => hs.at hk
  have hsm := hs.small
  clear hs
  go_enter Try.func35, Try.ntmps35
  go_wp2_with fail
  go_loopw [5, 8] (fun _ i wr => ∃ k : Nat, k ≤ l.length ∧ i = .int .i64 k ∧ wr = w ∧ ∀ (j : Nat) x, j < k → l[j]? = some x → ¬ x = f) (fun _ i _ => l.length - (intOf i).toNat)
  case atStart => exact ⟨0, by omega, rfl, rfl, fun j x h => by omega⟩
  case round =>
    obtain ⟨k, hk, rfl, rfl, hall⟩ := hrel
    have HALL := hid hall
    clear hall
    by_cases hlt : k < l.length
    · obtain ⟨x, hx⟩ : ∃ x, l[k]? = some x := ⟨_, List.getElem?_eq_getElem hlt⟩
      obtain ⟨gb, o, rfl, hc⟩ := HS.out k x hx
      have HX := hid hx
      clear hx
      by_cases hq : f = x
      · have e1 : (f == x) = true := by simpa using hq
        have HQ := hid hq
        clear hq
        go_wp2_with fail
        go_ret
        exact ⟨(k : Int), rfl, rfl, .inr ⟨by omega, by rw [HQ.out]; exact List.mem_of_getElem? HX.out⟩⟩
      · have e1 : (f == x) = false := by simpa using hq
        have HQ := hid hq
        clear hq
        go_wp2_with fail
        go_roundw
        case rel => exact ⟨k + 1, by omega, by go_num, by trivial, fun j y hj hy => by
            by_cases e : j = k
            · subst e
              rw [HX.out] at hy
              injection hy with hy
              rw [← hy]
              exact fun h => HQ.out h.symm
            · exact HALL.out j y (by omega) hy⟩
        case measure => simp [intOf] <;> omega
    · obtain rfl : k = l.length := by omega
      go_wp2_with fail
      go_ret
      exact ⟨-1, rfl, by trivial, .inl ⟨by trivial, fun hm => by
        obtain ⟨j, hj⟩ := List.mem_iff_getElem?.1 hm
        exact HALL.out j f (List.getElem?_eq_some_iff.1 hj).1 hj rfl⟩⟩

theorem Contains_calls (a : Option Addr) (cap : Nat) (l : List Int) (f : Int) (w : World) (hs : Src w a l) :
    Calls Try.prog 34 #[.slice a l.length cap, .int .i64 f] w fun e w' => e = .returned (.bool (decide (f ∈ l))) ∧ w = w' := by
  have CI := hid (Index_calls a cap l f w hs)
  clear hs
  go_enter Try.func34, Try.ntmps34
  go_wp2_with fail
  refine CI.out.mono ?_
  rintro e w1 ⟨r, rfl, rfl, ⟨rfl, h⟩ | ⟨hr, h⟩⟩
  · have HH := hid h
    clear h CI
    go_wp2_with fail
    go_ret
    exact ⟨by rw [decide_eq_false HH.out]; rfl, rfl⟩
  · have HH := hid h
    have e1 : decide (0 ≤ r) = true := decide_eq_true hr
    clear h CI
    go_wp2_with fail
    go_ret
    exact ⟨by rw [decide_eq_true HH.out]; rfl, rfl⟩

theorem FreeNew_any (first many : Int) (w : World) (B : Nat) (X : List Asr) (hH : Has w B X) :
    Calls Try.prog 18 #[.int .i64 first, .int .i64 many] w fun e w' => ((freeP first many ∧ ∃ b, e = .returned (.pointer (some ⟨b, 0, none⟩))) ∨ (¬ freeP first many ∧ e = .returned (.pointer none))) ∧ Has w' B X ∧ Below B w w' := by
  by_cases h : freeP first many
  · refine (FreeNew_ok first many h.1 h.2.1 h.2.2.1 h.2.2.2 w B X hH).mono ?_
    rintro e w' ⟨b, rfl, hH2, hB2⟩
    exact ⟨.inl ⟨h, b, rfl⟩, hH2.drop, hB2⟩
  · refine (FreeNew_no first many (by unfold freeP at h; omega) w).mono ?_
    rintro e w' ⟨rfl, rfl⟩
    exact ⟨.inr ⟨h, rfl⟩, hH, Below.refl _ _⟩

theorem confP_range {c : ConfS} (hg : gok c.l c.host) : ∀ x ∈ c.l, 0 ≤ x ∧ x ≤ 256 := fun x hx => by
  have h1 := hg.2.2.2.2.1 x hx
  have h2 := hg.2.2.2.1
  omega

set_option maxHeartbeats 2000000 in
set_option maxRecDepth 100000 in
theorem Right_calls (c : ConfS) (w : World) (hs : Src w c.a c.l) :
    Calls Try.prog 10 #[.agg (confC c).toArray] w fun e w' => e = .returned (.bool (decide (okC c))) ∧ Below w.heap.size w w' := by
  have hH0 : Has w w.heap.size [] := Has.nil (Nat.le_refl _)
  have hH1 := hH0.newblk w.heap.size 24 (confC c).toArray rfl
  have hB1 := below_new (Below.refl _ w) hH0 (.cells (confC c).toArray 24)
  have CG := hid (New_calls c.a c.cap c.l c.host _ (hs.later hB1) hH1)
  have HS := hid hs
  have c0 := hH1.cell [] _ 0 (v := .int .i64 c.host) rfl
  have c1 := hH1.cell [] _ 1 (v := .slice c.a c.l.length c.cap) rfl
  clear hs hH0
  obtain ⟨q, hq⟩ : ∃ q, decide (okC c) = q := ⟨_, rfl⟩
  rw [hq]
  have HQ := hid hq
  clear hq
  go_enter Try.func10, Try.ntmps10
  go_wp2_with fail
  refine CG.out.mono ?_
  rintro e w1 (⟨hno, rfl, hH2, hB2⟩ | ⟨hg, gb, rfl, hH2, hB2⟩)
  · have hB2 := hB1.trans hB2
    have hq : q = false := by rw [← HQ.out]; exact decide_eq_false fun h => hno h.g
    subst hq
    clear hno CG c0 c1 hH1 hB1
    go_wp2_with fail
    go_ret
    exact ⟨rfl, hB2⟩
  · have hB2 := hB1.trans hB2
    have hH2 := hH2.drop
    have c0 := hH2.cell [] _ 0 (v := .int .i64 c.host) rfl
    have c2 := hH2.cell [] _ 2 (v := .int .i64 c.first) rfl
    have c3 := hH2.cell [] _ 3 (v := .int .i64 c.many) rfl
    have HG := hid hg
    clear hg CG c1 hH1 hB1
    go_wp2_with fail
    refine (FreeNew_any c.first c.many w1 _ _ hH2).mono ?_
    rintro e w2 ⟨⟨hf, fb, rfl⟩ | ⟨hf, rfl⟩, hH3, hB3⟩
    · have hB3 := hB2.trans hB3
      have c0 := hH3.cell [] _ 0 (v := .int .i64 c.host) rfl
      have c1 := hH3.cell [] _ 1 (v := .slice c.a c.l.length c.cap) rfl
      have c2 := hH3.cell [] _ 2 (v := .int .i64 c.first) rfl
      have c3 := hH3.cell [] _ 3 (v := .int .i64 c.many) rfl
      have c4 := hH3.cell [] _ 4 (v := .int .i64 c.tlb) rfl
      have c5 := hH3.cell [] _ 5 (v := .int .i64 c.asids) rfl
      have c6 := hH3.cell [] _ 6 (v := .int .i64 c.root) rfl
      obtain ⟨f1, f2, f3, f4⟩ := hf
      have HF := hid (show freeP c.first c.many from ⟨f1, f2, f3, f4⟩)
      have f5 : 0 ≤ c.first + c.many := by omega
      have f6 : c.first + c.many ≤ 256 := by omega
      clear hH2 hB2
      by_cases h1 : c.first + c.many ≤ c.host
      · have e1 : decide (c.host < c.first + c.many) = false := decide_eq_false (by omega)
        have H1 := hid h1
        have hs3 := HS.out.later (w' := w2) hB3
        have CC := hid (ContainsMeets c.a c.cap c.l w.heap.size c.first c.many w2 hs3 c2 c3 f1 (confP_range HG.out))
        clear h1 f2 f3 f4 hs3
        go_wp2_with fail
        refine CC.out.mono ?_
        rintro e w3 ⟨rfl, rfl⟩
        clear CC
        by_cases hp : ∀ x ∈ c.l, ¬ poolP c.first c.many x
        · have HP := hid hp
          rw [decide_eq_true hp]
          clear hp
          go_wp2_with fail
          refine (within_calls c.tlb 1 64 w2).mono ?_
          rintro e w3 ⟨rfl, rfl⟩
          by_cases t : 1 ≤ c.tlb ∧ c.tlb ≤ 64
          · have T := hid t
            rw [decide_eq_true t.1, decide_eq_true t.2]
            clear t
            go_wp2_with fail
            refine (within_calls c.asids 1 8 w2).mono ?_
            rintro e w3 ⟨rfl, rfl⟩
            by_cases t : 1 ≤ c.asids ∧ c.asids ≤ 8
            · have TA := hid t
              rw [decide_eq_true t.1, decide_eq_true t.2]
              clear t
              go_wp2_with fail
              refine (within_calls c.root 0 255 w2).mono ?_
              rintro e w3 ⟨rfl, rfl⟩
              have hq : (decide (0 ≤ c.root) && decide (c.root ≤ 255)) = q := by
                rw [← HQ.out, ← Bool.decide_and]
                exact decide_eq_decide.2 ⟨fun h => ⟨HG.out, HF.out, H1.out, HP.out, T.out.1, T.out.2, TA.out.1, TA.out.2, h.1, h.2⟩, fun h => ⟨h.r1, h.r2⟩⟩
              rw [hq]
              clear hq
              go_wp2_with fail
              go_ret
              exact ⟨rfl, hB3⟩
            · have hb : (decide (1 ≤ c.asids) && decide (c.asids ≤ 8)) = false := by rw [← Bool.decide_and]; exact decide_eq_false t
              have hq : q = false := by rw [← HQ.out]; exact decide_eq_false fun h => t ⟨h.a1, h.a2⟩
              subst hq
              rw [hb]
              clear t hb
              go_wp2_with fail
              go_ret
              exact ⟨rfl, hB3⟩
          · have hb : (decide (1 ≤ c.tlb) && decide (c.tlb ≤ 64)) = false := by rw [← Bool.decide_and]; exact decide_eq_false t
            have hq : q = false := by rw [← HQ.out]; exact decide_eq_false fun h => t ⟨h.t1, h.t2⟩
            subst hq
            rw [hb]
            clear t hb
            go_wp2_with fail
            go_ret
            exact ⟨rfl, hB3⟩
        · have hq : q = false := by rw [← HQ.out]; exact decide_eq_false fun h => hp h.p
          subst hq
          rw [decide_eq_false hp]
          clear hp
          go_wp2_with fail
          go_ret
          exact ⟨rfl, hB3⟩
      · have e1 : decide (c.host < c.first + c.many) = true := decide_eq_true (by omega)
        have hq : q = false := by rw [← HQ.out]; exact decide_eq_false fun h => h1 h.h
        subst hq
        clear h1 f2 f3 f4
        go_wp2_with fail
        go_ret
        exact ⟨rfl, hB3⟩
    · have hB3 := hB2.trans hB3
      have hq : q = false := by rw [← HQ.out]; exact decide_eq_false fun h => hf h.f
      subst hq
      clear hf c0 c2 c3 hH2 hB2
      go_wp2_with fail
      go_ret
      exact ⟨rfl, hB3⟩

set_option maxHeartbeats 1000000 in
theorem owner_calls (c : ConfS) (f : Int) (w : World) (hs : Src w c.a c.l) (h0 : 0 ≤ c.first) (hf0 : 0 ≤ f) (hf1 : f ≤ 256) :
    Calls Try.prog 33 #[.agg (confC c).toArray, .int .i64 f] w fun e w' => e = .returned (.int .i64 (ownI c.l c.first c.many f)) ∧ Below w.heap.size w w' := by
  have hH0 : Has w w.heap.size [] := Has.nil (Nat.le_refl _)
  have hH1 := hH0.newblk w.heap.size 24 (confC c).toArray rfl
  have hB1 := below_new (Below.refl _ w) hH0 (.cells (confC c).toArray 24)
  have CC := hid (Contains_calls c.a c.cap c.l f _ (hs.later hB1))
  have c1 := hH1.cell [] _ 1 (v := .slice c.a c.l.length c.cap) rfl
  have c2 := hH1.cell [] _ 2 (v := .int .i64 c.first) rfl
  have c3 := hH1.cell [] _ 3 (v := .int .i64 c.many) rfl
  clear hs hH0 hH1
  obtain ⟨oi, ho⟩ : ∃ oi, ownI c.l c.first c.many f = oi := ⟨_, rfl⟩
  rw [ho]
  have HO := hid ho
  clear ho
  go_enter Try.func33, Try.ntmps33
  go_wp2_with fail
  refine CC.out.mono ?_
  rintro e w1 ⟨rfl, rfl⟩
  clear CC
  by_cases hm : f ∈ c.l
  · obtain rfl : oi = 1 := by rw [← HO.out]; unfold ownI; rw [if_pos hm]
    rw [decide_eq_true hm]
    clear hm
    go_wp2_with fail
    go_ret
    exact ⟨rfl, hB1⟩
  · rw [decide_eq_false hm]
    by_cases h1 : c.first ≤ f
    · have e1 : decide (c.first ≤ f) = true := decide_eq_true h1
      by_cases h2 : f - c.first < c.many
      · have e2 : decide (f - c.first < c.many) = true := decide_eq_true h2
        obtain rfl : oi = 2 := by rw [← HO.out]; unfold ownI; rw [if_neg hm, if_pos ⟨h1, h2⟩]
        clear hm
        go_wp2_with fail
        go_ret
        exact ⟨rfl, hB1⟩
      · have e2 : decide (f - c.first < c.many) = false := decide_eq_false h2
        obtain rfl : oi = 0 := by rw [← HO.out]; unfold ownI; rw [if_neg hm, if_neg (fun h => h2 h.2)]
        clear hm
        go_wp2_with fail
        go_ret
        exact ⟨rfl, hB1⟩
    · have e1 : decide (c.first ≤ f) = false := decide_eq_false h1
      obtain rfl : oi = 0 := by rw [← HO.out]; unfold ownI; rw [if_neg hm, if_neg (fun h => h1 h.1)]
      clear hm
      go_wp2_with fail
      go_ret
      exact ⟨rfl, hB1⟩

end Go.Proofs.Ytkgijfodjmkhgaa
