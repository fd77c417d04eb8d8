/-
  Package store: a page, a slot, whose key it is, and what is told of them.
-/
import Derived.Test.YteeapkndappnoaaStoB
import Derived.Shelf.Abstract
namespace Go.Proofs.Yteeapkndappnoaa
open Go.RowKit Go.Shelf
set_option linter.unusedVariables false
set_option linter.unusedSimpArgs false

theorem below_drewNS {w w' : World} {B : Nat} (h : Below B w w') (n : Nat) : Below B w (w'.drewN n) := h.trans ⟨rfl, rfl, rfl, Nat.le_refl _, fun _ _ => rfl⟩
theorem IdxP.find {f : Int} {q : List (Nat × PageS)} {r : Int} (h : IdxP f q r) : (r = -1 ∧ q.find? (fun x => x.2.f == f) = none) ∨ ∃ (k : Nat) (x : Nat × PageS), r = (k : Int) ∧ k < q.length ∧ q[k]? = some x ∧ q.find? (fun x => x.2.f == f) = some x := by
  rcases h with ⟨rfl, h⟩ | ⟨k, x, rfl, hx, hf, hb⟩
  · exact .inl ⟨rfl, by rw [List.find?_eq_none]; intro x hx; simpa using h x hx⟩
  · obtain ⟨h1, h2⟩ := List.getElem?_eq_some_iff.1 hx
    refine .inr ⟨k, x, rfl, h1, hx, ?_⟩
    rw [List.find?_eq_some_iff_getElem]
    refine ⟨by simpa using hf, k, h1, h2, fun j hj => ?_⟩
    have := hb j (q[j]'(by omega)) hj (List.getElem?_eq_getElem (by omega))
    simpa using this
theorem find_page (q : List (Nat × PageS)) (f : Int) : pageAt (q.map Prod.snd) f = (q.find? fun x => x.2.f == f).map Prod.snd := by
  unfold pageAt
  rw [List.find?_map]
  rfl

/-- A store, opened. -/
def stoX (sb hb fb : Nat) (v : Value) (first many : Int) (F : List Int) (q : List (Nat × PageS)) (X : List Asr) : List Asr := blk sb 88 #[ptrV hb, ptrV fb, v] :: row 91 1 v q.length (ptrs q) :: FreeA fb first many F :: (pgs q ++ X)

set_option maxHeartbeats 400000 in
theorem page_calls (sb hb fb : Nat) (v : Value) (first many : Int) (F : List Int) (q : List (Nat × PageS)) (f : Int) (o : Option (Nat × PageS)) (ho : q.find? (fun x => x.2.f == f) = o) (hq : q.length ≤ 256) (w : World) (B : Nat) (X : List Asr) (hH : Has w B (stoX sb hb fb v first many F q X)) :
    Calls Try.prog 50 #[.pointer (some ⟨sb, 0, none⟩), .int .i64 f] w fun e w' => e = .returned (.pointer (o.map fun x => ⟨x.1, 0, none⟩)) ∧ Has w' B (stoX sb hb fb v first many F q X) ∧ Below B w w' := by
  unfold stoX at hH ⊢
  have c2 := hH.cell [] _ 2 (v := v) rfl
  have hN := hH.newblk w.heap.size 3 #[.int .i64 f] rfl
  have bN := below_new (Below.refl B w) hH (.cells #[.int .i64 f] 3)
  have n2 := hN.cell [_] _ 2 (v := v) rfl
  have nb := hN.cell [] _ 0 (v := .int .i64 f) rfl
  have hR := PgR.of hN.drop
  have CI := hid (PIndexK 76 (enters_of Try.func76 (by kernel_rfl) rfl) w.heap.size f v q _ hR hq nb (fun pb pf w1 c0 c1 => pageK pb _ pf f w1 c0 c1))
  obtain ⟨ao, cap, rfl, hg⟩ := hR.prow
  have HG := hid hg
  have HO := hid ho
  have HQ := hid hq
  clear hR ho nb hg
  go_enter Try.func50, Try.ntmps50
  go_wp2_with fail
  refine CI.out.mono ?_
  rintro e w2 ⟨r, rfl, hr, m, rfl⟩
  have hD := (hN.drewN m).drop
  have bD := below_drewNS bN m
  have d2 := hD.cell [] _ 2 (v := .slice ao q.length cap) rfl
  rcases hr.find with ⟨rfl, hn⟩ | ⟨k, x, rfl, hk, hx, hf⟩
  · rw [HO.out] at hn
    subst hn
    go_wp2_with fail
    go_ret
    exact ⟨rfl, hD, bD⟩
  · rw [HO.out] at hf
    subst hf
    obtain ⟨g, rfl, hrow⟩ := HG.out (by omega)
    have cr := hrow k x hx
    have HX := hid hx
    clear hx hrow
    go_wp2_with fail
    go_ret
    exact ⟨rfl, hD, bD⟩

/-- A slot's address. -/
def slotP (o : Option (Nat × PageS)) (i : Int) : Option Addr := match o with | some x => if 0 ≤ i ∧ i < 8 then some ⟨x.1, 4 + i.toNat * 5, none⟩ else none | none => none

set_option maxHeartbeats 400000 in
theorem slot_calls (sb hb fb : Nat) (v : Value) (first many : Int) (F : List Int) (q : List (Nat × PageS)) (f i : Int) (o : Option (Nat × PageS)) (ho : q.find? (fun x => x.2.f == f) = o) (hq : q.length ≤ 256) (w : World) (B : Nat) (X : List Asr) (hH : Has w B (stoX sb hb fb v first many F q X)) :
    Calls Try.prog 51 #[.pointer (some ⟨sb, 0, none⟩), .int .i64 f, .int .i64 i] w fun e w' => e = .returned (.pointer (slotP o i)) ∧ Has w' B (stoX sb hb fb v first many F q X) ∧ Below B w w' := by
  have CP := hid (page_calls sb hb fb v first many F q f o ho hq w B X hH)
  clear ho
  unfold slotP
  cases o with
  | none =>
    go_enter Try.func51, Try.ntmps51
    go_wp2_with fail
    refine CP.out.mono ?_
    rintro e w2 ⟨rfl, hH2, hB2⟩
    clear CP hH
    go_wp2_with fail
    go_ret
    exact ⟨rfl, hH2, hB2⟩
  | some x =>
    dsimp only
    by_cases h1 : i < 0
    · have e1 : decide (i < 0) = true := decide_eq_true h1
      rw [if_neg (by omega)]
      go_enter Try.func51, Try.ntmps51
      go_wp2_with fail
      refine CP.out.mono ?_
      rintro e w2 ⟨rfl, hH2, hB2⟩
      clear CP hH
      go_wp2_with fail
      go_ret
      exact ⟨rfl, hH2, hB2⟩
    · have e1 : decide (i < 0) = false := decide_eq_false h1
      by_cases h2 : 8 ≤ i
      · have e2 : decide (8 ≤ i) = true := decide_eq_true h2
        rw [if_neg (by omega)]
        go_enter Try.func51, Try.ntmps51
        go_wp2_with fail
        refine CP.out.mono ?_
        rintro e w2 ⟨rfl, hH2, hB2⟩
        clear CP hH
        go_wp2_with fail
        go_ret
        exact ⟨rfl, hH2, hB2⟩
      · have e2 : decide (8 ≤ i) = false := decide_eq_false h2
        rw [if_pos (by omega)]
        obtain ⟨n, rfl⟩ : ∃ n : Nat, i = (n : Int) := ⟨i.toNat, by omega⟩
        have n8 : n < 8 := by omega
        have n8' : (n : Int) < 8 := by omega
        have e3 : (n : Int).toNat = n := rfl
        clear h1 h2
        go_enter Try.func51, Try.ntmps51
        go_wp2_with fail
        refine CP.out.mono ?_
        rintro e w2 ⟨rfl, hH2, hB2⟩
        clear CP hH
        go_wp2_with fail
        go_ret
        exact ⟨rfl, hH2, hB2⟩

theorem stoX_in {sb hb fb : Nat} {v : Value} {first many : Int} {F : List Int} {q : List (Nat × PageS)} {w : World} {B : Nat} {A : Asr} {X : List Asr} (h : Has w B (A :: stoX sb hb fb v first many F q X)) : Has w B (stoX sb hb fb v first many F q (A :: X)) :=
  h.perm (List.perm_middle (l₁ := blk sb 88 #[ptrV hb, ptrV fb, v] :: row 91 1 v q.length (ptrs q) :: FreeA fb first many F :: pgs q) (l₂ := X)).symm
theorem stoX_out {sb hb fb : Nat} {v : Value} {first many : Int} {F : List Int} {q : List (Nat × PageS)} {w : World} {B : Nat} {A : Asr} {X : List Asr} (h : Has w B (stoX sb hb fb v first many F q (A :: X))) : Has w B (A :: stoX sb hb fb v first many F q X) :=
  h.perm (List.perm_middle (l₁ := blk sb 88 #[ptrV hb, ptrV fb, v] :: row 91 1 v q.length (ptrs q) :: FreeA fb first many F :: pgs q) (l₂ := X))
theorem StoA.openX {sb hb n : Nat} {first many : Int} {F : List Int} {ps : List PageS} {w : World} {B : Nat} {X : List Asr} (hH : Has w B (StoA sb hb n first many F ps :: X)) :
    StoP n first many F ps ∧ ∃ (fb : Nat) (v : Value) (q : List (Nat × PageS)), q.map Prod.snd = ps ∧ q.length ≤ 256 ∧ Has w B (stoX sb hb fb v first many F q X) := by
  obtain ⟨h1, fb, v, q, h2, h3⟩ := StoA.open hH
  exact ⟨h1, fb, v, q, h2, by rw [← List.length_map (f := Prod.snd), h2]; exact h1.len, h3⟩
theorem stoX_R {sb hb fb : Nat} {v : Value} {first many : Int} {F : List Int} {q : List (Nat × PageS)} {w : World} {B : Nat} {X : List Asr} (h : Has w B (stoX sb hb fb v first many F q X)) : PgR w v q := PgR.of h
theorem pg_key {w : World} {v : Value} {q : List (Nat × PageS)} (h : PgR w v q) {j : Nat} {x : Nat × PageS} (hx : q[j]? = some x) : ∀ i u, (keyL x.2.k)[i]? = some u → w.cell? ((⟨x.1, 1, none⟩ : Addr).add i) = some u := by
  intro i u hu
  have e : (⟨x.1, 1, none⟩ : Addr).add i = ⟨x.1, 1 + i, none⟩ := by unfold Addr.add; split <;> simp_all
  rw [e]
  have hi : i < 3 := by have := (List.getElem?_eq_some_iff.1 hu).1; simpa [keyL] using this
  refine h.page hx ?_
  match i, hi with
  | 0, _ => exact hu
  | 1, _ => exact hu
  | 2, _ => exact hu
theorem pg_slot {w : World} {v : Value} {q : List (Nat × PageS)} (h : PgR w v q) {j : Nat} {x : Nat × PageS} (hx : q[j]? = some x) {k : Nat} {y : SlotS} (hy : x.2.s[k]? = some y) : ∀ i u, (slotL y)[i]? = some u → w.cell? ((⟨x.1, 4 + k * 5, none⟩ : Addr).add i) = some u := by
  intro i u hu
  have e : (⟨x.1, 4 + k * 5, none⟩ : Addr).add i = ⟨x.1, 4 + k * 5 + i, none⟩ := by unfold Addr.add; split <;> simp_all
  rw [e]
  exact h.page hx (pageC_slot hy hu)

theorem results_cell_tmp {P : Program} {fn : Func} {p t : Tmp} {ty : TypeId} (h : fn.results = #[.cell p ty, .tmp t]) (tmps : Array Value) (w : World) (g : Nat) (ty' : TypeId) (cs : Array Value) (fr : Nat × Nat) (d : TypeDesc)
    (hp : tmps.getD p undef = .pointer (some ⟨g, 0, none⟩)) (hg : w.heap[g]? = some (.cells cs ty' fr))
    (hu : P.underlying ty = some d) (hd : (match d with | .struct _ | .array _ _ => true | _ => false) = true) (hi : (P.info? ty).map (·.size) = some cs.size) :
    (results fn tmps).run P w = .ok (.tuple #[.agg cs, tmps.getD t undef]) w := by
  have hp' : tmps[p]?.getD undef = .pointer (some ⟨g, 0, none⟩) := by simpa using hp
  simp [results, h, hp', asAddr, run_loadVar_row w g ty' ty cs fr d hg hu hd hi]
theorem zeroKey (w : World) : (zeroValue 31).run Try.prog w = .ok (.agg (keyC keyZ)) w := by kernel_rfl
theorem zeroSlot (w : World) : (zeroValue 42).run Try.prog w = .ok (.agg (slotC slotZ)) w := by kernel_rfl
theorem key_one (k : KeyS) : ∀ u ∈ (keyL k).toArray.toList, u.oneCell' = true := by simp [keyL, Value.oneCell']
theorem slot_one (k : SlotS) : ∀ u ∈ (slotL k).toArray.toList, u.oneCell' = true := by simp [slotL, Value.oneCell']

set_option maxHeartbeats 400000 in
theorem Key_calls (sb hb n : Nat) (first many : Int) (F : List Int) (ps : List PageS) (f : Int) (w : World) (B : Nat) (X : List Asr) (hH : Has w B (StoA sb hb n first many F ps :: X)) :
    Calls Try.prog 15 #[.pointer (some ⟨sb, 0, none⟩), .int .i64 f] w fun e w' => e = .returned (.tuple #[.agg (keyC (keyAt ps f)), .bool (pageAt ps f).isSome]) ∧ Has w' B (StoA sb hb n first many F ps :: X) ∧ Below B w w' := by
  obtain ⟨hP, fb, v, q, rfl, hl, hO⟩ := StoA.openX hH
  have hN := stoX_in (hO.newblk w.heap.size 31 (keyC keyZ) rfl)
  have bN := below_new (Below.refl B w) hO (.cells (keyC keyZ) 31)
  obtain ⟨o, ho⟩ : ∃ o, q.find? (fun x => x.2.f == f) = o := ⟨_, rfl⟩
  have CP := hid (page_calls sb hb fb v first many F q f o ho hl _ B _ hN)
  have hfp := find_page q f
  rw [ho] at hfp
  have HP := hid hP
  have HF := hid hfp
  have HO := hid ho
  have zk := zeroKey
  clear hP hfp ho hH
  go_enter Try.func15, Try.ntmps15
  go_wp2_with fail
  refine CP.out.mono ?_
  rintro e w2 ⟨rfl, hH2, hB2⟩
  have hH2 := stoX_out hH2
  have hB2 := bN.trans hB2
  clear CP hN bN hO
  cases o with
  | none =>
    go_wp2_with (refine wpList_store_all [] _ hH2 31 (.tmp 4) (.tmp 12) rfl rfl rfl (keyL keyZ).toArray rfl key_size rfl (key_one _) ?_; intro w3 hH3 hB3 hz3)
    refine bodyPost_ret (results_cell_tmp (fn := Try.f15) rfl _ w3 w.heap.size 31 _ (0, 0) _ rfl (hH3.blk_at [] _).1 Try.underlying31 rfl key_size) rfl ⟨?_, StoA.shut fb v q HP.out hH3.drop, hB2.trans hB3⟩
    unfold keyAt
    rw [HF.out]
    rfl
  | some x =>
    have hx : x ∈ q := List.mem_of_find?_eq_some HO.out
    obtain ⟨j, hj⟩ := List.mem_iff_getElem?.1 hx
    have KC := hid (pg_key (stoX_R hH2.drop) hj)
    clear hx hj
    go_wp2_with (first
      | (refine wpList_load_at 31 (.tmp 15) rfl rfl ⟨x.1, 1, none⟩ rfl _ (keyL x.2.k) KC.out Try.underlying31 rfl key_size ?_)
      | (refine wpList_store_all [] _ hH2 31 (.tmp 4) (.tmp 16) rfl rfl rfl (keyL x.2.k).toArray rfl key_size rfl (key_one _) ?_; intro w3 hH3 hB3 hz3))
    refine bodyPost_ret (results_cell_tmp (fn := Try.f15) rfl _ w3 w.heap.size 31 _ (0, 0) _ rfl (hH3.blk_at [] _).1 Try.underlying31 rfl key_size) rfl ⟨?_, StoA.shut fb v q HP.out hH3.drop, hB2.trans hB3⟩
    unfold keyAt
    rw [HF.out]
    rfl

end Go.Proofs.Yteeapkndappnoaa
