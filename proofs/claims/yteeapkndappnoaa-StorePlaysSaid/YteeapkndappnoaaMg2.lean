/-
  Texts of this proof, merged in their order: StoB, StoC, StoD, Reg, StoE, StoF, Pick, StoG, Pte, PteB, StoH, StoI, StoJ.
-/
import Derived.Test.YteeapkndappnoaaMg1
import Derived.Deep.LoopGhost
import Derived.Deep.RegionHeld3
import Derived.Shelf.Abstract
import Derived.Deep.RegionLaw
import Derived.Deep.RegionLawGrows
import Derived.RangeFuncNested
import Derived.RangeFuncBound
import Derived.RangeFuncCalls
import Derived.RangeFuncLeaves
import Derived.RangeFuncBox
import Derived.Shelf.RegionOpen
import Derived.WalkKit
import Derived.OwnWalkIn
import Derived.TacticsInMore
import Derived.LoopNIn
import Derived.LoopIn
import Derived.Scope
import Derived.Maps.AppendAt
import Derived.Deep.RegionWith
import Derived.Test.YteeapkndappnoaaRows
import Derived.StillTailTactics
/-
  Package store: a page, a slot, whose key it is, and what is told of them.
-/
namespace Go.Proofs.Yteeapkndappnoaa
open Go.RowKit
set_option linter.unusedVariables false
set_option linter.unusedSimpArgs false

/-! ### alike -/
theorem keyS_eql (g h : KeyS) (w : World) : Sem.run Try.prog (binOp .eql 31 (.agg (keyC g)) (.agg (keyC h))) w = .ok (.bool (decide (g = h))) w := by
  have hu := Try.underlying31
  have hi := Try.underlying3
  have si : (Try.prog.info? 3).map (fun i => i.size) = some 1 := by kernel_rfl
  rw [run_eql_struct, run_equalIn_struct w 9999 31 _ _ (by rw [hu]; kernel_rfl) (by kernel_rfl)]
  have hf : Try.prog.fieldsOf 31 = #[⟨"G", 3, 0, false, "", "", 0⟩, ⟨"Level", 3, 1, false, "", "", 8⟩, ⟨"Role", 3, 2, false, "", "", 16⟩] := by
    rw [Program.fieldsOf, hu]
  rw [hf]
  obtain ⟨a, b, c⟩ := g
  obtain ⟨a', b', c'⟩ := h
  simp [Op.eqFields, keyC, go_sem, part]
  (repeat' split) <;> simp_all
theorem at_eql (a b c d : Int) (w : World) : Sem.run Try.prog (binOp .eql 46 (.agg #[.int .i64 a, .int .i64 b]) (.agg #[.int .i64 c, .int .i64 d])) w = .ok (.bool (decide (a = c ∧ b = d))) w := by
  have hu := Try.underlying46
  have hi := Try.underlying3
  have si : (Try.prog.info? 3).map (fun i => i.size) = some 1 := by kernel_rfl
  rw [run_eql_struct, run_equalIn_struct w 9999 46 _ _ (by rw [hu]; kernel_rfl) (by kernel_rfl)]
  have hf : Try.prog.fieldsOf 46 = #[⟨"G", 3, 0, false, "", "", 0⟩, ⟨"I", 3, 1, false, "", "", 8⟩] := by
    rw [Program.fieldsOf, hu]
  rw [hf]
  simp [Op.eqFields, go_sem, part]
  (repeat' split) <;> simp_all
theorem rightS_eql (d : Nat) (a b c x y z : Bool) (w : World) : (Op.equalIn (d + 2) 33 (.agg #[.bool a, .bool b, .bool c]) (.agg #[.bool x, .bool y, .bool z])).run Try.prog w = .ok (decide (a = x ∧ b = y ∧ c = z)) w := by
  have hu := Try.underlying33
  have hb := Try.underlying4
  have sb : (Try.prog.info? 4).map (fun i => i.size) = some 1 := by kernel_rfl
  rw [run_equalIn_struct w (d + 1) 33 _ _ (by rw [hu]; kernel_rfl) (by kernel_rfl)]
  have hf : Try.prog.fieldsOf 33 = #[⟨"W", 4, 0, false, "", "", 0⟩, ⟨"U", 4, 1, false, "", "", 1⟩, ⟨"X", 4, 2, false, "", "", 2⟩] := by
    rw [Program.fieldsOf, hu]
  rw [hf]
  simp [Op.eqFields, go_sem, part]
  (repeat' split) <;> simp_all
theorem slotS_eql (g h : SlotS) (w : World) : Sem.run Try.prog (binOp .eql 42 (.agg (slotC g)) (.agg (slotC h))) w = .ok (.bool (decide (g = h))) w := by
  have hu := Try.underlying42
  have hb := Try.underlying4
  have hi := Try.underlying3
  have hr := Try.underlying33
  have sb : (Try.prog.info? 4).map (fun i => i.size) = some 1 := by kernel_rfl
  have si : (Try.prog.info? 3).map (fun i => i.size) = some 1 := by kernel_rfl
  have sr : (Try.prog.info? 33).map (fun i => i.size) = some 3 := by kernel_rfl
  have hre := fun (a b c x y z : Bool) (w : World) => rightS_eql 9997 a b c x y z w
  rw [run_eql_struct, run_equalIn_struct w 9999 42 _ _ (by rw [hu]; kernel_rfl) (by kernel_rfl)]
  have hf : Try.prog.fieldsOf 42 = #[⟨"Kind", 3, 0, false, "", "", 0⟩, ⟨"To", 3, 1, false, "", "", 8⟩, ⟨"Right", 33, 2, false, "", "", 16⟩] := by
    rw [Program.fieldsOf, hu]
  rw [hf]
  obtain ⟨a, p, wr, u, x⟩ := g
  obtain ⟨a', p', wr', u', x'⟩ := h
  simp [Op.eqFields, slotC, go_sem, part, hre]
  (repeat' split) <;> simp_all
theorem slotS_neq (g h : SlotS) (w : World) : Sem.run Try.prog (binOp .neq 42 (.agg (slotC g)) (.agg (slotC h))) w = .ok (.bool (!decide (g = h))) w := by
  have h' := slotS_eql g h w
  rw [run_eql_struct] at h'
  simp only [binOp, Sem.run_bind, Op.equal, Op.maxDepth]
  revert h'
  generalize (Op.equalIn 10000 42 (.agg (slotC g)) (.agg (slotC h))).run Try.prog w = r
  cases r with
  | ok b w' => intro h; simp at h ⊢; simp [h]
  | halt x w' => intro h; simp [Result.andThen] at h
theorem keyS_neq (g h : KeyS) (w : World) : Sem.run Try.prog (binOp .neq 31 (.agg (keyC g)) (.agg (keyC h))) w = .ok (.bool (!decide (g = h))) w := by
  have h' := keyS_eql g h w
  rw [run_eql_struct] at h'
  simp only [binOp, Sem.run_bind, Op.equal, Op.maxDepth]
  revert h'
  generalize (Op.equalIn 10000 31 (.agg (keyC g)) (.agg (keyC h))).run Try.prog w = r
  cases r with
  | ok b w' => intro h; simp at h ⊢; simp [h]
  | halt x w' => intro h; simp [Result.andThen] at h
theorem key_size : (Try.prog.info? 31).map (fun i => i.size) = some 3 := by kernel_rfl
theorem slot_size : (Try.prog.info? 42).map (fun i => i.size) = some 5 := by kernel_rfl

/-! ### a page -/
/-- The closures: is a page in a frame? -/
theorem pageK (pb bb : Nat) (pf f : Int) (w : World) (c0 : w.cell? ⟨pb, 0, none⟩ = some (.int .i64 pf)) (c1 : w.cell? ⟨bb, 0, none⟩ = some (.int .i64 f)) :
    Calls Try.prog 76 #[.pointer (some ⟨pb, 0, none⟩), .pointer (some ⟨bb, 0, none⟩)] w fun e w' => e = .returned (.bool (pf == f)) ∧ ∃ m, w' = w.drewN m := by
  go_enter Try.func76, Try.ntmps76
  go_wp2_with fail
  go_quiet (fail)
  go_wp2_with fail
  go_ret
  exact ⟨rfl, _, rfl⟩
theorem dropK (pb bb : Nat) (pf f : Int) (w : World) (c0 : w.cell? ⟨pb, 0, none⟩ = some (.int .i64 pf)) (c1 : w.cell? ⟨bb, 0, none⟩ = some (.int .i64 f)) :
    Calls Try.prog 54 #[.pointer (some ⟨pb, 0, none⟩), .pointer (some ⟨bb, 0, none⟩)] w fun e w' => e = .returned (.bool (pf == f)) ∧ ∃ m, w' = w.drewN m := by
  go_enter Try.func54, Try.ntmps54
  go_wp2_with fail
  go_quiet (fail)
  go_wp2_with fail
  go_ret
  exact ⟨rfl, _, rfl⟩

/-- Where the first page in a frame is. -/
def IdxP (f : Int) (q : List (Nat × PageS)) (r : Int) : Prop := (r = -1 ∧ ∀ x ∈ q, x.2.f ≠ f) ∨ ∃ (k : Nat) (x : Nat × PageS), r = (k : Int) ∧ q[k]? = some x ∧ x.2.f = f ∧ ∀ (j : Nat) y, j < k → q[j]? = some y → y.2.f ≠ f

theorem PIndexK (cf : Nat) (eg : ∀ args w, (callFunc cf args).run Try.prog w = .ok (.enter cf args) w) (bb : Nat) (f : Int) (v : Value) (q : List (Nat × PageS)) (w : World) (hP : PgR w v q) (hq : q.length ≤ 256) (c1 : w.cell? ⟨bb, 0, none⟩ = some (.int .i64 f))
    (hc : ∀ (pb : Nat) (pf : Int) (w : World), w.cell? ⟨pb, 0, none⟩ = some (.int .i64 pf) → w.cell? ⟨bb, 0, none⟩ = some (.int .i64 f) → Calls Try.prog cf #[.pointer (some ⟨pb, 0, none⟩), .pointer (some ⟨bb, 0, none⟩)] w fun e w' => e = .returned (.bool (pf == f)) ∧ ∃ m, w' = w.drewN m) :
    Calls Try.prog 75 #[v, .func (.func cf) #[] #[.pointer (some ⟨bb, 0, none⟩)]] w fun e w' => ∃ r, e = .returned (.int .i64 r) ∧ IdxP f q r ∧ ∃ m, w' = w.drewN m := by
  obtain ⟨ao, cap, rfl, hg⟩ := hP.prow
  have HC := hid hc
  have HG := hid hg
  have HP := hid hP
  have C1 := hid c1
  clear hc hg hP c1
  go_enter Try.func75, Try.ntmps75
  go_wp2_with fail
  go_loopg [5, 8] q.length (fun g _ i wr => ∃ k : Nat, g + k = q.length ∧ i = .int .i64 k ∧ (∃ m, wr = w.drewN m) ∧ ∀ (j : Nat) y, j < k → q[j]? = some y → y.2.f ≠ f)
  case atStart => exact ⟨0, by omega, rfl, ⟨0, rfl⟩, fun j y h => by omega⟩
  case round =>
    obtain ⟨k, hk, rfl, ⟨m, hm⟩, hall⟩ := hrel
    have HK := hid hk
    have HALL := hid hall
    have HM := hid hm
    clear hall
    by_cases hlt : k < q.length
    · obtain ⟨x, hx⟩ : ∃ x, q[k]? = some x := ⟨_, List.getElem?_eq_getElem hlt⟩
      obtain ⟨g, rfl, hrow⟩ := HG.out (by omega)
      have cr : wr.cell? ⟨g, k, none⟩ = some (.pointer (some ⟨x.1, 0, none⟩)) := by rw [hm]; exact hrow k x hx
      have cp : wr.cell? ⟨x.1, 0, none⟩ = some (.int .i64 x.2.f) := by rw [hm]; exact HP.out.page hx (i := 0) rfl
      have cb : wr.cell? ⟨bb, 0, none⟩ = some (.int .i64 f) := by rw [hm]; exact C1.out
      have CC := hid (HC.out x.1 x.2.f wr cp cb)
      have HX := hid hx
      clear hm hx cp cb hk hrow
      obtain ⟨qb, hqb⟩ : ∃ qb, (x.2.f == f) = qb := ⟨_, rfl⟩
      rw [hqb] at CC
      have HQ := hid hqb
      clear hqb
      go_wp2_with fail
      refine CC.out.mono ?_
      rintro e w2 ⟨rfl, m2, hm2⟩
      have HM2 := hid hm2
      clear hm2
      cases qb with
      | true =>
        go_wp2_with fail
        go_ret
        exact ⟨(k : Int), rfl, .inr ⟨k, x, rfl, HX.out, by have := HQ.out; simpa using this, HALL.out⟩, m + m2, by rw [HM2.out, HM.out, World.drewN_drewN]⟩
      | false =>
        go_wp2_with fail
        go_roundg (gk - 1)
        case measure => have := HK.out; omega
        case rel => exact ⟨k + 1, by have := HK.out; omega, by go_num, ⟨m + m2, by rw [HM2.out, HM.out, World.drewN_drewN]⟩, fun j y hj hy => by
            by_cases e : j = k
            · subst e
              have h1 := HX.out
              rw [h1] at hy
              injection hy with hy
              rw [← hy]
              have := HQ.out
              simpa using this
            · exact HALL.out j y (by omega) hy⟩
    · obtain rfl : k = q.length := by omega
      go_wp2_with fail
      go_ret
      exact ⟨-1, rfl, .inl ⟨rfl, fun x hm => by
        obtain ⟨j, hj⟩ := List.mem_iff_getElem?.1 hm
        exact HALL.out j x (List.getElem?_eq_some_iff.1 hj).1 hj⟩, m, by first | exact HM.out | rfl⟩

end Go.Proofs.Yteeapkndappnoaa

/-
  Package store: a page, a slot, whose key it is, and what is told of them.
-/
namespace Go.Proofs.Yteeapkndappnoaa
open Go.RowKit Go.Shelf
set_option linter.unusedVariables false
set_option linter.unusedSimpArgs false

theorem below_drewNS {w w' : World} {B : Nat} (h : Below B w w') (n : Nat) : Below B w (w'.drewN n) := h.trans ⟨rfl, rfl, rfl, Nat.le_refl _, fun _ _ => rfl⟩
theorem IdxP.find {f : Int} {q : List (Nat × PageS)} {r : Int} (h : IdxP f q r) : (r = -1 ∧ q.find? (fun x => x.2.f == f) = none) ∨ ∃ (k : Nat) (x : Nat × PageS), r = (k : Int) ∧ k < q.length ∧ q[k]? = some x ∧ q.find? (fun x => x.2.f == f) = some x := by
  rcases h with ⟨rfl, h⟩ | ⟨k, x, rfl, hx, hf, hb⟩
  · exact .inl ⟨rfl, by rw [List.find?_eq_none]; intro x hx; simpa using h x hx⟩
  · obtain ⟨h1, h2⟩ := List.getElem?_eq_some_iff.1 hx
    refine .inr ⟨k, x, rfl, h1, hx, ?_⟩
    rw [List.find?_eq_some_iff_getElem]
    refine ⟨by simpa using hf, k, h1, h2, fun j hj => ?_⟩
    have := hb j (q[j]'(by omega)) hj (List.getElem?_eq_getElem (by omega))
    simpa using this
theorem find_page (q : List (Nat × PageS)) (f : Int) : pageAt (q.map Prod.snd) f = (q.find? fun x => x.2.f == f).map Prod.snd := by
  unfold pageAt
  rw [List.find?_map]
  rfl

/-- A store, opened. -/
def stoX (sb hb fb : Nat) (v : Value) (first many : Int) (F : List Int) (q : List (Nat × PageS)) (X : List Asr) : List Asr := blk sb 88 #[ptrV hb, ptrV fb, v] :: row 91 1 v q.length (ptrs q) :: FreeA fb first many F :: (pgs q ++ X)

set_option maxHeartbeats 400000 in
theorem page_calls (sb hb fb : Nat) (v : Value) (first many : Int) (F : List Int) (q : List (Nat × PageS)) (f : Int) (o : Option (Nat × PageS)) (ho : q.find? (fun x => x.2.f == f) = o) (hq : q.length ≤ 256) (w : World) (B : Nat) (X : List Asr) (hH : Has w B (stoX sb hb fb v first many F q X)) :
    Calls Try.prog 50 #[.pointer (some ⟨sb, 0, none⟩), .int .i64 f] w fun e w' => e = .returned (.pointer (o.map fun x => ⟨x.1, 0, none⟩)) ∧ Has w' B (stoX sb hb fb v first many F q X) ∧ Below B w w' := by
  unfold stoX at hH ⊢
  have c2 := hH.cell [] _ 2 (v := v) rfl
  have hN := hH.newblk w.heap.size 3 #[.int .i64 f] rfl
  have bN := below_new (Below.refl B w) hH (.cells #[.int .i64 f] 3)
  have n2 := hN.cell [_] _ 2 (v := v) rfl
  have nb := hN.cell [] _ 0 (v := .int .i64 f) rfl
  have hR := PgR.of hN.drop
  have CI := hid (PIndexK 76 (enters_of Try.func76 (by kernel_rfl) rfl) w.heap.size f v q _ hR hq nb (fun pb pf w1 c0 c1 => pageK pb _ pf f w1 c0 c1))
  obtain ⟨ao, cap, rfl, hg⟩ := hR.prow
  have HG := hid hg
  have HO := hid ho
  have HQ := hid hq
  clear hR ho nb hg
  go_enter Try.func50, Try.ntmps50
  go_wp2_with fail
  refine CI.out.mono ?_
  rintro e w2 ⟨r, rfl, hr, m, rfl⟩
  have hD := (hN.drewN m).drop
  have bD := below_drewNS bN m
  have d2 := hD.cell [] _ 2 (v := .slice ao q.length cap) rfl
  rcases hr.find with ⟨rfl, hn⟩ | ⟨k, x, rfl, hk, hx, hf⟩
  · rw [HO.out] at hn
    subst hn
    go_wp2_with fail
    go_ret
    exact ⟨rfl, hD, bD⟩
  · rw [HO.out] at hf
    subst hf
    obtain ⟨g, rfl, hrow⟩ := HG.out (by omega)
    have cr := hrow k x hx
    have HX := hid hx
    clear hx hrow
    go_wp2_with fail
    go_ret
    exact ⟨rfl, hD, bD⟩

/-- A slot's address. -/
def slotP (o : Option (Nat × PageS)) (i : Int) : Option Addr := match o with | some x => if 0 ≤ i ∧ i < 8 then some ⟨x.1, 4 + i.toNat * 5, none⟩ else none | none => none

set_option maxHeartbeats 400000 in
theorem slot_calls (sb hb fb : Nat) (v : Value) (first many : Int) (F : List Int) (q : List (Nat × PageS)) (f i : Int) (o : Option (Nat × PageS)) (ho : q.find? (fun x => x.2.f == f) = o) (hq : q.length ≤ 256) (w : World) (B : Nat) (X : List Asr) (hH : Has w B (stoX sb hb fb v first many F q X)) :
    Calls Try.prog 51 #[.pointer (some ⟨sb, 0, none⟩), .int .i64 f, .int .i64 i] w fun e w' => e = .returned (.pointer (slotP o i)) ∧ Has w' B (stoX sb hb fb v first many F q X) ∧ Below B w w' := by
  have CP := hid (page_calls sb hb fb v first many F q f o ho hq w B X hH)
  clear ho
  unfold slotP
  cases o with
  | none =>
    go_enter Try.func51, Try.ntmps51
    go_wp2_with fail
    refine CP.out.mono ?_
    rintro e w2 ⟨rfl, hH2, hB2⟩
    clear CP hH
    go_wp2_with fail
    go_ret
    exact ⟨rfl, hH2, hB2⟩
  | some x =>
    dsimp only
    by_cases h1 : i < 0
    · have e1 : decide (i < 0) = true := decide_eq_true h1
      rw [if_neg (by omega)]
      go_enter Try.func51, Try.ntmps51
      go_wp2_with fail
      refine CP.out.mono ?_
      rintro e w2 ⟨rfl, hH2, hB2⟩
      clear CP hH
      go_wp2_with fail
      go_ret
      exact ⟨rfl, hH2, hB2⟩
    · have e1 : decide (i < 0) = false := decide_eq_false h1
      by_cases h2 : 8 ≤ i
      · have e2 : decide (8 ≤ i) = true := decide_eq_true h2
        rw [if_neg (by omega)]
        go_enter Try.func51, Try.ntmps51
        go_wp2_with fail
        refine CP.out.mono ?_
        rintro e w2 ⟨rfl, hH2, hB2⟩
        clear CP hH
        go_wp2_with fail
        go_ret
        exact ⟨rfl, hH2, hB2⟩
      · have e2 : decide (8 ≤ i) = false := decide_eq_false h2
        rw [if_pos (by omega)]
        obtain ⟨n, rfl⟩ : ∃ n : Nat, i = (n : Int) := ⟨i.toNat, by omega⟩
        have n8 : n < 8 := by omega
        have n8' : (n : Int) < 8 := by omega
        have e3 : (n : Int).toNat = n := rfl
        clear h1 h2
        go_enter Try.func51, Try.ntmps51
        go_wp2_with fail
        refine CP.out.mono ?_
        rintro e w2 ⟨rfl, hH2, hB2⟩
        clear CP hH
        go_wp2_with fail
        go_ret
        exact ⟨rfl, hH2, hB2⟩

theorem stoX_in {sb hb fb : Nat} {v : Value} {first many : Int} {F : List Int} {q : List (Nat × PageS)} {w : World} {B : Nat} {A : Asr} {X : List Asr} (h : Has w B (A :: stoX sb hb fb v first many F q X)) : Has w B (stoX sb hb fb v first many F q (A :: X)) :=
  h.perm (List.perm_middle (l₁ := blk sb 88 #[ptrV hb, ptrV fb, v] :: row 91 1 v q.length (ptrs q) :: FreeA fb first many F :: pgs q) (l₂ := X)).symm
theorem stoX_out {sb hb fb : Nat} {v : Value} {first many : Int} {F : List Int} {q : List (Nat × PageS)} {w : World} {B : Nat} {A : Asr} {X : List Asr} (h : Has w B (stoX sb hb fb v first many F q (A :: X))) : Has w B (A :: stoX sb hb fb v first many F q X) :=
  h.perm (List.perm_middle (l₁ := blk sb 88 #[ptrV hb, ptrV fb, v] :: row 91 1 v q.length (ptrs q) :: FreeA fb first many F :: pgs q) (l₂ := X))
theorem StoA.openX {sb hb n : Nat} {first many : Int} {F : List Int} {ps : List PageS} {w : World} {B : Nat} {X : List Asr} (hH : Has w B (StoA sb hb n first many F ps :: X)) :
    StoP n first many F ps ∧ ∃ (fb : Nat) (v : Value) (q : List (Nat × PageS)), q.map Prod.snd = ps ∧ q.length ≤ 256 ∧ Has w B (stoX sb hb fb v first many F q X) := by
  obtain ⟨h1, fb, v, q, h2, h3⟩ := StoA.open hH
  exact ⟨h1, fb, v, q, h2, by rw [← List.length_map (f := Prod.snd), h2]; exact h1.len, h3⟩
theorem stoX_R {sb hb fb : Nat} {v : Value} {first many : Int} {F : List Int} {q : List (Nat × PageS)} {w : World} {B : Nat} {X : List Asr} (h : Has w B (stoX sb hb fb v first many F q X)) : PgR w v q := PgR.of h
theorem pg_key {w : World} {v : Value} {q : List (Nat × PageS)} (h : PgR w v q) {j : Nat} {x : Nat × PageS} (hx : q[j]? = some x) : ∀ i u, (keyL x.2.k)[i]? = some u → w.cell? ((⟨x.1, 1, none⟩ : Addr).add i) = some u := by
  intro i u hu
  have e : (⟨x.1, 1, none⟩ : Addr).add i = ⟨x.1, 1 + i, none⟩ := by unfold Addr.add; split <;> simp_all
  rw [e]
  have hi : i < 3 := by have := (List.getElem?_eq_some_iff.1 hu).1; simpa [keyL] using this
  refine h.page hx ?_
  match i, hi with
  | 0, _ => exact hu
  | 1, _ => exact hu
  | 2, _ => exact hu
theorem pg_slot {w : World} {v : Value} {q : List (Nat × PageS)} (h : PgR w v q) {j : Nat} {x : Nat × PageS} (hx : q[j]? = some x) {k : Nat} {y : SlotS} (hy : x.2.s[k]? = some y) : ∀ i u, (slotL y)[i]? = some u → w.cell? ((⟨x.1, 4 + k * 5, none⟩ : Addr).add i) = some u := by
  intro i u hu
  have e : (⟨x.1, 4 + k * 5, none⟩ : Addr).add i = ⟨x.1, 4 + k * 5 + i, none⟩ := by unfold Addr.add; split <;> simp_all
  rw [e]
  exact h.page hx (pageC_slot hy hu)

theorem results_cell_tmp {P : Program} {fn : Func} {p t : Tmp} {ty : TypeId} (h : fn.results = #[.cell p ty, .tmp t]) (tmps : Array Value) (w : World) (g : Nat) (ty' : TypeId) (cs : Array Value) (fr : Nat × Nat) (d : TypeDesc)
    (hp : tmps.getD p undef = .pointer (some ⟨g, 0, none⟩)) (hg : w.heap[g]? = some (.cells cs ty' fr))
    (hu : P.underlying ty = some d) (hd : (match d with | .struct _ | .array _ _ => true | _ => false) = true) (hi : (P.info? ty).map (·.size) = some cs.size) :
    (results fn tmps).run P w = .ok (.tuple #[.agg cs, tmps.getD t undef]) w := by
  have hp' : tmps[p]?.getD undef = .pointer (some ⟨g, 0, none⟩) := by simpa using hp
  simp [results, h, hp', asAddr, run_loadVar_row w g ty' ty cs fr d hg hu hd hi]
theorem zeroKey (w : World) : (zeroValue 31).run Try.prog w = .ok (.agg (keyC keyZ)) w := by kernel_rfl
theorem zeroSlot (w : World) : (zeroValue 42).run Try.prog w = .ok (.agg (slotC slotZ)) w := by kernel_rfl
theorem key_one (k : KeyS) : ∀ u ∈ (keyL k).toArray.toList, u.oneCell' = true := by simp [keyL, Value.oneCell']
theorem slot_one (k : SlotS) : ∀ u ∈ (slotL k).toArray.toList, u.oneCell' = true := by simp [slotL, Value.oneCell']

set_option maxHeartbeats 400000 in
theorem Key_calls (sb hb n : Nat) (first many : Int) (F : List Int) (ps : List PageS) (f : Int) (w : World) (B : Nat) (X : List Asr) (hH : Has w B (StoA sb hb n first many F ps :: X)) :
    Calls Try.prog 15 #[.pointer (some ⟨sb, 0, none⟩), .int .i64 f] w fun e w' => e = .returned (.tuple #[.agg (keyC (keyAt ps f)), .bool (pageAt ps f).isSome]) ∧ Has w' B (StoA sb hb n first many F ps :: X) ∧ Below B w w' := by
  obtain ⟨hP, fb, v, q, rfl, hl, hO⟩ := StoA.openX hH
  have hN := stoX_in (hO.newblk w.heap.size 31 (keyC keyZ) rfl)
  have bN := below_new (Below.refl B w) hO (.cells (keyC keyZ) 31)
  obtain ⟨o, ho⟩ : ∃ o, q.find? (fun x => x.2.f == f) = o := ⟨_, rfl⟩
  have CP := hid (page_calls sb hb fb v first many F q f o ho hl _ B _ hN)
  have hfp := find_page q f
  rw [ho] at hfp
  have HP := hid hP
  have HF := hid hfp
  have HO := hid ho
  have zk := zeroKey
  clear hP hfp ho hH
  go_enter Try.func15, Try.ntmps15
  go_wp2_with fail
  refine CP.out.mono ?_
  rintro e w2 ⟨rfl, hH2, hB2⟩
  have hH2 := stoX_out hH2
  have hB2 := bN.trans hB2
  clear CP hN bN hO
  cases o with
  | none =>
    go_wp2_with (refine wpList_store_all [] _ hH2 31 (.tmp 4) (.tmp 12) rfl rfl rfl (keyL keyZ).toArray rfl key_size rfl (key_one _) ?_; intro w3 hH3 hB3 hz3)
    refine bodyPost_ret (results_cell_tmp (fn := Try.f15) rfl _ w3 w.heap.size 31 _ (0, 0) _ rfl (hH3.blk_at [] _).1 Try.underlying31 rfl key_size) rfl ⟨?_, StoA.shut fb v q HP.out hH3.drop, hB2.trans hB3⟩
    unfold keyAt
    rw [HF.out]
    rfl
  | some x =>
    have hx : x ∈ q := List.mem_of_find?_eq_some HO.out
    obtain ⟨j, hj⟩ := List.mem_iff_getElem?.1 hx
    have KC := hid (pg_key (stoX_R hH2.drop) hj)
    clear hx hj
    go_wp2_with (first
      | (refine wpList_load_at 31 (.tmp 15) rfl rfl ⟨x.1, 1, none⟩ rfl _ (keyL x.2.k) KC.out Try.underlying31 rfl key_size ?_)
      | (refine wpList_store_all [] _ hH2 31 (.tmp 4) (.tmp 16) rfl rfl rfl (keyL x.2.k).toArray rfl key_size rfl (key_one _) ?_; intro w3 hH3 hB3 hz3))
    refine bodyPost_ret (results_cell_tmp (fn := Try.f15) rfl _ w3 w.heap.size 31 _ (0, 0) _ rfl (hH3.blk_at [] _).1 Try.underlying31 rfl key_size) rfl ⟨?_, StoA.shut fb v q HP.out hH3.drop, hB2.trans hB3⟩
    unfold keyAt
    rw [HF.out]
    rfl

end Go.Proofs.Yteeapkndappnoaa

/-
  Package store: slots, pages of a key, how many are free, a new one.
-/
namespace Go.Proofs.Yteeapkndappnoaa
open Go.RowKit Go.Shelf
set_option linter.unusedVariables false
set_option linter.unusedSimpArgs false

theorem find_slot {n : Nat} {first many : Int} {F : List Int} {q : List (Nat × PageS)} (hP : StoP n first many F (q.map Prod.snd)) (f i : Int) (o : Option (Nat × PageS)) (ho : q.find? (fun x => x.2.f == f) = o) :
    (slotP o i = none ∧ slotAt (q.map Prod.snd) f i = none) ∨ ∃ (x : Nat × PageS) (j k : Nat) (y : SlotS), o = some x ∧ q[j]? = some x ∧ x.2.f = f ∧ i = (k : Int) ∧ k < 8 ∧ x.2.s[k]? = some y ∧ x.2.s.length = 8 ∧ slotP o i = some ⟨x.1, 4 + k * 5, none⟩ ∧ slotAt (q.map Prod.snd) f i = some y := by
  unfold slotAt slotP
  rw [find_page, ho]
  cases o with
  | none => exact .inl ⟨rfl, rfl⟩
  | some x =>
    have hx : x ∈ q := List.mem_of_find?_eq_some ho
    have hf := List.find?_some ho
    obtain ⟨j, hj⟩ := List.mem_iff_getElem?.1 hx
    have h8 := hP.s8 x.2 (List.mem_map_of_mem hx)
    dsimp only [Option.map]
    by_cases hi : 0 ≤ i ∧ i < 8
    · obtain ⟨k, rfl⟩ : ∃ k : Nat, i = (k : Int) := ⟨i.toNat, by omega⟩
      rw [if_pos hi, if_pos hi]
      obtain ⟨y, hy⟩ : ∃ y, x.2.s[k]? = some y := ⟨_, List.getElem?_eq_getElem (by omega)⟩
      exact .inr ⟨x, j, k, y, rfl, hj, by simpa using hf, rfl, by omega, hy, h8, rfl, hy⟩
    · rw [if_neg hi, if_neg hi]
      exact .inl ⟨rfl, rfl⟩

set_option maxHeartbeats 400000 in
theorem Slot_calls (sb hb n : Nat) (first many : Int) (F : List Int) (ps : List PageS) (f i : Int) (w : World) (B : Nat) (X : List Asr) (hH : Has w B (StoA sb hb n first many F ps :: X)) :
    Calls Try.prog 16 #[.pointer (some ⟨sb, 0, none⟩), .int .i64 f, .int .i64 i] w fun e w' => e = .returned (.tuple #[.agg (slotC ((slotAt ps f i).getD slotZ)), .bool (slotAt ps f i).isSome]) ∧ Has w' B (StoA sb hb n first many F ps :: X) ∧ Below B w w' := by
  obtain ⟨hP, fb, v, q, rfl, hl, hO⟩ := StoA.openX hH
  have hN := stoX_in (hO.newblk w.heap.size 42 (slotC slotZ) rfl)
  have bN := below_new (Below.refl B w) hO (.cells (slotC slotZ) 42)
  obtain ⟨o, ho⟩ : ∃ o, q.find? (fun x => x.2.f == f) = o := ⟨_, rfl⟩
  have CP := hid (slot_calls sb hb fb v first many F q f i o ho hl _ B _ hN)
  have HP := hid hP
  have zk := zeroSlot
  rcases find_slot hP f i o ho with ⟨h1, h2⟩ | ⟨x, j, k, y, rfl, hj, hf, rfl, hk8, hy, h8, h1, h2⟩
  · rw [h1] at CP
    rw [h2]
    clear hP ho hH h1 h2
    go_enter Try.func16, Try.ntmps16
    go_wp2_with fail
    refine CP.out.mono ?_
    rintro e w2 ⟨rfl, hH2, hB2⟩
    have hH2 := stoX_out hH2
    have hB2 := bN.trans hB2
    clear CP hN bN hO
    go_wp2_with (refine wpList_store_all [] _ hH2 42 (.tmp 6) (.tmp 15) rfl rfl rfl (slotL slotZ).toArray rfl slot_size rfl (slot_one _) ?_; intro w3 hH3 hB3 hz3)
    exact bodyPost_ret (results_cell_tmp (fn := Try.f16) rfl _ w3 w.heap.size 42 _ (0, 0) _ rfl (hH3.blk_at [] _).1 Try.underlying42 rfl slot_size) rfl ⟨rfl, StoA.shut fb v q HP.out hH3.drop, hB2.trans hB3⟩
  · rw [h1] at CP
    rw [h2]
    have HJ := hid hj
    have HY := hid hy
    clear hP ho hH h1 h2 hj hy h8 hf
    go_enter Try.func16, Try.ntmps16
    go_wp2_with fail
    refine CP.out.mono ?_
    rintro e w2 ⟨rfl, hH2, hB2⟩
    have hH2 := stoX_out hH2
    have hB2 := bN.trans hB2
    have KC := hid (pg_slot (stoX_R hH2.drop) HJ.out HY.out)
    clear CP hN bN hO
    go_wp2_with (first
      | (refine wpList_load_at 42 (.tmp 17) rfl rfl ⟨x.1, 4 + k * 5, none⟩ rfl _ (slotL y) KC.out Try.underlying42 rfl slot_size ?_)
      | (refine wpList_store_all [] _ hH2 42 (.tmp 6) (.tmp 18) rfl rfl rfl (slotL y).toArray rfl slot_size rfl (slot_one _) ?_; intro w3 hH3 hB3 hz3))
    exact bodyPost_ret (results_cell_tmp (fn := Try.f16) rfl _ w3 w.heap.size 42 _ (0, 0) _ rfl (hH3.blk_at [] _).1 Try.underlying42 rfl slot_size) rfl ⟨rfl, StoA.shut fb v q HP.out hH3.drop, hB2.trans hB3⟩

def findV (o : Option PageS) : Value := .tuple #[.int .i64 (match o with | some p => p.f | none => 0), .bool o.isSome]
theorem find_key (q : List (Nat × PageS)) (k : KeyS) : findK (q.map Prod.snd) k = (q.find? fun x => decide (x.2.k = k)).map Prod.snd := by
  unfold findK
  rw [List.find?_map]
  rfl
theorem pg_keys {w : World} {v : Value} {q : List (Nat × PageS)} (h : PgR w v q) {j : Nat} {x : Nat × PageS} (hx : q[j]? = some x) :
    w.cell? ⟨x.1, 0, none⟩ = some (.int .i64 x.2.f) ∧ w.cell? ⟨x.1, 1, none⟩ = some (.int .i64 x.2.k.g) ∧ w.cell? ⟨x.1, 2, none⟩ = some (.int .i64 x.2.k.lv) ∧ w.cell? ⟨x.1, 3, none⟩ = some (.int .i64 x.2.k.ro) :=
  ⟨h.page hx rfl, h.page hx rfl, h.page hx rfl, h.page hx rfl⟩

set_option maxHeartbeats 400000 in
theorem Find_calls (sb hb n : Nat) (first many : Int) (F : List Int) (ps : List PageS) (k : KeyS) (w : World) (B : Nat) (X : List Asr) (hH : Has w B (StoA sb hb n first many F ps :: X)) :
    Calls Try.prog 22 #[.pointer (some ⟨sb, 0, none⟩), .agg (keyC k)] w fun e w' => e = .returned (findV (findK ps k)) ∧ Has w' B (StoA sb hb n first many F ps :: X) ∧ Below B w w' := by
  obtain ⟨hP, fb, v, q, rfl, hl, hO⟩ := StoA.openX hH
  have hN := hO.newblk w.heap.size 31 (keyC k) rfl
  have bN := below_new (Below.refl B w) hO (.cells (keyC k) 31)
  obtain ⟨bb, hbb⟩ : ∃ bb, w.heap.size = bb := ⟨_, rfl⟩
  obtain ⟨w1, hw1⟩ : ∃ w1, w.alloc (.cells (keyC k) 31) = w1 := ⟨_, rfl⟩
  rw [hbb, hw1] at hN
  rw [hw1] at bN
  have n2 := hN.cell [_] _ 2 (v := v) rfl
  have HR := hid (stoX_R hN.drop)
  obtain ⟨ao, cap, rfl, hg⟩ := HR.out.prow
  have HG := hid hg
  have HP := hid hP
  have HK0 := hid (show w1.cell? ⟨bb, 0, none⟩ = some (.int .i64 k.g) ∧ w1.cell? ⟨bb, 1, none⟩ = some (.int .i64 k.lv) ∧ w1.cell? ⟨bb, 2, none⟩ = some (.int .i64 k.ro) from ⟨hN.cell [] _ 0 rfl, hN.cell [] _ 1 rfl, hN.cell [] _ 2 rfl⟩)
  rw [find_key]
  clear hH hP hg hO
  go_enter Try.func22, Try.ntmps22
  go_wp2_with fail
  go_loopg [13] q.length (fun g i wr => ∃ j : Nat, g + j = q.length ∧ i = .int .i64 j ∧ (∃ m, wr = w1.drewN m) ∧ ∀ (z : Nat) y, z < j → q[z]? = some y → ¬ y.2.k = k)
  case atStart => exact ⟨0, by omega, rfl, ⟨0, rfl⟩, fun z y h => by omega⟩
  case round =>
    obtain ⟨j, hj, rfl, ⟨m, hm⟩, hall⟩ := hrel
    have HJ := hid hj
    have HALL := hid hall
    have HM := hid hm
    clear hall n2
    by_cases hlt : j < q.length
    · obtain ⟨x, hx⟩ : ∃ x, q[j]? = some x := ⟨_, List.getElem?_eq_getElem hlt⟩
      obtain ⟨g, rfl, hrow⟩ := HG.out (by omega)
      have cr : wr.cell? ⟨g, j, none⟩ = some (.pointer (some ⟨x.1, 0, none⟩)) := by rw [hm]; exact hrow j x hx
      obtain ⟨p0, p1, p2, p3⟩ : wr.cell? ⟨x.1, 0, none⟩ = some (.int .i64 x.2.f) ∧ wr.cell? ⟨x.1, 1, none⟩ = some (.int .i64 x.2.k.g) ∧ wr.cell? ⟨x.1, 2, none⟩ = some (.int .i64 x.2.k.lv) ∧ wr.cell? ⟨x.1, 3, none⟩ = some (.int .i64 x.2.k.ro) := by rw [hm]; exact pg_keys HR.out hx
      obtain ⟨k0, k1, k2⟩ : wr.cell? ⟨bb, 0, none⟩ = some (.int .i64 k.g) ∧ wr.cell? ⟨bb, 1, none⟩ = some (.int .i64 k.lv) ∧ wr.cell? ⟨bb, 2, none⟩ = some (.int .i64 k.ro) := by rw [hm]; exact HK0.out
      have HX := hid hx
      obtain ⟨qb, hqb⟩ : ∃ qb, decide (x.2.k = k) = qb := ⟨_, rfl⟩
      have hE : ∀ W, Sem.run Try.prog (binOp .eql 31 (.agg #[.int .i64 x.2.k.g, .int .i64 x.2.k.lv, .int .i64 x.2.k.ro]) (.agg #[.int .i64 k.g, .int .i64 k.lv, .int .i64 k.ro])) W = .ok (.bool qb) W := fun W => by rw [← hqb]; exact keyS_eql x.2.k k W
      have HQ := hid hqb
      clear hqb hm hx hj hrow
      go_wp2_with fail
      go_quiet (fail)
      cases qb with
      | true =>
        go_wp2_with fail
        go_ret2
        have hfi : q.find? (fun x => decide (x.2.k = k)) = some x := by
          obtain ⟨h1, h2⟩ := List.getElem?_eq_some_iff.1 HX.out
          rw [List.find?_eq_some_iff_getElem]
          refine ⟨HQ.out, j, h1, h2, fun z hz => ?_⟩
          have := HALL.out z (q[z]'(by omega)) hz (List.getElem?_eq_getElem (by omega))
          simpa using this
        have hW : wr.drewN nq = w1.drewN (m + nq) := by rw [HM.out, World.drewN_drewN]
        refine ⟨by rw [hfi]; rfl, ?_, ?_⟩
        · rw [hW]
          exact StoA.shut fb _ q HP.out (hN.drop.drewN _)
        · rw [hW]
          exact below_drewNS bN _
      | false =>
        go_wp2_with fail
        go_roundg (gk - 1)
        case measure => have := HJ.out; omega
        case rel => exact ⟨j + 1, by have := HJ.out; omega, by go_num, ⟨m + nq, by rw [HM.out, World.drewN_drewN]⟩, fun z y hz hy => by
            by_cases e : z = j
            · subst e
              have h1 := HX.out
              rw [h1] at hy
              injection hy with hy
              rw [← hy]
              exact of_decide_eq_false HQ.out
            · exact HALL.out z y (by omega) hy⟩
    · obtain rfl : j = q.length := by omega
      clear hm hj
      go_wp2_with fail
      go_ret2
      have hfi : q.find? (fun x => decide (x.2.k = k)) = none := by
        rw [List.find?_eq_none]
        intro x hx
        obtain ⟨z, hz⟩ := List.mem_iff_getElem?.1 hx
        have := HALL.out z x (List.getElem?_eq_some_iff.1 hz).1 hz
        simpa using this
      refine ⟨by rw [hfi]; rfl, ?_, ?_⟩
      · rw [HM.out]
        exact StoA.shut fb _ q HP.out (hN.drop.drewN _)
      · rw [HM.out]
        exact below_drewNS bN _

theorem Left_calls (sb hb n : Nat) (first many : Int) (F : List Int) (ps : List PageS) (w : World) (B : Nat) (X : List Asr) (hH : Has w B (StoA sb hb n first many F ps :: X)) :
    Calls Try.prog 23 #[.pointer (some ⟨sb, 0, none⟩)] w fun e w' => e = .returned (.int .i64 F.length) ∧ Has w' B (StoA sb hb n first many F ps :: X) ∧ Below B w w' := by
  obtain ⟨hP, fb, v, q, rfl, hl, hO⟩ := StoA.openX hH
  have c1 := hO.cell [] _ 1 (v := ptrV fb) rfl
  unfold ptrV at c1
  have CL := hid ((FreeLeft fb first many F).at [_, _] _ hO)
  have HP := hid hP
  clear hP hH
  go_enter Try.func23, Try.ntmps23
  go_wp2_with fail
  refine CL.out.mono ?_
  rintro e w2 ⟨_, rfl, hH2, hB2⟩
  clear CL
  go_wp2_with fail
  go_ret
  exact ⟨rfl, StoA.shut fb v q HP.out hH2, hB2⟩

/-! ### a new one -/
def newP (n : Nat) (first many : Int) : Prop := 0 ≤ first ∧ 0 ≤ many ∧ first ≤ 256 ∧ many ≤ 256 - first ∧ first + many ≤ n
instance (n : Nat) (first many : Int) : Decidable (newP n first many) := by unfold newP; infer_instance
theorem StoP.new {n : Nat} {first many : Int} (h : newP n first many) (hF : FreeFits first many (freshL first many 0)) : StoP n first many (freshL first many 0) [] :=
  ⟨by simp, by simp, by simp, by simp, by simp, by simp, h.2.2.2.2, by rw [freshL_length]; simp; have := h.2.1; omega, hF⟩

set_option maxHeartbeats 400000 in
theorem New_yes (hb n : Nat) (first many : Int) (W : List Int) (h : newP n first many) (w : World) (B : Nat) (X : List Asr) (hH : Has w B (MemA hb n W :: X)) :
    Calls Try.prog 12 #[.pointer (some ⟨hb, 0, none⟩), .int .i64 first, .int .i64 many] w fun e w' => ∃ sb, e = .returned (.pointer (some ⟨sb, 0, none⟩)) ∧ Has w' B (StoA sb hb n first many (freshL first many 0) [] :: MemA hb n W :: X) ∧ Below B w w' := by
  have CF := hid ((FreeNew_ok first many h.1 h.2.1 h.2.2.1 h.2.2.2.1).mk hH)
  have hn := (MemA.fits hH).2.1
  have h4 := h.2.2.2.2
  have h1 := h.1
  have h2 := h.2.1
  have hw : IntKind.i64.wrap (first + many) = first + many := IntWalk.i64_in _ (by omega)
  have e1 : decide ((n : Int) < first + many) = false := decide_eq_false (by omega)
  have HN := hid h
  clear h
  go_enter Try.func12, Try.ntmps12
  go_wp2_with fail
  refine CF.out.mono ?_
  rintro e w2 ⟨fb, rfl, hH2, hB2⟩
  have CR := hid (Frames_calls hb n W w2 B _ (hH2.front [_] _))
  clear CF hH
  go_wp2_with fail
  refine CR.out.mono ?_
  rintro e w3 ⟨rfl, rfl⟩
  clear CR
  go_wp2_with fail
  go_ret
  have hF := hH2.free [] _
  have h5 := (hH2.newblk w2.heap.size 88 #[ptrV hb, ptrV fb, .slice none 0 0] rfl)
  have h6 := h5.nilrow 91 1
  refine ⟨w2.heap.size, rfl, StoA.shut fb (.slice none 0 0) [] (StoP.new HN.out hF) ?_, below_new hB2 hH2 _⟩
  exact h6.perm (List.Perm.swap _ _ _)
theorem New_no (hb n : Nat) (first many : Int) (W : List Int) (h : ¬ newP n first many) (hw1 : (Lit.int .i64 first).wf = true) (hw2 : (Lit.int .i64 many).wf = true) (w : World) (B : Nat) (X : List Asr) (hH : Has w B (MemA hb n W :: X)) :
    Calls Try.prog 12 #[.pointer (some ⟨hb, 0, none⟩), .int .i64 first, .int .i64 many] w fun e w' => e = .returned (.pointer none) ∧ Has w' B (MemA hb n W :: X) ∧ Below B w w' := by
  have hn := (MemA.fits hH).2.1
  by_cases hf : 0 ≤ first ∧ 0 ≤ many ∧ first ≤ 256 ∧ many ≤ 256 - first
  · have CF := hid ((FreeNew_ok first many hf.1 hf.2.1 hf.2.2.1 hf.2.2.2).mk hH)
    have h4 : ¬ first + many ≤ n := fun h' => h ⟨hf.1, hf.2.1, hf.2.2.1, hf.2.2.2, h'⟩
    have hw : IntKind.i64.wrap (first + many) = first + many := IntWalk.i64_in _ (by omega)
    have e1 : decide ((n : Int) < first + many) = true := decide_eq_true (by omega)
    clear h hf
    go_enter Try.func12, Try.ntmps12
    go_wp2_with fail
    refine CF.out.mono ?_
    rintro e w2 ⟨fb, rfl, hH2, hB2⟩
    have CR := hid (Frames_calls hb n W w2 B _ (hH2.front [_] _))
    clear CF hH
    go_wp2_with fail
    refine CR.out.mono ?_
    rintro e w3 ⟨rfl, rfl⟩
    clear CR
    go_wp2_with fail
    go_ret
    exact ⟨rfl, hH2.drop, hB2⟩
  · have CF := hid (FreeNew_no first many (by omega) w)
    clear h hf
    go_enter Try.func12, Try.ntmps12
    go_wp2_with fail
    refine CF.out.mono ?_
    rintro e w2 ⟨rfl, rfl⟩
    clear CF
    go_wp2_with fail
    go_ret
    exact ⟨rfl, hH, Below.refl _ _⟩

/-! ### a right key -/
set_option maxHeartbeats 400000 in
theorem right_calls (k : KeyS) (w : World) (B : Nat) (X : List Asr) (hH : Has w B X) :
    Calls Try.prog 56 #[.agg (keyC k)] w fun e w' => e = .returned (.bool (decide (rightK k))) ∧ Has w' B X ∧ Below B w w' := by
  have hN := hH.newblk w.heap.size 31 (keyC k) rfl
  have bN := below_new (Below.refl B w) hH (.cells (keyC k) 31)
  have c1 := hN.cell [] _ 1 (v := .int .i64 k.lv) rfl
  have c2 := hN.cell [] _ 2 (v := .int .i64 k.ro) rfl
  by_cases h1 : 1 ≤ k.lv
  rotate_left
  · have e0 : decide (1 ≤ k.lv) = false := decide_eq_false h1
    rw [decide_eq_false (show ¬ rightK k from fun h => by unfold rightK at h; omega)]
    clear h1
    go_enter Try.func56, Try.ntmps56
    go_wp2_with fail
    go_ret
    exact ⟨rfl, hN.drop, bN⟩
  have e0 : decide (1 ≤ k.lv) = true := decide_eq_true h1
  by_cases h2 : k.lv ≤ 3
  rotate_left
  · have e1 : decide (k.lv ≤ 3) = false := decide_eq_false h2
    rw [decide_eq_false (show ¬ rightK k from fun h => by unfold rightK at h; omega)]
    clear h1 h2
    go_enter Try.func56, Try.ntmps56
    go_wp2_with fail
    go_ret
    exact ⟨rfl, hN.drop, bN⟩
  have e1 : decide (k.lv ≤ 3) = true := decide_eq_true h2
  by_cases h3 : 0 ≤ k.ro
  rotate_left
  · have e2 : decide (0 ≤ k.ro) = false := decide_eq_false h3
    rw [decide_eq_false (show ¬ rightK k from fun h => by unfold rightK at h; omega)]
    clear h1 h2 h3
    go_enter Try.func56, Try.ntmps56
    go_wp2_with fail
    go_ret
    exact ⟨rfl, hN.drop, bN⟩
  have e2 : decide (0 ≤ k.ro) = true := decide_eq_true h3
  by_cases h4 : k.ro ≤ 2
  rotate_left
  · have e3 : decide (k.ro ≤ 2) = false := decide_eq_false h4
    rw [decide_eq_false (show ¬ rightK k from fun h => by unfold rightK at h; omega)]
    clear h1 h2 h3 h4
    go_enter Try.func56, Try.ntmps56
    go_wp2_with fail
    go_ret
    exact ⟨rfl, hN.drop, bN⟩
  have e3 : decide (k.ro ≤ 2) = true := decide_eq_true h4
  by_cases h5 : k.ro = 0
  · have e5 : (k.ro == 0) = true := by rw [beq_iff_eq]; exact h5
    rw [decide_eq_true (show rightK k from ⟨h1, h2, h3, h4, .inl h5⟩)]
    clear h1 h2 h3 h4 h5
    go_enter Try.func56, Try.ntmps56
    go_wp2_with fail
    go_ret
    exact ⟨rfl, hN.drop, bN⟩
  have e5 : (k.ro == 0) = false := by rw [beq_eq_false_iff_ne]; exact h5
  by_cases h6 : k.lv = 1
  · have e6 : (k.lv == 1) = true := by rw [beq_iff_eq]; exact h6
    rw [decide_eq_true (show rightK k from ⟨h1, h2, h3, h4, .inr h6⟩)]
    clear h1 h2 h3 h4 h5 h6
    go_enter Try.func56, Try.ntmps56
    go_wp2_with fail
    go_ret
    exact ⟨rfl, hN.drop, bN⟩
  · have e6 : (k.lv == 1) = false := by rw [beq_eq_false_iff_ne]; exact h6
    rw [decide_eq_false (show ¬ rightK k from fun h => h.2.2.2.2.elim h5 h6)]
    clear h1 h2 h3 h4 h5 h6
    go_enter Try.func56, Try.ntmps56
    go_wp2_with fail
    go_ret
    exact ⟨rfl, hN.drop, bN⟩

end Go.Proofs.Yteeapkndappnoaa

/-
  'append' upon a slice of the call's own, as one step of a region that draws its order.
-/
namespace Go.Proofs.Yteeapkndappnoaa
open Go.RowKit
set_option linter.unusedVariables false
set_option linter.unusedSimpArgs false

section
variable {P : Program} {T : TypeId} {w : World} {B n size : Nat} {v : Value} {xs : List Value}
variable {ops : Array Oper} {o : Oper} {a : Act} {K : Act → World → Prop} {Q : Exit → Act → World → Prop} {E : Prop}

theorem step_append_row {g0 cap0 : Nat} (L1 L2 : List Asr) (hH : Has w B (L1 ++ row T size (.slice (some ⟨g0, 0, none⟩) n cap0) n xs :: L2)) (hgd : o.guard = none) (s x : Operand) (t : TypeId)
    (ho : o.op = .call { callee := .builtin .append, args := #[s, x], argTypes := #[t, t] })
    (i : TypeInfo) (z : Value) (bytes : Nat) (ht : P.underlying t = some (.slice T)) (hi : P.info? T = some i) (hz : i.zero = some z)
    (hsize : i.size = size) (hby : i.bytes = bytes) (hzs : z.cells.size = size) (hsz : 0 < size) (hs : a.eval s = .slice (some ⟨g0, 0, none⟩) n cap0)
    (ad : Addr) (m c : Nat) (news : List Value) (hx : a.eval x = .slice (some ad) m c) (hl : news.length = m * size) (hnews : ∀ j u, news[j]? = some u → w.cell? (ad.add j) = some u) (h1 : ∀ u ∈ news, u.oneCell' = true)
    (h63 : n + m ≤ maxLen) (hbytes : (n + m) * bytes ≤ 140737488355328)
    (hK : ∀ g cap w', Has w' B (L1 ++ row T size (.slice (some ⟨g, 0, none⟩) (n + m) cap) (n + m) (xs ++ news) :: L2) → Below B w w' → K (a.put o.dst (.slice (some ⟨g, 0, none⟩) (n + m) cap)) w') :
    if Region.wanted o (yielded ops a.tmps) = true then Oper.wp P o a w K Q else E := by
  have hw : Region.wanted o (yielded ops a.tmps) = true := by simp [Region.wanted, hgd]
  rw [if_pos hw]
  obtain ⟨hr, hg⟩ := hH.row_at L1 L2
  rcases hr.2 with ⟨hv, _⟩ | ⟨g, cap, cur, hv, _, hgg, h2, h3, h4, h5⟩
  · cases hv
  · cases hv
    by_cases hc : n + m ≤ cap0
    · obtain ⟨w', hrun, hown, hgr⟩ := run_append_fits (P := P) w 0 t o.type T i size ht hi hsize g0 n cap0 xs hr ad m c news hl hnews h1 hc
      unfold Oper.wp
      simp [execOp, ho, resolve, invoke, builtin, hs, hx, hrun, Result.andThen]
      refine hK g0 cap0 w' ?_ ?_
      · exact hH.step L1 L2 hgr.size (fun S ⟨hS, _⟩ => ⟨[g0], ⟨by simp [Value.ownBlock], hown⟩, fun k hk => .inl (by rw [hS]; simpa [Value.ownBlock] using hk), fun k hk hk' => hgr.block k hk (fun e => hk' (by rw [hS]; injection e with e; simp [Value.ownBlock, e]))⟩)
      · exact (Below.refl _ _).grown hgr hH.le (fun k hk => by cases hk; exact (hg g0 rfl).1)
    · obtain ⟨v', w', hrun, hown, hgr⟩ := run_append_arg_grows (P := P) w t o.type T i z size bytes ht hi hz hsize hby hzs hsz ⟨g0, 0, none⟩ n cap0 xs hr.1 (fun j u hu => hr.cells (g := g0) rfl j u hu) ad m c news hl hnews (by omega) h63 hbytes
      unfold Oper.wp
      simp [execOp, ho, resolve, invoke, builtin, hs, hx, hrun, Result.andThen]
      rcases hown.2 with ⟨_, h⟩ | ⟨g, cap, cur, rfl, hb, hgg, hrest⟩
      · omega
      · refine hK g cap w' ?_ ((Below.refl _ _).grown hgr hH.le (fun k hk => by cases hk))
        exact hH.step L1 L2 hgr.size (fun S _ => ⟨[g], ⟨by simp [Value.ownBlock], hown.1, .inr ⟨g, cap, cur, rfl, Nat.zero_le _, hgg, hrest⟩⟩, fun k hk => by
          simp at hk
          subst hk
          exact .inr hb, fun k hk _ => hgr.block k hk (by simp)⟩)

/-- .. whatever slice it is, nil too. -/
theorem step_append_any (L1 L2 : List Asr) (hH : Has w B (L1 ++ row T size v n xs :: L2)) (hgd : o.guard = none) (s x : Operand) (t : TypeId)
    (ho : o.op = .call { callee := .builtin .append, args := #[s, x], argTypes := #[t, t] })
    (i : TypeInfo) (z : Value) (bytes : Nat) (ht : P.underlying t = some (.slice T)) (hi : P.info? T = some i) (hz : i.zero = some z)
    (hsize : i.size = size) (hby : i.bytes = bytes) (hzs : z.cells.size = size) (hsz : 0 < size) (hs : a.eval s = v)
    (ad : Addr) (m c : Nat) (news : List Value) (hx : a.eval x = .slice (some ad) m c) (hl : news.length = m * size) (hnews : ∀ j u, news[j]? = some u → w.cell? (ad.add j) = some u) (h1 : ∀ u ∈ news, u.oneCell' = true)
    (hm : 0 < m) (h63 : n + m ≤ maxLen) (hbytes : (n + m) * bytes ≤ 140737488355328)
    (hK : ∀ g cap w', Has w' B (L1 ++ row T size (.slice (some ⟨g, 0, none⟩) (n + m) cap) (n + m) (xs ++ news) :: L2) → Below B w w' → K (a.put o.dst (.slice (some ⟨g, 0, none⟩) (n + m) cap)) w') :
    if Region.wanted o (yielded ops a.tmps) = true then Oper.wp P o a w K Q else E := by
  rcases hH.row_shape L1 L2 with ⟨rfl, rfl⟩ | ⟨g, cap, rfl, _, _, _, _⟩
  · have hx0 : xs = [] := List.eq_nil_of_length_eq_zero (by have := hH.row_len L1 L2; simpa using this)
    subst hx0
    refine step_append_grows hgd s x t ho T i z size bytes ht hi hz hsize hby hzs hsz none 0 0 [] hs (fun _ => ⟨rfl, rfl⟩) (by simp) (by intro b hb; cases hb) ad m c news hx hl hnews h1 (by omega) h63 hbytes ?_
    intro v' w' hown hgr
    rcases hown.2 with ⟨_, h⟩ | ⟨g, cap, cur, rfl, hb, hgg, hrest⟩
    · omega
    · refine hK g cap w' ?_ ((Below.refl _ _).grown hgr hH.le (fun k hk => by cases hk))
      exact hH.step L1 L2 hgr.size (fun S _ => ⟨[g], ⟨by simp [Value.ownBlock], hown.1, .inr ⟨g, cap, cur, rfl, Nat.zero_le _, hgg, hrest⟩⟩, fun k hk => by
        simp at hk
        subst hk
        exact .inr hb, fun k hk _ => hgr.block k hk (by simp)⟩)
  · exact step_append_row L1 L2 hH hgd s x t ho i z bytes ht hi hz hsize hby hzs hsz hs ad m c news hx hl hnews h1 h63 hbytes hK

/-- The cells of a block, as 'append' reads them. -/
theorem blk_adds {b : Nat} {cs : Array Value} (L1 L2 : List Asr) (h : Has w B (L1 ++ blk b T cs :: L2)) : ∀ j u, cs.toList[j]? = some u → w.cell? ((⟨b, 0, none⟩ : Addr).add j) = some u := by
  intro j u hj
  have e : (⟨b, 0, none⟩ : Addr).add j = ⟨b, j, none⟩ := by unfold Addr.add; split <;> simp_all
  rw [e]
  exact h.cell L1 L2 j (by simpa using hj)
end

end Go.Proofs.Yteeapkndappnoaa

/-
  Package store: all pages, and those of a table.
-/
namespace Go.Proofs.Yteeapkndappnoaa
open Go.RowKit Go.Shelf
set_option linter.unusedVariables false
set_option linter.unusedSimpArgs false

theorem stoX_tl {sb hb fb : Nat} {v : Value} {first many : Int} {F : List Int} {q : List (Nat × PageS)} {w : World} {B : Nat} {X : List Asr} (h : Has w B (stoX sb hb fb v first many F q X)) : Has w B X := h.drop.drop.drop.tl
theorem stoX_skip {sb hb fb : Nat} {v : Value} {first many : Int} {F : List Int} {q : List (Nat × PageS)} {w : World} {B : Nat} {A C : Asr} {X : List Asr} (h : Has w B (C :: stoX sb hb fb v first many F q (A :: X))) : Has w B (C :: stoX sb hb fb v first many F q X) :=
  (h.perm (List.perm_middle (l₁ := C :: blk sb 88 #[ptrV hb, ptrV fb, v] :: row 91 1 v q.length (ptrs q) :: FreeA fb first many F :: pgs q) (l₂ := X))).drop
theorem framesOf_succ {is : KeyS → Bool} {ps : List PageS} {j : Nat} {p : PageS} (h : ps[j]? = some p) : framesOf is (ps.take (j + 1)) = framesOf is (ps.take j) ++ if is p.k then [p.f] else [] := by
  unfold framesOf
  rw [List.take_add_one, h, List.filter_append, List.map_append]
  by_cases hk : is p.k = true <;> simp [hk]
theorem framesOf_le (is : KeyS → Bool) (ps : List PageS) : (framesOf is ps).length ≤ ps.length := by
  unfold framesOf
  simp [List.length_filter_le]

theorem infoIntS : (Try.prog.info? 3).map (fun i => (i.zero, i.size, i.bytes)) = some (some (.int .i64 0), 1, 8) := by kernel_rfl

set_option maxHeartbeats 1000000 in
theorem frames_calls (cf : Nat) (eg : ∀ args w, (callFunc cf args).run Try.prog w = .ok (.enter cf args) w) (lb : Array Value) (is : KeyS → Bool) (sb hb fb : Nat) (v : Value) (first many : Int) (F : List Int) (q : List (Nat × PageS)) (hq : q.length ≤ 256) (w : World) (B : Nat) (X : List Asr) (hH : Has w B (stoX sb hb fb v first many F q X))
    (hc : ∀ (k : KeyS) (W : World), Has W B X → Calls Try.prog cf (#[.agg (keyC k)] ++ lb) W fun e w' => e = .returned (.bool (is k)) ∧ Below W.heap.size W w') :
    Calls Try.prog 48 #[.pointer (some ⟨sb, 0, none⟩), .func (.func cf) #[] lb] w fun e w' => ∃ u, e = .returned u ∧ Has w' B (row 3 1 u (framesOf is (q.map Prod.snd)).length ((framesOf is (q.map Prod.snd)).map (Value.int .i64)) :: stoX sb hb fb v first many F q X) ∧ Below B w w' := by
  obtain ⟨i0, hi, hz0, hz1, hz2⟩ := info_parts infoIntS
  have c2 := hH.cell [] _ 2 (v := v) rfl
  obtain ⟨ao, cap, rfl, hg⟩ := (stoX_R hH).prow
  have HC := hid hc
  have hN := hH.nilrow 3 1
  clear hg hc
  go_enter Try.func48, Try.ntmps48
  go_wp2_with fail
  go_loopg [5, 13] q.length (fun g o i wr => ∃ (j : Nat) (u : Value), g + j = q.length ∧ o = u ∧ i = .int .i64 j ∧ Has wr B (row 3 1 u (framesOf is ((q.map Prod.snd).take j)).length ((framesOf is ((q.map Prod.snd).take j)).map (Value.int .i64)) :: stoX sb hb fb (.slice ao q.length cap) first many F q X) ∧ Below B w wr)
  case atStart => exact ⟨0, .slice none 0 0, by omega, rfl, rfl, hN, Below.refl _ _⟩
  case round =>
    obtain ⟨j, u, hj, rfl, rfl, hHr, hBr⟩ := hrel
    clear hN hH c2
    obtain ⟨uo, ucap, rfl, _, _, _⟩ := hHr.row_form [] _
    have HJ := hid hj
    by_cases hlt : j < q.length
    · obtain ⟨x, hx⟩ : ∃ x, q[j]? = some x := ⟨_, List.getElem?_eq_getElem hlt⟩
      have hR := stoX_R hHr.drop
      obtain ⟨ao2, cap2, he, hg⟩ := hR.prow
      obtain ⟨g, rfl, hrow⟩ := hg (by omega)
      have ea : ao = some ⟨g, 0, none⟩ := by injection he
      subst ea
      have cr : wr.cell? ⟨g, j, none⟩ = some (.pointer (some ⟨x.1, 0, none⟩)) := hrow j x hx
      have KC := hid (pg_key hR hx)
      have hx2 : (q.map Prod.snd)[j]? = some x.2 := by simp [hx]
      have hst := framesOf_succ (is := is) hx2
      have hlen : (framesOf is ((q.map Prod.snd).take j)).length ≤ 256 := Nat.le_trans (framesOf_le _ _) (by simp; omega)
      have HX := hid hx
      have CC := hid (keeps (HC.out x.2.k wr (stoX_tl hHr.drop)) hHr)
      have HST := hid hst
      clear hst hx hx2 hrow he hg hR hj
      obtain ⟨qb, hqb⟩ : ∃ qb, is x.2.k = qb := ⟨_, rfl⟩
      rw [hqb] at CC HST
      clear hqb
      go_wp2_with (refine wpList_load_at 31 (.tmp 20) rfl rfl ⟨x.1, 1, none⟩ rfl _ (keyL x.2.k) KC.out Try.underlying31 rfl key_size ?_)
      refine CC.out.mono ?_
      rintro e w2 ⟨rfl, hH2, hB2⟩
      have hB2 := hBr.trans hB2
      clear CC KC hHr hBr cr
      cases qb with
      | true =>
        have p0 : w2.cell? ⟨x.1, 0, none⟩ = some (.int .i64 x.2.f) := (stoX_R hH2.drop).page HX.out (i := 0) rfl
        go_wp2_with (at_builtin; refine wpList_append_row [] _ (hH2.alloc _) rfl (.tmp 23) (.tmp 28) 36 rfl i0 (.int .i64 0) 8 Try.underlying36 hi hz0 hz1 hz2 rfl (by decide) rfl ⟨w2.heap.size, 0, none⟩ 1 1 [.int .i64 x.2.f] rfl rfl (cell_one_new _ _ _) (by simp [Value.oneCell']) (by decide) (by unfold maxLen; omega) (by omega) ?_; intro g2 cap2 w3 hH3 hB3)
        go_roundg (gk - 1)
        case measure => have := HJ.out; omega
        case rel => exact ⟨j + 1, .slice (some ⟨g2, 0, none⟩) ((framesOf is ((q.map Prod.snd).take j)).length + 1) cap2, by have := HJ.out; omega, rfl, by go_num, by rw [HST.out]; simpa using hH3, hB2.trans ((below_new (Below.refl _ _) hH2 _).trans hB3)⟩
      | false =>
        go_wp2_with fail
        go_roundg (gk - 1)
        case measure => have := HJ.out; omega
        case rel => exact ⟨j + 1, _, by have := HJ.out; omega, rfl, by go_num, by rw [HST.out]; simpa using hH2, hB2⟩
    · obtain rfl : j = q.length := by omega
      rw [List.take_of_length_le (by simp)] at hHr
      clear hj HJ
      go_wp2_with fail
      go_ret
      exact ⟨_, rfl, by rw [List.take_of_length_le (by simp)]; exact hHr, hBr⟩

theorem allK (k : KeyS) (W : World) : Calls Try.prog 49 #[.agg (keyC k)] W fun e w' => e = .returned (.bool true) ∧ Below W.heap.size W w' := by
  go_enter Try.func49, Try.ntmps49
  go_wp2_with fail
  go_ret
  exact ⟨rfl, (Below.refl _ W).alloc (Nat.le_refl _) _⟩
theorem ofK (k : KeyS) (bb : Nat) (g : Int) (W : World) (B : Nat) (X : List Asr) (hH : Has W B (blk bb 3 #[.int .i64 g] :: X)) : Calls Try.prog 61 #[.agg (keyC k), .pointer (some ⟨bb, 0, none⟩)] W fun e w' => e = .returned (.bool (ofP g k)) ∧ Below W.heap.size W w' := by
  have hN := hH.newblk W.heap.size 31 (keyC k) rfl
  have c0 := hN.cell [] _ 0 (v := .int .i64 k.g) rfl
  have c2 := hN.cell [] _ 2 (v := .int .i64 k.ro) rfl
  have cb := hN.cell [_] _ 0 (v := .int .i64 g) rfl
  by_cases h : k.ro = 0
  · have e1 : (k.ro == 0) = true := by rw [beq_iff_eq]; exact h
    have e2 : ofP g k = (k.g == g) := by unfold ofP; rw [e1]; rfl
    rw [e2]
    clear e2 h
    go_enter Try.func61, Try.ntmps61
    go_wp2_with fail
    go_ret
    exact ⟨rfl, (Below.refl _ W).alloc (Nat.le_refl _) _⟩
  · have e1 : (k.ro == 0) = false := by rw [beq_eq_false_iff_ne]; exact h
    have e2 : ofP g k = false := by unfold ofP; rw [e1]; rfl
    rw [e2]
    clear e2 h
    go_enter Try.func61, Try.ntmps61
    go_wp2_with fail
    go_ret
    exact ⟨rfl, (Below.refl _ W).alloc (Nat.le_refl _) _⟩

/-- Frames told, as a slice of the call's own. -/
def FrPost (l : List Int) (X : List Asr) (B : Nat) (w : World) (e : Ending) (w' : World) : Prop :=
  ∃ ao cap, e = .returned (.slice ao l.length cap) ∧ Has w' B (row 3 1 (.slice ao l.length cap) l.length (l.map (Value.int .i64)) :: X) ∧ Below B w w'
theorem frames_all (ps : List PageS) : framesOf (fun _ => true) ps = ps.map (·.f) := by
  unfold framesOf
  rw [List.filter_eq_self.2 (by simp)]

theorem All_calls (sb hb n : Nat) (first many : Int) (F : List Int) (ps : List PageS) (w : World) (B : Nat) (X : List Asr) (hH : Has w B (StoA sb hb n first many F ps :: X)) :
    Calls Try.prog 14 #[.pointer (some ⟨sb, 0, none⟩)] w (FrPost (ps.map (·.f)) (StoA sb hb n first many F ps :: X) B w) := by
  obtain ⟨hP, fb, v, q, rfl, hl, hO⟩ := StoA.openX hH
  have CF := hid (frames_calls 49 (enters_of Try.func49 (by kernel_rfl) rfl) #[] (fun _ => true) sb hb fb v first many F q hl w B X hO (fun k W _ => allK k W))
  have HP := hid hP
  rw [← frames_all]
  unfold FrPost
  clear hP hH
  go_enter Try.func14, Try.ntmps14
  go_wp2_with fail
  refine CF.out.mono ?_
  rintro e w2 ⟨u, rfl, hH2, hB2⟩
  clear CF
  obtain ⟨ao, cap, rfl, _, _, _⟩ := hH2.row_form [] _
  go_wp2_with fail
  go_ret
  have h3 : Has w2 B (StoA sb hb n first many F (q.map Prod.snd) :: row 3 1 (.slice ao (framesOf (fun _ => true) (q.map Prod.snd)).length cap) (framesOf (fun _ => true) (q.map Prod.snd)).length ((framesOf (fun _ => true) (q.map Prod.snd)).map (Value.int .i64)) :: X) := StoA.shut fb v q HP.out (stoX_in hH2)
  exact ⟨ao, cap, rfl, h3.perm (List.Perm.swap _ _ _), hB2⟩

theorem Of_calls (sb hb n : Nat) (first many : Int) (F : List Int) (ps : List PageS) (g : Int) (w : World) (B : Nat) (X : List Asr) (hH : Has w B (StoA sb hb n first many F ps :: X)) :
    Calls Try.prog 25 #[.pointer (some ⟨sb, 0, none⟩), .int .i64 g] w (FrPost (framesOf (ofP g) ps) (StoA sb hb n first many F ps :: X) B w) := by
  obtain ⟨hP, fb, v, q, rfl, hl, hO⟩ := StoA.openX hH
  have hN := stoX_in (hO.newblk w.heap.size 3 #[.int .i64 g] rfl)
  have bN := below_new (Below.refl B w) hO (.cells #[.int .i64 g] 3)
  have CF := hid (frames_calls 61 (enters_of Try.func61 (by kernel_rfl) rfl) #[.pointer (some ⟨w.heap.size, 0, none⟩)] (ofP g) sb hb fb v first many F q hl _ B _ hN (fun k W h => ofK k w.heap.size g W B X h))
  have HP := hid hP
  unfold FrPost
  clear hP hH
  go_enter Try.func25, Try.ntmps25
  go_wp2_with fail
  refine CF.out.mono ?_
  rintro e w2 ⟨u, rfl, hH2, hB2⟩
  have hB2 := bN.trans hB2
  clear CF bN hN hO
  obtain ⟨ao, cap, rfl, _, _, _⟩ := hH2.row_form [] _
  go_wp2_with fail
  go_ret
  have h3 : Has w2 B (StoA sb hb n first many F (q.map Prod.snd) :: row 3 1 (.slice ao (framesOf (ofP g) (q.map Prod.snd)).length cap) (framesOf (ofP g) (q.map Prod.snd)).length ((framesOf (ofP g) (q.map Prod.snd)).map (Value.int .i64)) :: X) := StoA.shut fb v q HP.out (stoX_in (stoX_skip hH2))
  exact ⟨ao, cap, rfl, h3.perm (List.Perm.swap _ _ _), hB2⟩

end Go.Proofs.Yteeapkndappnoaa

/-
  Package store: the iterator over all slots.
-/
namespace Go.Proofs.Yteeapkndappnoaa
open Go.RowKit Go.Shelf
set_option linter.unusedVariables false
set_option linter.unusedSimpArgs false

attribute [local go_sem] Oper.semAt_some

section
variable {Fc : Fence} {m : Nat} {P : Program} {T : TypeId} {w : World} {B b : Nat} {cs : Array Value}
variable {ops : Array Oper} {rest : List Oper} {o : Oper} {a : Act} {Q : Exit → Act → World → Prop}
theorem wpListIn_load_at (ty : TypeId) (x : Operand) (ho : o.op = .load ty x) (hgd : Region.wanted o (yielded ops a.tmps) = true) (ad : Addr) (hx : a.eval x = .pointer (some ad)) (d : TypeDesc) (l : List Value)
    (hc : ∀ j u, l[j]? = some u → w.cell? (ad.add j) = some u) (hu : P.underlying ty = some d) (hd : (match d with | .struct _ | .array _ _ => true | _ => false) = true) (hi : (P.info? ty).map (·.size) = some l.length)
    (h : wpListIn Fc m P ops Q rest (a.put o.dst (.agg l.toArray)) w) : wpListIn Fc m P ops Q (o :: rest) a w := by
  refine BigFrame.wpListIn_want hgd fun K hK => ?_
  unfold Oper.wpIn
  refine ⟨?_, ?_⟩
  · simp [Oper.about, ho]
  · rw [Oper.semAt_plain Fc _ _ (by rw [ho]; intro c hc'; cases hc')]
    unfold execOp
    simp only [ho, hx, Instr.loadAt, Instr.sureAddr, Sem.run_bind, Sem.run_pure, Result.andThen_ok, run_loadVar_at ad ty d l hc hu hd hi]
    exact hK _ _ h
theorem wpListIn_store_all (L1 L2 : List Asr) (hH : Has w B (L1 ++ blk b T cs :: L2)) (ty : TypeId) (x v : Operand) (ho : o.op = .store ty x v) (hgd : Region.wanted o (yielded ops a.tmps) = true) (hx : a.eval x = .pointer (some ⟨b, 0, none⟩)) (vs : Array Value) (hv : a.eval v = .agg vs)
    (hi : (P.info? ty).map (·.size) = some vs.size) (hk : vs.size = cs.size) (h1 : ∀ u ∈ vs.toList, u.oneCell' = true)
    (hK : ∀ w', Has w' B (L1 ++ blk b T vs :: L2) → Below B w w' → w'.heap.size = w.heap.size → wpListIn Fc m P ops Q rest (a.put o.dst undef) w') : wpListIn Fc m P ops Q (o :: rest) a w := by
  obtain ⟨w', hst, hH', hB', hz'⟩ := store_run (P := P) L1 L2 hH vs.toList (by simpa using hk) h1
  refine BigFrame.wpListIn_want hgd fun K hK' => ?_
  have hsz : (sizeOf ty).run P w = .ok vs.size w := by
    cases hq : P.info? ty with
    | none => simp [hq] at hi
    | some i => simp [hq] at hi; simp [sizeOf, typeInfo, hq, hi]
  unfold Oper.wpIn
  refine ⟨?_, ?_⟩
  · simp [Oper.about, ho]
  · rw [Oper.semAt_plain Fc _ _ (by rw [ho]; intro c hc'; cases hc')]
    unfold execOp
    simp only [ho, hx, hv, Instr.storeAt, Instr.sureAddr, storeVar, Value.cells, Sem.run_bind, Sem.run_pure, Result.andThen_ok, hsz, ne_eq, not_true_eq_false, if_false, hst]
    exact hK' _ _ (hK w' hH' hB' hz')
end

def atE (x : (Int × Int) × SlotS) : Array Value := #[.agg #[.int .i64 x.1.1, .int .i64 x.1.2], .agg (slotC x.2)]
/-- The first k slots of a page. -/
def slotsTo (p : PageS) (k : Nat) : List ((Int × Int) × SlotS) := (p.s.take k).zipIdx.map fun x => ((p.f, (x.2 : Int)), x.1)
theorem slotsTo_succ {p : PageS} {k : Nat} {y : SlotS} (h : p.s[k]? = some y) : slotsTo p (k + 1) = slotsTo p k ++ [((p.f, (k : Int)), y)] := by
  unfold slotsTo
  have hk := (List.getElem?_eq_some_iff.1 h).1
  rw [List.take_add_one, h, Option.toList, List.zipIdx_append, List.map_append]
  have e : (p.s.take k).length = k := by simp; omega
  simp [e]
theorem slotsTo_length (p : PageS) (k : Nat) (h : k ≤ p.s.length) : (slotsTo p k).length = k := by simp [slotsTo]; omega
theorem allS_succ {ps : List PageS} {j : Nat} {p : PageS} (h : ps[j]? = some p) (h8 : p.s.length = 8) : allS (ps.take (j + 1)) = allS (ps.take j) ++ slotsTo p 8 := by
  have e : p.s.take 8 = p.s := List.take_of_length_le (by omega)
  unfold allS slotsTo
  rw [List.take_add_one, h, List.flatMap_append, e]
  simp
theorem allS_length {ps : List PageS} (h : ∀ p ∈ ps, p.s.length = 8) : (allS ps).length = ps.length * 8 := by
  induction ps with
  | nil => rfl
  | cons p ps ih =>
    have e : allS (p :: ps) = slotsTo p 8 ++ allS ps := by
      unfold allS slotsTo
      rw [List.flatMap_cons, List.take_of_length_le (by have := h p (by simp); omega)]
    rw [e, List.length_append, ih (fun p hp => h p (by simp [hp])), slotsTo_length p 8 (by have := h p (by simp); omega)]
    simp
    omega

/-- What the iterator reads lies below n₀. -/
structure AllB (n₀ : Nat) (w : World) (sb : Nat) (v : Value) (q : List (Nat × PageS)) : Prop where
  csb : w.cell? ⟨sb, 2, none⟩ = some v ∧ sb < n₀
  prow : ∃ ao cap, v = .slice ao q.length cap ∧ (0 < q.length → ∃ g, ao = some ⟨g, 0, none⟩ ∧ g < n₀ ∧ ∀ (j : Nat) x, q[j]? = some x → w.cell? ⟨g, j, none⟩ = some (.pointer (some ⟨x.1, 0, none⟩)))
  ppg : ∀ (j : Nat) x, q[j]? = some x → w.heap[x.1]? = some (.cells (pageC x.2) 95 (0, 0)) ∧ x.1 < n₀
theorem AllB.below {n₀ : Nat} {w w' : World} {sb : Nat} {v : Value} {q : List (Nat × PageS)} (h : AllB n₀ w sb v q) (hb : Below n₀ w w') : AllB n₀ w' sb v q := by
  refine ⟨⟨(hb.cell (p := ⟨sb, 2, none⟩) h.csb.2).trans h.csb.1, h.csb.2⟩, ?_, fun j x hx => ⟨(hb.block x.1 (h.ppg j x hx).2).trans (h.ppg j x hx).1, (h.ppg j x hx).2⟩⟩
  obtain ⟨ao, cap, hv, hg⟩ := h.prow
  refine ⟨ao, cap, hv, fun h0 => ?_⟩
  obtain ⟨g, hg1, hg2, hg3⟩ := hg h0
  exact ⟨g, hg1, hg2, fun j x hx => (hb.cell (p := ⟨g, j, none⟩) hg2).trans (hg3 j x hx)⟩
theorem AllB.page {n₀ : Nat} {w : World} {sb : Nat} {v : Value} {q : List (Nat × PageS)} (h : AllB n₀ w sb v q) {j : Nat} {x : Nat × PageS} (hx : q[j]? = some x) {i : Nat} {u : Value} (hu : (pageC x.2)[i]? = some u) : w.cell? ⟨x.1, i, none⟩ = some u := cell_of_blk (h.ppg j x hx).1 hu
theorem AllB.slots {n₀ : Nat} {w : World} {sb : Nat} {v : Value} {q : List (Nat × PageS)} (h : AllB n₀ w sb v q) {j : Nat} {x : Nat × PageS} (hx : q[j]? = some x) : ∀ i u, (slotsL x.2.s)[i]? = some u → w.cell? ((⟨x.1, 4, none⟩ : Addr).add i) = some u := by
  intro i u hu
  have e : (⟨x.1, 4, none⟩ : Addr).add i = ⟨x.1, 4 + i, none⟩ := by unfold Addr.add; split <;> simp_all
  rw [e]
  refine h.page hx ?_
  simp only [pageC, pageL, List.getElem?_toArray]
  rw [List.getElem?_append_right (by simp)]
  have : 4 + i - [Value.int .i64 x.2.f, .int .i64 x.2.k.g, .int .i64 x.2.k.lv, .int .i64 x.2.k.ro].length = i := by simp
  rw [this]
  exact hu
theorem slots_size : (Try.prog.info? 93).map (fun i => i.size) = some 40 := by kernel_rfl
theorem slots_index8 (a b c d e f g h : SlotS) (w : World) : ∀ k : Nat, k < 8 → (Instr.index 93 (.agg (slotsL [a, b, c, d, e, f, g, h]).toArray) (.int .i64 (k : Int))).run Try.prog w = .ok (.agg (slotC ([a, b, c, d, e, f, g, h].getD k slotZ))) w
  | 0, _ => by kernel_rfl
  | 1, _ => by kernel_rfl
  | 2, _ => by kernel_rfl
  | 3, _ => by kernel_rfl
  | 4, _ => by kernel_rfl
  | 5, _ => by kernel_rfl
  | 6, _ => by kernel_rfl
  | 7, _ => by kernel_rfl
  | k + 8, h => by omega
theorem slots_index {s : List SlotS} {k : Nat} {y : SlotS} (h8 : s.length = 8) (hy : s[k]? = some y) (w : World) : (Instr.index 93 (.agg (slotsL s).toArray) (.int .i64 (k : Int))).run Try.prog w = .ok (.agg (slotC y)) w := by
  have hk := (List.getElem?_eq_some_iff.1 hy).1
  have e : y = s.getD k slotZ := by simp [List.getD, hy]
  rw [e]
  match s, h8 with
  | [a, b, c, d, e, f, g, h], _ => exact slots_index8 a b c d e f g h w k (by simpa using hk)

theorem abides_belowS {β : Type} {B : Nat} {J : β → World → Prop} (h : AbidesFrom B J) {s : β} {W W' : World} (hs : J s W) (hb : Below W.heap.size W W') : J s W' :=
  h s W W' none hs ⟨hb.os, hb.tape, hb.output, hb.size, fun k hk _ => hb.block k hk⟩ (fun r e => by cases e)

/-- A round's word as one: it goes on just if b. -/
def RoundS (J Jx : List ((Int × Int) × SlotS) → World → Prop) (n₀ : Nat) (pre : List ((Int × Int) × SlotS)) (W : World) (e : Ending) (W' : World) : Prop :=
  ∃ b : Bool, e = .returned (.bool b) ∧ (b = true → J pre W' ∧ Below n₀ W W') ∧ (b = false → Jx pre W')

set_option maxRecDepth 100000 in
set_option maxHeartbeats 2000000 in
theorem all1_in (n : Nat) (hn : 1 ≤ n) (l ab sb n₀ : Nat) (v : Value) (q : List (Nat × PageS)) (h8 : ∀ p ∈ q.map Prod.snd, p.s.length = 8) (hq : q.length ≤ 256) (J Jx : List ((Int × Int) × SlotS) → World → Prop)
    (hY : ∀ pre x W, J pre W → pre.length < 2048 → YieldAt Fence.wide (n - 1) Try.prog l (atE x) W (RoundS J Jx n₀ (pre ++ [x]) W))
    (W : World) (hJ : AbidesFrom W.heap.size J) (c0 : W.cell? ⟨ab, 0, none⟩ = some (.pointer (some ⟨sb, 0, none⟩))) (hA : AllB n₀ W sb v q) (hn₀ : n₀ ≤ W.heap.size) (h0 : J [] W) :
    CallsIn Fence.wide n Try.prog 83 #[.func (.yield l) #[] #[], .pointer (some ⟨ab, 0, none⟩)] W fun e W' => (∃ v, e = .returned v) ∧
      ((∃ ys, ys = allS (q.map Prod.snd) ∧ J ys W') ∨ (∃ pre, True ∧ Jx pre W')) := by
  obtain ⟨ao, cap, rfl, _⟩ := hA.prow
  have c1 := hA.csb.1
  have zs := zeroSlot
  have HA := hid hA
  have HY := hid hY
  have HJ := hid hJ
  have H8 := hid h8
  clear hA hY hJ h8
  refine callsIn_of_wp Try.func83 rfl trivial ?_ rfl
  simp only [Try.ntmps83, List.size_toArray, List.length_cons, List.length_nil, Nat.reduceAdd, Nat.reduceSub, Array.replicate_succ, Array.replicate_zero, List.push_toArray, List.append_toArray, List.nil_append, List.cons_append]
  gi_wp2
  refine wpIn_wide.2 (wp_scope_straight ((wpIn_wide (n := n)).1 ?_))
  refine wpIn_seq (wpIn_label ?_)
  dsimp only [Exit.then]
  gi_wp2
  gi_loopw [12] (fun i wr => ∃ j : Nat, j ≤ q.length ∧ i = .int .i64 j ∧ Below n₀ W wr ∧ J (allS ((q.map Prod.snd).take j)) wr) (fun i _ => q.length - (intOf i).toNat)
  case atStart => exact ⟨0, by omega, rfl, Below.refl _ _, h0⟩
  case round =>
    obtain ⟨j, hj, rfl, hBr, hJr⟩ := hrel
    clear c0 c1 h0
    by_cases hlt : j < q.length
    · obtain ⟨x, hx⟩ : ∃ x, q[j]? = some x := ⟨_, List.getElem?_eq_getElem hlt⟩
      have hA := HA.out.below hBr
      obtain ⟨ao2, cap2, he, hg⟩ := hA.prow
      obtain ⟨g, rfl, hg0, hrow⟩ := hg (by omega)
      have ea : ao = some ⟨g, 0, none⟩ := by injection he
      subst ea
      have cr : wr.cell? ⟨g, j, none⟩ = some (.pointer (some ⟨x.1, 0, none⟩)) := hrow j x hx
      have hx8 : x.2.s.length = 8 := H8.out x.2 (List.mem_map_of_mem (List.mem_of_getElem? hx))
      have SC := hid (hA.slots hx)
      have hsz : (Try.prog.info? 93).map (fun i => i.size) = some (slotsL x.2.s).length := by rw [slotsL_length, hx8]; exact slots_size
      have hx2 : (q.map Prod.snd)[j]? = some x.2 := by simp [hx]
      have hst := allS_succ hx2 hx8
      have hlen : (allS ((q.map Prod.snd).take j)).length = j * 8 := by
        rw [allS_length (fun p hp => H8.out p (List.mem_of_mem_take hp))]
        simp
        omega
      obtain ⟨pre, hpre⟩ : ∃ pre, allS ((q.map Prod.snd).take j) = pre := ⟨_, rfl⟩
      rw [hpre] at hst hlen hJr
      have HST := hid hst
      have HX := hid hx
      have HJR := hid hJr
      have H8x := hid hx8
      clear hst hx hx2 hx8 hpre hJr he hg hrow hA
      gi_wp2_with (refine wpListIn_load_at 93 (.tmp 18) rfl rfl ⟨x.1, 4, none⟩ rfl _ (slotsL x.2.s) SC.out Try.underlying93 rfl hsz ?_)
      clear cr
      have hJ0 : J (pre ++ slotsTo x.2 0) wr := by
        have e : pre ++ slotsTo x.2 0 = pre := by simp [slotsTo]
        rw [e]
        exact HJR.out
      have HB0 := hid hBr
      gi_loopw [20] (fun i wk => ∃ k : Nat, k ≤ 8 ∧ i = .int .i64 k ∧ Below n₀ W wk ∧ J (pre ++ slotsTo x.2 k) wk) (fun i _ => 8 - (intOf i).toNat)
      case atStart => exact ⟨0, by omega, rfl, hBr, hJ0⟩
      case round =>
        obtain ⟨k, hk, rfl, hBk, hJk⟩ := hrel
        clear hJ0 hBr
        by_cases hlk : k < 8
        · have hlk' : (k : Int) < 8 := by omega
          obtain ⟨y, hy⟩ : ∃ y, x.2.s[k]? = some y := ⟨_, List.getElem?_eq_getElem (by have := H8x.out; omega)⟩
          have hix := slots_index H8x.out hy
          have HIX := hid hix
          have hsu := slotsTo_succ hy
          have HSU := hid hsu
          have hnr : n₀ ≤ wr.heap.size := Nat.le_trans hn₀ hBk.size
          have hN : Has (wr.alloc (.cells (slotC slotZ) 42)) wr.heap.size [blk wr.heap.size 42 (slotC slotZ)] := (Has.nil (Nat.le_refl _) : Has wr wr.heap.size []).newblk wr.heap.size 42 (slotC slotZ) rfl
          have bN : Below wr.heap.size wr (wr.alloc (.cells (slotC slotZ) 42)) := below_new (Below.refl _ _) (Has.nil (Nat.le_refl _) : Has wr wr.heap.size []) _
          have HJK := hid hJk
          clear hy hsu hJk
          gi_wp2_with (refine wpListIn_store_all [] _ hN 42 (.tmp 6) (.tmp 23) rfl rfl rfl (slotL y).toArray rfl slot_size rfl (slot_one _) ?_; intro w3 hH3 hB3 hz3)
          have b3 := bN.trans hB3
          have hA3 := HA.out.below (hBk.trans (b3.mono hnr))
          have p0 : w3.cell? ⟨x.1, 0, none⟩ = some (.int .i64 x.2.f) := hA3.page HX.out rfl
          have y0 : w3.cell? ⟨wr.heap.size, 0, none⟩ = some (.int .i64 y.kd) := hH3.cell [] _ 0 rfl
          have y1 : w3.cell? ⟨wr.heap.size, 1, none⟩ = some (.int .i64 y.to) := hH3.cell [] _ 1 rfl
          have y2 : w3.cell? ⟨wr.heap.size, 2, none⟩ = some (.bool y.w) := hH3.cell [] _ 2 rfl
          have y3 : w3.cell? ⟨wr.heap.size, 3, none⟩ = some (.bool y.u) := hH3.cell [] _ 3 rfl
          have y4 : w3.cell? ⟨wr.heap.size, 4, none⟩ = some (.bool y.x) := hH3.cell [] _ 4 rfl
          have hJ3 := abides_belowS HJ.out HJK.out b3.drew
          have hln : (pre ++ slotsTo x.2 k).length < 2048 := by
            rw [List.length_append, slotsTo_length _ _ (by have := H8x.out; omega), hlen]
            omega
          obtain ⟨fn, tmps, assign, body, hy, hR⟩ := HY.out _ ((x.2.f, (k : Int)), y) _ hJ3 hln
          dsimp only [atE, slotC] at hy
          have hmix : Try.prog.follows .mixedOrders = true := by kernel_rfl
          have HB3 := hid (hBk.trans (b3.drew.mono hnr))
          clear hN bN hH3 hB3 hz3 hA3 hJ3 hln b3
          gi_region_with_o (first
            | (refine hR.mono ?_; rintro e W4 ⟨b, rfl, hb1, hb2⟩))
          all_goals (
            cases b with
            | true =>
              gi_wp2
              go_roundw
              case rel => exact ⟨k + 1, by omega, by go_num, HB3.out.trans (hb1 rfl).2, by rw [HSU.out, ← List.append_assoc]; exact (hb1 rfl).1⟩
              case measure => simp [intOf] <;> omega
            | false =>
              gi_wp2

              go_end0
              exact ⟨⟨_, rfl⟩, .inr ⟨_, trivial, hb2 trivial⟩⟩)
        · obtain rfl : k = 8 := by omega
          gi_wp2
          go_roundw
          case rel => exact ⟨j + 1, by omega, by go_num, hBk, by rw [HST.out]; exact hJk⟩
          case measure => simp [intOf] <;> omega
    · obtain rfl : j = q.length := by omega
      gi_wp2
      dsimp only [Exit.noGoto]
      go_end0
      exact ⟨⟨_, rfl⟩, .inl ⟨_, by rw [List.take_of_length_le (by simp)], hJr⟩⟩

theorem all_stops (n : Nat) (hn : 1 ≤ n) (ab sb n₀ : Nat) (v : Value) (q : List (Nat × PageS)) (h8 : ∀ p ∈ q.map Prod.snd, p.s.length = 8) (hq : q.length ≤ 256) (w : World) (hn₀ : n₀ ≤ w.heap.size) (hab : w.cell? ⟨ab, 0, none⟩ = some (.pointer (some ⟨sb, 0, none⟩))) (hal : ab < w.heap.size) (hA : AllB n₀ w sb v q) :
    SeqStopsK Fence.wide n Try.prog 83 #[.pointer (some ⟨ab, 0, none⟩)] atE (Below n₀) (fun ys => ys = allS (q.map Prod.snd)) (fun _ => True) 2048 w := fun l J Jx W hW hJ _ hY h0 => by
  refine all1_in n hn l ab sb n₀ v q h8 hq J Jx (fun pre x W1 hj hl => ?_) W hJ ((hW.cell (p := ⟨ab, 0, none⟩) hal).trans hab) (hA.below (hW.mono hn₀)) (Nat.le_trans hn₀ hW.size) h0
  obtain ⟨fn, tmps, assign, body, hy, hR⟩ := hY pre x W1 hj hl
  refine ⟨fn, tmps, assign, body, hy, hR.mono fun e W' h => ?_⟩
  rcases h with ⟨rfl, h1, h2⟩ | ⟨rfl, h1⟩
  · exact ⟨true, rfl, fun _ => ⟨h1, h2⟩, fun h => absurd h (by decide)⟩
  · exact ⟨false, rfl, fun h => absurd h (by decide), fun _ => h1⟩

theorem all_calls (sb : Nat) (w : World) : Calls Try.prog 77 #[.pointer (some ⟨sb, 0, none⟩)] w fun e w' => e = .returned (.func (.func 83) #[] #[.pointer (some ⟨w.heap.size, 0, none⟩)]) ∧ w' = w.alloc (.cells #[.pointer (some ⟨sb, 0, none⟩)] 26) := by
  go_enter Try.func77, Try.ntmps77
  go_wp2_with fail
  go_ret
  exact ⟨rfl, rfl⟩

end Go.Proofs.Yteeapkndappnoaa

/-
  The things of a list in another order, or some of them: told by their places.
-/
namespace Go.Proofs.Yteeapkndappnoaa
open Go.RowKit
set_option linter.unusedVariables false
set_option linter.unusedSimpArgs false

/-- Those at these places; each place is one of what is left. -/
def pickRel : List Nat → List Asr → List Asr
  | [], _ => []
  | i :: is, L => match L[i]? with
    | some A => A :: pickRel is (L.eraseIdx i)
    | none => []
/-- Places of the whole list, as places of what is left. -/
def rels : Nat → List Nat → List Nat
  | 0, _ => []
  | _ + 1, [] => []
  | n + 1, i :: is => i :: rels n (is.map fun j => if i < j then j - 1 else j)
theorem pickRel_perm : ∀ (is : List Nat) (L : List Asr), ∃ R, L.Perm (pickRel is L ++ R)
  | [], L => ⟨L, List.Perm.refl _⟩
  | i :: is, L => by
    unfold pickRel
    cases h : L[i]? with
    | none => exact ⟨L, List.Perm.refl _⟩
    | some A =>
      obtain ⟨R, hR⟩ := pickRel_perm is (L.eraseIdx i)
      obtain ⟨h1, h2⟩ := List.getElem?_eq_some_iff.1 h
      refine ⟨R, ?_⟩
      have h3 : L.Perm (A :: L.eraseIdx i) := by
        have h4 : L = L.take i ++ L[i] :: L.drop (i + 1) := by rw [← List.drop_eq_getElem_cons h1, List.take_append_drop]
        rw [List.eraseIdx_eq_take_drop_succ]
        rw [h2] at h4
        conv => lhs; rw [h4]
        exact List.perm_middle
      exact h3.trans (List.Perm.cons _ hR)
theorem Has.pickRel {w : World} {B : Nat} {L : List Asr} (h : Has w B L) (is : List Nat) : Has w B (pickRel is L) := by
  obtain ⟨R, hR⟩ := pickRel_perm is L
  exact (h.perm (hR.trans List.perm_append_comm)).tl
theorem Has.pick {w : World} {B : Nat} {L : List Asr} (h : Has w B L) (is : List Nat) : Has w B (Go.Proofs.Yteeapkndappnoaa.pickRel (rels is.length is) L) := h.pickRel _

example {w : World} {B : Nat} {a b c d : Asr} {X : List Asr} (h : Has w B [a, b, c, d]) : Has w B [d, a, c] := h.pick [3, 0, 2]

end Go.Proofs.Yteeapkndappnoaa

/-
  Package store: the slots that tell something.
-/
namespace Go.Proofs.Yteeapkndappnoaa
open Go.RowKit Go.Shelf
set_option linter.unusedVariables false
set_option linter.unusedSimpArgs false

attribute [local go_sem] Oper.semAt_some

section
variable {Fc : Fence} {m : Nat} {P : Program} {T : TypeId} {w : World} {B n size : Nat} {v : Value} {xs : List Value}
variable {ops : Array Oper} {rest : List Oper} {o : Oper} {a : Act} {Q : Exit → Act → World → Prop}
theorem wpListIn_append_row (L1 L2 : List Asr) (hH : Has w B (L1 ++ row T size v n xs :: L2)) (hgd : o.guard = none) (s x : Operand) (t : TypeId)
    (ho : o.op = .call { callee := .builtin .append, args := #[s, x], argTypes := #[t, t] })
    (i : TypeInfo) (z : Value) (bytes : Nat) (ht : P.underlying t = some (.slice T)) (hi : P.info? T = some i) (hz : i.zero = some z)
    (hsize : i.size = size) (hby : i.bytes = bytes) (hzs : z.cells.size = size) (hsz : 0 < size) (hs : a.eval s = v)
    (ad : Addr) (k c : Nat) (news : List Value) (hx : a.eval x = .slice (some ad) k c) (hl : news.length = k * size) (hnews : ∀ j u, news[j]? = some u → w.cell? (ad.add j) = some u) (h1 : ∀ u ∈ news, u.oneCell' = true)
    (hm : 0 < k) (h63 : n + k ≤ maxLen) (hbytes : (n + k) * bytes ≤ 140737488355328)
    (hK : ∀ g cap w', Has w' B (L1 ++ row T size (.slice (some ⟨g, 0, none⟩) (n + k) cap) (n + k) (xs ++ news) :: L2) → Below B w w' → KeepsOthers w w' → wpListIn Fc m P ops Q rest (a.put o.dst (.slice (some ⟨g, 0, none⟩) (n + k) cap)) w') : wpListIn Fc m P ops Q (o :: rest) a w := by
  obtain ⟨hr, hg⟩ := hH.row_at L1 L2
  refine wpListIn_plain hgd fun K hK' => ?_
  have fresh : ∀ v' w', w'.ownsRow w.heap.size T size v' (n + k) (xs ++ news) → w.grownBy w' none → K (a.put o.dst v') w' := by
    intro v' w' hown hgr
    rcases hown.2 with ⟨_, h⟩ | ⟨g, cap, cur, rfl, hb, hgg, hrest⟩
    · omega
    · refine hK' _ _ (hK g cap w' ?_ ((Below.refl _ _).grown hgr hH.le (fun k hk => by cases hk)) ⟨hgr.size, fun j o hj _ => (hgr.block j (Array.getElem?_eq_some_iff.1 hj).1 (by simp)).trans hj⟩)
      exact hH.step L1 L2 hgr.size (fun S _ => ⟨[g], ⟨by simp [Value.ownBlock], hown.1, .inr ⟨g, cap, cur, rfl, Nat.zero_le _, hgg, hrest⟩⟩, fun k hk => by
        simp at hk
        subst hk
        exact .inr hb, fun k hk _ => hgr.block k hk (by simp)⟩)
  rcases hr.2 with ⟨rfl, rfl⟩ | ⟨g, cap, cur, rfl, _, hgg, h2, h3, h4, h5⟩
  · have hx0 : xs = [] := List.eq_nil_of_length_eq_zero (by simpa using hr.1)
    subst hx0
    obtain ⟨v', w', hrun, r1, r2, _⟩ := run_append_own (P := P) w w.heap.size t o.type T i z size bytes ht hi hz hsize hby hzs hsz (.slice none 0 0) 0 [] (World.ownsRow_nil w _ T size) ad k c news hl hnews h1 h63 hbytes (Nat.le_refl _)
    unfold Oper.wpIn
    refine ⟨by simp [Oper.about, ho, resolve, Target.leads, Sem.run_pure], ?_⟩
    rw [Oper.semAt_plain Fc _ _ (by rw [ho]; intro c hc'; cases hc')]
    simp [execOp, ho, resolve, invoke, builtin, hs, hx, hrun, Result.andThen]
    exact fresh v' w' r1 r2
  · by_cases hc : n + k ≤ cap
    · obtain ⟨w', hrun, hown, hgr⟩ := run_append_fits (P := P) w 0 t o.type T i size ht hi hsize g n cap xs hr ad k c news hl hnews h1 hc
      unfold Oper.wpIn
      refine ⟨by simp [Oper.about, ho, resolve, Target.leads, Sem.run_pure], ?_⟩
      rw [Oper.semAt_plain Fc _ _ (by rw [ho]; intro c hc'; cases hc')]
      simp [execOp, ho, resolve, invoke, builtin, hs, hx, hrun, Result.andThen]
      refine hK' _ _ (hK g cap w' ?_ ?_ ⟨hgr.size, fun j o hj ho => (hgr.block j (Array.getElem?_eq_some_iff.1 hj).1 (fun e => ?_)).trans hj⟩)
      · exact hH.step L1 L2 hgr.size (fun S ⟨hS, _⟩ => ⟨[g], ⟨by simp [Value.ownBlock], hown⟩, fun k hk => .inl (by rw [hS]; simpa [Value.ownBlock] using hk), fun k hk hk' => hgr.block k hk (fun e => hk' (by rw [hS]; injection e with e; simp [Value.ownBlock, e]))⟩)
      · exact (Below.refl _ _).grown hgr hH.le (fun k hk => by cases hk; exact (hg g rfl).1)
      · injection e with e
        subst e
        rw [hgg] at hj
        cases hj
        cases ho
    · obtain ⟨v', w', hrun, hown, hgr⟩ := run_append_arg_grows (P := P) w t o.type T i z size bytes ht hi hz hsize hby hzs hsz ⟨g, 0, none⟩ n cap xs hr.1 (fun j u hu => hr.cells (g := g) rfl j u hu) ad k c news hl hnews (by omega) h63 hbytes
      unfold Oper.wpIn
      refine ⟨by simp [Oper.about, ho, resolve, Target.leads, Sem.run_pure], ?_⟩
      rw [Oper.semAt_plain Fc _ _ (by rw [ho]; intro c hc'; cases hc')]
      simp [execOp, ho, resolve, invoke, builtin, hs, hx, hrun, Result.andThen]
      exact fresh v' w' hown hgr
end

/-! ### what lies in blocks of cells abides the turn of other blocks -/
def Cly (A : Asr) : Prop := ∀ w S, A.on w S → ∀ k ∈ S, ∃ o : Obj, w.heap[k]? = some o ∧ o.isCells = true
theorem cly_blk (b : Nat) (T : TypeId) (cs : Array Value) : Cly (blk b T cs) := by
  rintro w S ⟨rfl, h⟩ k hk
  simp at hk
  subst hk
  exact ⟨_, h, rfl⟩
theorem cly_row (T : TypeId) (size : Nat) (v : Value) (n : Nat) (xs : List Value) : Cly (row T size v n xs) := by
  rintro w S ⟨rfl, h⟩ k hk
  rcases h.2 with ⟨rfl, _⟩ | ⟨g, cap, cur, rfl, hb, hgg, _⟩
  · simp [Value.ownBlock] at hk
  · simp [Value.ownBlock] at hk
    subst hk
    exact ⟨_, hgg, rfl⟩
theorem cly_sep : ∀ (L : List Asr), (∀ A ∈ L, Cly A) → ∀ w S, sepL L w S → ∀ k ∈ S, ∃ o : Obj, w.heap[k]? = some o ∧ o.isCells = true
  | [], _, _, _, h => by intro k hk; rw [h] at hk; cases hk
  | A :: L, hL, w, S, ⟨S1, S2, hS, hA, h2, _⟩ => by
    intro k hk
    subst hS
    rcases List.mem_append.1 hk with h | h
    · exact hL A (by simp) w S1 hA k h
    · exact cly_sep L (fun A h => hL A (by simp [h])) w S2 h2 k h
theorem Has.ownFrom {W W' : World} {B C : Nat} {L : List Asr} (hL : ∀ A ∈ L, Cly A) (h : Has W B L) {r : Option Nat} (hg : W.grownBy W' r) (hr : ∀ k, r = some k → C ≤ k ∧ ∃ o : Obj, W.heap[k]? = some o ∧ o.isCells = false) : Has W' B L := by
  unfold Has at h ⊢
  obtain ⟨hB, S, hS, hb⟩ := h
  refine ⟨Nat.le_trans hB hg.size, S, sepL_loc L W W' S hS (fun k hk => hg.block k (sepL_lt L W S hS k hk) (fun e => ?_)), hb⟩
  obtain ⟨o, ho, hc⟩ := cly_sep L hL W S hS k hk
  obtain ⟨_, o2, ho2, hc2⟩ := hr k (by first | exact e | exact e.symm)
  rw [ho] at ho2
  injection ho2 with e2
  rw [e2] at hc
  rw [hc] at hc2
  cases hc2
theorem block_from {W W' : World} {C b : Nat} {T : TypeId} {cs : Array Value} {fr : Nat × Nat} (h : W.heap[b]? = some (.cells cs T fr)) {r : Option Nat} (hg : W.grownBy W' r) (hr : ∀ k, r = some k → C ≤ k ∧ ∃ o : Obj, W.heap[k]? = some o ∧ o.isCells = false) : W'.heap[b]? = some (.cells cs T fr) := by
  refine (hg.block b (Array.getElem?_eq_some_iff.1 h).1 (fun e => ?_)).trans h
  obtain ⟨_, o2, ho2, hc2⟩ := hr b (by first | exact e | exact e.symm)
  rw [h] at ho2
  injection ho2 with e2
  rw [← e2] at hc2
  cases hc2

/-! ### what tells something -/
def atL (x : Int × Int) : List Value := [.int .i64 x.1, .int .i64 x.2]
def atsL (l : List (Int × Int)) : List Value := l.flatMap atL
theorem atsL_length (l : List (Int × Int)) : (atsL l).length = l.length * 2 := flat_length atL 2 (fun _ => rfl) l
theorem atsL_snoc (l : List (Int × Int)) (x : Int × Int) : atsL (l ++ [x]) = atsL l ++ atL x := by simp [atsL]
theorem toldL_snoc (kd to : Int) (l : List ((Int × Int) × SlotS)) (x : (Int × Int) × SlotS) : toldL kd to (l ++ [x]) = toldL kd to l ++ if tellB kd to x.2 then [x.1] else [] := by
  unfold toldL
  rw [List.filter_append, List.map_append]
  by_cases h : tellB kd to x.2 = true <;> simp [h]
theorem toldL_le (kd to : Int) (l : List ((Int × Int) × SlotS)) : (toldL kd to l).length ≤ l.length := by
  unfold toldL
  simp [List.length_filter_le]
theorem at_size : (Try.prog.info? 46).map (fun i => i.size) = some 2 := by kernel_rfl
theorem infoAt : (Try.prog.info? 46).map (fun i => (i.zero, i.size, i.bytes)) = some (some (.agg #[.int .i64 0, .int .i64 0]), 2, 16) := by kernel_rfl
theorem zeroAt (w : World) : (zeroValue 46).run Try.prog w = .ok (.agg #[.int .i64 0, .int .i64 0]) w := by kernel_rfl
theorem at_one (x : Int × Int) : ∀ u ∈ (atL x).toArray.toList, u.oneCell' = true := by simp [atL, Value.oneCell']

set_option maxRecDepth 100000 in
set_option maxHeartbeats 4000000 in
theorem told_calls (sb hb n : Nat) (first many : Int) (F : List Int) (ps : List PageS) (kd to : Int) (w : World) (B : Nat) (X : List Asr) (hH : Has w B (StoA sb hb n first many F ps :: X)) :
    Calls Try.prog 52 #[.pointer (some ⟨sb, 0, none⟩), .int .i64 kd, .int .i64 to] w fun e w' => ∃ v, e = .returned v ∧ Has w' w.heap.size [row 46 2 v (toldL kd to (allS ps)).length (atsL (toldL kd to (allS ps)))] ∧ Below w.heap.size w w' := by
  obtain ⟨hP, fb, v, q, rfl, hl, hO⟩ := StoA.openX hH
  have h8 := hP.s8
  have hR := stoX_R hO
  obtain ⟨i0, hi, hz0, hz1, hz2⟩ := info_parts infoAt
  obtain ⟨s, hs⟩ : ∃ s, w.heap.size = s := ⟨_, rfl⟩
  rw [hs]
  have hN0 : Has w s [] := Has.nil (by omega)
  have hN1 := hN0.newblk s 3 #[.int .i64 kd] hs
  have bN1 := below_new (Below.refl s w) hN0 (.cells #[.int .i64 kd] 3)
  have hN2 := hN1.newblk (s + 1) 3 #[.int .i64 to] (by simp [hs])
  have bN2 := below_new bN1 hN1 (.cells #[.int .i64 to] 3)
  have hN3 := hN2.newblk (s + 2) 38 #[.slice none 0 0] (by simp [hs])
  have bN3 := below_new bN2 hN2 (.cells #[.slice none 0 0] 38)
  refine (callsIn_wide (n := 9)).1 ?_
  refine callsIn_of_wp_marks Try.func52 rfl trivial ?_ rfl
  simp only [Try.ntmps52, List.size_toArray, List.length_cons, List.length_nil, Nat.reduceAdd, Nat.reduceSub, Array.replicate_succ, Array.replicate_zero, List.push_toArray, List.append_toArray, List.nil_append, List.cons_append]
  gi_wp2_with (refine ⟨trivial, ?_⟩; gi_at_call 77; refine (callsIn_wide.2 (all_calls sb _)).mono ?_; rintro e w' ⟨rfl, rfl⟩)
  have hN4 := hN3.newblk (s + 1 + 1 + 1) 26 #[.pointer (some ⟨sb, 0, none⟩)] (by simp [hs])
  have bN4 := below_new bN3 hN3 (.cells #[.pointer (some ⟨sb, 0, none⟩)] 26)
  have hz4 : ((((w.alloc (.cells #[.int .i64 kd] 3)).alloc (.cells #[.int .i64 to] 3)).alloc (.cells #[.slice none 0 0] 38)).alloc (.cells #[.pointer (some ⟨sb, 0, none⟩)] 26)).heap.size = s + 1 + 1 + 1 + 1 := by simp [hs]
  obtain ⟨W0, hW0⟩ : ∃ W0, (((w.alloc (.cells #[.int .i64 kd] 3)).alloc (.cells #[.int .i64 to] 3)).alloc (.cells #[.slice none 0 0] 38)).alloc (.cells #[.pointer (some ⟨sb, 0, none⟩)] 26) = W0 := ⟨_, rfl⟩
  rw [hW0] at hN4 bN4 hz4 ⊢
  have hAll : AllB s W0 sb v q := by
    have h : AllB s w sb v q := by
      refine ⟨⟨hO.cell [] _ 2 (v := v) rfl, by have := (hO.blk_at [] _).2.2; omega⟩, ?_, fun j x hx => ⟨(hR.ppg j x hx).1, by have := (hR.ppg j x hx).2; omega⟩⟩
      obtain ⟨ao, cap, hv, hg⟩ := hR.prow
      refine ⟨ao, cap, hv, fun h0 => ?_⟩
      obtain ⟨g, hg1, hg2⟩ := hg h0
      refine ⟨g, hg1, ?_, hg2⟩
      have := ((hO.row_at [_] _).2 g (by rw [hv, hg1]; simp [Value.ownBlock])).2
      omega
    exact h.below bN4
  have hcab := hN4.cell [] _ 0 (v := .pointer (some ⟨sb, 0, none⟩)) rfl
  have h0 : Has W0 s [blk (s + 1 + 1) 38 #[.slice none 0 0], row 46 2 (.slice none 0 0) (toldL kd to []).length (atsL (toldL kd to [])), blk s 3 #[.int .i64 kd], blk (s + 1) 3 #[.int .i64 to]] := by
    have h1 := hN4.drop.nilrow 46 2
    exact h1.perm ((List.Perm.swap _ _ _).trans (List.Perm.cons _ (List.Perm.cons _ (List.Perm.swap _ _ _))))
  have hps : ∀ p ∈ q.map Prod.snd, p.s.length = 8 := h8
  clear hN4 hN3 hN2 hN1 hN0 bN1 bN2 bN3 hW0 hO hR hH hP h8
  refine wpIn_rangeFunc_ownH rfl (by decide) (gf := 83) (lb := #[.pointer (some ⟨s + 1 + 1 + 1, 0, none⟩)]) rfl trivial (enters_of Try.func83 (by kernel_rfl) rfl)
    (all_stops 8 (by decide) (s + 1 + 1 + 1) sb s v q hps hl W0 (by omega) hcab (by omega) hAll) belowK_t (belowK_b (by omega)) (Below.refl _ _) (fun _ => rfl)
    (fun pre W => (∃ u, Has W s [blk (s + 1 + 1) 38 #[u], row 46 2 u (toldL kd to pre).length (atsL (toldL kd to pre)), blk s 3 #[.int .i64 kd], blk (s + 1) 3 #[.int .i64 to]]) ∧ Below s w W)
    (fun _ _ _ => False)
    (OwnFrom.and (fun pre X Y r hs hg hr => by
      obtain ⟨u, hu⟩ := hs
      refine ⟨u, Has.ownFrom ?_ hu hg hr⟩
      intro A hA
      simp only [List.mem_cons, List.not_mem_nil, or_false] at hA
      rcases hA with rfl | rfl | rfl | rfl
      · exact cly_blk _ _ _
      · exact cly_row _ _ _ _ _
      · exact cly_blk _ _ _
      · exact cly_blk _ _ _) (ownFrom_below (by omega) (by omega)))
    (fun _ _ _ _ _ hs _ _ => hs)
    ⟨⟨_, h0⟩, bN4⟩
    (fun x a' W => ∃ tb sk, W.heap[tb]? = some (.cells (atL x.1).toArray 46 (0, 0)) ∧ W.heap[sk]? = some (.cells (slotL x.2).toArray 42 (0, 0)) ∧ a' = { tmps := #[.pointer (some ⟨sb, 0, none⟩), .int .i64 kd, .int .i64 to, undef, .pointer (some ⟨s, 0, none⟩), .pointer (some ⟨s + 1, 0, none⟩), .slice none 0 0, .pointer (some ⟨s + 1 + 1, 0, none⟩), .pointer (some ⟨tb, 0, none⟩), .pointer (some ⟨sk, 0, none⟩), .pointer (some ⟨sb, 0, none⟩), .func (.func 83) #[] #[.pointer (some ⟨s + 1 + 1 + 1, 0, none⟩)], .agg #[.int .i64 x.1.1, .int .i64 x.1.2], .agg (slotC x.2), undef, undef, undef, undef, undef, undef, undef, undef, undef, undef, undef, undef, undef, undef, undef], defers := [] })
    (fun x a' _ X Y r hs hg hr => by
      obtain ⟨tb, sk, h1, h2, h3⟩ := hs
      exact ⟨tb, sk, block_from h1 hg hr, block_from h2 hg hr, h3⟩)
    ?assign ?body ?done ?stop
  case assign =>
    rintro l pre x W K ⟨⟨u, hu⟩, hB⟩ hK
    have za := zeroAt
    have zs := zeroSlot
    have hA1 := (Has.nil (Nat.le_refl _) : Has W W.heap.size []).newblk W.heap.size 46 #[.int .i64 0, .int .i64 0] rfl
    have bA1 := below_new (Below.refl _ W) (Has.nil (Nat.le_refl _) : Has W W.heap.size []) (.cells #[.int .i64 0, .int .i64 0] 46)
    have tok1 : True := trivial
    dsimp only [atE]
    gi_wp2_with (first
      | (have _t := tok1; refine wpListIn_store_all [] _ hA1 46 (.tmp 8) (.tmp 12) rfl rfl rfl (atL x.1).toArray rfl at_size rfl (at_one _) ?_; clear _t tok1; intro w3 hH3 hB3 hz3; clear hz3; have hS1 := hH3.newblk w3.heap.size 42 (slotC slotZ) rfl; have bS1 := below_new (bA1.trans hB3) hH3 (.cells (slotC slotZ) 42); have tok2 : True := trivial)
      | (have _t := tok2; refine wpListIn_store_all [] _ hS1 42 (.tmp 9) (.tmp 13) rfl rfl rfl (slotL x.2).toArray rfl slot_size rfl (slot_one _) ?_; clear _t tok2; intro w5 hH5 hB5 hz5))
    have b5 := bS1.trans hB5
    exact hK _ _ ⟨b5.size, fun k o _ hk _ => (b5.block k (Array.getElem?_eq_some_iff.1 hk).1).trans hk⟩ (b5.mono hu.le) ⟨⟨u, hu.below b5⟩, hB.trans (b5.mono hu.le)⟩ ⟨_, _, (hH5.blk_at [_] _).1, (hH5.blk_at [] _).1, rfl⟩
  case body =>
    rintro l pre x a' W hl' hr ⟨⟨u, hu⟩, hB⟩ ⟨tb, sk, h1, h2, rfl⟩ hlt
    have d0 := cell_of_blk h2 (i := 0) (v := .int .i64 x.2.kd) rfl
    have d1 := cell_of_blk h2 (i := 1) (v := .int .i64 x.2.to) rfl
    have g0 := hu.cell [_, _] _ 0 (v := .int .i64 kd) rfl
    have g1 := hu.cell [_, _, _] _ 0 (v := .int .i64 to) rfl
    have gu := hu.cell [] _ 0 (v := u) rfl
    have hsn := toldL_snoc kd to pre x
    have hle : (toldL kd to pre).length ≤ 2048 := Nat.le_trans (toldL_le _ _ _) (by omega)
    have HSN := hid hsn
    clear hsn
    by_cases f1 : x.2.kd = kd
    · have e1 : (x.2.kd == kd) = true := by rw [beq_iff_eq]; exact f1
      by_cases f2 : x.2.to = to
      · have e2 : (x.2.to == to) = true := by rw [beq_iff_eq]; exact f2
        have hT : tellB kd to x.2 = true := by unfold tellB; rw [e1, e2]; rfl
        have HT := hid hT
        have h1c : ∀ j u, (atL x.1)[j]? = some u → W.cell? ((⟨tb, 0, none⟩ : Addr).add j) = some u := fun j u hj => by
          have e : (⟨tb, 0, none⟩ : Addr).add j = ⟨tb, j, none⟩ := by unfold Addr.add; split <;> simp_all
          rw [e]
          exact cell_of_blk h1 (by simpa using hj)
        have H1C := hid h1c
        clear hT f1 f2 h1 h2 h1c
        gi_wp2_with (first
          | (refine wpListIn_load_at 46 (.tmp 8) rfl rfl ⟨tb, 0, none⟩ rfl _ [.int .i64 x.1.1, .int .i64 x.1.2] H1C.out Try.underlying46 rfl at_size ?_)
          | (gi_at_builtin; refine wpListIn_append_row [_] _ (hu.alloc _) rfl (.tmp 24) (.tmp 26) 38 rfl i0 (.agg #[.int .i64 0, .int .i64 0]) 16 Try.underlying38 hi hz0 hz1 hz2 rfl (by decide) rfl ⟨W.heap.size, 0, none⟩ 1 1 (atL x.1) rfl rfl (blk_adds [] _ (hu.newblk W.heap.size 46 #[.int .i64 x.1.1, .int .i64 x.1.2] rfl)) (at_one _) (by decide) (by unfold maxLen; omega) (by omega) ?_; intro g2 cap2 w3 hH3 hB3 hK3; have k4 := Has.frozen [] _ hH3 0; have k5 := Has.cell [] _ hH3 0 (v := u) rfl))
        have hS := hH3.set [] _ 0 (.slice (some ⟨g2, 0, none⟩) ((toldL kd to pre).length + 1) cap2)
        have bS := below_set hB3 [] _ hH3 0 (.slice (some ⟨g2, 0, none⟩) ((toldL kd to pre).length + 1) cap2)
        have bA : Below s W (W.alloc (.cells #[.int .i64 x.1.1, .int .i64 x.1.2] 46)) := below_new (Below.refl _ _) hu _
        refine ⟨(((KeepsOthers.alloc _ _).from _).trans (hK3.from _)).trans ((KeepsOthers.setCell _ _ _).from _), bA.trans bS, ⟨.slice (some ⟨g2, 0, none⟩) ((toldL kd to pre).length + 1) cap2, ?_⟩, hB.trans (bA.trans bS)⟩
        rw [HSN.out, HT.out, if_pos rfl, atsL_snoc, List.length_append]
        exact hS
      · have e2 : (x.2.to == to) = false := by rw [beq_eq_false_iff_ne]; exact f2
        have hT : tellB kd to x.2 = false := by unfold tellB; rw [e1, e2]; rfl
        have HT := hid hT
        clear hT f1 f2
        gi_wp2
        exact ⟨KeepsFrom.refl _ _, Below.refl _ _, ⟨u, by rw [HSN.out, HT.out]; simpa using hu⟩, hB⟩
    · have e1 : (x.2.kd == kd) = false := by rw [beq_eq_false_iff_ne]; exact f1
      have hT : tellB kd to x.2 = false := by unfold tellB; rw [e1]; rfl
      have HT := hid hT
      clear hT f1
      gi_wp2
      exact ⟨KeepsFrom.refl _ _, Below.refl _ _, ⟨u, by rw [HSN.out, HT.out]; simpa using hu⟩, hB⟩
  case done =>
    rintro D ys W hD rfl ⟨⟨u, hu⟩, hB⟩ hK
    have cu := hu.cell [] _ 0 (v := u) rfl
    gi_wp2
    refine ⟨by simp, .inl ⟨_, _, rfl, run_takeDeferred hK, ?_⟩⟩
    refine ⟨_, results_tmp rfl _ _ _, u, rfl, ?_, hB.trans (belowK_b (n₀ := s) (w := W0) (by omega) W D _ _ hD hK rfl rfl)⟩
    have h2 : Has (W.putObj D (.deferred none)) s _ := Has.ownFrom (C := 0) ?_ hu (grownBy_putObj' W D _) (fun k e => by cases e; exact ⟨Nat.zero_le _, _, hK, rfl⟩)
    · exact (h2.pick [1])
    · intro A hA
      simp only [List.mem_cons, List.not_mem_nil, or_false] at hA
      rcases hA with rfl | rfl | rfl | rfl
      · exact cly_blk _ _ _
      · exact cly_row _ _ _ _ _
      · exact cly_blk _ _ _
      · exact cly_blk _ _ _
  case stop =>
    rintro D c pre W _ _ h _
    exact h.elim

theorem Has.joinS {w w' : World} {B : Nat} {X L : List Asr} (h : Has w B X) (hb : Below w.heap.size w w') (hn : Has w' w.heap.size L) : Has w' B (L ++ X) := by
  unfold Has at h hn ⊢
  obtain ⟨hB, S, hS, hSb⟩ := h
  obtain ⟨hB', S', hS', hSb'⟩ := hn
  refine ⟨Nat.le_trans hB hb.size, S' ++ S, (sepL_app L X w' (S' ++ S)).2 ⟨S', S, rfl, hS', sepL_loc X w w' S hS (fun k hk => hb.block k (sepL_lt X w S hS k hk)), fun k h h' => ?_⟩, fun k h => ?_⟩
  · have := sepL_lt X w S hS k h'
    have := hSb' k h
    omega
  · rcases List.mem_append.1 h with h' | h'
    · have := hSb' k h'; omega
    · exact hSb k h'

/-- Places told, as a slice of the call's own. -/
def AtPost (l : List (Int × Int)) (X : List Asr) (B : Nat) (w : World) (e : Ending) (w' : World) : Prop :=
  ∃ ao cap, e = .returned (.slice ao l.length cap) ∧ Has w' B (row 46 2 (.slice ao l.length cap) l.length (atsL l) :: X) ∧ Below B w w'

theorem Parents_calls (sb hb n : Nat) (first many : Int) (F : List Int) (ps : List PageS) (to : Int) (w : World) (B : Nat) (X : List Asr) (hH : Has w B (StoA sb hb n first many F ps :: X)) :
    Calls Try.prog 18 #[.pointer (some ⟨sb, 0, none⟩), .int .i64 to] w (AtPost (toldL 1 to (allS ps)) (StoA sb hb n first many F ps :: X) B w) := by
  have CT := hid (told_calls sb hb n first many F ps 1 to w B X hH)
  unfold AtPost
  go_enter Try.func18, Try.ntmps18
  go_wp2_with fail
  refine CT.out.mono ?_
  rintro e w2 ⟨u, rfl, hH2, hB2⟩
  have hJ := hH.joinS hB2 hH2
  obtain ⟨ao, cap, rfl, _, _, _⟩ := hJ.row_form [] _
  clear CT hH2
  go_wp2_with fail
  go_ret
  exact ⟨ao, cap, rfl, hJ, hB2.mono hH.le⟩

theorem Leaves_calls (sb hb n : Nat) (first many : Int) (F : List Int) (ps : List PageS) (to : Int) (w : World) (B : Nat) (X : List Asr) (hH : Has w B (StoA sb hb n first many F ps :: X)) :
    Calls Try.prog 19 #[.pointer (some ⟨sb, 0, none⟩), .int .i64 to] w (AtPost (toldL 2 to (allS ps)) (StoA sb hb n first many F ps :: X) B w) := by
  have CT := hid (told_calls sb hb n first many F ps 2 to w B X hH)
  unfold AtPost
  go_enter Try.func19, Try.ntmps19
  go_wp2_with fail
  refine CT.out.mono ?_
  rintro e w2 ⟨u, rfl, hH2, hB2⟩
  have hJ := hH.joinS hB2 hH2
  obtain ⟨ao, cap, rfl, _, _, _⟩ := hJ.row_form [] _
  clear CT hH2
  go_wp2_with fail
  go_ret
  exact ⟨ao, cap, rfl, hJ, hB2.mono hH.le⟩

end Go.Proofs.Yteeapkndappnoaa

/-
  Contracts of package pte (layer 4), in the machine's own words on bits.
-/
namespace Go.Proofs.Yteeapkndappnoaa
open Go.RowKit
set_option linter.unusedVariables false
set_option linter.unusedSimpArgs false

/-- An entry's cells. -/
def pteC (p : PteS) : Array Value := #[.bool p.P, .bool p.W, .bool p.U, .bool p.A, .bool p.D, .bool p.PS, .bool p.NX, .bool p.Bad, .int .i64 p.Frame]

/-- The cells of the table of an entry's flags: each one's address, and its bit. -/
def flagC (b : Nat) : Array Value := #[.pointer (some ⟨b, 0, none⟩), .int .u64 1, .pointer (some ⟨b, 1, none⟩), .int .u64 2, .pointer (some ⟨b, 2, none⟩), .int .u64 4, .pointer (some ⟨b, 3, none⟩), .int .u64 32,
  .pointer (some ⟨b, 4, none⟩), .int .u64 64, .pointer (some ⟨b, 5, none⟩), .int .u64 128, .pointer (some ⟨b, 6, none⟩), .int .u64 9223372036854775808]

theorem flag_index (b : Nat) (w : World) : ∀ k : Nat, k < 7 → (Instr.index 135 (.agg (flagC b)) (.int .i64 k)).run Try.prog w = .ok (.agg #[.pointer (some ⟨b, k, none⟩), .int .u64 (fbit k)]) w
  | 0, _ => by kernel_rfl
  | 1, _ => by kernel_rfl
  | 2, _ => by kernel_rfl
  | 3, _ => by kernel_rfl
  | 4, _ => by kernel_rfl
  | 5, _ => by kernel_rfl
  | 6, _ => by kernel_rfl
  | k + 7, h => by omega

set_option maxHeartbeats 1000000 in
set_option maxRecDepth 100000 in
theorem flags_ok (b : Nat) : Does Try.prog 84 #[.pointer (some ⟨b, 0, none⟩)] [] (fun _ : Unit => .agg (flagC b)) (fun _ => []) := by
  intro w B X hH
  have hH : Has w B X := hH
  go_enter Try.func84, Try.ntmps84
  go_wp2
  go_still_tail 29, (by kernel_rfl)
  change wpList _ _ _ _ _ ((w.alloc _).drew)
  go_wp2
  exact bodyPost_ret (v := .agg (flagC b)) (by simp [results, Try.results84, go_sem, flagC]) rfl ⟨(), rfl, (hH.alloc _).drew, ((Below.refl B w).alloc hH.le _).drew⟩

/-! ### Used -/
/-! ### Get -/
/-- The entry when k flags have been told. -/
def pcell (v : Int) (k : Nat) : Array Value := #[.bool (decide (0 < k) && flg v 0), .bool (decide (1 < k) && flg v 1), .bool (decide (2 < k) && flg v 2), .bool (decide (3 < k) && flg v 3), .bool (decide (4 < k) && flg v 4),
  .bool (decide (5 < k) && flg v 5), .bool (decide (6 < k) && flg v 6), .bool false, .int .i64 0]
theorem pcell_step (v : Int) : ∀ k : Nat, k < 7 → (pcell v k).setIfInBounds k (.bool (flg v k)) = pcell v (k + 1)
  | 0, _ => by simp [pcell]
  | 1, _ => by simp [pcell]
  | 2, _ => by simp [pcell]
  | 3, _ => by simp [pcell]
  | 4, _ => by simp [pcell]
  | 5, _ => by simp [pcell]
  | 6, _ => by simp [pcell]
  | k + 7, h => by omega
theorem pcell_get (v : Int) : ∀ k : Nat, k < 7 → (pcell v k)[k]? = some (.bool false)
  | 0, _ => rfl
  | 1, _ => rfl
  | 2, _ => rfl
  | 3, _ => rfl
  | 4, _ => rfl
  | 5, _ => rfl
  | 6, _ => rfl
  | k + 7, h => by omega

end Go.Proofs.Yteeapkndappnoaa

/-
  Contracts of package pte (layer 4): Put.
-/
namespace Go.Proofs.Yteeapkndappnoaa
open Go.RowKit
set_option linter.unusedVariables false
set_option linter.unusedSimpArgs false

/-! ### Put -/
theorem pteC_get (p : PteS) : ∀ k : Nat, k < 7 → (pteC p)[k]? = some (.bool (p.fl k))
  | 0, _ => rfl
  | 1, _ => rfl
  | 2, _ => rfl
  | 3, _ => rfl
  | 4, _ => rfl
  | 5, _ => rfl
  | 6, _ => rfl
  | k + 7, h => by omega
theorem Put_no (p : PteS) (w : World) (h : putOk p = false) : Calls Try.prog 78 #[.agg (pteC p)] w fun e w' => e = .returned (.tuple #[.int .u64 0, .bool false]) ∧ Below w.heap.size w w' := by
  have hB := (Below.refl w.heap.size w).alloc (Nat.le_refl _) (.cells (pteC p) 67)
  obtain ⟨P, W, U, A, D, PS, NX, Bad, Frame⟩ := p
  cases Bad with
  | true =>
    go_enter Try.func78, Try.ntmps78
    simp only [pteC] at hB ⊢
    go_wp2
    go_ret2
    exact ⟨rfl, hB⟩
  | false =>
    by_cases h1 : Frame < 0
    · have e1 : decide (Frame < 0) = true := by simpa using h1
      clear h
      go_enter Try.func78, Try.ntmps78
      simp only [pteC] at hB ⊢
      go_wp2
      go_ret2
      exact ⟨rfl, hB⟩
    · have e1 : decide (Frame < 0) = false := by simpa using h1
      have h2 : 1048576 ≤ Frame := by
        simp [putOk] at h
        omega
      have e2 : decide (1048576 ≤ Frame) = true := by simpa using h2
      clear h
      go_enter Try.func78, Try.ntmps78
      simp only [pteC] at hB ⊢
      go_wp2
      go_ret2
      exact ⟨rfl, hB⟩

set_option maxHeartbeats 2000000 in
set_option maxRecDepth 100000 in
theorem Put_ok (p : PteS) (w : World) (hBad : p.Bad = false) (h1 : 0 ≤ p.Frame) (h2 : p.Frame < 1048576) : Calls Try.prog 78 #[.agg (pteC p)] w fun e w' => e = .returned (.tuple #[.int .u64 (putI p 7), .bool true]) ∧ Below w.heap.size w w' := by
  have hH0 : Has w w.heap.size [] := Has.nil (Nat.le_refl _)
  have hN := hH0.newblk w.heap.size 67 (pteC p) rfl
  have hBN := below_new (Below.refl w.heap.size w) hH0 (.cells (pteC p) 67)
  have c7 := hN.cell [] _ 7 (v := .bool false) (by simp [pteC, hBad])
  have c8 := hN.cell [] _ 8 (v := .int .i64 p.Frame) rfl
  have HBad := hid hBad
  clear hBad hH0
  go_enter Try.func78, Try.ntmps78
  go_wp2_with fail
  refine (flags_ok w.heap.size _ _ _ hN).mono ?_
  rintro e w1 ⟨_, rfl, hH1, hB1⟩
  have hB := hBN.trans hB1
  generalize hbb : w.heap.size = b at *
  have HBB := hid hbb
  clear hbb hBN hB1 hN c7 c8
  go_wp2_with fail
  go_loopw [4, 6, 24] (fun r _ i wr => ∃ k : Nat, k ≤ 7 ∧ i = .int .i64 k ∧ r = .int .u64 (putI p k) ∧ Has wr b [blk b 67 (pteC p)] ∧ Below b w wr) (fun _ _ i _ => 7 - (intOf i).toNat)
  case atStart => exact ⟨0, by omega, rfl, rfl, hH1, hB⟩
  case round =>
    obtain ⟨k, hk, rfl, rfl, hHr, hBr⟩ := hrel
    clear hH1 hB
    by_cases hlt : k < 7
    · have hidx := fun W => flag_index b W k hlt
      have hN := hHr.newblk wr.heap.size 134 #[.pointer (some ⟨b, k, none⟩), .int .u64 (fbit k)] rfl
      have c0 := hN.cell [] _ 0 rfl
      have c1 := hN.cell [] _ 1 rfl
      have c2 := hN.cell [_] _ k (pteC_get p k hlt)
      simp at c0 c1
      have e1 : putI p (k + 1) = if p.fl k then bits .or .u64 (putI p k) (fbit k) else putI p k := rfl
      cases hf : p.fl k with
      | true =>
        rw [hf] at c2
        have HE : Hid (putI p (k + 1) = bits .or .u64 (putI p k) (fbit k)) := by rw [hf] at e1; exact e1
        clear e1 hf
        go_wp2_with fail
        go_roundw
        case rel => exact ⟨k + 1, by omega, by go_num, by rw [HE.out], hHr.alloc _, hBr.trans (below_new (Below.refl _ _) hHr _)⟩
        case measure => simp [intOf] <;> omega
      | false =>
        rw [hf] at c2
        have HE : Hid (putI p (k + 1) = putI p k) := by rw [hf] at e1; exact e1
        clear e1 hf
        go_wp2_with fail
        go_roundw
        case rel => exact ⟨k + 1, by omega, by go_num, by rw [HE.out], hHr.alloc _, hBr.trans (below_new (Below.refl _ _) hHr _)⟩
        case measure => simp [intOf] <;> omega
    · obtain rfl : k = 7 := by omega
      go_wp2_with fail
      go_ret2
      exact ⟨rfl, by rw [HBB.out]; exact hBr⟩
/-! ### said of numbers -/
/-- What Put hands back. -/
def putR (p : PteS) : Value := .tuple #[.int .u64 (if putOk p then (putN p : Int) else 0), .bool (putOk p)]
theorem EPut_calls (p : PteS) (w : World) : Calls Try.prog 78 #[.agg (pteC p)] w fun e w' => e = .returned (putR p) ∧ Below w.heap.size w w' := by
  cases h : putOk p with
  | false =>
    have e : putR p = .tuple #[.int .u64 0, .bool false] := by simp [putR, h]
    rw [e]
    exact Put_no p w h
  | true =>
    have e : putR p = .tuple #[.int .u64 (putI p 7), .bool true] := by simp [putR, h, putI_eq p h]
    rw [e]
    have h' := (putOk_iff p).1 h
    exact Put_ok p w h'.1 h'.2.1 h'.2.2

end Go.Proofs.Yteeapkndappnoaa

/-
  Package store: a slot and its word are put.
-/
namespace Go.Proofs.Yteeapkndappnoaa
open Go.RowKit Go.Shelf
set_option linter.unusedVariables false
set_option linter.unusedSimpArgs false

section
variable {P : Program} {w : World} {B b : Nat} {T : TypeId} {cs : Array Value} {ops : Array Oper} {o : Oper} {a : Act} {K : Act → World → Prop} {Q : Exit → Act → World → Prop} {E : Prop}
/-- A struct is stored into a block, as one step of a region that draws its order. -/
theorem step_store_at (L1 L2 : List Asr) (hH : Has w B (L1 ++ blk b T cs :: L2)) (hgd : o.guard = none) (ty : TypeId) (x v : Operand) (ho : o.op = .store ty x v) (k : Nat) (hx : a.eval x = .pointer (some ⟨b, k, none⟩)) (vs : Array Value) (hv : a.eval v = .agg vs)
    (hi : (P.info? ty).map (·.size) = some vs.size) (hk : k + vs.size ≤ cs.size) (h1 : ∀ u ∈ vs.toList, u.oneCell' = true)
    (hK : ∀ w', Has w' B (L1 ++ blk b T (cs.toList.take k ++ vs.toList ++ cs.toList.drop (k + vs.size)).toArray :: L2) → Below B w w' → w'.heap.size = w.heap.size → K (a.put o.dst undef) w') : if Region.wanted o (yielded ops a.tmps) = true then Oper.wp P o a w K Q else E := by
  have hw : Region.wanted o (yielded ops a.tmps) = true := by simp [Region.wanted, hgd]
  rw [if_pos hw]
  obtain ⟨hb, hB, hlt⟩ := hH.blk_at L1 L2
  have hst := run_storeCells_at (P := P) b k T vs.toList 0 cs w hb (by simpa using hk) h1
  have hsz : (sizeOf ty).run P w = .ok vs.size w := by
    cases hq : P.info? ty with
    | none => simp [hq] at hi
    | some i => simp [hq] at hi; simp [sizeOf, typeInfo, hq, hi]
  unfold Oper.wp execOp
  simp only [ho, hx, hv, Instr.storeAt, Instr.sureAddr, storeVar, Value.cells, Sem.run_bind, Sem.run_pure, Result.andThen_ok, hsz, ne_eq, not_true_eq_false, if_false, hst]
  refine hK _ ?_ ?_ (by simp)
  · have := hH.step (A' := blk b T (cs.toList.take k ++ vs.toList ++ cs.toList.drop (k + vs.size)).toArray) L1 L2 (w' := w.setRow b (cs.toList.take k ++ vs.toList ++ cs.toList.drop (k + vs.size)).toArray) (by simp)
      (fun S ⟨hS, _⟩ => ⟨[b], ⟨rfl, setRow_heap w b cs _ T (0, 0) hb⟩, fun z hz => .inl (by rw [hS]; exact hz), fun z _ hz => setRow_other w b z _ (fun e => hz (by rw [hS, e]; simp))⟩)
    simpa using this
  · refine ⟨rfl, rfl, rfl, by simp, fun z hz => ?_⟩
    rw [setRow_other _ _ _ _ (by omega)]
end

/-- A page's slot, stored: all pages behind it. -/
theorem stoX_put {sb hb fb : Nat} {v : Value} {first many : Int} {F : List Int} {q : List (Nat × PageS)} {X : List Asr} {j k : Nat} {x : Nat × PageS} (hx : q[j]? = some x) (y : SlotS) (hk : k < x.2.s.length) :
    ([blk sb 88 #[ptrV hb, ptrV fb, v], row 91 1 v q.length (ptrs q), FreeA fb first many F] ++ pgs (q.take j)) ++ blk x.1 95 ((pageC x.2).toList.take (4 + k * 5) ++ (slotL y).toArray.toList ++ (pageC x.2).toList.drop (4 + k * 5 + (slotL y).toArray.size)).toArray :: (pgs (q.drop (j + 1)) ++ X)
      = stoX sb hb fb v first many F (q.set j (x.1, { x.2 with s := x.2.s.set k y })) X := by
  have e : ((pageC x.2).toList.take (4 + k * 5) ++ (slotL y).toArray.toList ++ (pageC x.2).toList.drop (4 + k * 5 + (slotL y).toArray.size)).toArray = pageC { x.2 with s := x.2.s.set k y } := pageC_set x.2 k y hk
  rw [e]
  have h := pgs_set (List.getElem?_eq_some_iff.1 hx).1 (x.1, { x.2 with s := x.2.s.set k y }) [blk sb 88 #[ptrV hb, ptrV fb, v], row 91 1 v q.length (ptrs q), FreeA fb first many F] X
  refine h.trans ?_
  unfold stoX
  rw [ptrs_set (b := x.1) (p := x.2) hx, List.length_set]
  rfl
theorem stoX_at {sb hb fb : Nat} {v : Value} {first many : Int} {F : List Int} {q : List (Nat × PageS)} {X : List Asr} {j : Nat} {x : Nat × PageS} (hx : q[j]? = some x) :
    stoX sb hb fb v first many F q X = ([blk sb 88 #[ptrV hb, ptrV fb, v], row 91 1 v q.length (ptrs q), FreeA fb first many F] ++ pgs (q.take j)) ++ blk x.1 95 (pageC x.2) :: (pgs (q.drop (j + 1)) ++ X) := pgs_split hx [_, _, _] X

theorem set_slots {q : List (Nat × PageS)} {j : Nat} {x : Nat × PageS} (hx : q[j]? = some x) (hnd : ((q.map Prod.snd).map (·.f)).Nodup) (k : Nat) (y : SlotS) : (q.set j (x.1, { x.2 with s := x.2.s.set k y })).map Prod.snd = setSlot (q.map Prod.snd) x.2.f k y := by
  unfold setSlot
  refine List.ext_getElem? fun i => ?_
  simp only [List.getElem?_map, List.getElem?_set]
  obtain ⟨h1, h2⟩ := List.getElem?_eq_some_iff.1 hx
  by_cases e : j = i
  · subst e
    simp [h1, h2]
  · rw [if_neg e]
    cases hi : q[i]? with
    | none => rfl
    | some z =>
      have hne : z.2.f ≠ x.2.f := by
        intro he
        obtain ⟨h3, h4⟩ := List.getElem?_eq_some_iff.1 hi
        have := (List.getElem_inj (i := j) (j := i) (h₀ := by simpa using h1) (h₁ := by simpa using h3) hnd).1 (by simp [h2, h4, he])
        exact e this
      simp [hne]
theorem setSlot_f (ps : List PageS) (f : Int) (k : Nat) (y : SlotS) : (setSlot ps f k y).map (·.f) = ps.map (·.f) := by
  unfold setSlot
  rw [List.map_map]
  refine List.map_congr_left fun p _ => ?_
  simp only [Function.comp]
  split <;> rfl
theorem setSlot_k (ps : List PageS) (f : Int) (k : Nat) (y : SlotS) : (setSlot ps f k y).map (·.k) = ps.map (·.k) := by
  unfold setSlot
  rw [List.map_map]
  refine List.map_congr_left fun p _ => ?_
  simp only [Function.comp]
  split <;> rfl
theorem setSlot_mem {ps : List PageS} {f : Int} {k : Nat} {y : SlotS} {p : PageS} (h : p ∈ setSlot ps f k y) : ∃ p0 ∈ ps, p.f = p0.f ∧ p.k = p0.k ∧ p.s.length = p0.s.length := by
  unfold setSlot at h
  obtain ⟨p0, h0, rfl⟩ := List.mem_map.1 h
  refine ⟨p0, h0, ?_⟩
  split <;> simp
theorem StoP.put {n : Nat} {first many : Int} {F : List Int} {ps : List PageS} (h : StoP n first many F ps) (f : Int) (k : Nat) (y : SlotS) : StoP n first many F (setSlot ps f k y) := by
  refine ⟨?_, ?_, by rw [setSlot_f]; exact h.nd, by rw [setSlot_k]; exact h.kd, ?_, ?_, h.hn, by have := h.ln; simpa [setSlot] using this, h.ff⟩
  · intro p hp
    obtain ⟨p0, h0, _, _, e⟩ := setSlot_mem hp
    rw [e]; exact h.s8 p0 h0
  · intro p hp
    obtain ⟨p0, h0, _, e, _⟩ := setSlot_mem hp
    rw [e]; exact h.ok p0 h0
  · intro p hp
    obtain ⟨p0, h0, e, _, _⟩ := setSlot_mem hp
    rw [e]; exact h.rg p0 h0
  · intro p hp
    obtain ⟨p0, h0, e, _, _⟩ := setSlot_mem hp
    rw [e]; exact h.df p0 h0

theorem Put_lit (p : PteS) (vw : Int) (pb : Bool) (h1 : (if putOk p then (putN p : Int) else 0) = vw) (h2 : putOk p = pb) (w : World) : Calls Try.prog 78 #[.agg (pteC p)] w fun e w' => e = .returned (.tuple #[.int .u64 vw, .bool pb]) ∧ Below w.heap.size w w' := by
  subst h1 h2
  exact EPut_calls p w

/-- The host's memory, to the front of what lies behind a store, and back. -/
theorem memX_out {sb hb fb n : Nat} {v : Value} {first many : Int} {F W : List Int} {q : List (Nat × PageS)} {w : World} {B : Nat} {A : Asr} {X : List Asr} (h : Has w B (A :: stoX sb hb fb v first many F q (MemA hb n W :: X))) : Has w B (MemA hb n W :: A :: stoX sb hb fb v first many F q X) :=
  h.perm (List.perm_middle (l₁ := A :: blk sb 88 #[ptrV hb, ptrV fb, v] :: row 91 1 v q.length (ptrs q) :: FreeA fb first many F :: pgs q) (l₂ := X))
theorem memX_in {sb hb fb n : Nat} {v : Value} {first many : Int} {F W : List Int} {q : List (Nat × PageS)} {w : World} {B : Nat} {A : Asr} {X : List Asr} (h : Has w B (MemA hb n W :: A :: stoX sb hb fb v first many F q X)) : Has w B (stoX sb hb fb v first many F q (MemA hb n W :: X)) :=
  (h.perm (List.perm_middle (l₁ := A :: blk sb 88 #[ptrV hb, ptrV fb, v] :: row 91 1 v q.length (ptrs q) :: FreeA fb first many F :: pgs q) (l₂ := X)).symm).drop
theorem slot_cells {w : World} {B b : Nat} {y : SlotS} {X : List Asr} (hH : Has w B (blk b 42 (slotC y) :: X)) : w.cell? ⟨b, 0, none⟩ = some (.int .i64 y.kd) ∧ w.cell? ⟨b, 1, none⟩ = some (.int .i64 y.to) ∧ w.cell? ⟨b, 2, none⟩ = some (.bool y.w) ∧ w.cell? ⟨b, 3, none⟩ = some (.bool y.u) ∧ w.cell? ⟨b, 4, none⟩ = some (.bool y.x) :=
  ⟨hH.cell [] _ 0 rfl, hH.cell [] _ 1 rfl, hH.cell [] _ 2 rfl, hH.cell [] _ 3 rfl, hH.cell [] _ 4 rfl⟩
set_option maxHeartbeats 2000000 in
set_option maxRecDepth 100000 in
theorem put_calls (sb hb n : Nat) (first many : Int) (F : List Int) (ps : List PageS) (W : List Int) (f i h : Int) (y : SlotS) (hs : (slotAt ps f i).isSome = true) (w : World) (B : Nat) (X : List Asr) (hH : Has w B (StoA sb hb n first many F ps :: MemA hb n W :: X)) :
    Calls Try.prog 63 #[.pointer (some ⟨sb, 0, none⟩), .int .i64 f, .int .i64 i, .agg (slotC y), .int .i64 h] w fun e w' => e = .returned (.bool true) ∧ Has w' B (StoA sb hb n first many F (setSlot ps f i.toNat y) :: MemA hb n (setW W n f i (wordOf y h)) :: X) ∧ Below B w w' := by
  obtain ⟨hP, fb, v, q, rfl, hl, hO⟩ := StoA.openX hH
  have hN := stoX_in (hO.newblk w.heap.size 42 (slotC y) rfl)
  have bN := below_new (Below.refl B w) hO (.cells (slotC y) 42)
  obtain ⟨o, ho⟩ : ∃ o, q.find? (fun x => x.2.f == f) = o := ⟨_, rfl⟩
  rcases find_slot hP f i o ho with ⟨h1, h2⟩ | ⟨x, j, k, y0, rfl, hj, hf, rfl, hk8, hy, h8, h1, h2⟩
  · rw [h2] at hs
    cases hs
  have cp := slot_calls sb hb fb v first many F q f k (some x) ho hl _ B _ hN.drew
  rw [h1] at cp
  have CP := hid cp
  have HJ := hid hj
  have H8 := hid (And.intro h8 hk8)
  have HF := hid hf
  have HP := hid hP
  have s1 := slot_cells (stoX_out hN).drew
  have bD := bN.drew
  obtain ⟨vw, hvw⟩ : ∃ vw, (if putOk (pteOf y h) then (putN (pteOf y h) : Int) else 0) = vw := ⟨_, rfl⟩
  obtain ⟨pb, hpb⟩ : ∃ pb, putOk (pteOf y h) = pb := ⟨_, rfl⟩
  have hx := hP.rg x.2 (List.mem_map_of_mem (List.mem_of_getElem? hj))
  have hwk : wok n f k := by have := hP.ff.a1; have := hP.hn; refine ⟨?_, ?_, ?_, ?_⟩ <;> omega
  have HWK := hid hwk
  have HVW := hid hvw
  have CPT := hid (fun W => Put_lit (pteOf y h) vw pb hvw hpb W)
  clear cp hj h1 h2 h8 hf hy hO hH hP ho hN bN hvw hpb hwk hx hs
  go_enter Try.func63, Try.ntmps63
  go_wp2_with fail
  refine wp_region_held_drew (S := fun U => U.cell? ⟨w.heap.size, 0, none⟩ = some (.int .i64 y.kd) ∧ U.cell? ⟨w.heap.size, 1, none⟩ = some (.int .i64 y.to) ∧ U.cell? ⟨w.heap.size, 2, none⟩ = some (.bool y.w) ∧ U.cell? ⟨w.heap.size, 3, none⟩ = some (.bool y.u) ∧ U.cell? ⟨w.heap.size, 4, none⟩ = some (.bool y.x)) (by kernel_rfl) ?_ (fun hHeld => ?_)
  · exact s1
  refine wpAnyH_take (i := 0) (oi := ?oi0) (v := ?v0) ?hi0 (by kernel_rfl) (by kernel_rfl) (by kernel_rfl) ?hQ0 ?hy0 (by assumption) ?rest0
  case hi0 => simp only [List.getElem?_toArray, List.getElem?_cons_succ, List.getElem?_cons_zero]; rfl
  case hQ0 => exact fun _ _ _ h => h
  case hy0 => refine Or.inl ⟨by rfl, ?_⟩; intro w hSw; (try dsimp only at hSw); go_simp; try with_reducible rfl
  try simp only [Act.put, List.setIfInBounds_toArray, List.set_cons_zero, List.set_cons_succ]
  refine wpAnyH_take (i := 1) (oi := ?oi1) (v := ?v1) ?hi1 (by kernel_rfl) (by kernel_rfl) (by kernel_rfl) ?hQ1 ?hy1 (by assumption) ?rest1
  case hi1 => simp only [List.getElem?_toArray, List.getElem?_cons_succ, List.getElem?_cons_zero]; rfl
  case hQ1 => exact fun _ _ _ h => h
  case hy1 => refine Or.inl ⟨by rfl, ?_⟩; intro w hSw; (try dsimp only at hSw); go_simp; try with_reducible rfl
  try simp only [Act.put, List.setIfInBounds_toArray, List.set_cons_zero, List.set_cons_succ]
  refine wpAnyH_take (i := 2) (oi := ?oi2) (v := ?v2) ?hi2 (by kernel_rfl) (by kernel_rfl) (by kernel_rfl) ?hQ2 ?hy2 (by assumption) ?rest2
  case hi2 => simp only [List.getElem?_toArray, List.getElem?_cons_succ, List.getElem?_cons_zero]; rfl
  case hQ2 => exact fun _ _ _ h => h
  case hy2 => refine Or.inl ⟨by rfl, ?_⟩; intro w hSw; (try dsimp only at hSw); go_simp; try with_reducible rfl
  try simp only [Act.put, List.setIfInBounds_toArray, List.set_cons_zero, List.set_cons_succ]
  refine wpAnyH_take (i := 4) (oi := ?oi4) (v := ?v4) ?hi4 (by kernel_rfl) (by kernel_rfl) (by kernel_rfl) ?hQ4 ?hy4 (by assumption) ?rest4
  case hi4 => simp only [List.getElem?_toArray, List.getElem?_cons_succ, List.getElem?_cons_zero]; rfl
  case hQ4 => exact fun _ _ _ h => h
  case hy4 => refine Or.inl ⟨by rfl, ?_⟩; intro w hSw; (try dsimp only at hSw); go_simp; try with_reducible rfl
  try simp only [Act.put, List.setIfInBounds_toArray, List.set_cons_zero, List.set_cons_succ]
  refine wpAnyH_ready (rs := [3]) (by kernel_rfl) (by simp) ?_
  refine AllReadyH.cons rfl (fun K hK => ?_) AllReadyH.nil
  go_simp
  go_at_call 51
  refine CP.out.mono ?_
  rintro e w2 ⟨rfl, hH2, hB2⟩
  have hb2 := stoX_out hH2
  have s2 := slot_cells hb2
  dsimp only
  refine hK.out _ _ ?_ (fun hHeld => ?_)
  · exact s2
  clear hK K
  try simp only [Act.put, List.setIfInBounds_toArray, List.set_cons_zero, List.set_cons_succ]
  refine wpAnyH_take (i := 5) (oi := ?oi5) (v := ?v5) ?hi5 (by kernel_rfl) (by kernel_rfl) (by kernel_rfl) ?hQ5 ?hy5 (by assumption) ?rest5
  case hi5 => simp only [List.getElem?_toArray, List.getElem?_cons_succ, List.getElem?_cons_zero]; rfl
  case hQ5 => exact fun _ _ _ h => h
  case hy5 => refine Or.inl ⟨by rfl, ?_⟩; intro w hSw; (try dsimp only at hSw); go_simp; try with_reducible rfl
  try simp only [Act.put, List.setIfInBounds_toArray, List.set_cons_zero, List.set_cons_succ]
  refine wpAnyH_ready (rs := [6]) (by kernel_rfl) (by simp) ?_
  refine AllReadyH.cons rfl (fun K hK => ?_) AllReadyH.nil
  refine step_store_at _ _ (stoX_at HJ.out ▸ hH2) rfl 42 (.tmp 18) (.tmp 17) rfl (4 + k * 5) rfl (slotL y).toArray rfl slot_size (by have := H8.out; simp [pageC, pageL_length, slotL]; omega) (slot_one _) ?_
  intro w3 hH3 hB3 hz3
  rw [stoX_put HJ.out y (by have := H8.out; omega)] at hH3
  have hb3 := stoX_out hH3
  have s3 := slot_cells hb3
  try dsimp only
  refine hK.out _ _ ?_ (fun hHeld => ?_)
  · exact s3
  clear hK K
  try simp only [Act.put, List.setIfInBounds_toArray, List.set_cons_zero, List.set_cons_succ]
  refine wpAnyH_done (by kernel_rfl) ?_ _
  have bE := (bD.trans hB2).trans hB3
  obtain ⟨m0, m1, m2, m3, m4⟩ := s3
  clear hHeld s1 s2 hH2 hB2 hB3 hz3 hb2 bD CP
  go_wp2_with fail
  refine (keeps (CPT.out w3) hb3).mono ?_
  rintro e w4 ⟨rfl, hH4, hB4⟩
  have bF := bE.trans hB4
  have z0 := hH4.cell [] _ 0 (v := .int .i64 y.kd) rfl
  have hst := stoX_in hH4
  have c0 := hst.cell [] _ 0 (v := ptrV hb) rfl
  unfold ptrV at c0
  clear CPT hH3 hb3 m0 m1 m2 m3 m4 bE hB4
  by_cases hk : y.kd = 0
  · have e1 : (y.kd == 0) = true := by rw [beq_iff_eq]; exact hk
    have hwd : wordOf y h = 0 := by unfold wordOf; rw [if_pos hk]
    have HWD := hid hwd
    have CS := hid (Set_calls hb n W f k (0) w4 B _ (memX_out hH4))
    clear hwd hk
    go_wp2_with fail
    refine CS.out.mono ?_
    rintro e w5 ⟨rfl, hH5, hB5⟩
    clear CS
    go_wp2_with fail
    go_ret
    refine ⟨congrArg (fun b => Ending.returned (.bool b)) (decide_eq_true HWK.out), ?_, bF.trans hB5⟩
    rw [HWD.out, show ((k : Nat) : Int).toNat = k from rfl]
    have h6 := memX_in hH5
    have e := set_slots HJ.out HP.out.nd k y
    have hp := HP.out.put f k y
    rw [HF.out] at e
    rw [← e] at hp ⊢
    exact StoA.shut fb v _ hp h6
  · have e1 : (y.kd == 0) = false := by rw [beq_eq_false_iff_ne]; exact hk
    have hwd : wordOf y h = vw := by unfold wordOf; rw [if_neg hk]; exact HVW.out
    have HWD := hid hwd
    have CS := hid (Set_calls hb n W f k (vw) w4 B _ (memX_out hH4))
    clear hwd hk
    go_wp2_with fail
    refine CS.out.mono ?_
    rintro e w5 ⟨rfl, hH5, hB5⟩
    clear CS
    go_wp2_with fail
    go_ret
    refine ⟨congrArg (fun b => Ending.returned (.bool b)) (decide_eq_true HWK.out), ?_, bF.trans hB5⟩
    rw [HWD.out, show ((k : Nat) : Int).toNat = k from rfl]
    have h6 := memX_in hH5
    have e := set_slots HJ.out HP.out.nd k y
    have hp := HP.out.put f k y
    rw [HF.out] at e
    rw [← e] at hp ⊢
    exact StoA.shut fb v _ hp h6

end Go.Proofs.Yteeapkndappnoaa

/-
  Package store: entries are told, and cleared.
-/
namespace Go.Proofs.Yteeapkndappnoaa
open Go.RowKit Go.Shelf
set_option linter.unusedVariables false
set_option linter.unusedSimpArgs false

theorem toX {w : World} {B : Nat} {A S M : Asr} {X : List Asr} (h : Has w B (A :: S :: M :: X)) : Has w B (S :: M :: A :: X) := h.perm ((List.Perm.swap _ _ _).trans (List.Perm.cons _ (List.Perm.swap _ _ _)))
theorem fromX {w : World} {B : Nat} {A S M : Asr} {X : List Asr} (h : Has w B (S :: M :: A :: X)) : Has w B (A :: S :: M :: X) := h.perm ((List.Perm.cons _ (List.Perm.swap _ _ _)).trans (List.Perm.swap _ _ _))
theorem StoA.host {sb hb n : Nat} {first many : Int} {F : List Int} {ps : List PageS} {w : World} {B : Nat} {X : List Asr} (hH : Has w B (StoA sb hb n first many F ps :: X)) : w.cell? ⟨sb, 0, none⟩ = some (.pointer (some ⟨hb, 0, none⟩)) := by
  obtain ⟨_, fb, v, q, _, _, hO⟩ := StoA.openX hH
  exact hO.cell [] _ 0 (v := ptrV hb) rfl
theorem slot_right {n : Nat} {first many : Int} {F : List Int} {ps : List PageS} (hP : StoP n first many F ps) {f i : Int} (h : (slotAt ps f i).isSome = true) : rightK (keyAt ps f) := by
  unfold slotAt at h
  unfold keyAt
  cases hp : pageAt ps f with
  | none => rw [hp] at h; cases h
  | some p => exact hP.ok p (List.mem_of_find?_eq_some hp)

/-- A slot's address: what is known of it. -/
theorem slot_closed (sb hb n : Nat) (first many : Int) (F : List Int) (ps : List PageS) (f i : Int) (w : World) (B : Nat) (X : List Asr) (hH : Has w B (StoA sb hb n first many F ps :: X)) :
    Calls Try.prog 51 #[.pointer (some ⟨sb, 0, none⟩), .int .i64 f, .int .i64 i] w fun e w' => ∃ p, e = .returned (.pointer p) ∧ ((p = none ∧ slotAt ps f i = none) ∨ ∃ b k y, p = some ⟨b, k, none⟩ ∧ slotAt ps f i = some y ∧ w'.cell? ⟨b, k, none⟩ = some (.int .i64 y.kd)) ∧ Has w' B (StoA sb hb n first many F ps :: X) ∧ Below B w w' := by
  obtain ⟨hP, fb, v, q, rfl, hl, hO⟩ := StoA.openX hH
  obtain ⟨o, ho⟩ : ∃ o, q.find? (fun x => x.2.f == f) = o := ⟨_, rfl⟩
  refine (slot_calls sb hb fb v first many F q f i o ho hl _ B _ hO).mono ?_
  rintro e w2 ⟨rfl, hH2, hB2⟩
  refine ⟨_, rfl, ?_, StoA.shut fb v q hP hH2, hB2⟩
  rcases find_slot hP f i o ho with ⟨h1, h2⟩ | ⟨x, j, k, y0, rfl, hj, hf, rfl, hk8, hy, h8, h1, h2⟩
  · exact .inl ⟨h1, h2⟩
  · refine .inr ⟨_, _, y0, h1, h2, ?_⟩
    have := (stoX_R hH2).page hj (pageC_slot hy (j := 0) (u := .int .i64 y0.kd) rfl)
    exact this

/-- All of a store, with its host's memory. -/
def staL (sb hb n : Nat) (first many : Int) (S : StS) (X : List Asr) : List Asr := StoA sb hb n first many S.F S.ps :: MemA hb n S.W :: X
theorem put_is (sb hb n : Nat) (first many : Int) (S : StS) (f i h : Int) (y : SlotS) (hs : (slotAt S.ps f i).isSome = true) (w : World) (B : Nat) (X : List Asr) (hH : Has w B (staL sb hb n first many S X)) :
    Calls Try.prog 63 #[.pointer (some ⟨sb, 0, none⟩), .int .i64 f, .int .i64 i, .agg (slotC y), .int .i64 h] w fun e w' => e = .returned (.bool true) ∧ Has w' B (staL sb hb n first many (putS n S f i y h) X) ∧ Below B w w' :=
  put_calls sb hb n first many S.F S.ps S.W f i h y hs w B X hH

set_option maxHeartbeats 1000000 in
theorem Clear_calls (sb hb n : Nat) (first many : Int) (S : StS) (f i : Int) (w : World) (B : Nat) (X : List Asr) (hH : Has w B (staL sb hb n first many S X)) :
    Calls Try.prog 30 #[.pointer (some ⟨sb, 0, none⟩), .int .i64 f, .int .i64 i] w fun e w' => e = .returned (.bool (clearB S f i)) ∧ Has w' B (staL sb hb n first many (clearS n S f i) X) ∧ Below B w w' := by
  have CS := hid (slot_closed sb hb n first many S.F S.ps f i w B _ hH)
  have zs := zeroSlot
  obtain ⟨cb, hcb⟩ : ∃ cb, clearB S f i = cb := ⟨_, rfl⟩
  have HCB := hid hcb
  rw [hcb]
  clear hH hcb
  go_enter Try.func30, Try.ntmps30
  go_wp2_with fail
  refine CS.out.mono ?_
  rintro e w2 ⟨p, rfl, ⟨rfl, h1⟩ | ⟨b, k, y, rfl, h1, c1⟩, hH2, hB2⟩
  · have hc : cb = false := by rw [← HCB.out]; unfold clearB; rw [h1]
    have hs : clearS n S f i = S := by unfold clearS; rw [HCB.out, hc]; rfl
    subst hc
    have HS := hid hs
    clear CS h1 hs
    go_wp2_with fail
    go_ret
    exact ⟨rfl, by rw [HS.out]; exact hH2, hB2⟩
  · have hv : clearB S f i = (y.kd != 0) := by unfold clearB; rw [h1]
    have h2 : (slotAt S.ps f i).isSome = true := by rw [h1]; rfl
    have H2 := hid h2
    rw [HCB.out] at hv
    by_cases hk : y.kd = 0
    · have e1 : (y.kd == 0) = true := by rw [beq_iff_eq]; exact hk
      have e2 : (y.kd != 0) = false := by simp [hk]
      have hc : cb = false := by rw [hv]; simp [hk]
      have hs : clearS n S f i = S := by unfold clearS; rw [HCB.out, hc]; rfl
      subst hc
      have HS := hid hs
      clear CS h1 hs hv hk h2
      go_wp2_with fail
      go_ret
      exact ⟨rfl, by rw [HS.out]; exact hH2, hB2⟩
    · have e1 : (y.kd == 0) = false := by rw [beq_eq_false_iff_ne]; exact hk
      have e2 : (y.kd != 0) = true := by simp [hk]
      have hc : cb = true := by rw [hv]; simp [hk]
      have hs : clearS n S f i = putS n S f i slotZ 0 := by unfold clearS; rw [HCB.out, hc]; rfl
      subst hc
      have HS := hid hs
      clear CS h1 hs hv hk h2
      go_wp2_with fail
      refine (put_is sb hb n first many S f i 0 slotZ H2.out w2 B X hH2).mono ?_
      rintro e w3 ⟨rfl, hH3, hB3⟩
      go_wp2_with fail
      go_ret
      exact ⟨rfl, by rw [HS.out]; exact hH3, hB2.trans hB3⟩

end Go.Proofs.Yteeapkndappnoaa

/-
  Package store: an entry tells a page, or a frame of the guest's.
-/
namespace Go.Proofs.Yteeapkndappnoaa
open Go.RowKit Go.Shelf
set_option linter.unusedVariables false
set_option linter.unusedSimpArgs false

def rArr (r : Bool × Bool × Bool) : Array Value := #[.bool r.1, .bool r.2.1, .bool r.2.2]
theorem KeyIs (sb hb n : Nat) (first many : Int) (S : StS) (f : Int) (k : KeyS) (b : Bool) (hk : keyAt S.ps f = k) (hb' : (pageAt S.ps f).isSome = b) (w : World) (B : Nat) (X : List Asr) (hH : Has w B (staL sb hb n first many S X)) :
    Calls Try.prog 15 #[.pointer (some ⟨sb, 0, none⟩), .int .i64 f] w fun e w' => e = .returned (.tuple #[.agg (keyC k), .bool b]) ∧ Has w' B (staL sb hb n first many S X) ∧ Below B w w' := by
  subst hk hb'
  exact Key_calls sb hb n first many S.F S.ps f w B _ hH

theorem dropX3 {w : World} {B : Nat} {P Q U V Y : Asr} {X : List Asr} (h : Has w B (P :: Q :: U :: V :: Y :: X)) : Has w B (P :: Q :: X) := Has.drop (fromX (Has.drop (fromX (Has.drop (fromX h)))))
theorem dropX2 {w : World} {B : Nat} {P Q U V : Asr} {X : List Asr} (h : Has w B (P :: Q :: U :: V :: X)) : Has w B (P :: Q :: X) := Has.drop (fromX (Has.drop (fromX h)))
set_option maxHeartbeats 2000000 in
theorem Child_calls (sb hb n : Nat) (first many : Int) (S : StS) (f i c : Int) (r : Bool × Bool × Bool) (w : World) (B : Nat) (X : List Asr) (hH : Has w B (staL sb hb n first many S X)) :
    Calls Try.prog 44 #[.pointer (some ⟨sb, 0, none⟩), .int .i64 f, .int .i64 i, .int .i64 c, .agg (rArr r)] w fun e w' => e = .returned (.bool (childB S f i c)) ∧ Has w' B (staL sb hb n first many (childS n S f i c r) X) ∧ Below B w w' := by
  have hP := StoA.fits hH
  obtain ⟨r1, r2, r3⟩ := r
  obtain ⟨k1, hk1⟩ : ∃ k, keyAt S.ps f = k := ⟨_, rfl⟩
  obtain ⟨b1, hb1⟩ : ∃ b, (pageAt S.ps f).isSome = b := ⟨_, rfl⟩
  obtain ⟨k2, hk2⟩ : ∃ k, keyAt S.ps c = k := ⟨_, rfl⟩
  obtain ⟨b2, hb2⟩ : ∃ b, (pageAt S.ps c).isSome = b := ⟨_, rfl⟩
  obtain ⟨cb, hcb⟩ : ∃ cb, childB S f i c = cb := ⟨_, rfl⟩
  have HCB := hid hcb
  have HP := hid hP
  have hN : Has _ B (staL sb hb n first many S (blk w.heap.size 33 (rArr (r1, r2, r3)) :: X)) := toX (hH.newblk w.heap.size 33 (rArr (r1, r2, r3)) rfl)
  have bN := below_new (Below.refl B w) hH (.cells (rArr (r1, r2, r3)) 33)
  have CK := hid (KeyIs sb hb n first many S f k1 b1 hk1 hb1 _ B _ hN)
  have HK1 := hid (And.intro hk1 hb1)
  have HK2 := hid (And.intro hk2 hb2)
  have zk := zeroKey
  rw [hcb]
  clear hcb hP hk1 hb1 hk2 hb2 hH
  go_enter Try.func44, Try.ntmps44
  go_wp2_with fail
  refine CK.out.mono ?_
  rintro e w2 ⟨rfl, hH2, hB2⟩
  have bN := bN.trans hB2
  have hA : Has (w2.alloc (.cells (keyC keyZ) 31)) B (blk w2.heap.size 31 (keyC keyZ) :: staL sb hb n first many S _) := hH2.newblk w2.heap.size 31 (keyC keyZ) rfl
  have bA := below_new bN hH2 (.cells (keyC keyZ) 31)
  clear CK hN bN hB2
  go_wp2_with (refine wpList_store_all [] _ hA 31 (.tmp 11) (.tmp 19) rfl rfl rfl (keyL k1).toArray rfl key_size rfl (key_one _) ?_; intro w3 hH3 hB3 hz3; clear hz3)
  have hH3 : Has w3 B (staL sb hb n first many S (blk w2.heap.size 31 (keyL k1).toArray :: blk w.heap.size 33 (rArr (r1, r2, r3)) :: X)) := toX hH3
  have bA := bA.trans hB3
  refine (KeyIs sb hb n first many S c k2 b2 HK2.out.1 HK2.out.2 _ B _ hH3).mono ?_
  rintro e w4 ⟨rfl, hH4, hB4⟩
  have bA := bA.trans hB4
  have hA2 : Has (w4.alloc (.cells (keyC keyZ) 31)) B (blk w4.heap.size 31 (keyC keyZ) :: staL sb hb n first many S _) := hH4.newblk w4.heap.size 31 (keyC keyZ) rfl
  have bA2 := below_new bA hH4 (.cells (keyC keyZ) 31)
  clear hA hH3 hB3 hB4 hH2 bA
  go_wp2_with (refine wpList_store_all [] _ hA2 31 (.tmp 13) (.tmp 25) rfl rfl rfl (keyL k2).toArray rfl key_size rfl (key_one _) ?_; intro w5 hH5 hB5 hz5; clear hz5)
  have hH5 : Has w5 B (staL sb hb n first many S (blk w4.heap.size 31 (keyL k2).toArray :: blk w2.heap.size 31 (keyL k1).toArray :: blk w.heap.size 33 (rArr (r1, r2, r3)) :: X)) := toX hH5
  have bA2 := bA2.trans hB5
  refine (slot_closed sb hb n first many S.F S.ps f i w5 B _ hH5).mono ?_
  rintro e w6 ⟨p, rfl, hp, hH6, hB6⟩
  have hH6 : Has w6 B (staL sb hb n first many S (blk w4.heap.size 31 (keyL k2).toArray :: blk w2.heap.size 31 (keyL k1).toArray :: blk w.heap.size 33 (rArr (r1, r2, r3)) :: X)) := hH6
  have bA2 := bA2.trans hB6
  have m1 := hH6.cell [_, _] _ 1 (v := .int .i64 k2.lv) rfl
  have m2 := hH6.cell [_, _, _] _ 1 (v := .int .i64 k1.lv) rfl
  clear hA2 hH5 hB5 hH4 hB6
  rcases hp with ⟨rfl, h1⟩ | ⟨sbk, sk, y, rfl, h1, c1⟩
  · have hc : cb = false := by rw [← HCB.out]; unfold childB; rw [h1]; rfl
    have hs : childS n S f i c (r1, r2, r3) = S := by unfold childS; rw [HCB.out, hc]; rfl
    subst hc
    have HS := hid hs
    clear h1 hs
    go_wp2_with fail
    go_ret
    exact ⟨rfl, by rw [HS.out]; exact dropX3 hH6, bA2⟩
  · have h2 : (slotAt S.ps f i).isSome = true := by rw [h1]; rfl
    have hr := slot_right HP.out h2
    rw [HK1.out.1] at hr
    have hv : childB S f i c = (b2 && decide (k2.lv = k1.lv - 1)) := by unfold childB; rw [h2, HK2.out.2, HK2.out.1, HK1.out.1]; rfl
    rw [HCB.out] at hv
    have hw : IntKind.i64.wrap (k1.lv - 1) = k1.lv - 1 := IntWalk.i64_in _ (by have := hr.1; have := hr.2.1; omega)
    have H2 := hid h2
    clear c1 h1 h2 hr
    cases b2 with
    | false =>
      have hc : cb = false := by rw [hv]; rfl
      have hs : childS n S f i c (r1, r2, r3) = S := by unfold childS; rw [HCB.out, hc]; rfl
      subst hc
      have HS := hid hs
      clear hs hv
      go_wp2_with fail
      go_ret
      exact ⟨rfl, by rw [HS.out]; exact dropX3 hH6, bA2⟩
    | true =>
      by_cases hl : k2.lv = k1.lv - 1
      rotate_left
      · have e1 : (k2.lv == k1.lv - 1) = false := by rw [beq_eq_false_iff_ne]; exact hl
        have e2 : (k2.lv != k1.lv - 1) = true := by simp [hl]
        have hc : cb = false := by rw [hv]; simp [hl]
        have hs : childS n S f i c (r1, r2, r3) = S := by unfold childS; rw [HCB.out, hc]; rfl
        subst hc
        have HS := hid hs
        clear hs hv hl
        go_wp2_with fail
        go_ret
        exact ⟨rfl, by rw [HS.out]; exact dropX3 hH6, bA2⟩
      · have e1 : (k2.lv == k1.lv - 1) = true := by rw [beq_iff_eq]; exact hl
        have e2 : (k2.lv != k1.lv - 1) = false := by simp [hl]
        have hc : cb = true := by rw [hv]; simp [hl]
        have hs : childS n S f i c (r1, r2, r3) = putS n S f i ⟨1, c, r1, r2, r3⟩ c := by unfold childS; rw [HCB.out, hc]; rfl
        subst hc
        have HS := hid hs
        have z0 := hH6.cell [_, _, _, _] _ 0 (v := .bool r1) rfl
        have z1 := hH6.cell [_, _, _, _] _ 1 (v := .bool r2) rfl
        have z2 := hH6.cell [_, _, _, _] _ 2 (v := .bool r3) rfl
        clear hs hv hl
        go_wp2_with fail
        refine (put_is sb hb n first many S f i c ⟨1, c, r1, r2, r3⟩ H2.out w6 B _ hH6).mono ?_
        rintro e w7 ⟨rfl, hH7, hB7⟩
        go_wp2_with fail
        go_ret
        exact ⟨rfl, by rw [HS.out]; exact dropX3 hH7, bA2.trans hB7⟩

set_option maxHeartbeats 2000000 in
theorem Leaf_calls (sb hb n : Nat) (first many : Int) (S : StS) (f i g h : Int) (r : Bool × Bool × Bool) (w : World) (B : Nat) (X : List Asr) (hH : Has w B (staL sb hb n first many S X)) :
    Calls Try.prog 45 #[.pointer (some ⟨sb, 0, none⟩), .int .i64 f, .int .i64 i, .int .i64 g, .int .i64 h, .agg (rArr r)] w fun e w' => e = .returned (.bool (leafB n S f i h)) ∧ Has w' B (staL sb hb n first many (leafS n S f i g h r) X) ∧ Below B w w' := by
  have hP := StoA.fits hH
  obtain ⟨r1, r2, r3⟩ := r
  obtain ⟨k1, hk1⟩ : ∃ k, keyAt S.ps f = k := ⟨_, rfl⟩
  obtain ⟨b1, hb1⟩ : ∃ b, (pageAt S.ps f).isSome = b := ⟨_, rfl⟩
  obtain ⟨cb, hcb⟩ : ∃ cb, leafB n S f i h = cb := ⟨_, rfl⟩
  have HCB := hid hcb
  have HP := hid hP
  have hN : Has _ B (staL sb hb n first many S (blk w.heap.size 33 (rArr (r1, r2, r3)) :: X)) := toX (hH.newblk w.heap.size 33 (rArr (r1, r2, r3)) rfl)
  have bN := below_new (Below.refl B w) hH (.cells (rArr (r1, r2, r3)) 33)
  have CK := hid (KeyIs sb hb n first many S f k1 b1 hk1 hb1 _ B _ hN)
  have HK1 := hid (And.intro hk1 hb1)
  have zk := zeroKey
  rw [hcb]
  clear hcb hP hk1 hb1 hH
  go_enter Try.func45, Try.ntmps45
  go_wp2_with fail
  refine CK.out.mono ?_
  rintro e w2 ⟨rfl, hH2, hB2⟩
  have bN := bN.trans hB2
  have hA : Has (w2.alloc (.cells (keyC keyZ) 31)) B (blk w2.heap.size 31 (keyC keyZ) :: staL sb hb n first many S _) := hH2.newblk w2.heap.size 31 (keyC keyZ) rfl
  have bA := below_new bN hH2 (.cells (keyC keyZ) 31)
  clear CK hN bN hB2
  go_wp2_with (refine wpList_store_all [] _ hA 31 (.tmp 13) (.tmp 19) rfl rfl rfl (keyL k1).toArray rfl key_size rfl (key_one _) ?_; intro w3 hH3 hB3 hz3; clear hz3)
  have hH3 : Has w3 B (staL sb hb n first many S (blk w2.heap.size 31 (keyL k1).toArray :: blk w.heap.size 33 (rArr (r1, r2, r3)) :: X)) := toX hH3
  have bA := bA.trans hB3
  refine (slot_closed sb hb n first many S.F S.ps f i w3 B _ hH3).mono ?_
  rintro e w6 ⟨p, rfl, hp, hH6, hB6⟩
  have hH6 : Has w6 B (staL sb hb n first many S (blk w2.heap.size 31 (keyL k1).toArray :: blk w.heap.size 33 (rArr (r1, r2, r3)) :: X)) := hH6
  have bA2 := bA.trans hB6
  have m2 := hH6.cell [_, _] _ 1 (v := .int .i64 k1.lv) rfl
  have mh := StoA.host hH6
  clear hA hH3 hB3 hH2 bA hB6
  rcases hp with ⟨rfl, h1⟩ | ⟨sbk, sk, y, rfl, h1, c1⟩
  · have hc : cb = false := by rw [← HCB.out]; unfold leafB; rw [h1]; rfl
    have hs : leafS n S f i g h (r1, r2, r3) = S := by unfold leafS; rw [HCB.out, hc]; rfl
    subst hc
    have HS := hid hs
    clear h1 hs
    go_wp2_with fail
    go_ret
    exact ⟨rfl, by rw [HS.out]; exact dropX2 hH6, bA2⟩
  · have h2 : (slotAt S.ps f i).isSome = true := by rw [h1]; rfl
    have hv : leafB n S f i h = (decide (k1.lv = 1) && decide (0 ≤ h) && decide (h < n)) := by unfold leafB; rw [h2, HK1.out.1]; rfl
    rw [HCB.out] at hv
    have H2 := hid h2
    clear c1 h1 h2
    by_cases hl : k1.lv = 1
    rotate_left
    · have e1 : (k1.lv == 1) = false := by rw [beq_eq_false_iff_ne]; exact hl
      have e2 : (k1.lv != 1) = true := by simp [hl]
      have hc : cb = false := by rw [hv]; simp [hl]
      have hs : leafS n S f i g h (r1, r2, r3) = S := by unfold leafS; rw [HCB.out, hc]; rfl
      subst hc
      have HS := hid hs
      clear hs hv hl
      go_wp2_with fail
      go_ret
      exact ⟨rfl, by rw [HS.out]; exact dropX2 hH6, bA2⟩
    have e1 : (k1.lv == 1) = true := by rw [beq_iff_eq]; exact hl
    have e2 : (k1.lv != 1) = false := by simp [hl]
    have HL := hid hl
    clear hl
    by_cases h0 : h < 0
    · have e3 : decide (h < 0) = true := decide_eq_true h0
      have hc : cb = false := by rw [hv]; simp; intro _ hh; omega
      have hs : leafS n S f i g h (r1, r2, r3) = S := by unfold leafS; rw [HCB.out, hc]; rfl
      subst hc
      have HS := hid hs
      clear hs hv h0
      go_wp2_with fail
      go_ret
      exact ⟨rfl, by rw [HS.out]; exact dropX2 hH6, bA2⟩
    have e3 : decide (h < 0) = false := decide_eq_false h0
    have hM : Has w6 B (MemA hb n S.W :: StoA sb hb n first many S.F S.ps :: _) := hH6.perm (List.Perm.swap _ _ _)
    have CF := hid (Frames_calls hb n S.W w6 B _ hM)
    clear hM
    by_cases h5 : h < (n : Int)
    rotate_left
    · have e4 : decide ((n : Int) ≤ h) = true := decide_eq_true (by omega)
      have hc : cb = false := by rw [hv]; simp; intro _ hh; omega
      have hs : leafS n S f i g h (r1, r2, r3) = S := by unfold leafS; rw [HCB.out, hc]; rfl
      subst hc
      have HS := hid hs
      clear hs hv h0 h5
      go_wp2_with fail
      refine CF.out.mono ?_
      rintro e w8 ⟨rfl, rfl⟩
      go_wp2_with fail
      go_ret
      exact ⟨rfl, by rw [HS.out]; exact dropX2 hH6, bA2⟩
    · have e4 : decide ((n : Int) ≤ h) = false := decide_eq_false (by omega)
      have hc : cb = true := by rw [hv, HL.out]; simp; omega
      have hs : leafS n S f i g h (r1, r2, r3) = putS n S f i ⟨2, g, r1, r2, r3⟩ h := by unfold leafS; rw [HCB.out, hc]; rfl
      subst hc
      have HS := hid hs
      have z0 := hH6.cell [_, _, _] _ 0 (v := .bool r1) rfl
      have z1 := hH6.cell [_, _, _] _ 1 (v := .bool r2) rfl
      have z2 := hH6.cell [_, _, _] _ 2 (v := .bool r3) rfl
      clear hs hv h0 h5
      go_wp2_with fail
      refine CF.out.mono ?_
      rintro e w8 ⟨rfl, rfl⟩
      go_wp2_with fail
      refine (put_is sb hb n first many S f i h ⟨2, g, r1, r2, r3⟩ H2.out w6 B _ hH6).mono ?_
      rintro e w7 ⟨rfl, hH7, hB7⟩
      go_wp2_with fail
      go_ret
      exact ⟨rfl, by rw [HS.out]; exact dropX2 hH7, bA2.trans hB7⟩

end Go.Proofs.Yteeapkndappnoaa
