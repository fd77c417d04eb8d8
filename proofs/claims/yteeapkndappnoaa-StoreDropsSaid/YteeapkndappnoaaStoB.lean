/-
  Package store: a page, a slot, whose key it is, and what is told of them.
-/
import Derived.Test.YteeapkndappnoaaSto
import Derived.Test.YteeapkndappnoaaStep
import Derived.Deep.LoopGhost
import Derived.Deep.RegionHeld3
namespace Go.Proofs.Yteeapkndappnoaa
open Go.RowKit
set_option linter.unusedVariables false
set_option linter.unusedSimpArgs false

/-! ### alike -/
theorem keyS_eql (g h : KeyS) (w : World) : Sem.run Try.prog (binOp .eql 31 (.agg (keyC g)) (.agg (keyC h))) w = .ok (.bool (decide (g = h))) w := by
  have hu := Try.underlying31
  have hi := Try.underlying3
  have si : (Try.prog.info? 3).map (fun i => i.size) = some 1 := by kernel_rfl
  rw [run_eql_struct, run_equalIn_struct w 9999 31 _ _ (by rw [hu]; kernel_rfl) (by kernel_rfl)]
  have hf : Try.prog.fieldsOf 31 = #[⟨"G", 3, 0, false, "", "", 0⟩, ⟨"Level", 3, 1, false, "", "", 8⟩, ⟨"Role", 3, 2, false, "", "", 16⟩] := by
    rw [Program.fieldsOf, hu]
  rw [hf]
  obtain ⟨a, b, c⟩ := g
  obtain ⟨a', b', c'⟩ := h
  simp [Op.eqFields, keyC, go_sem, part]
  (repeat' split) <;> simp_all
theorem at_eql (a b c d : Int) (w : World) : Sem.run Try.prog (binOp .eql 46 (.agg #[.int .i64 a, .int .i64 b]) (.agg #[.int .i64 c, .int .i64 d])) w = .ok (.bool (decide (a = c ∧ b = d))) w := by
  have hu := Try.underlying46
  have hi := Try.underlying3
  have si : (Try.prog.info? 3).map (fun i => i.size) = some 1 := by kernel_rfl
  rw [run_eql_struct, run_equalIn_struct w 9999 46 _ _ (by rw [hu]; kernel_rfl) (by kernel_rfl)]
  have hf : Try.prog.fieldsOf 46 = #[⟨"G", 3, 0, false, "", "", 0⟩, ⟨"I", 3, 1, false, "", "", 8⟩] := by
    rw [Program.fieldsOf, hu]
  rw [hf]
  simp [Op.eqFields, go_sem, part]
  (repeat' split) <;> simp_all
theorem rightS_eql (d : Nat) (a b c x y z : Bool) (w : World) : (Op.equalIn (d + 2) 33 (.agg #[.bool a, .bool b, .bool c]) (.agg #[.bool x, .bool y, .bool z])).run Try.prog w = .ok (decide (a = x ∧ b = y ∧ c = z)) w := by
  have hu := Try.underlying33
  have hb := Try.underlying4
  have sb : (Try.prog.info? 4).map (fun i => i.size) = some 1 := by kernel_rfl
  rw [run_equalIn_struct w (d + 1) 33 _ _ (by rw [hu]; kernel_rfl) (by kernel_rfl)]
  have hf : Try.prog.fieldsOf 33 = #[⟨"W", 4, 0, false, "", "", 0⟩, ⟨"U", 4, 1, false, "", "", 1⟩, ⟨"X", 4, 2, false, "", "", 2⟩] := by
    rw [Program.fieldsOf, hu]
  rw [hf]
  simp [Op.eqFields, go_sem, part]
  (repeat' split) <;> simp_all
theorem slotS_eql (g h : SlotS) (w : World) : Sem.run Try.prog (binOp .eql 42 (.agg (slotC g)) (.agg (slotC h))) w = .ok (.bool (decide (g = h))) w := by
  have hu := Try.underlying42
  have hb := Try.underlying4
  have hi := Try.underlying3
  have hr := Try.underlying33
  have sb : (Try.prog.info? 4).map (fun i => i.size) = some 1 := by kernel_rfl
  have si : (Try.prog.info? 3).map (fun i => i.size) = some 1 := by kernel_rfl
  have sr : (Try.prog.info? 33).map (fun i => i.size) = some 3 := by kernel_rfl
  have hre := fun (a b c x y z : Bool) (w : World) => rightS_eql 9997 a b c x y z w
  rw [run_eql_struct, run_equalIn_struct w 9999 42 _ _ (by rw [hu]; kernel_rfl) (by kernel_rfl)]
  have hf : Try.prog.fieldsOf 42 = #[⟨"Kind", 3, 0, false, "", "", 0⟩, ⟨"To", 3, 1, false, "", "", 8⟩, ⟨"Right", 33, 2, false, "", "", 16⟩] := by
    rw [Program.fieldsOf, hu]
  rw [hf]
  obtain ⟨a, p, wr, u, x⟩ := g
  obtain ⟨a', p', wr', u', x'⟩ := h
  simp [Op.eqFields, slotC, go_sem, part, hre]
  (repeat' split) <;> simp_all
theorem slotS_neq (g h : SlotS) (w : World) : Sem.run Try.prog (binOp .neq 42 (.agg (slotC g)) (.agg (slotC h))) w = .ok (.bool (!decide (g = h))) w := by
  have h' := slotS_eql g h w
  rw [run_eql_struct] at h'
  simp only [binOp, Sem.run_bind, Op.equal, Op.maxDepth]
  revert h'
  generalize (Op.equalIn 10000 42 (.agg (slotC g)) (.agg (slotC h))).run Try.prog w = r
  cases r with
  | ok b w' => intro h; simp at h ⊢; simp [h]
  | halt x w' => intro h; simp [Result.andThen] at h
theorem keyS_neq (g h : KeyS) (w : World) : Sem.run Try.prog (binOp .neq 31 (.agg (keyC g)) (.agg (keyC h))) w = .ok (.bool (!decide (g = h))) w := by
  have h' := keyS_eql g h w
  rw [run_eql_struct] at h'
  simp only [binOp, Sem.run_bind, Op.equal, Op.maxDepth]
  revert h'
  generalize (Op.equalIn 10000 31 (.agg (keyC g)) (.agg (keyC h))).run Try.prog w = r
  cases r with
  | ok b w' => intro h; simp at h ⊢; simp [h]
  | halt x w' => intro h; simp [Result.andThen] at h
theorem key_size : (Try.prog.info? 31).map (fun i => i.size) = some 3 := by kernel_rfl
theorem slot_size : (Try.prog.info? 42).map (fun i => i.size) = some 5 := by kernel_rfl

/-! ### a page -/
/-- The closures: is a page in a frame? -/
theorem pageK (pb bb : Nat) (pf f : Int) (w : World) (c0 : w.cell? ⟨pb, 0, none⟩ = some (.int .i64 pf)) (c1 : w.cell? ⟨bb, 0, none⟩ = some (.int .i64 f)) :
    Calls Try.prog 76 #[.pointer (some ⟨pb, 0, none⟩), .pointer (some ⟨bb, 0, none⟩)] w fun e w' => e = .returned (.bool (pf == f)) ∧ ∃ m, w' = w.drewN m := by
  go_enter Try.func76, Try.ntmps76
  go_wp2_with fail
  go_quiet (fail)
  go_wp2_with fail
  go_ret
  exact ⟨rfl, _, rfl⟩
theorem dropK (pb bb : Nat) (pf f : Int) (w : World) (c0 : w.cell? ⟨pb, 0, none⟩ = some (.int .i64 pf)) (c1 : w.cell? ⟨bb, 0, none⟩ = some (.int .i64 f)) :
    Calls Try.prog 54 #[.pointer (some ⟨pb, 0, none⟩), .pointer (some ⟨bb, 0, none⟩)] w fun e w' => e = .returned (.bool (pf == f)) ∧ ∃ m, w' = w.drewN m := by
  go_enter Try.func54, Try.ntmps54
  go_wp2_with fail
  go_quiet (fail)
  go_wp2_with fail
  go_ret
  exact ⟨rfl, _, rfl⟩

/-- Where the first page in a frame is. -/
def IdxP (f : Int) (q : List (Nat × PageS)) (r : Int) : Prop := (r = -1 ∧ ∀ x ∈ q, x.2.f ≠ f) ∨ ∃ (k : Nat) (x : Nat × PageS), r = (k : Int) ∧ q[k]? = some x ∧ x.2.f = f ∧ ∀ (j : Nat) y, j < k → q[j]? = some y → y.2.f ≠ f

theorem PIndexK (cf : Nat) (eg : ∀ args w, (callFunc cf args).run Try.prog w = .ok (.enter cf args) w) (bb : Nat) (f : Int) (v : Value) (q : List (Nat × PageS)) (w : World) (hP : PgR w v q) (hq : q.length ≤ 256) (c1 : w.cell? ⟨bb, 0, none⟩ = some (.int .i64 f))
    (hc : ∀ (pb : Nat) (pf : Int) (w : World), w.cell? ⟨pb, 0, none⟩ = some (.int .i64 pf) → w.cell? ⟨bb, 0, none⟩ = some (.int .i64 f) → Calls Try.prog cf #[.pointer (some ⟨pb, 0, none⟩), .pointer (some ⟨bb, 0, none⟩)] w fun e w' => e = .returned (.bool (pf == f)) ∧ ∃ m, w' = w.drewN m) :
    Calls Try.prog 75 #[v, .func (.func cf) #[] #[.pointer (some ⟨bb, 0, none⟩)]] w fun e w' => ∃ r, e = .returned (.int .i64 r) ∧ IdxP f q r ∧ ∃ m, w' = w.drewN m := by
  obtain ⟨ao, cap, rfl, hg⟩ := hP.prow
  have HC := hid hc
  have HG := hid hg
  have HP := hid hP
  have C1 := hid c1
  clear hc hg hP c1
  go_enter Try.func75, Try.ntmps75
  go_wp2_with fail
  go_loopg [5, 8] q.length (fun g _ i wr => ∃ k : Nat, g + k = q.length ∧ i = .int .i64 k ∧ (∃ m, wr = w.drewN m) ∧ ∀ (j : Nat) y, j < k → q[j]? = some y → y.2.f ≠ f)
  case atStart => exact ⟨0, by omega, rfl, ⟨0, rfl⟩, fun j y h => by omega⟩
  case round =>
    obtain ⟨k, hk, rfl, ⟨m, hm⟩, hall⟩ := hrel
    have HK := hid hk
    have HALL := hid hall
    have HM := hid hm
    clear hall
    by_cases hlt : k < q.length
    · obtain ⟨x, hx⟩ : ∃ x, q[k]? = some x := ⟨_, List.getElem?_eq_getElem hlt⟩
      obtain ⟨g, rfl, hrow⟩ := HG.out (by omega)
      have cr : wr.cell? ⟨g, k, none⟩ = some (.pointer (some ⟨x.1, 0, none⟩)) := by rw [hm]; exact hrow k x hx
      have cp : wr.cell? ⟨x.1, 0, none⟩ = some (.int .i64 x.2.f) := by rw [hm]; exact HP.out.page hx (i := 0) rfl
      have cb : wr.cell? ⟨bb, 0, none⟩ = some (.int .i64 f) := by rw [hm]; exact C1.out
      have CC := hid (HC.out x.1 x.2.f wr cp cb)
      have HX := hid hx
      clear hm hx cp cb hk hrow
      obtain ⟨qb, hqb⟩ : ∃ qb, (x.2.f == f) = qb := ⟨_, rfl⟩
      rw [hqb] at CC
      have HQ := hid hqb
      clear hqb
      go_wp2_with fail
      refine CC.out.mono ?_
      rintro e w2 ⟨rfl, m2, hm2⟩
      have HM2 := hid hm2
      clear hm2
      cases qb with
      | true =>
        go_wp2_with fail
        go_ret
        exact ⟨(k : Int), rfl, .inr ⟨k, x, rfl, HX.out, by have := HQ.out; simpa using this, HALL.out⟩, m + m2, by rw [HM2.out, HM.out, World.drewN_drewN]⟩
      | false =>
        go_wp2_with fail
        go_roundg (gk - 1)
        case measure => have := HK.out; omega
        case rel => exact ⟨k + 1, by have := HK.out; omega, by go_num, ⟨m + m2, by rw [HM2.out, HM.out, World.drewN_drewN]⟩, fun j y hj hy => by
            by_cases e : j = k
            · subst e
              have h1 := HX.out
              rw [h1] at hy
              injection hy with hy
              rw [← hy]
              have := HQ.out
              simpa using this
            · exact HALL.out j y (by omega) hy⟩
    · obtain rfl : k = q.length := by omega
      go_wp2_with fail
      go_ret
      exact ⟨-1, rfl, .inl ⟨rfl, fun x hm => by
        obtain ⟨j, hj⟩ := List.mem_iff_getElem?.1 hm
        exact HALL.out j x (List.getElem?_eq_some_iff.1 hj).1 hj⟩, m, by first | exact HM.out | rfl⟩

end Go.Proofs.Yteeapkndappnoaa
