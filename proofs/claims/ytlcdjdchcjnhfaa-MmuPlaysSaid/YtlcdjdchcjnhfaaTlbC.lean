/-
  Pick of package tlb; Same of the document's answer; the live question of layer 9.
-/
import Derived.Test.YtlcdjdchcjnhfaaTlbB
namespace Go.Proofs.Ytlcdjdchcjnhfaa
open Go.RowKit
set_option linter.unusedVariables false
set_option linter.unusedSimpArgs false

/-- Which one Pick takes. -/
def pickK (m : Nat) (n : Int) : Nat := (n % (m : Int)).toNat
theorem pickK_lt {m : Nat} (hm : 0 < m) (n : Int) : pickK m n < m := by
  have h1 : 0 ≤ n % (m : Int) := Int.emod_nonneg _ (by omega)
  have h2 : n % (m : Int) < m := Int.emod_lt_of_pos _ (by omega)
  unfold pickK
  omega
theorem pickK_eq {m : Nat} (hm : 0 < m) (n : Int) : (n.tmod m + m) % (m : Int) = (pickK m n : Int) := by
  have h1 : 0 ≤ n % (m : Int) := Int.emod_nonneg _ (by omega)
  unfold pickK
  rw [Int.toNat_of_nonneg h1, Int.add_emod_right, Int.tmod_def, Int.sub_mul_emod_self_left]
/-- What Pick leaves. -/
def pickL (L : List HitS) (n : Int) : List HitS := if L.length = 0 then L else L.eraseIdx (pickK L.length n)

theorem right_eql (d : Nat) (a b c x y z : Bool) (w : World) : (Op.equalIn (d + 2) 38 (.agg #[.bool a, .bool b, .bool c]) (.agg #[.bool x, .bool y, .bool z])).run Try.prog w = .ok (decide (a = x ∧ b = y ∧ c = z)) w := by
  have h := Try.underlying38
  have hb := Try.underlying4
  have sb : (Try.prog.info? 4).map (fun i => i.size) = some 1 := by kernel_rfl
  rw [run_equalIn_struct w (d + 1) 38 _ _ (by rw [h]; kernel_rfl) (by kernel_rfl)]
  have hf : Try.prog.fieldsOf 38 = #[⟨"W", 4, 0, false, "", "", 0⟩, ⟨"U", 4, 1, false, "", "", 1⟩, ⟨"X", 4, 2, false, "", "", 2⟩] := by
    rw [Program.fieldsOf, h]
  rw [hf]
  simp [Op.eqFields, go_sem, part]
  (repeat' split) <;> simp_all

theorem hit_eql (g h : HitS) (w : World) : Sem.run Try.prog (binOp .eql 46 (.agg (hitC g).toArray) (.agg (hitC h).toArray)) w = .ok (.bool (decide (g = h))) w := by
  have hu := Try.underlying46
  have hb := Try.underlying4
  have hi := Try.underlying3
  have hr := Try.underlying38
  have sb : (Try.prog.info? 4).map (fun i => i.size) = some 1 := by kernel_rfl
  have si : (Try.prog.info? 3).map (fun i => i.size) = some 1 := by kernel_rfl
  have sr : (Try.prog.info? 38).map (fun i => i.size) = some 3 := by kernel_rfl
  have hre := fun (a b c x y z : Bool) (w : World) => right_eql 9997 a b c x y z w
  rw [run_eql_struct, run_equalIn_struct w 9999 46 _ _ (by rw [hu]; kernel_rfl) (by kernel_rfl)]
  have hf : Try.prog.fieldsOf 46 = #[⟨"Asid", 3, 0, false, "", "", 0⟩, ⟨"Page", 3, 1, false, "", "", 8⟩, ⟨"Frame", 3, 2, false, "", "", 16⟩, ⟨"Right", 38, 3, false, "", "", 24⟩, ⟨"Dirty", 4, 6, false, "", "", 27⟩] := by
    rw [Program.fieldsOf, hu]
  rw [hf]
  obtain ⟨a, p, f, wr, u, x, d⟩ := g
  obtain ⟨a', p', f', wr', u', x', d'⟩ := h
  simp [Op.eqFields, hitC, go_sem, part, hre]
  (repeat' split) <;> simp_all

theorem hit_neq (g h : HitS) (w : World) : Sem.run Try.prog (binOp .neq 46 (.agg (hitC g).toArray) (.agg (hitC h).toArray)) w = .ok (.bool (!decide (g = h))) w := by
  have h' := hit_eql g h w
  rw [run_eql_struct] at h'
  simp only [binOp, Sem.run_bind, Op.equal, Op.maxDepth]
  revert h'
  generalize (Op.equalIn 10000 46 (.agg (hitC g).toArray) (.agg (hitC h).toArray)).run Try.prog w = r
  cases r with
  | ok b w' => intro h; simp at h ⊢; simp [h]
  | halt x w' => intro h; simp [Result.andThen] at h

/-- Hits that came in, or are the call's own. -/
structure SrcH (w : World) (a : Option Addr) (L : List HitS) : Prop where
  small : L.length ≤ 9223372036854775807
  mem : 0 < L.length → ∃ b o, a = some ⟨b, o, none⟩ ∧ b < w.heap.size ∧ ∀ j u, (hitsC L)[j]? = some u → w.cell? ⟨b, o + j, none⟩ = some u
theorem SrcH.later {w w' : World} {a : Option Addr} {L : List HitS} (h : SrcH w a L) (hb : Below w.heap.size w w') : SrcH w' a L :=
  ⟨h.small, fun h0 => by
    obtain ⟨b, o, ha, hlt, hc⟩ := h.mem h0
    exact ⟨b, o, ha, Nat.lt_of_lt_of_le hlt hb.size, fun j u hj => ArgRow.later hlt hc hb j hj⟩⟩
theorem srch_row {w : World} {B cap n : Nat} {ao : Option Addr} {T : TypeId} {L : List HitS} (L1 L2 : List Asr) (hH : Has w B (L1 ++ row T 7 (.slice ao n cap) n (hitsC L) :: L2)) (hn : n = L.length) : SrcH w ao L := by
  subst hn
  rcases hH.row_shape L1 L2 with ⟨h, h0⟩ | ⟨g', cap', h, h1, h2, _, hg⟩
  · exact ⟨by omega, by omega⟩
  · cases h
    refine ⟨by unfold maxLen at h2; omega, fun _ => ⟨g', 0, rfl, hg, fun j u hj => ?_⟩⟩
    rw [Nat.zero_add]
    exact hH.row_cell L1 L2 j hj
/-- Cell i of hit k, as a walk spells it. -/
theorem SrcH.at {w : World} {a : Option Addr} {L : List HitS} (h : SrcH w a L) {b o : Nat} (ha : a = some ⟨b, o, none⟩) {k : Nat} {x : HitS} (hk : L[k]? = some x) (i : Nat) {u : Value} (hu : (hitC x)[i]? = some u) : w.cell? ⟨b, o + k * 7 + i, none⟩ = some u := by
  have := (List.getElem?_eq_some_iff.1 hk).1
  obtain ⟨b', o', e, hlt, hc⟩ := h.mem (by omega)
  rw [ha] at e
  injection e with e
  injection e with e1 e2 e3
  subst e1 e2
  rw [Nat.add_assoc]
  exact hc _ _ (hitsC_get hk i u hu)
theorem SrcH.adds {w : World} {a : Option Addr} {L : List HitS} (h : SrcH w a L) {b o : Nat} (ha : a = some ⟨b, o, none⟩) {k : Nat} {x : HitS} (hk : L[k]? = some x) : ∀ j u, (hitC x)[j]? = some u → w.cell? ((⟨b, o + k * 7, none⟩ : Addr).add j) = some u := by
  intro j u hj
  have e : (⟨b, o + k * 7, none⟩ : Addr).add j = ⟨b, o + k * 7 + j, none⟩ := by unfold Addr.add; split <;> simp_all
  rw [e]
  exact h.at ha hk j hj

set_option maxHeartbeats 2000000 in
set_option maxRecDepth 100000 in
/-- Same. -/
theorem Same_calls (a b : Option Addr) (ca cb : Nat) (l m : List HitS) (w : World) (h1 : SrcH w a l) (h2 : SrcH w b m) :
    Calls Try.prog 30 #[.slice a l.length ca, .slice b m.length cb] w fun e w' => e = .returned (.bool (decide (l = m))) ∧ Below w.heap.size w w' := by
  have s1 := h1.small
  have s2 := h2.small
  by_cases hn : l.length = m.length
  · have e1 : (l.length == m.length) = true := by rw [beq_iff_eq]; exact hn
    have H1 := hid h1
    have H2 := hid h2
    rw [← hn]
    have HN := hid hn
    clear h1 h2 hn e1 s2
    go_enter Try.func30, Try.ntmps30
    go_wp2_with fail
    go_loopw [5] (fun i wr => ∃ k : Nat, k ≤ l.length ∧ i = .int .i64 k ∧ Below w.heap.size w wr ∧ ∀ j, j < k → l[j]? = m[j]?) (fun i _ => l.length - (intOf i).toNat)
    case atStart => exact ⟨0, by omega, rfl, Below.refl _ _, fun j h => by omega⟩
    case round =>
      obtain ⟨k, hk, rfl, hBr, hall⟩ := hrel
      have HALL := hid hall
      clear hall
      by_cases hlt : k < l.length
      · obtain ⟨x, hx⟩ : ∃ x, l[k]? = some x := ⟨l[k], List.getElem?_eq_getElem hlt⟩
        obtain ⟨y, hy⟩ : ∃ y, m[k]? = some y := ⟨_, List.getElem?_eq_getElem (by have := HN.out; omega)⟩
        obtain ⟨ba, oa, rfl, _, _⟩ := H1.out.mem (by omega)
        obtain ⟨bb, ob, rfl, _, _⟩ := H2.out.mem (by have := HN.out; omega)
        have g1 := H1.out.later hBr
        have g2 := H2.out.later hBr
        have c0 := g1.at rfl hx 0 (u := .int .i64 x.a) rfl
        have d0 := g2.at rfl hy 0 (u := .int .i64 y.a) rfl
        have c1 := g1.at rfl hx 1 (u := .int .i64 x.p) rfl
        have d1 := g2.at rfl hy 1 (u := .int .i64 y.p) rfl
        have c2 := g1.at rfl hx 2 (u := .int .i64 x.f) rfl
        have d2 := g2.at rfl hy 2 (u := .int .i64 y.f) rfl
        have c3 := g1.at rfl hx 3 (u := .bool x.w) rfl
        have d3 := g2.at rfl hy 3 (u := .bool y.w) rfl
        have c4 := g1.at rfl hx 4 (u := .bool x.u) rfl
        have d4 := g2.at rfl hy 4 (u := .bool y.u) rfl
        have c5 := g1.at rfl hx 5 (u := .bool x.x) rfl
        have d5 := g2.at rfl hy 5 (u := .bool y.x) rfl
        have c6 := g1.at rfl hx 6 (u := .bool x.d) rfl
        have d6 := g2.at rfl hy 6 (u := .bool y.d) rfl
        rw [Nat.add_zero] at c0 d0
        by_cases hxy : x = y
        · have hne : ∀ W, Sem.run Try.prog (binOp .neq 46 (.agg #[.int .i64 x.a, .int .i64 x.p, .int .i64 x.f, .bool x.w, .bool x.u, .bool x.x, .bool x.d]) (.agg #[.int .i64 y.a, .int .i64 y.p, .int .i64 y.f, .bool y.w, .bool y.u, .bool y.x, .bool y.d])) W = .ok (.bool false) W := fun W => by
            have h := hit_neq x y W
            rw [show (!decide (x = y)) = false from by simp [hxy]] at h
            exact h
          have HX := hid (And.intro hx (And.intro hy hxy))
          clear hx hy hxy g1 g2
          go_wp2_with fail
          go_quiet (fail)
          have hBq := below_drewN hBr nq
          go_wp2_with fail
          go_roundw
          case rel => exact ⟨k + 1, by omega, by go_num, hBq, fun j hj => by
            by_cases e : j = k
            · subst e; rw [HX.out.1, HX.out.2.1, HX.out.2.2]
            · exact HALL.out j (by omega)⟩
          case measure => simp [intOf] <;> omega
        · have hne : ∀ W, Sem.run Try.prog (binOp .neq 46 (.agg #[.int .i64 x.a, .int .i64 x.p, .int .i64 x.f, .bool x.w, .bool x.u, .bool x.x, .bool x.d]) (.agg #[.int .i64 y.a, .int .i64 y.p, .int .i64 y.f, .bool y.w, .bool y.u, .bool y.x, .bool y.d])) W = .ok (.bool true) W := fun W => by
            have h := hit_neq x y W
            rw [show (!decide (x = y)) = true from by simp [hxy]] at h
            exact h
          have hr : decide (l = m) = false := by
            rw [decide_eq_false_iff_not]
            intro e
            rw [e, hy] at hx
            injection hx with hx
            exact hxy hx.symm
          have HR := hid hr
          clear hx hy hxy hr g1 g2
          go_wp2_with fail
          go_quiet (fail)
          have hBq := below_drewN hBr nq
          go_wp2_with fail
          go_ret
          exact ⟨by rw [HR.out]; rfl, hBq⟩
      · obtain rfl : k = l.length := by omega
        have hr : decide (l = m) = true := by
          rw [decide_eq_true_eq]
          refine List.ext_getElem? fun i => ?_
          by_cases hi : i < l.length
          · exact HALL.out i hi
          · rw [List.getElem?_eq_none (by omega), List.getElem?_eq_none (by have := HN.out; omega)]
        have HR := hid hr
        clear hr
        go_wp2_with fail
        go_ret
        exact ⟨by rw [HR.out]; rfl, hBr⟩
  · have e1 : (l.length == m.length) = false := by rw [beq_eq_false_iff_ne]; exact hn
    have e2 : ((l.length : Int) == (m.length : Int)) = false := by rw [beq_eq_false_iff_ne]; omega
    have hr : decide (l = m) = false := by
      rw [decide_eq_false_iff_not]
      intro e
      exact hn (by rw [e])
    rw [hr]
    clear hr h1 h2
    go_enter Try.func30, Try.ntmps30
    go_wp2_with fail
    go_ret
    exact ⟨rfl, Below.refl _ _⟩

end Go.Proofs.Ytlcdjdchcjnhfaa
