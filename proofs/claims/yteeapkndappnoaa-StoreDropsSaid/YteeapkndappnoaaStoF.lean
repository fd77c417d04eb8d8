/-
  Package store: the iterator over all slots.
-/
import Derived.RangeFuncNested
import Derived.RangeFuncBound
import Derived.RangeFuncCalls
import Derived.RangeFuncLeaves
import Derived.RangeFuncBox
import Derived.Shelf.Abstract
import Derived.Shelf.RegionOpen
import Derived.WalkKit
import Derived.OwnWalkIn
import Derived.TacticsInMore
import Derived.LoopNIn
import Derived.LoopIn
import Derived.Scope
import Derived.Maps.AppendAt
import Derived.Deep.RegionWith
import Derived.Deep.RegionHeld3
import Derived.Test.YteeapkndappnoaaStoE
namespace Go.Proofs.Yteeapkndappnoaa
open Go.RowKit Go.Shelf
set_option linter.unusedVariables false
set_option linter.unusedSimpArgs false

attribute [local go_sem] Oper.semAt_some

section
variable {Fc : Fence} {m : Nat} {P : Program} {T : TypeId} {w : World} {B b : Nat} {cs : Array Value}
variable {ops : Array Oper} {rest : List Oper} {o : Oper} {a : Act} {Q : Exit → Act → World → Prop}
theorem wpListIn_load_at (ty : TypeId) (x : Operand) (ho : o.op = .load ty x) (hgd : Region.wanted o (yielded ops a.tmps) = true) (ad : Addr) (hx : a.eval x = .pointer (some ad)) (d : TypeDesc) (l : List Value)
    (hc : ∀ j u, l[j]? = some u → w.cell? (ad.add j) = some u) (hu : P.underlying ty = some d) (hd : (match d with | .struct _ | .array _ _ => true | _ => false) = true) (hi : (P.info? ty).map (·.size) = some l.length)
    (h : wpListIn Fc m P ops Q rest (a.put o.dst (.agg l.toArray)) w) : wpListIn Fc m P ops Q (o :: rest) a w := by
  refine BigFrame.wpListIn_want hgd fun K hK => ?_
  unfold Oper.wpIn
  refine ⟨?_, ?_⟩
  · simp [Oper.about, ho]
  · rw [Oper.semAt_plain Fc _ _ (by rw [ho]; intro c hc'; cases hc')]
    unfold execOp
    simp only [ho, hx, Instr.loadAt, Instr.sureAddr, Sem.run_bind, Sem.run_pure, Result.andThen_ok, run_loadVar_at ad ty d l hc hu hd hi]
    exact hK _ _ h
theorem wpListIn_store_all (L1 L2 : List Asr) (hH : Has w B (L1 ++ blk b T cs :: L2)) (ty : TypeId) (x v : Operand) (ho : o.op = .store ty x v) (hgd : Region.wanted o (yielded ops a.tmps) = true) (hx : a.eval x = .pointer (some ⟨b, 0, none⟩)) (vs : Array Value) (hv : a.eval v = .agg vs)
    (hi : (P.info? ty).map (·.size) = some vs.size) (hk : vs.size = cs.size) (h1 : ∀ u ∈ vs.toList, u.oneCell' = true)
    (hK : ∀ w', Has w' B (L1 ++ blk b T vs :: L2) → Below B w w' → w'.heap.size = w.heap.size → wpListIn Fc m P ops Q rest (a.put o.dst undef) w') : wpListIn Fc m P ops Q (o :: rest) a w := by
  obtain ⟨w', hst, hH', hB', hz'⟩ := store_run (P := P) L1 L2 hH vs.toList (by simpa using hk) h1
  refine BigFrame.wpListIn_want hgd fun K hK' => ?_
  have hsz : (sizeOf ty).run P w = .ok vs.size w := by
    cases hq : P.info? ty with
    | none => simp [hq] at hi
    | some i => simp [hq] at hi; simp [sizeOf, typeInfo, hq, hi]
  unfold Oper.wpIn
  refine ⟨?_, ?_⟩
  · simp [Oper.about, ho]
  · rw [Oper.semAt_plain Fc _ _ (by rw [ho]; intro c hc'; cases hc')]
    unfold execOp
    simp only [ho, hx, hv, Instr.storeAt, Instr.sureAddr, storeVar, Value.cells, Sem.run_bind, Sem.run_pure, Result.andThen_ok, hsz, ne_eq, not_true_eq_false, if_false, hst]
    exact hK' _ _ (hK w' hH' hB' hz')
end

def atE (x : (Int × Int) × SlotS) : Array Value := #[.agg #[.int .i64 x.1.1, .int .i64 x.1.2], .agg (slotC x.2)]
/-- The first k slots of a page. -/
def slotsTo (p : PageS) (k : Nat) : List ((Int × Int) × SlotS) := (p.s.take k).zipIdx.map fun x => ((p.f, (x.2 : Int)), x.1)
theorem slotsTo_succ {p : PageS} {k : Nat} {y : SlotS} (h : p.s[k]? = some y) : slotsTo p (k + 1) = slotsTo p k ++ [((p.f, (k : Int)), y)] := by
  unfold slotsTo
  have hk := (List.getElem?_eq_some_iff.1 h).1
  rw [List.take_add_one, h, Option.toList, List.zipIdx_append, List.map_append]
  have e : (p.s.take k).length = k := by simp; omega
  simp [e]
theorem slotsTo_length (p : PageS) (k : Nat) (h : k ≤ p.s.length) : (slotsTo p k).length = k := by simp [slotsTo]; omega
theorem allS_succ {ps : List PageS} {j : Nat} {p : PageS} (h : ps[j]? = some p) (h8 : p.s.length = 8) : allS (ps.take (j + 1)) = allS (ps.take j) ++ slotsTo p 8 := by
  have e : p.s.take 8 = p.s := List.take_of_length_le (by omega)
  unfold allS slotsTo
  rw [List.take_add_one, h, List.flatMap_append, e]
  simp
theorem allS_length {ps : List PageS} (h : ∀ p ∈ ps, p.s.length = 8) : (allS ps).length = ps.length * 8 := by
  induction ps with
  | nil => rfl
  | cons p ps ih =>
    have e : allS (p :: ps) = slotsTo p 8 ++ allS ps := by
      unfold allS slotsTo
      rw [List.flatMap_cons, List.take_of_length_le (by have := h p (by simp); omega)]
    rw [e, List.length_append, ih (fun p hp => h p (by simp [hp])), slotsTo_length p 8 (by have := h p (by simp); omega)]
    simp
    omega

/-- What the iterator reads lies below n₀. -/
structure AllB (n₀ : Nat) (w : World) (sb : Nat) (v : Value) (q : List (Nat × PageS)) : Prop where
  csb : w.cell? ⟨sb, 2, none⟩ = some v ∧ sb < n₀
  prow : ∃ ao cap, v = .slice ao q.length cap ∧ (0 < q.length → ∃ g, ao = some ⟨g, 0, none⟩ ∧ g < n₀ ∧ ∀ (j : Nat) x, q[j]? = some x → w.cell? ⟨g, j, none⟩ = some (.pointer (some ⟨x.1, 0, none⟩)))
  ppg : ∀ (j : Nat) x, q[j]? = some x → w.heap[x.1]? = some (.cells (pageC x.2) 95 (0, 0)) ∧ x.1 < n₀
theorem AllB.below {n₀ : Nat} {w w' : World} {sb : Nat} {v : Value} {q : List (Nat × PageS)} (h : AllB n₀ w sb v q) (hb : Below n₀ w w') : AllB n₀ w' sb v q := by
  refine ⟨⟨(hb.cell (p := ⟨sb, 2, none⟩) h.csb.2).trans h.csb.1, h.csb.2⟩, ?_, fun j x hx => ⟨(hb.block x.1 (h.ppg j x hx).2).trans (h.ppg j x hx).1, (h.ppg j x hx).2⟩⟩
  obtain ⟨ao, cap, hv, hg⟩ := h.prow
  refine ⟨ao, cap, hv, fun h0 => ?_⟩
  obtain ⟨g, hg1, hg2, hg3⟩ := hg h0
  exact ⟨g, hg1, hg2, fun j x hx => (hb.cell (p := ⟨g, j, none⟩) hg2).trans (hg3 j x hx)⟩
theorem AllB.page {n₀ : Nat} {w : World} {sb : Nat} {v : Value} {q : List (Nat × PageS)} (h : AllB n₀ w sb v q) {j : Nat} {x : Nat × PageS} (hx : q[j]? = some x) {i : Nat} {u : Value} (hu : (pageC x.2)[i]? = some u) : w.cell? ⟨x.1, i, none⟩ = some u := cell_of_blk (h.ppg j x hx).1 hu
theorem AllB.slots {n₀ : Nat} {w : World} {sb : Nat} {v : Value} {q : List (Nat × PageS)} (h : AllB n₀ w sb v q) {j : Nat} {x : Nat × PageS} (hx : q[j]? = some x) : ∀ i u, (slotsL x.2.s)[i]? = some u → w.cell? ((⟨x.1, 4, none⟩ : Addr).add i) = some u := by
  intro i u hu
  have e : (⟨x.1, 4, none⟩ : Addr).add i = ⟨x.1, 4 + i, none⟩ := by unfold Addr.add; split <;> simp_all
  rw [e]
  refine h.page hx ?_
  simp only [pageC, pageL, List.getElem?_toArray]
  rw [List.getElem?_append_right (by simp)]
  have : 4 + i - [Value.int .i64 x.2.f, .int .i64 x.2.k.g, .int .i64 x.2.k.lv, .int .i64 x.2.k.ro].length = i := by simp
  rw [this]
  exact hu
theorem slots_size : (Try.prog.info? 93).map (fun i => i.size) = some 40 := by kernel_rfl
theorem slots_index8 (a b c d e f g h : SlotS) (w : World) : ∀ k : Nat, k < 8 → (Instr.index 93 (.agg (slotsL [a, b, c, d, e, f, g, h]).toArray) (.int .i64 (k : Int))).run Try.prog w = .ok (.agg (slotC ([a, b, c, d, e, f, g, h].getD k slotZ))) w
  | 0, _ => by kernel_rfl
  | 1, _ => by kernel_rfl
  | 2, _ => by kernel_rfl
  | 3, _ => by kernel_rfl
  | 4, _ => by kernel_rfl
  | 5, _ => by kernel_rfl
  | 6, _ => by kernel_rfl
  | 7, _ => by kernel_rfl
  | k + 8, h => by omega
theorem slots_index {s : List SlotS} {k : Nat} {y : SlotS} (h8 : s.length = 8) (hy : s[k]? = some y) (w : World) : (Instr.index 93 (.agg (slotsL s).toArray) (.int .i64 (k : Int))).run Try.prog w = .ok (.agg (slotC y)) w := by
  have hk := (List.getElem?_eq_some_iff.1 hy).1
  have e : y = s.getD k slotZ := by simp [List.getD, hy]
  rw [e]
  match s, h8 with
  | [a, b, c, d, e, f, g, h], _ => exact slots_index8 a b c d e f g h w k (by simpa using hk)

theorem abides_belowS {β : Type} {B : Nat} {J : β → World → Prop} (h : AbidesFrom B J) {s : β} {W W' : World} (hs : J s W) (hb : Below W.heap.size W W') : J s W' :=
  h s W W' none hs ⟨hb.os, hb.tape, hb.output, hb.size, fun k hk _ => hb.block k hk⟩ (fun r e => by cases e)

/-- A round's word as one: it goes on just if b. -/
def RoundS (J Jx : List ((Int × Int) × SlotS) → World → Prop) (n₀ : Nat) (pre : List ((Int × Int) × SlotS)) (W : World) (e : Ending) (W' : World) : Prop :=
  ∃ b : Bool, e = .returned (.bool b) ∧ (b = true → J pre W' ∧ Below n₀ W W') ∧ (b = false → Jx pre W')

set_option maxRecDepth 100000 in
set_option maxHeartbeats 2000000 in
theorem all1_in (n : Nat) (hn : 1 ≤ n) (l ab sb n₀ : Nat) (v : Value) (q : List (Nat × PageS)) (h8 : ∀ p ∈ q.map Prod.snd, p.s.length = 8) (hq : q.length ≤ 256) (J Jx : List ((Int × Int) × SlotS) → World → Prop)
    (hY : ∀ pre x W, J pre W → pre.length < 2048 → YieldAt Fence.wide (n - 1) Try.prog l (atE x) W (RoundS J Jx n₀ (pre ++ [x]) W))
    (W : World) (hJ : AbidesFrom W.heap.size J) (c0 : W.cell? ⟨ab, 0, none⟩ = some (.pointer (some ⟨sb, 0, none⟩))) (hA : AllB n₀ W sb v q) (hn₀ : n₀ ≤ W.heap.size) (h0 : J [] W) :
    CallsIn Fence.wide n Try.prog 83 #[.func (.yield l) #[] #[], .pointer (some ⟨ab, 0, none⟩)] W fun e W' => (∃ v, e = .returned v) ∧
      ((∃ ys, ys = allS (q.map Prod.snd) ∧ J ys W') ∨ (∃ pre, True ∧ Jx pre W')) := by
  obtain ⟨ao, cap, rfl, _⟩ := hA.prow
  have c1 := hA.csb.1
  have zs := zeroSlot
  have HA := hid hA
  have HY := hid hY
  have HJ := hid hJ
  have H8 := hid h8
  clear hA hY hJ h8
  refine callsIn_of_wp Try.func83 rfl trivial ?_ rfl
  simp only [Try.ntmps83, List.size_toArray, List.length_cons, List.length_nil, Nat.reduceAdd, Nat.reduceSub, Array.replicate_succ, Array.replicate_zero, List.push_toArray, List.append_toArray, List.nil_append, List.cons_append]
  gi_wp2
  refine wpIn_wide.2 (wp_scope_straight ((wpIn_wide (n := n)).1 ?_))
  refine wpIn_seq (wpIn_label ?_)
  dsimp only [Exit.then]
  gi_wp2
  gi_loopw [12] (fun i wr => ∃ j : Nat, j ≤ q.length ∧ i = .int .i64 j ∧ Below n₀ W wr ∧ J (allS ((q.map Prod.snd).take j)) wr) (fun i _ => q.length - (intOf i).toNat)
  case atStart => exact ⟨0, by omega, rfl, Below.refl _ _, h0⟩
  case round =>
    obtain ⟨j, hj, rfl, hBr, hJr⟩ := hrel
    clear c0 c1 h0
    by_cases hlt : j < q.length
    · obtain ⟨x, hx⟩ : ∃ x, q[j]? = some x := ⟨_, List.getElem?_eq_getElem hlt⟩
      have hA := HA.out.below hBr
      obtain ⟨ao2, cap2, he, hg⟩ := hA.prow
      obtain ⟨g, rfl, hg0, hrow⟩ := hg (by omega)
      have ea : ao = some ⟨g, 0, none⟩ := by injection he
      subst ea
      have cr : wr.cell? ⟨g, j, none⟩ = some (.pointer (some ⟨x.1, 0, none⟩)) := hrow j x hx
      have hx8 : x.2.s.length = 8 := H8.out x.2 (List.mem_map_of_mem (List.mem_of_getElem? hx))
      have SC := hid (hA.slots hx)
      have hsz : (Try.prog.info? 93).map (fun i => i.size) = some (slotsL x.2.s).length := by rw [slotsL_length, hx8]; exact slots_size
      have hx2 : (q.map Prod.snd)[j]? = some x.2 := by simp [hx]
      have hst := allS_succ hx2 hx8
      have hlen : (allS ((q.map Prod.snd).take j)).length = j * 8 := by
        rw [allS_length (fun p hp => H8.out p (List.mem_of_mem_take hp))]
        simp
        omega
      obtain ⟨pre, hpre⟩ : ∃ pre, allS ((q.map Prod.snd).take j) = pre := ⟨_, rfl⟩
      rw [hpre] at hst hlen hJr
      have HST := hid hst
      have HX := hid hx
      have HJR := hid hJr
      have H8x := hid hx8
      clear hst hx hx2 hx8 hpre hJr he hg hrow hA
      gi_wp2_with (refine wpListIn_load_at 93 (.tmp 18) rfl rfl ⟨x.1, 4, none⟩ rfl _ (slotsL x.2.s) SC.out Try.underlying93 rfl hsz ?_)
      clear cr
      have hJ0 : J (pre ++ slotsTo x.2 0) wr := by
        have e : pre ++ slotsTo x.2 0 = pre := by simp [slotsTo]
        rw [e]
        exact HJR.out
      have HB0 := hid hBr
      gi_loopw [20] (fun i wk => ∃ k : Nat, k ≤ 8 ∧ i = .int .i64 k ∧ Below n₀ W wk ∧ J (pre ++ slotsTo x.2 k) wk) (fun i _ => 8 - (intOf i).toNat)
      case atStart => exact ⟨0, by omega, rfl, hBr, hJ0⟩
      case round =>
        obtain ⟨k, hk, rfl, hBk, hJk⟩ := hrel
        clear hJ0 hBr
        by_cases hlk : k < 8
        · have hlk' : (k : Int) < 8 := by omega
          obtain ⟨y, hy⟩ : ∃ y, x.2.s[k]? = some y := ⟨_, List.getElem?_eq_getElem (by have := H8x.out; omega)⟩
          have hix := slots_index H8x.out hy
          have HIX := hid hix
          have hsu := slotsTo_succ hy
          have HSU := hid hsu
          have hnr : n₀ ≤ wr.heap.size := Nat.le_trans hn₀ hBk.size
          have hN : Has (wr.alloc (.cells (slotC slotZ) 42)) wr.heap.size [blk wr.heap.size 42 (slotC slotZ)] := (Has.nil (Nat.le_refl _) : Has wr wr.heap.size []).newblk wr.heap.size 42 (slotC slotZ) rfl
          have bN : Below wr.heap.size wr (wr.alloc (.cells (slotC slotZ) 42)) := below_new (Below.refl _ _) (Has.nil (Nat.le_refl _) : Has wr wr.heap.size []) _
          have HJK := hid hJk
          clear hy hsu hJk
          gi_wp2_with (refine wpListIn_store_all [] _ hN 42 (.tmp 6) (.tmp 23) rfl rfl rfl (slotL y).toArray rfl slot_size rfl (slot_one _) ?_; intro w3 hH3 hB3 hz3)
          have b3 := bN.trans hB3
          have hA3 := HA.out.below (hBk.trans (b3.mono hnr))
          have p0 : w3.cell? ⟨x.1, 0, none⟩ = some (.int .i64 x.2.f) := hA3.page HX.out rfl
          have y0 : w3.cell? ⟨wr.heap.size, 0, none⟩ = some (.int .i64 y.kd) := hH3.cell [] _ 0 rfl
          have y1 : w3.cell? ⟨wr.heap.size, 1, none⟩ = some (.int .i64 y.to) := hH3.cell [] _ 1 rfl
          have y2 : w3.cell? ⟨wr.heap.size, 2, none⟩ = some (.bool y.w) := hH3.cell [] _ 2 rfl
          have y3 : w3.cell? ⟨wr.heap.size, 3, none⟩ = some (.bool y.u) := hH3.cell [] _ 3 rfl
          have y4 : w3.cell? ⟨wr.heap.size, 4, none⟩ = some (.bool y.x) := hH3.cell [] _ 4 rfl
          have hJ3 := abides_belowS HJ.out HJK.out b3.drew
          have hln : (pre ++ slotsTo x.2 k).length < 2048 := by
            rw [List.length_append, slotsTo_length _ _ (by have := H8x.out; omega), hlen]
            omega
          obtain ⟨fn, tmps, assign, body, hy, hR⟩ := HY.out _ ((x.2.f, (k : Int)), y) _ hJ3 hln
          dsimp only [atE, slotC] at hy
          have hmix : Try.prog.follows .mixedOrders = true := by kernel_rfl
          have HB3 := hid (hBk.trans (b3.drew.mono hnr))
          clear hN bN hH3 hB3 hz3 hA3 hJ3 hln b3
          gi_region_with_o (first
            | (refine hR.mono ?_; rintro e W4 ⟨b, rfl, hb1, hb2⟩))
          all_goals (
            cases b with
            | true =>
              gi_wp2
              go_roundw
              case rel => exact ⟨k + 1, by omega, by go_num, HB3.out.trans (hb1 rfl).2, by rw [HSU.out, ← List.append_assoc]; exact (hb1 rfl).1⟩
              case measure => simp [intOf] <;> omega
            | false =>
              gi_wp2

              go_end0
              exact ⟨⟨_, rfl⟩, .inr ⟨_, trivial, hb2 trivial⟩⟩)
        · obtain rfl : k = 8 := by omega
          gi_wp2
          go_roundw
          case rel => exact ⟨j + 1, by omega, by go_num, hBk, by rw [HST.out]; exact hJk⟩
          case measure => simp [intOf] <;> omega
    · obtain rfl : j = q.length := by omega
      gi_wp2
      dsimp only [Exit.noGoto]
      go_end0
      exact ⟨⟨_, rfl⟩, .inl ⟨_, by rw [List.take_of_length_le (by simp)], hJr⟩⟩

theorem all_stops (n : Nat) (hn : 1 ≤ n) (ab sb n₀ : Nat) (v : Value) (q : List (Nat × PageS)) (h8 : ∀ p ∈ q.map Prod.snd, p.s.length = 8) (hq : q.length ≤ 256) (w : World) (hn₀ : n₀ ≤ w.heap.size) (hab : w.cell? ⟨ab, 0, none⟩ = some (.pointer (some ⟨sb, 0, none⟩))) (hal : ab < w.heap.size) (hA : AllB n₀ w sb v q) :
    SeqStopsK Fence.wide n Try.prog 83 #[.pointer (some ⟨ab, 0, none⟩)] atE (Below n₀) (fun ys => ys = allS (q.map Prod.snd)) (fun _ => True) 2048 w := fun l J Jx W hW hJ _ hY h0 => by
  refine all1_in n hn l ab sb n₀ v q h8 hq J Jx (fun pre x W1 hj hl => ?_) W hJ ((hW.cell (p := ⟨ab, 0, none⟩) hal).trans hab) (hA.below (hW.mono hn₀)) (Nat.le_trans hn₀ hW.size) h0
  obtain ⟨fn, tmps, assign, body, hy, hR⟩ := hY pre x W1 hj hl
  refine ⟨fn, tmps, assign, body, hy, hR.mono fun e W' h => ?_⟩
  rcases h with ⟨rfl, h1, h2⟩ | ⟨rfl, h1⟩
  · exact ⟨true, rfl, fun _ => ⟨h1, h2⟩, fun h => absurd h (by decide)⟩
  · exact ⟨false, rfl, fun h => absurd h (by decide), fun _ => h1⟩

theorem all_calls (sb : Nat) (w : World) : Calls Try.prog 77 #[.pointer (some ⟨sb, 0, none⟩)] w fun e w' => e = .returned (.func (.func 83) #[] #[.pointer (some ⟨w.heap.size, 0, none⟩)]) ∧ w' = w.alloc (.cells #[.pointer (some ⟨sb, 0, none⟩)] 26) := by
  go_enter Try.func77, Try.ntmps77
  go_wp2_with fail
  go_ret
  exact ⟨rfl, rfl⟩

end Go.Proofs.Yteeapkndappnoaa
