/-
  The host's frames that are somebody's: an iterator of package conf, and what collects it.
-/
import Derived.RangeFuncNested
import Derived.RangeFuncBound
import Derived.RangeFuncCalls
import Derived.RangeFuncLeaves
import Derived.RangeFuncBox
import Derived.Shelf.Abstract
import Derived.Shelf.RegionOpen
import Derived.WalkKit
import Derived.OwnWalkIn
import Derived.TacticsInMore
import Derived.LoopNIn
import Derived.LoopIn
import Derived.Maps.AppendAt
import Derived.Deep.RegionWith
import Derived.Deep.RegionHeld3
import Derived.Test.YtkgijfodjmkhgaaConfB
namespace Go.Proofs.Ytkgijfodjmkhgaa
open Go.RowKit Go.Shelf
set_option linter.unusedVariables false
set_option linter.unusedSimpArgs false

attribute [local go_sem] Oper.semAt_some

/-- A list that lies below n₀. -/
structure SrcB (n₀ : Nat) (w : World) (a : Option Addr) (l : List Int) : Prop where
  small : l.length ≤ 9223372036854775807
  wf : ∀ x ∈ l, (Lit.int .i64 x).wf = true
  mem : 0 < l.length → ∃ b o, a = some ⟨b, o, none⟩ ∧ b < n₀ ∧ ∀ j u, (l.map (Value.int .i64))[j]? = some u → w.cell? ⟨b, o + j, none⟩ = some u
theorem SrcB.src {n₀ : Nat} {w : World} {a : Option Addr} {l : List Int} (h : SrcB n₀ w a l) (hn : n₀ ≤ w.heap.size) : Src w a l :=
  ⟨h.small, h.wf, fun h0 => by obtain ⟨b, o, e, hb, hc⟩ := h.mem h0; exact ⟨b, o, e, Nat.lt_of_lt_of_le hb hn, hc⟩⟩
theorem SrcB.below {n₀ : Nat} {w w' : World} {a : Option Addr} {l : List Int} (h : SrcB n₀ w a l) (hb : Below n₀ w w') : SrcB n₀ w' a l :=
  ⟨h.small, h.wf, fun h0 => by obtain ⟨b, o, e, hlt, hc⟩ := h.mem h0; exact ⟨b, o, e, hlt, fun j u hj => (hb.cell (p := ⟨b, o + j, none⟩) hlt).trans (hc j u hj)⟩⟩
theorem Src.srcB {n₀ : Nat} {w : World} {a : Option Addr} {l : List Int} (h : Src w a l) (hn : w.heap.size ≤ n₀) : SrcB n₀ w a l :=
  ⟨h.small, h.wf, fun h0 => by obtain ⟨b, o, e, hb, hc⟩ := h.mem h0; exact ⟨b, o, e, Nat.lt_of_lt_of_le hb hn, hc⟩⟩

theorem abides_below {β : Type} {B : Nat} {J : β → World → Prop} (h : AbidesFrom B J) {s : β} {W W' : World} (hs : J s W) (hb : Below W.heap.size W W') : J s W' :=
  h s W W' none hs ⟨hb.os, hb.tape, hb.output, hb.size, fun k hk _ => hb.block k hk⟩ (fun r e => by cases e)

/-- A round's word as one: it goes on just if b. -/
def RoundB (J Jx : List Int → World → Prop) (n₀ : Nat) (pre : List Int) (W : World) (e : Ending) (W' : World) : Prop :=
  ∃ b : Bool, e = .returned (.bool b) ∧ (b = true → J pre W' ∧ Below n₀ W W') ∧ (b = false → Jx pre W')

theorem owner_lit (c : ConfS) (f oi : Int) (w : World) (hs : Src w c.a c.l) (h0 : 0 ≤ c.first) (hf0 : 0 ≤ f) (hf1 : f ≤ 256) (ho : ownI c.l c.first c.many f = oi) :
    Calls Try.prog 33 #[.agg #[.int .i64 c.host, .slice c.a c.l.length c.cap, .int .i64 c.first, .int .i64 c.many, .int .i64 c.tlb, .int .i64 c.asids, .int .i64 c.root], .int .i64 f] w fun e w' => e = .returned (.int .i64 oi) ∧ Below w.heap.size w w' := by
  subst ho
  exact owner_calls c f w hs h0 hf0 hf1

set_option maxRecDepth 100000 in
set_option maxHeartbeats 2000000 in
theorem of1_in (n : Nat) (hn : 1 ≤ n) (l cb wb n₀ : Nat) (c : ConfS) (whose : Int) (hok : okC c) (J Jx : List Int → World → Prop)
    (hY : ∀ pre x W, J pre W → pre.length < c.host.toNat → YieldAt Fence.wide (n - 1) Try.prog l #[.int .i64 x] W (RoundB J Jx n₀ (pre ++ [x]) W))
    (W : World) (hJ : AbidesFrom W.heap.size J) (hcb : W.heap[cb]? = some (.cells (confC c).toArray 24 (0, 0))) (hcl : cb < n₀) (hwb : W.cell? ⟨wb, 0, none⟩ = some (.int .i64 whose)) (hwl : wb < n₀) (hs : SrcB n₀ W c.a c.l) (hn₀ : n₀ ≤ W.heap.size) (h0 : J [] W) :
    CallsIn Fence.wide n Try.prog 32 #[.func (.yield l) #[] #[], .pointer (some ⟨cb, 0, none⟩), .pointer (some ⟨wb, 0, none⟩)] W fun e W' => (∃ v, e = .returned v) ∧
      ((∃ ys, ys = frs c.l c.first c.many whose c.host.toNat ∧ J ys W') ∨ (∃ pre, True ∧ Jx pre W')) := by
  have hh1 : 1 ≤ c.host := hok.g.2.2.1
  have hh2 : c.host ≤ 256 := hok.g.2.2.2.1
  have hf0 : 0 ≤ c.first := hok.f.1
  obtain ⟨hh, hhh⟩ : ∃ hh : Nat, c.host = hh := ⟨c.host.toNat, by omega⟩
  have hht : c.host.toNat = hh := by omega
  rw [hht] at hY ⊢
  have k0 := cell_of_blk hcb (i := 0) (v := .int .i64 c.host) rfl
  rw [hhh] at k0
  have hh3 : hh ≤ 256 := by omega
  have HCB := hid hcb
  have HWB := hid hwb
  have HS := hid hs
  have HY := hid hY
  have HJ := hid hJ
  clear hcb hwb hs hY hJ hok hht hhh hh1 hh2
  refine callsIn_of_wp Try.func32 rfl trivial ?_ rfl
  simp only [Try.ntmps32, List.size_toArray, List.length_cons, List.length_nil, Nat.reduceAdd, Nat.reduceSub, Array.replicate_succ, Array.replicate_zero, List.push_toArray, List.append_toArray, List.nil_append, List.cons_append]
  gi_wp2
  gi_loopw [4, 7] (fun _ i wr => ∃ k : Nat, k ≤ hh ∧ i = .int .i64 k ∧ Below n₀ W wr ∧ J (frs c.l c.first c.many whose k) wr) (fun _ i _ => hh - (intOf i).toNat)
  case atStart => exact ⟨0, by omega, rfl, Below.refl _ _, h0⟩
  case round =>
    obtain ⟨k, hk, rfl, hBr, hJr⟩ := hrel
    clear k0 h0
    by_cases hlt : k < hh
    · have k1 : wr.heap[cb]? = some (.cells (confC c).toArray 24 (0, 0)) := (hBr.block cb hcl).trans HCB.out
      have k2 : wr.cell? ⟨wb, 0, none⟩ = some (.int .i64 whose) := (hBr.cell (p := ⟨wb, 0, none⟩) hwl).trans HWB.out
      have m0 := cell_of_blk k1 (i := 0) (v := .int .i64 c.host) rfl
      have m1 := cell_of_blk k1 (i := 1) (v := .slice c.a c.l.length c.cap) rfl
      have m2 := cell_of_blk k1 (i := 2) (v := .int .i64 c.first) rfl
      have m3 := cell_of_blk k1 (i := 3) (v := .int .i64 c.many) rfl
      have m4 := cell_of_blk k1 (i := 4) (v := .int .i64 c.tlb) rfl
      have m5 := cell_of_blk k1 (i := 5) (v := .int .i64 c.asids) rfl
      have m6 := cell_of_blk k1 (i := 6) (v := .int .i64 c.root) rfl
      have hmix : Try.prog.follows .mixedOrders = true := by kernel_rfl
      have hsr := (HS.out.below hBr).src (Nat.le_trans hn₀ hBr.size)
      have hstep := frs_succ c.l c.first c.many whose k
      have hlen := Nat.lt_of_le_of_lt (frs_le c.l c.first c.many whose k) hlt
      obtain ⟨oi, ho⟩ : ∃ oi, ownI c.l c.first c.many k = oi := ⟨_, rfl⟩
      have CO := hid (owner_lit c k oi wr.drew (hsr.later ((Below.refl _ wr).drew)) hf0 (by omega) (by omega) ho)
      rw [ho] at hstep
      obtain ⟨pre, hpre⟩ : ∃ pre, frs c.l c.first c.many whose k = pre := ⟨_, rfl⟩
      rw [hpre] at hstep hlen hJr
      have HST := hid hstep
      have HJR := hid (And.intro hJr hlen)
      clear k1 hsr ho hpre hstep hlen hJr
      have hnr : n₀ ≤ wr.heap.size := Nat.le_trans hn₀ hBr.size
      have hcb' : cb < wr.heap.size := by have := hBr.size; omega
      have hwb' : wb < wr.heap.size := by have := hBr.size; omega
      by_cases hq : oi = whose
      · have e1 : (oi == whose) = true := by simpa using hq
        gi_wp2
        gi_region_with_o (first
          | (refine ⟨trivial, ?_⟩; gi_at_call 33; refine (callsIn_wide.2 CO.out).mono ?_; rintro e w1 ⟨rfl, hb0⟩; have k2' := (hb0.cell (p := ⟨wb, 0, none⟩) (by have := hBr.size; simp; omega)).trans (show wr.drew.cell? ⟨wb, 0, none⟩ = _ from k2); have hJ1 := abides_below HJ.out HJR.out.1 (((Below.refl wr.heap.size wr).drew).trans hb0); obtain ⟨fn, tmps, assign, body, hy, hR⟩ := HY.out _ k _ hJ1 HJR.out.2)
          | (refine hR.mono ?_; rintro e W3 ⟨b, rfl, hb1, hb2⟩))
        all_goals (
          cases b with
          | true =>
            gi_wp2
            go_roundw
            case rel => exact ⟨k + 1, by omega, by go_num, hBr.trans (((((Below.refl wr.heap.size wr).drew).trans hb0).mono (by omega)).trans (hb1 rfl).2), by rw [HST.out, if_pos hq]; exact (hb1 rfl).1⟩
            case measure => simp [intOf] <;> omega
          | false =>
            gi_wp2
            refine bodyPost_ret (results_none rfl _ _ _) rfl ?_
            exact ⟨⟨_, rfl⟩, .inr ⟨_, hb2 trivial⟩⟩)
      · have e1 : (oi == whose) = false := by simpa using hq
        gi_wp2
        refine wpIn_wide.2 ?_
        first
          | go_region_with (go_at_call 33; (with_reducible refine CO.out.mono ?_); rintro e w1 ⟨rfl, hb1⟩; have hb2 := ((Below.refl wr.heap.size wr).drew).trans hb1; have hJ1 := abides_below HJ.out HJR.out.1 hb2; have k2' := (hb2.cell (p := ⟨wb, 0, none⟩) hwb').trans k2)
          | fail
        all_goals (
          gi_wp2
          go_roundw
          case rel => exact ⟨k + 1, by omega, by go_num, hBr.trans (hb2.mono (by omega)), by rw [HST.out, if_neg hq, List.append_nil]; exact hJ1⟩
          case measure => simp [intOf] <;> omega)
    · obtain rfl : k = hh := by omega
      gi_wp2
      go_end0
      exact ⟨⟨_, rfl⟩, .inl ⟨_, rfl, hJr⟩⟩

theorem of_calls (c : ConfS) (whose : Int) (w : World) :
    Calls Try.prog 30 #[.agg (confC c).toArray, .int .i64 whose] w fun e w' => ∃ cb wb, e = .returned (.func (.func 32) #[] #[.pointer (some ⟨cb, 0, none⟩), .pointer (some ⟨wb, 0, none⟩)]) ∧
      w'.heap[cb]? = some (.cells (confC c).toArray 24 (0, 0)) ∧ w'.cell? ⟨wb, 0, none⟩ = some (.int .i64 whose) ∧ cb < w'.heap.size ∧ wb < w'.heap.size ∧ Below w.heap.size w w' := by
  have hH0 : Has w w.heap.size [] := Has.nil (Nat.le_refl _)
  have hH1 := hH0.newblk w.heap.size 24 (confC c).toArray rfl
  have hB1 := below_new (Below.refl _ w) hH0 (.cells (confC c).toArray 24)
  have hH2 := hH1.newblk (w.heap.size + 1) 3 #[.int .i64 whose] (by simp)
  have hB2 := below_new hB1 hH1 (.cells #[.int .i64 whose] 3)
  go_enter Try.func30, Try.ntmps30
  go_wp2_with fail
  go_ret
  exact ⟨w.heap.size, w.heap.size + 1, rfl, (hH2.blk_at [_] _).1, hH2.cell [] _ 0 rfl, (hH2.blk_at [_] _).2.2, (hH2.blk_at [] _).2.2, hB2⟩

theorem infoIntC : (Try.prog.info? 3).map (fun i => (i.zero, i.size, i.bytes)) = some (some (.int .i64 0), 1, 8) := by kernel_rfl

theorem of1_stops (n : Nat) (hn : 1 ≤ n) (cb wb : Nat) (c : ConfS) (whose : Int) (hok : okC c) (w : World) (hcb : w.heap[cb]? = some (.cells (confC c).toArray 24 (0, 0))) (hcl : cb < w.heap.size) (hwb : w.cell? ⟨wb, 0, none⟩ = some (.int .i64 whose)) (hwl : wb < w.heap.size) (hs : Src w c.a c.l) :
    SeqStopsK Fence.wide n Try.prog 32 #[.pointer (some ⟨cb, 0, none⟩), .pointer (some ⟨wb, 0, none⟩)] (fun x : Int => #[Value.int .i64 x]) (Below w.heap.size) (fun ys => ys = frs c.l c.first c.many whose c.host.toNat) (fun _ => True) c.host.toNat w := fun l J Jx W hW hJ _ hY h0 => by
  refine of1_in n hn l cb wb w.heap.size c whose hok J Jx (fun pre x W1 hj hl => ?_) W hJ ((hW.block cb hcl).trans hcb) hcl ((hW.cell (p := ⟨wb, 0, none⟩) hwl).trans hwb) hwl ((hs.srcB (Nat.le_refl _)).below hW) hW.size h0
  obtain ⟨fn, tmps, assign, body, hy, hR⟩ := hY pre x W1 hj hl
  refine ⟨fn, tmps, assign, body, hy, hR.mono fun e W' h => ?_⟩
  rcases h with ⟨rfl, h1, h2⟩ | ⟨rfl, h1⟩
  · exact ⟨true, rfl, fun _ => ⟨h1, h2⟩, fun h => absurd h (by decide)⟩
  · exact ⟨false, rfl, fun h => absurd h (by decide), fun _ => h1⟩

set_option maxRecDepth 100000 in
set_option maxHeartbeats 2000000 in
/-- Whatever an iterator gives is collected. -/
theorem AppendSeq_calls (gf : Nat) (lb : Array Value) (eg : ∀ args w, (callFunc gf args).run Try.prog w = .ok (.enter gf args) w) (xs : List Int) (N : Nat) (hN : N ≤ 1000) (hxs : xs.length ≤ N) (w : World)
    (hseq : SeqStopsK Fence.wide 8 Try.prog gf lb (fun x : Int => #[Value.int .i64 x]) (Below w.heap.size) (fun ys => ys = xs) (fun _ => True) N w) :
    CallsIn Fence.wide 9 Try.prog 31 #[.slice none 0 0, .func (.func gf) #[] lb] w fun e W' => ∃ v, e = .returned v ∧ W'.ownsRow w.heap.size 3 1 v xs.length (xs.map (Value.int .i64)) ∧ Below w.heap.size w W' := by
  obtain ⟨i0, hi, hz0, hz1, hz2⟩ := info_parts infoIntC
  refine callsIn_of_wp_marks Try.func31 rfl trivial ?_ rfl
  simp only [Try.ntmps31, List.size_toArray, List.length_cons, List.length_nil, Nat.reduceAdd, Nat.reduceSub, Array.replicate_succ, Array.replicate_zero, List.push_toArray, List.append_toArray, List.nil_append, List.cons_append]
  gi_wp2
  have bO := Boxed.new w 22 (.slice none 0 0)
  have hB0 : Below w.heap.size w (w.alloc (.cells #[.slice none 0 0] 22)) := (Below.refl _ w).alloc (Nat.le_refl _) _
  refine wpIn_rangeFunc_ownG rfl (by decide) (gf := gf) (lb := lb) rfl trivial eg hseq belowK_t (belowK_b (by simp)) hB0 (fun _ => rfl)
    (fun pre W => (∃ v, Boxed W w.heap.size 22 v ∧ W.ownsRow w.heap.size 3 1 v pre.length (pre.map (Value.int .i64)) ∧ (v = .slice none 0 0 ↔ pre = [])) ∧ Below w.heap.size w W)
    (fun _ _ _ => False)
    (OwnFrom.and (Own.from (holdsRow_own w.heap.size w.heap.size 22 3 1 (fun pre => pre.length) (fun pre => pre.map (Value.int .i64)) (fun pre v => v = .slice none 0 0 ↔ pre = [])) _) (ownFrom_below (Nat.le_refl _) (by simp)))
    (fun _ _ _ _ _ hs _ _ => hs)
    ⟨⟨_, bO, World.ownsRow_nil _ _ _ _, by simp⟩, hB0⟩
    (fun x => { tmps := #[.slice none 0 0, .func (.func gf) #[] lb, .pointer (some ⟨w.heap.size, 0, none⟩), undef, .slice none 0 0, .int .i64 x, .func (.func gf) #[] lb, .int .i64 x, undef, undef, undef, undef, undef], defers := [] }) ?assign ?body ?done ?stop
  case assign =>
    intro l x W K hK
    gi_wp2
    exact hK
  case body =>
    rintro l pre x W ⟨⟨v, hv, hrow, hnil⟩, hB⟩ hlt
    have hc := hv.cell
    gi_wp2_with (gi_at_builtin; refine wpListIn_append_own _ rfl _ _ 22 rfl w.heap.size 3 i0 (.int .i64 0) 1 8 Try.underlying22 hi hz0 hz1 hz2 rfl (by decide) _ _ _ rfl (hrow.alloc _) ⟨W.heap.size, 0, none⟩ 1 1 [.int .i64 x] rfl rfl (cell_one_new _ _ _) (by simp [Value.oneCell']) (by unfold maxLen; omega) (by omega) (by have := hB.size; simp; omega) ?_; intro v' w1 hown' hgrow _; obtain ⟨g', cap', rfl⟩ := ownsRow_succ hown'; obtain ⟨hv1, hv2, hr2, hk2, hb2⟩ := hv.appended (by decide) hrow hB.size (Nat.le_refl _) hown' hgrow; have hc1 := hv1.cell; have hf1 := hv1.frozen)
    exact ⟨hk2.from _, hb2, ⟨_, hv2, by simpa using hr2, by simp⟩, hB.trans hb2⟩
  case done =>
    rintro D ys W hD rfl ⟨⟨v, hv, hrow, hnil⟩, hB⟩ hK
    have hc := hv.cell
    gi_wp2
    refine ⟨by simp, .inl ⟨_, _, rfl, run_takeDeferred hK, ?_⟩⟩
    exact ⟨_, results_tmp rfl _ _ _, v, rfl, ownsRow_putObj hrow _ hK rfl, hB.trans (belowK_b (w := w) (Nat.le_refl _) W D _ _ (by simp at hD; omega) hK rfl rfl)⟩
  case stop =>
    rintro D c pre W _ _ h _
    exact h.elim

end Go.Proofs.Ytkgijfodjmkhgaa
