/-
  MmuPlays: calls of a machine, with a TLB of any size, on any tables, answer as the document says; so do what is known, and walks.
-/
import Derived.Test.YtlcdjdchcjnhfaaMmuHead
import Derived.Test.YtlcdjdchcjnhfaaMmuRef4
import Derived.Test.YtlcdjdchcjnhfaaTlbRef2
import Derived.Test.YtlcdjdchcjnhfaaPick
import Derived.StillTailTactics
import Derived.Deep.CutBlock
import Derived.Deep.DeepCutAuto
namespace Go.Proofs.Ytlcdjdchcjnhfaa
open Go.RowKit
set_option linter.unusedVariables false
set_option linter.unusedSimpArgs false

theorem RTlbNew_yesM (n : Nat) (h1 : 1 ≤ n) (h2 : n ≤ 512) (w : World) (B : Nat) (X : List Asr) (hH : Has w B X) :
    Calls Try.prog 23 #[.int .i64 n] w fun e w' => ∃ b, e = .returned (.pointer (some ⟨b, 0, none⟩)) ∧ Has w' B (RTlbA b n [] :: X) ∧ Below B w w' := by
  refine (RTlbNew_calls n w B X hH).mono ?_
  rintro e w' (⟨h, _⟩ | ⟨b, m, hm, _, _, he, hh, hb⟩)
  · exact absurd ⟨by omega, by omega⟩ h
  · obtain rfl : n = m := by omega
    exact ⟨b, he, hh, hb⟩
theorem RTlbNew_noM (f : Int) (h : ¬ (1 ≤ f ∧ f ≤ 512)) (w : World) (B : Nat) (X : List Asr) (hH : Has w B X) :
    Calls Try.prog 23 #[.int .i64 f] w fun e w' => e = .returned (.pointer none) ∧ Has w' B X ∧ Below B w w' := by
  refine (RTlbNew_calls f w B X hH).mono ?_
  rintro e w' (⟨_, he⟩ | ⟨b, m, hm, h1, h2, _⟩)
  · exact he
  · exact absurd ⟨by omega, by omega⟩ h
theorem RMemNew_yesM (n : Nat) (h1 : 1 ≤ n) (h2 : n ≤ 256) (w : World) (B : Nat) (X : List Asr) (hH : Has w B X) :
    Calls Try.prog 24 #[.int .i64 n] w fun e w' => ∃ b, e = .returned (.pointer (some ⟨b, 0, none⟩)) ∧ Has w' B (RMemA b n (List.replicate (n * 8) 0) :: X) ∧ Below B w w' := by
  refine (RMemNew_calls n w B X hH).mono ?_
  rintro e w' (⟨h, _⟩ | ⟨b, m, hm, _, _, he, hh, hb⟩)
  · exact absurd ⟨by omega, by omega⟩ h
  · obtain rfl : n = m := by omega
    exact ⟨b, he, hh, hb⟩
theorem RWalk3 (mb tb hb n : Nat) (W : List Int) (root page : Int) (hok : okW W) {o : Option (Int × RightS)} {f : Int} {r : RightS} {i : Bool} (hx : walkS W n page 3 root rAll = o) (hf : wF o = f) (hr : wR o = r) (hi : o.isSome = i) (w : World) (B : Nat) (X : List Asr) (hH : Has w B (rmuB mb tb hb :: RMemA hb n W :: X)) :
    Calls Try.prog 29 #[.pointer (some ⟨mb, 0, none⟩), .int .i64 root, .int .i64 page] w fun e w' => e = .returned (.tuple #[.int .i64 f, .agg (rightC r).toArray, .bool i]) ∧ Has w' B (rmuB mb tb hb :: RMemA hb n W :: X) ∧ Below B w w' := by
  have h := RWalk_calls mb tb hb n W root page hok w B X hH
  rw [hx, walkV_eq, hf, hr, hi] at h
  exact h
theorem RAccess2 (mb tb hb n N : Nat) (W : List Int) (L : List HitS) (root a page kind : Int) (user : Bool) (hok : okW W) {f : Int} {b : Bool} {M : List HitS} (hx : accS N L (walkS W n (page % 512) 3 root rAll) a (page % 512) kind user = ((f, b), M)) (w : World) (B : Nat) (X : List Asr) (hH : Has w B (rmuB mb tb hb :: RMemA hb n W :: RTlbA tb N L :: X)) :
    Calls Try.prog 28 #[.pointer (some ⟨mb, 0, none⟩), .int .i64 root, .int .i64 a, .int .i64 page, .int .i64 kind, .bool user] w fun e w' => e = .returned (.tuple #[.int .i64 f, .bool b]) ∧ Has w' B (rmuB mb tb hb :: RMemA hb n W :: RTlbA tb N M :: X) ∧ Below B w w' := by
  have h := RAccess_calls mb tb hb n N W L root a page kind user hok w B X hH
  rw [hx] at h
  exact h
theorem RFind2 (mb tb hb n N : Nat) (W : List Int) (L : List HitS) (root a page : Int) (hok : okW W) {b : Bool} {M : List HitS} (hx : findS N L (walkS W n (page % 512) 3 root rAll) a (page % 512) = (b, M)) (w : World) (B : Nat) (X : List Asr) (hH : Has w B (rmuB mb tb hb :: RMemA hb n W :: RTlbA tb N L :: X)) :
    Calls Try.prog 27 #[.pointer (some ⟨mb, 0, none⟩), .int .i64 root, .int .i64 a, .int .i64 page] w fun e w' => e = .returned (.bool b) ∧ Has w' B (rmuB mb tb hb :: RMemA hb n W :: RTlbA tb N M :: X) ∧ Below B w w' := by
  have h := RFind_calls mb tb hb n N W L root a page hok w B X hH
  rw [hx] at h
  exact h
theorem right_neqS (r : RightS) (w : World) : Sem.run Try.prog (binOp .neq 38 (.agg (rightC r).toArray) (.agg (rightC r).toArray)) w = .ok (.bool false) w := by
  have h' : Sem.run Try.prog (binOp .eql 38 (.agg (rightC r).toArray) (.agg (rightC r).toArray)) w = .ok (.bool (decide (r = r))) w := right_eq2 r r w
  rw [decide_eq_true rfl, run_eql_struct] at h'
  simp only [binOp, Sem.run_bind, Op.equal, Op.maxDepth]
  revert h'
  generalize (Op.equalIn 10000 38 (.agg (rightC r).toArray) (.agg (rightC r).toArray)).run Try.prog w = q
  cases q with
  | ok b w' => intro h; simp at h ⊢; simp [h]
  | halt x w' => intro h; simp [Result.andThen] at h
theorem mop_sizeM {x : MOp} : (Try.prog.info? 63).map (fun i => i.size) = some (mopC x).length := by
  show _ = some 9
  kernel_rfl
theorem mop_sizeM' {x : MOp} : (Try.prog.info? 63).map (fun i => i.size) = some (mopC x).toArray.size := by
  show _ = some 9
  kernel_rfl
theorem mop_oneM (x : MOp) : ∀ u ∈ (mopC x).toArray.toList, u.oneCell' = true := by simp [mopC, Value.oneCell']
def mopZ : Array Value := #[.int .i64 0, .int .i64 0, .int .i64 0, .int .i64 0, .int .i64 0, .bool false, .int .i64 0, .int .i64 0, .int .u64 0]
theorem infoMop : (Try.prog.info? 63).map (fun i => (i.zero, i.size, i.bytes)) = some (some (.agg mopZ), 9, 72) := by kernel_rfl
theorem infoRightM : (Try.prog.info? 38).map (fun i => (i.zero, i.size, i.bytes)) = some (some (.agg #[.bool false, .bool false, .bool false]), 3, 3) := by kernel_rfl

theorem store_first {P : Program} {w : World} {B b : Nat} {T : TypeId} {cs : Array Value} {ops : Array Oper} {o : Oper} {rest : List Oper} {a : Act} {Q : Exit → Act → World → Prop} {L2 : List Asr} (hH : Has w B (blk b T cs :: L2)) (ty : TypeId) (x v : Operand) (ho : o.op = .store ty x v) (hgd : Region.wanted o (yielded ops a.tmps) = true) (hx : a.eval x = .pointer (some ⟨b, 0, none⟩)) (vs : Array Value) (hv : a.eval v = .agg vs)
    (hi : (P.info? ty).map (·.size) = some vs.size) (hk : vs.size = cs.size) (h1 : ∀ u ∈ vs.toList, u.oneCell' = true)
    (hK : ∀ w', Has w' B (blk b T vs :: L2) → Below B w w' → w'.heap.size = w.heap.size → wpList P ops Q rest (a.put o.dst undef) w') : wpList P ops Q (o :: rest) a w :=
  wpList_store_all [] L2 hH ty x v ho hgd hx vs hv hi hk h1 hK

set_option maxHeartbeats 4000000 in
set_option maxRecDepth 100000 in
theorem MmuPlays_walk (la : Option Addr) (llen lcap : Nat) (l : List PutS) (most : Int) (aa : Option Addr) (len cap : Nat) (ops : List MOp) (w : World) (hAl : ArgRow w 3 la llen (l.flatMap putC)) (hll : ∀ x ∈ l, PutOk x) (hwm : (Lit.int .i64 most).wf = true) (hA : ArgRow w 9 aa len (ops.flatMap mopC)) (hops : ∀ x ∈ ops, MOk x) :
    Calls Try.prog 7 #[.slice la llen lcap, .int .i64 most, .slice aa len cap] w fun e w' => e = .returned (.bool true) ∧ Below w.heap.size w w' := by
  obtain rfl := puts_len hAl
  obtain rfl := mops_len hA
  have hsl := hAl.small
  have hsa := hA.small
  have hH0 : Has w w.heap.size [] := Has.nil (Nat.le_refl _)
  have HAl := hid hAl
  have HA := hid hA
  have HOPS := hid hops
  have hok := okW_made hll
  obtain ⟨V, hV⟩ : ∃ V, madeW l = V := ⟨_, rfl⟩
  rw [hV] at hok
  have HV := hid hV
  have HOK := hid hok
  obtain ⟨i0, hi0, iz0, iz1, iz2⟩ := info_parts infoMop
  obtain ⟨j0, hj0, jz0, jz1, jz2⟩ := info_parts infoRightM
  clear hAl hA hll hops hwm hok hV
  go_enter Try.func7, Try.ntmps7
  go_wp2_with fail
  refine (head_true w _ [] hH0).mono ?_
  rintro e w1 ⟨_, rfl, hH1, hB1⟩
  go_wp2_with fail
  refine (Made_calls la lcap l w1 w HAl.out hB1 _ [] hH1).mono ?_
  rintro e w2 ⟨hb, rfl, hH2, hB2⟩
  rw [HV.out] at hH2
  have hB2 := hB1.trans hB2
  clear hH1 hB1 hH0
  by_cases hin : 1 ≤ most ∧ most ≤ 512
  rotate_left
  · go_wp2_with fail
    refine (TlbNew_no most hin w2 _ _ hH2).mono ?_
    rintro e w3 ⟨rfl, hH3, hB3⟩
    have hB3 := hB2.trans hB3
    go_wp2_with fail
    refine (RTlbNew_noM most hin w3 _ _ hH3).mono ?_
    rintro e w4 ⟨rfl, hH4, hB4⟩
    have hB4 := hB3.trans hB4
    go_wp2_with fail
    go_ret
    exact ⟨rfl, hB4⟩
  obtain ⟨n, rfl⟩ := Int.eq_ofNat_of_zero_le (show 0 ≤ most by omega)
  have n1 : 1 ≤ n := by omega
  have n2 : n ≤ 512 := by omega
  clear hin
  go_wp2_with fail
  refine (TlbNew_yes n n1 n2 w2 _ _ hH2).mono ?_
  rintro e w3 ⟨tb, rfl, hH3, hB3⟩
  have hB3 := hB2.trans hB3
  go_wp2_with fail
  refine (RTlbNew_yesM n n1 n2 w3 _ _ hH3).mono ?_
  rintro e w4 ⟨sb, rfl, hH4, hB4⟩
  have hB4 := hB3.trans hB4
  clear hH2 hB2 hH3 hB3 n1 n2
  by_cases hb1 : 600 < l.length
  · have e1 : decide (600 < l.length) = true := decide_eq_true hb1
    have e2 : decide (600 < (l.length : Int)) = true := decide_eq_true (by omega)
    go_wp2_with fail
    go_ret
    exact ⟨rfl, hB4⟩
  have e1 : decide (600 < l.length) = false := decide_eq_false hb1
  have e2 : decide (600 < (l.length : Int)) = false := decide_eq_false (by omega)
  by_cases hb2 : 200 < ops.length
  · have e3 : decide (200 < ops.length) = true := decide_eq_true hb2
    have e4 : decide (200 < (ops.length : Int)) = true := decide_eq_true (by omega)
    go_wp2_with fail
    go_ret
    exact ⟨rfl, hB4⟩
  have e3 : decide (200 < ops.length) = false := decide_eq_false hb2
  have e4 : decide (200 < (ops.length : Int)) = false := decide_eq_false (by omega)
  go_wp2_with fail
  refine (RMemNew_yesM 16 (by decide) (by decide) w4 _ _ hH4).mono ?_
  rintro e w5 ⟨gb, rfl, hH5, hB5⟩
  have hB5 := hB4.trans hB5
  clear hH4 hB4 e1 e2 e3 e4
  go_wp2_with fail
  go_loopg [12] l.length (fun g i wr => ∃ j : Nat, g + j = l.length ∧ i = .int .i64 j ∧ Has wr w.heap.size [RMemA gb 16 (putW (List.replicate (16 * 8) 0) (l.take j)), RTlbA sb n [], TlbA tb n [], MemA hb 16 V] ∧ Below w.heap.size w wr)
  case atStart => exact ⟨0, by omega, rfl, hH5, hB5⟩
  case round =>
    obtain ⟨j, hj, rfl, hHr, hBr⟩ := hrel
    clear hH5 hB5
    by_cases hlt : j < l.length
    · obtain ⟨x, hx⟩ : ∃ x, l[j]? = some x := ⟨l[j], List.getElem?_eq_getElem hlt⟩
      obtain ⟨b, p, rfl, -, -⟩ := HAl.out.mem (by omega)
      have k0 := puts_at HAl.out hBr rfl hx 0 (u := .int .i64 x.G) rfl
      rw [Nat.add_zero] at k0
      have k1 := puts_at HAl.out hBr rfl hx 1 (u := .int .i64 x.I) rfl
      have k2 := puts_at HAl.out hBr rfl hx 2 (u := .int .u64 x.V) rfl
      have hW := putW_snoc (List.replicate (16 * 8) 0) l j hx
      have HW := hid hW
      have HJ := hid hj
      clear hx hW hj
      have hBd : Below w.heap.size w wr.drew := hBr.drew
      have cs := RSet_calls gb 16 (putW (List.replicate (16 * 8) 0) (l.take j)) x.G x.I x.V wr.drew _ _ hHr.drew
      have CS := hid cs
      clear cs
      go_wp2_with fail
      refine wp_region_still_tail 16 (by kernel_rfl) (by kernel_rfl) ?_
      simp only [List.take_succ_cons, List.take_zero, List.drop_succ_cons, List.drop_zero]
      iterate 16 ((with_reducible refine wpStill_step (fun K hK => ?_)); go_simp; (with_reducible refine hK _ ?_); clear hK K)
      refine wpStill_nil ?_
      change wpList _ _ _ _ _ (World.drew _)
      go_wp2_with fail
      refine CS.out.mono ?_
      rintro e w6 ⟨rfl, hH6, hB6⟩
      rw [← HW.out] at hH6
      go_wp2_with fail
      go_roundg (gk - 1)
      case measure => have := HJ.out; omega
      case rel => exact ⟨j + 1, by have := HJ.out; omega, by go_num, hH6, hBd.trans hB6⟩
    · obtain rfl : j = l.length := by omega
      rw [List.take_length] at hHr
      have hHr : Has wr w.heap.size [RMemA gb 16 (madeW l), RTlbA sb n [], TlbA tb n [], MemA hb 16 V] := hHr
      rw [HV.out] at hHr
      go_wp2_with fail
      refine (MmuNew_calls tb hb wr _ _ hHr).mono ?_
      rintro e w7 ⟨mb, rfl, hH7, hB7⟩
      have hB7 := hBr.trans hB7
      clear hHr hBr
      go_wp2_with fail
      refine (RmuNew_calls sb gb w7 _ _ hH7).mono ?_
      rintro e w8 ⟨rb, rfl, hH8, hB8⟩
      have hB8 := hB7.trans hB8
      have hH8 : Has w8 w.heap.size [mmuB mb tb hb, MemA hb 16 V, TlbA tb n [], rmuB rb sb gb, RMemA gb 16 V, RTlbA sb n []] := hH8.pick [1, 5, 4, 0, 2, 3]
      clear hH7 hB7 hj hlt
      go_wp2_with fail
      go_loopg [15] ops.length (fun g i wr => ∃ (k : Nat) (V : List Int) (L : List HitS), g + k = ops.length ∧ i = .int .i64 k ∧ okW V ∧ Has wr w.heap.size [mmuB mb tb hb, MemA hb 16 V, TlbA tb n L, rmuB rb sb gb, RMemA gb 16 V, RTlbA sb n L] ∧ Below w.heap.size w wr)
      case atStart => exact ⟨0, V, [], by omega, rfl, HOK.out, hH8, hB8⟩
      case round =>
        clear hH8 hB8 HV HOK
        obtain ⟨k, V, L, hk, rfl, hok, hHr, hBr⟩ := hrel
        have HOK := hid hok
        clear hok
        by_cases hlt : k < ops.length
        · obtain ⟨x, hx⟩ : ∃ x, ops[k]? = some x := ⟨_, List.getElem?_eq_getElem hlt⟩
          obtain ⟨b, o, rfl, -, -⟩ := HA.out.mem (by omega)
          have P1 := hid (mops_adds HA.out hBr rfl hx)
          have HX := hid (HOPS.out x (List.mem_of_getElem? hx))
          obtain ⟨ob, hob⟩ : ∃ ob, wr.heap.size = ob := ⟨_, rfl⟩
          have tok1 : True := trivial
          have tok2 : True := trivial
          have HK := hid hk
          clear hx hk
          go_upto_block 4 with (first
            | (have _t := tok1; refine wpList_load_at 63 (.tmp 109) rfl rfl ⟨b, o + k * 9, none⟩ rfl _ (mopC x) P1.out Try.underlying63 rfl mop_sizeM ?_; clear _t tok1)
            | (have _t := tok2; refine wpList_store_all [] _ (hHr.newblk ob 63 mopZ hob) 63 (.tmp 16) (.tmp 110) rfl rfl rfl _ rfl mop_sizeM' rfl (mop_oneM x) ?_; clear _t tok2; intro w4 hH4 hB4' hz4; clear hz4; have hB4 := hBr.trans ((below_new (Below.refl _ _) hHr _).trans hB4'); clear hB4' hHr hBr; have k0 := Has.cell [] _ hH4 0 (v := .int .i64 x.What) rfl; have k1 := Has.cell [] _ hH4 1 (v := .int .i64 x.Root) rfl; have k2 := Has.cell [] _ hH4 2 (v := .int .i64 x.Asid) rfl; have k3 := Has.cell [] _ hH4 3 (v := .int .i64 x.Page) rfl; have k4 := Has.cell [] _ hH4 4 (v := .int .i64 x.Kind) rfl; have k5 := Has.cell [] _ hH4 5 (v := .bool x.User) rfl; have k6 := Has.cell [] _ hH4 6 (v := .int .i64 x.F) rfl; have k7 := Has.cell [] _ hH4 7 (v := .int .i64 x.I) rfl; have k8 := Has.cell [] _ hH4 8 (v := .int .u64 x.V) rfl))
          clear hob
          go_cut [17] (fun s17 wx => s17 = .bool true ∧ ∃ V' L', okW V' ∧ Has wx w.heap.size [blk ob 63 (mopC x).toArray, mmuB mb tb hb, MemA hb 16 V', TlbA tb n L', rmuB rb sb gb, RMemA gb 16 V', RTlbA sb n L'] ∧ Below w.heap.size w wx)
          case first =>
            by_cases h3 : x.What = 3
            · have e3 : (x.What == 3) = true := by rw [beq_iff_eq]; exact h3
              clear h3
              obtain ⟨⟨b3, L3⟩, hf⟩ : ∃ q, findS n L (walkS V 16 (x.Page % 512) 3 x.Root rAll) x.Asid (x.Page % 512) = q := ⟨_, rfl⟩
              have HF := hid hf
              clear hf
              have hq : Has w4 w.heap.size [mmuB mb tb hb, MemA hb 16 V, TlbA tb n L, rmuB rb sb gb, RMemA gb 16 V, RTlbA sb n L, blk ob 63 (mopC x).toArray] := hH4.pick [1, 2, 3, 4, 5, 6, 0]
              clear hH4
              go_wp2_with fail
              refine (Find2 mb tb hb 16 n V L x.Root x.Asid x.Page HOK.out HF.out w4 _ _ hq).mono ?_
              rintro e w5 ⟨rfl, hH5, hB5⟩
              have hB5 := hB4.trans hB5
              have hq5 : Has w5 w.heap.size [rmuB rb sb gb, RMemA gb 16 V, RTlbA sb n L, mmuB mb tb hb, MemA hb 16 V, TlbA tb n L3, blk ob 63 (mopC x).toArray] := hH5.pick [3, 4, 5, 0, 1, 2, 6]
              have k0 := Has.cell [_, _, _, _, _, _] _ hq5 0 (v := .int .i64 x.What) rfl
              have k1 := Has.cell [_, _, _, _, _, _] _ hq5 1 (v := .int .i64 x.Root) rfl
              have k2 := Has.cell [_, _, _, _, _, _] _ hq5 2 (v := .int .i64 x.Asid) rfl
              have k3 := Has.cell [_, _, _, _, _, _] _ hq5 3 (v := .int .i64 x.Page) rfl
              have k4 := Has.cell [_, _, _, _, _, _] _ hq5 4 (v := .int .i64 x.Kind) rfl
              have k5 := Has.cell [_, _, _, _, _, _] _ hq5 5 (v := .bool x.User) rfl
              have k6 := Has.cell [_, _, _, _, _, _] _ hq5 6 (v := .int .i64 x.F) rfl
              have k7 := Has.cell [_, _, _, _, _, _] _ hq5 7 (v := .int .i64 x.I) rfl
              have k8 := Has.cell [_, _, _, _, _, _] _ hq5 8 (v := .int .u64 x.V) rfl
              clear hq hB4 hH5
              go_wp2_with fail
              refine (RFind2 rb sb gb 16 n V L x.Root x.Asid x.Page HOK.out HF.out w5 _ _ hq5).mono ?_
              rintro e w6 ⟨rfl, hH6, hB6⟩
              have hB6 := hB5.trans hB6
              clear hq5 hB5
              cases b3
              all_goals (
                go_wp2_with fail
                go_meet
                exact ⟨rfl, V, L3, HOK.out, hH6.pick [6, 3, 4, 5, 0, 1, 2], hB6⟩)
            have e3 : (x.What == 3) = false := by rw [beq_eq_false_iff_ne]; exact h3
            by_cases h4 : x.What = 4
            · have e4 : (x.What == 4) = true := by rw [beq_iff_eq]; exact h4
              clear h3 h4
              obtain ⟨b4, hb4⟩ : ∃ q, decide (wok 16 x.F x.I) = q := ⟨_, rfl⟩
              have hq : Has w4 w.heap.size [MemA hb 16 V, mmuB mb tb hb, TlbA tb n L, rmuB rb sb gb, RMemA gb 16 V, RTlbA sb n L, blk ob 63 (mopC x).toArray] := hH4.pick [2, 1, 3, 4, 5, 6, 0]
              have cs := Set_calls hb 16 V x.F x.I x.V w4 _ _ hq
              rw [hb4] at cs
              have CS := hid cs
              have cr := fun U (X : List Asr) (h : Has U w.heap.size (RMemA gb 16 V :: X)) => RSet_calls gb 16 V x.F x.I x.V U _ _ h
              rw [hb4] at cr
              have CR := hid cr
              clear hH4 cs cr hb4 hq
              go_wp2_with fail
              refine CS.out.mono ?_
              rintro e w5 ⟨rfl, hH5, hB5⟩
              have hB5 := hB4.trans hB5
              have hq5 : Has w5 w.heap.size [RMemA gb 16 V, MemA hb 16 (setW V 16 x.F x.I x.V), mmuB mb tb hb, TlbA tb n L, rmuB rb sb gb, RTlbA sb n L, blk ob 63 (mopC x).toArray] := hH5.pick [4, 0, 1, 2, 3, 5, 6]
              have k0 := Has.cell [_, _, _, _, _, _] _ hq5 0 (v := .int .i64 x.What) rfl
              have k1 := Has.cell [_, _, _, _, _, _] _ hq5 1 (v := .int .i64 x.Root) rfl
              have k2 := Has.cell [_, _, _, _, _, _] _ hq5 2 (v := .int .i64 x.Asid) rfl
              have k3 := Has.cell [_, _, _, _, _, _] _ hq5 3 (v := .int .i64 x.Page) rfl
              have k4 := Has.cell [_, _, _, _, _, _] _ hq5 4 (v := .int .i64 x.Kind) rfl
              have k5 := Has.cell [_, _, _, _, _, _] _ hq5 5 (v := .bool x.User) rfl
              have k6 := Has.cell [_, _, _, _, _, _] _ hq5 6 (v := .int .i64 x.F) rfl
              have k7 := Has.cell [_, _, _, _, _, _] _ hq5 7 (v := .int .i64 x.I) rfl
              have k8 := Has.cell [_, _, _, _, _, _] _ hq5 8 (v := .int .u64 x.V) rfl
              clear hB4 hH5 CS
              go_wp2_with fail
              refine (CR.out w5 _ hq5).mono ?_
              rintro e w6 ⟨rfl, hH6, hB6⟩
              have hB6 := hB5.trans hB6
              clear hq5 hB5 CR
              cases b4
              all_goals (
                go_wp2_with fail
                go_meet
                exact ⟨rfl, setW V 16 x.F x.I x.V, L, okW_set HOK.out _ _ _ _ HX.out.word, hH6.pick [6, 2, 1, 3, 4, 0, 5], hB6⟩)
            have e4 : (x.What == 4) = false := by rw [beq_eq_false_iff_ne]; exact h4
            clear h3 h4
            obtain ⟨⟨⟨f5, b5⟩, L5⟩, hf⟩ : ∃ q, accS n L (walkS V 16 (x.Page % 512) 3 x.Root rAll) x.Asid (x.Page % 512) x.Kind x.User = q := ⟨_, rfl⟩
            have HF := hid hf
            clear hf
            have hq : Has w4 w.heap.size [mmuB mb tb hb, MemA hb 16 V, TlbA tb n L, rmuB rb sb gb, RMemA gb 16 V, RTlbA sb n L, blk ob 63 (mopC x).toArray] := hH4.pick [1, 2, 3, 4, 5, 6, 0]
            clear hH4
            go_wp2_with fail
            refine (Access2 mb tb hb 16 n V L x.Root x.Asid x.Page x.Kind x.User HOK.out HF.out w4 _ _ hq).mono ?_
            rintro e w5 ⟨rfl, hH5, hB5⟩
            have hB5 := hB4.trans hB5
            have hq5 : Has w5 w.heap.size [rmuB rb sb gb, RMemA gb 16 V, RTlbA sb n L, mmuB mb tb hb, MemA hb 16 V, TlbA tb n L5, blk ob 63 (mopC x).toArray] := hH5.pick [3, 4, 5, 0, 1, 2, 6]
            have k0 := Has.cell [_, _, _, _, _, _] _ hq5 0 (v := .int .i64 x.What) rfl
            have k1 := Has.cell [_, _, _, _, _, _] _ hq5 1 (v := .int .i64 x.Root) rfl
            have k2 := Has.cell [_, _, _, _, _, _] _ hq5 2 (v := .int .i64 x.Asid) rfl
            have k3 := Has.cell [_, _, _, _, _, _] _ hq5 3 (v := .int .i64 x.Page) rfl
            have k4 := Has.cell [_, _, _, _, _, _] _ hq5 4 (v := .int .i64 x.Kind) rfl
            have k5 := Has.cell [_, _, _, _, _, _] _ hq5 5 (v := .bool x.User) rfl
            have k6 := Has.cell [_, _, _, _, _, _] _ hq5 6 (v := .int .i64 x.F) rfl
            have k7 := Has.cell [_, _, _, _, _, _] _ hq5 7 (v := .int .i64 x.I) rfl
            have k8 := Has.cell [_, _, _, _, _, _] _ hq5 8 (v := .int .u64 x.V) rfl
            clear hq hB4 hH5
            go_wp2_with fail
            refine (RAccess2 rb sb gb 16 n V L x.Root x.Asid x.Page x.Kind x.User HOK.out HF.out w5 _ _ hq5).mono ?_
            rintro e w6 ⟨rfl, hH6, hB6⟩
            have hB6 := hB5.trans hB6
            clear hq5 hB5
            cases b5
            all_goals (
              go_wp2_with fail
              go_meet
              exact ⟨rfl, V, L5, HOK.out, hH6.pick [6, 3, 4, 5, 0, 1, 2], hB6⟩)
          case rest =>
            obtain ⟨rfl, V', L', hok', hH6, hB6⟩ := hcut
            have HOK' := hid hok'
            clear hH4 hB4 hok' HOK k0 k1 k2 k3 k4 k5 k6 k7 k8
            obtain ⟨o, ho⟩ : ∃ o, walkS V' 16 x.Page 3 x.Root rAll = o := ⟨_, rfl⟩
            obtain ⟨f, hf⟩ : ∃ f, wF o = f := ⟨_, rfl⟩
            obtain ⟨r, hr⟩ : ∃ r, wR o = r := ⟨_, rfl⟩
            obtain ⟨i, hi⟩ : ∃ i, o.isSome = i := ⟨_, rfl⟩
            have HWK := hid (And.intro ho (And.intro hf (And.intro hr hi)))
            clear ho hf hr hi
            obtain ⟨rW, rU, rX⟩ := r
            have k1 := Has.cell [] _ hH6 1 (v := .int .i64 x.Root) rfl
            have k3 := Has.cell [] _ hH6 3 (v := .int .i64 x.Page) rfl
            go_wp2_with fail
            refine (Walk3 mb tb hb 16 V' x.Root x.Page HOK'.out HWK.out.1 HWK.out.2.1 HWK.out.2.2.1 HWK.out.2.2.2 wc _ _ ((hH6.front [_, _] _).front [_, _] _)).mono ?_
            rintro e w7 ⟨rfl, hH7, hB7⟩
            have hB7 := hB6.trans hB7
            -- [mmu, mem, ob, tlb, rmu, rmem, rtlb]
            obtain ⟨qa, hqa⟩ : ∃ qa, w7.heap.size = qa := ⟨_, rfl⟩
            have tok : True := trivial
            clear hH6 hB6 k1 k3
            have hne : ∀ U, Sem.run Try.prog (binOp .neq 38 (.agg #[.bool rW, .bool rU, .bool rX]) (.agg #[.bool rW, .bool rU, .bool rX])) U = .ok (.bool false) U := right_neqS ⟨rW, rU, rX⟩
            have HNE := hid hne
            clear hne
            cases i
            all_goals (
              go_wp2_with (
                have _t := tok
                refine wpList_store_all [] _ (hH7.newblk qa 38 #[.bool false, .bool false, .bool false] hqa) 38 (.tmp 25) (.tmp 199) rfl rfl rfl #[.bool rW, .bool rU, .bool rX] rfl right_size3 rfl (by simp [Value.oneCell']) ?_
                clear _t tok
                intro w8 hH8 hB8' hz
                clear hz
                have hB8 := hB7.trans ((below_new (Below.refl _ _) hH7 _).trans hB8')
                clear hB8' hB7 hH7
                have k1 := Has.cell [_, _, _] _ hH8 1 (v := .int .i64 x.Root) rfl
                have k3 := Has.cell [_, _, _] _ hH8 3 (v := .int .i64 x.Page) rfl
                have hq8 : Has w8 w.heap.size [rmuB rb sb gb, RMemA gb 16 V', blk qa 38 #[.bool rW, .bool rU, .bool rX], mmuB mb tb hb, MemA hb 16 V', blk ob 63 (mopC x).toArray, TlbA tb n L', RTlbA sb n L'] := hH8.pick [5, 6, 0, 1, 2, 3, 4, 7]
                clear hH8 hqa
                have CW9 := hid (RWalk3 rb sb gb 16 V' x.Root x.Page HOK'.out HWK.out.1 HWK.out.2.1 HWK.out.2.2.1 HWK.out.2.2.2 w8 _ _ hq8)
                clear hq8
                iterate 25 (first | go_values | go_skip | go_guarded | go_step | go_upon | go_back)
                refine CW9.out.mono ?_
                rintro e w9 ⟨rfl, hH9, hB9⟩
                have hB9 := hB8.trans hB9
                clear CW9 hB8 k1 k3
                have hH9 : Has w9 w.heap.size [rmuB rb sb gb, RMemA gb 16 V', blk qa 38 #[.bool rW, .bool rU, .bool rX], mmuB mb tb hb, MemA hb 16 V', blk ob 63 (mopC x).toArray, TlbA tb n L', RTlbA sb n L'] := hH9
                obtain ⟨qb, hqb⟩ : ∃ qb, w9.heap.size = qb := ⟨_, rfl⟩
                have tok : True := trivial
                go_wp2_with (
                  have _t := tok
                  refine wpList_store_all [] _ (hH9.newblk qb 38 #[.bool false, .bool false, .bool false] hqb) 38 (.tmp 28) (.tmp 209) rfl rfl rfl #[.bool rW, .bool rU, .bool rX] rfl right_size3 rfl (by simp [Value.oneCell']) ?_
                  clear _t tok
                  intro w10 hH10 hB10' hz
                  clear hz
                  have hB10 := hB9.trans ((below_new (Below.refl _ _) hH9 _).trans hB10')
                  clear hB10' hB9 hH9 hqb
                  have hH10 : Has w10 w.heap.size [blk qb 38 #[.bool rW, .bool rU, .bool rX], rmuB rb sb gb, RMemA gb 16 V', blk qa 38 #[.bool rW, .bool rU, .bool rX], mmuB mb tb hb, MemA hb 16 V', blk ob 63 (mopC x).toArray, TlbA tb n L', RTlbA sb n L'] := hH10
                  have hne := HNE.out
                  go_wp2_with (first
                    | (refine wpList_load_blk [_, _, _] _ hH10 38 (.tmp 25) rfl rfl rfl _ Try.underlying38 rfl right_size3 ?_)
                    | (refine wpList_load_blk [] _ hH10 38 (.tmp 28) rfl rfl rfl _ Try.underlying38 rfl right_size3 ?_))
                  refine (List_calls tb n L' w10 _ _ (hH10.front [_, _, _, _, _, _, _] _)).mono ?_
                  rintro e w11 ⟨v1, rfl, hH11, hB11'⟩
                  have hB11 := hB10.trans hB11'
                  obtain ⟨a1, c1, rfl, _, _, _⟩ := hH11.row_form [] _
                  clear hH10 hB10 hB11' hne
                  go_wp2_with fail
                  refine (RList_calls sb n L' w11 _ _ (hH11.front [_, _, _, _, _, _, _, _, _] _)).mono ?_
                  rintro e w12 ⟨v2, rfl, hH12, hB12'⟩
                  have hB12 := hB11.trans hB12'
                  obtain ⟨a2, c2, rfl, _, _, _⟩ := hH12.row_form [] _
                  have cs := Same_calls a1 a2 c1 c2 L' L' w12 (srch_row [_, _] _ hH12 rfl) (srch_row [] _ hH12 rfl)
                  rw [show decide (L' = L') = true from by simp] at cs
                  have CS := hid cs
                  clear cs hH11 hB11 hB12'
                  go_wp2_with fail
                  refine (keeps CS.out hH12).mono ?_
                  rintro e w13 ⟨rfl, hH13, hB13'⟩
                  have hB13 := hB12.trans hB13'
                  clear hH12 hB12 hB13' CS
                  go_wp2_with fail
                  go_roundg (gk - 1)
                  case measure => have := HK.out; omega
                  case rel => exact ⟨k + 1, V', L', by have := HK.out; omega, by go_num, HOK'.out, hH13.pick [8, 9, 3, 5, 6, 1], hB13⟩)))
        · obtain rfl : k = ops.length := by omega
          go_wp2_with fail
          go_ret
          exact ⟨rfl, hBr⟩

end Go.Proofs.Ytlcdjdchcjnhfaa
