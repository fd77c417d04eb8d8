/-
  Package store: the slots that tell something.
-/
import Derived.Test.YteeapkndappnoaaStoF
import Derived.Test.YteeapkndappnoaaPick
namespace Go.Proofs.Yteeapkndappnoaa
open Go.RowKit Go.Shelf
set_option linter.unusedVariables false
set_option linter.unusedSimpArgs false

attribute [local go_sem] Oper.semAt_some

section
variable {Fc : Fence} {m : Nat} {P : Program} {T : TypeId} {w : World} {B n size : Nat} {v : Value} {xs : List Value}
variable {ops : Array Oper} {rest : List Oper} {o : Oper} {a : Act} {Q : Exit → Act → World → Prop}
theorem wpListIn_append_row (L1 L2 : List Asr) (hH : Has w B (L1 ++ row T size v n xs :: L2)) (hgd : o.guard = none) (s x : Operand) (t : TypeId)
    (ho : o.op = .call { callee := .builtin .append, args := #[s, x], argTypes := #[t, t] })
    (i : TypeInfo) (z : Value) (bytes : Nat) (ht : P.underlying t = some (.slice T)) (hi : P.info? T = some i) (hz : i.zero = some z)
    (hsize : i.size = size) (hby : i.bytes = bytes) (hzs : z.cells.size = size) (hsz : 0 < size) (hs : a.eval s = v)
    (ad : Addr) (k c : Nat) (news : List Value) (hx : a.eval x = .slice (some ad) k c) (hl : news.length = k * size) (hnews : ∀ j u, news[j]? = some u → w.cell? (ad.add j) = some u) (h1 : ∀ u ∈ news, u.oneCell' = true)
    (hm : 0 < k) (h63 : n + k ≤ maxLen) (hbytes : (n + k) * bytes ≤ 140737488355328)
    (hK : ∀ g cap w', Has w' B (L1 ++ row T size (.slice (some ⟨g, 0, none⟩) (n + k) cap) (n + k) (xs ++ news) :: L2) → Below B w w' → KeepsOthers w w' → wpListIn Fc m P ops Q rest (a.put o.dst (.slice (some ⟨g, 0, none⟩) (n + k) cap)) w') : wpListIn Fc m P ops Q (o :: rest) a w := by
  obtain ⟨hr, hg⟩ := hH.row_at L1 L2
  refine wpListIn_plain hgd fun K hK' => ?_
  have fresh : ∀ v' w', w'.ownsRow w.heap.size T size v' (n + k) (xs ++ news) → w.grownBy w' none → K (a.put o.dst v') w' := by
    intro v' w' hown hgr
    rcases hown.2 with ⟨_, h⟩ | ⟨g, cap, cur, rfl, hb, hgg, hrest⟩
    · omega
    · refine hK' _ _ (hK g cap w' ?_ ((Below.refl _ _).grown hgr hH.le (fun k hk => by cases hk)) ⟨hgr.size, fun j o hj _ => (hgr.block j (Array.getElem?_eq_some_iff.1 hj).1 (by simp)).trans hj⟩)
      exact hH.step L1 L2 hgr.size (fun S _ => ⟨[g], ⟨by simp [Value.ownBlock], hown.1, .inr ⟨g, cap, cur, rfl, Nat.zero_le _, hgg, hrest⟩⟩, fun k hk => by
        simp at hk
        subst hk
        exact .inr hb, fun k hk _ => hgr.block k hk (by simp)⟩)
  rcases hr.2 with ⟨rfl, rfl⟩ | ⟨g, cap, cur, rfl, _, hgg, h2, h3, h4, h5⟩
  · have hx0 : xs = [] := List.eq_nil_of_length_eq_zero (by simpa using hr.1)
    subst hx0
    obtain ⟨v', w', hrun, r1, r2, _⟩ := run_append_own (P := P) w w.heap.size t o.type T i z size bytes ht hi hz hsize hby hzs hsz (.slice none 0 0) 0 [] (World.ownsRow_nil w _ T size) ad k c news hl hnews h1 h63 hbytes (Nat.le_refl _)
    unfold Oper.wpIn
    refine ⟨by simp [Oper.about, ho, resolve, Target.leads, Sem.run_pure], ?_⟩
    rw [Oper.semAt_plain Fc _ _ (by rw [ho]; intro c hc'; cases hc')]
    simp [execOp, ho, resolve, invoke, builtin, hs, hx, hrun, Result.andThen]
    exact fresh v' w' r1 r2
  · by_cases hc : n + k ≤ cap
    · obtain ⟨w', hrun, hown, hgr⟩ := run_append_fits (P := P) w 0 t o.type T i size ht hi hsize g n cap xs hr ad k c news hl hnews h1 hc
      unfold Oper.wpIn
      refine ⟨by simp [Oper.about, ho, resolve, Target.leads, Sem.run_pure], ?_⟩
      rw [Oper.semAt_plain Fc _ _ (by rw [ho]; intro c hc'; cases hc')]
      simp [execOp, ho, resolve, invoke, builtin, hs, hx, hrun, Result.andThen]
      refine hK' _ _ (hK g cap w' ?_ ?_ ⟨hgr.size, fun j o hj ho => (hgr.block j (Array.getElem?_eq_some_iff.1 hj).1 (fun e => ?_)).trans hj⟩)
      · exact hH.step L1 L2 hgr.size (fun S ⟨hS, _⟩ => ⟨[g], ⟨by simp [Value.ownBlock], hown⟩, fun k hk => .inl (by rw [hS]; simpa [Value.ownBlock] using hk), fun k hk hk' => hgr.block k hk (fun e => hk' (by rw [hS]; injection e with e; simp [Value.ownBlock, e]))⟩)
      · exact (Below.refl _ _).grown hgr hH.le (fun k hk => by cases hk; exact (hg g rfl).1)
      · injection e with e
        subst e
        rw [hgg] at hj
        cases hj
        cases ho
    · obtain ⟨v', w', hrun, hown, hgr⟩ := run_append_arg_grows (P := P) w t o.type T i z size bytes ht hi hz hsize hby hzs hsz ⟨g, 0, none⟩ n cap xs hr.1 (fun j u hu => hr.cells (g := g) rfl j u hu) ad k c news hl hnews (by omega) h63 hbytes
      unfold Oper.wpIn
      refine ⟨by simp [Oper.about, ho, resolve, Target.leads, Sem.run_pure], ?_⟩
      rw [Oper.semAt_plain Fc _ _ (by rw [ho]; intro c hc'; cases hc')]
      simp [execOp, ho, resolve, invoke, builtin, hs, hx, hrun, Result.andThen]
      exact fresh v' w' hown hgr
end

/-! ### what lies in blocks of cells abides the turn of other blocks -/
def Cly (A : Asr) : Prop := ∀ w S, A.on w S → ∀ k ∈ S, ∃ o : Obj, w.heap[k]? = some o ∧ o.isCells = true
theorem cly_blk (b : Nat) (T : TypeId) (cs : Array Value) : Cly (blk b T cs) := by
  rintro w S ⟨rfl, h⟩ k hk
  simp at hk
  subst hk
  exact ⟨_, h, rfl⟩
theorem cly_row (T : TypeId) (size : Nat) (v : Value) (n : Nat) (xs : List Value) : Cly (row T size v n xs) := by
  rintro w S ⟨rfl, h⟩ k hk
  rcases h.2 with ⟨rfl, _⟩ | ⟨g, cap, cur, rfl, hb, hgg, _⟩
  · simp [Value.ownBlock] at hk
  · simp [Value.ownBlock] at hk
    subst hk
    exact ⟨_, hgg, rfl⟩
theorem cly_sep : ∀ (L : List Asr), (∀ A ∈ L, Cly A) → ∀ w S, sepL L w S → ∀ k ∈ S, ∃ o : Obj, w.heap[k]? = some o ∧ o.isCells = true
  | [], _, _, _, h => by intro k hk; rw [h] at hk; cases hk
  | A :: L, hL, w, S, ⟨S1, S2, hS, hA, h2, _⟩ => by
    intro k hk
    subst hS
    rcases List.mem_append.1 hk with h | h
    · exact hL A (by simp) w S1 hA k h
    · exact cly_sep L (fun A h => hL A (by simp [h])) w S2 h2 k h
theorem Has.ownFrom {W W' : World} {B C : Nat} {L : List Asr} (hL : ∀ A ∈ L, Cly A) (h : Has W B L) {r : Option Nat} (hg : W.grownBy W' r) (hr : ∀ k, r = some k → C ≤ k ∧ ∃ o : Obj, W.heap[k]? = some o ∧ o.isCells = false) : Has W' B L := by
  unfold Has at h ⊢
  obtain ⟨hB, S, hS, hb⟩ := h
  refine ⟨Nat.le_trans hB hg.size, S, sepL_loc L W W' S hS (fun k hk => hg.block k (sepL_lt L W S hS k hk) (fun e => ?_)), hb⟩
  obtain ⟨o, ho, hc⟩ := cly_sep L hL W S hS k hk
  obtain ⟨_, o2, ho2, hc2⟩ := hr k (by first | exact e | exact e.symm)
  rw [ho] at ho2
  injection ho2 with e2
  rw [e2] at hc
  rw [hc] at hc2
  cases hc2
theorem block_from {W W' : World} {C b : Nat} {T : TypeId} {cs : Array Value} {fr : Nat × Nat} (h : W.heap[b]? = some (.cells cs T fr)) {r : Option Nat} (hg : W.grownBy W' r) (hr : ∀ k, r = some k → C ≤ k ∧ ∃ o : Obj, W.heap[k]? = some o ∧ o.isCells = false) : W'.heap[b]? = some (.cells cs T fr) := by
  refine (hg.block b (Array.getElem?_eq_some_iff.1 h).1 (fun e => ?_)).trans h
  obtain ⟨_, o2, ho2, hc2⟩ := hr b (by first | exact e | exact e.symm)
  rw [h] at ho2
  injection ho2 with e2
  rw [← e2] at hc2
  cases hc2

/-! ### what tells something -/
def atL (x : Int × Int) : List Value := [.int .i64 x.1, .int .i64 x.2]
def atsL (l : List (Int × Int)) : List Value := l.flatMap atL
theorem atsL_length (l : List (Int × Int)) : (atsL l).length = l.length * 2 := flat_length atL 2 (fun _ => rfl) l
theorem atsL_snoc (l : List (Int × Int)) (x : Int × Int) : atsL (l ++ [x]) = atsL l ++ atL x := by simp [atsL]
theorem toldL_snoc (kd to : Int) (l : List ((Int × Int) × SlotS)) (x : (Int × Int) × SlotS) : toldL kd to (l ++ [x]) = toldL kd to l ++ if tellB kd to x.2 then [x.1] else [] := by
  unfold toldL
  rw [List.filter_append, List.map_append]
  by_cases h : tellB kd to x.2 = true <;> simp [h]
theorem toldL_le (kd to : Int) (l : List ((Int × Int) × SlotS)) : (toldL kd to l).length ≤ l.length := by
  unfold toldL
  simp [List.length_filter_le]
theorem at_size : (Try.prog.info? 46).map (fun i => i.size) = some 2 := by kernel_rfl
theorem infoAt : (Try.prog.info? 46).map (fun i => (i.zero, i.size, i.bytes)) = some (some (.agg #[.int .i64 0, .int .i64 0]), 2, 16) := by kernel_rfl
theorem zeroAt (w : World) : (zeroValue 46).run Try.prog w = .ok (.agg #[.int .i64 0, .int .i64 0]) w := by kernel_rfl
theorem at_one (x : Int × Int) : ∀ u ∈ (atL x).toArray.toList, u.oneCell' = true := by simp [atL, Value.oneCell']

set_option maxRecDepth 100000 in
set_option maxHeartbeats 4000000 in
theorem told_calls (sb hb n : Nat) (first many : Int) (F : List Int) (ps : List PageS) (kd to : Int) (w : World) (B : Nat) (X : List Asr) (hH : Has w B (StoA sb hb n first many F ps :: X)) :
    Calls Try.prog 52 #[.pointer (some ⟨sb, 0, none⟩), .int .i64 kd, .int .i64 to] w fun e w' => ∃ v, e = .returned v ∧ Has w' w.heap.size [row 46 2 v (toldL kd to (allS ps)).length (atsL (toldL kd to (allS ps)))] ∧ Below w.heap.size w w' := by
  obtain ⟨hP, fb, v, q, rfl, hl, hO⟩ := StoA.openX hH
  have h8 := hP.s8
  have hR := stoX_R hO
  obtain ⟨i0, hi, hz0, hz1, hz2⟩ := info_parts infoAt
  obtain ⟨s, hs⟩ : ∃ s, w.heap.size = s := ⟨_, rfl⟩
  rw [hs]
  have hN0 : Has w s [] := Has.nil (by omega)
  have hN1 := hN0.newblk s 3 #[.int .i64 kd] hs
  have bN1 := below_new (Below.refl s w) hN0 (.cells #[.int .i64 kd] 3)
  have hN2 := hN1.newblk (s + 1) 3 #[.int .i64 to] (by simp [hs])
  have bN2 := below_new bN1 hN1 (.cells #[.int .i64 to] 3)
  have hN3 := hN2.newblk (s + 2) 38 #[.slice none 0 0] (by simp [hs])
  have bN3 := below_new bN2 hN2 (.cells #[.slice none 0 0] 38)
  refine (callsIn_wide (n := 9)).1 ?_
  refine callsIn_of_wp_marks Try.func52 rfl trivial ?_ rfl
  simp only [Try.ntmps52, List.size_toArray, List.length_cons, List.length_nil, Nat.reduceAdd, Nat.reduceSub, Array.replicate_succ, Array.replicate_zero, List.push_toArray, List.append_toArray, List.nil_append, List.cons_append]
  gi_wp2_with (refine ⟨trivial, ?_⟩; gi_at_call 77; refine (callsIn_wide.2 (all_calls sb _)).mono ?_; rintro e w' ⟨rfl, rfl⟩)
  have hN4 := hN3.newblk (s + 1 + 1 + 1) 26 #[.pointer (some ⟨sb, 0, none⟩)] (by simp [hs])
  have bN4 := below_new bN3 hN3 (.cells #[.pointer (some ⟨sb, 0, none⟩)] 26)
  have hz4 : ((((w.alloc (.cells #[.int .i64 kd] 3)).alloc (.cells #[.int .i64 to] 3)).alloc (.cells #[.slice none 0 0] 38)).alloc (.cells #[.pointer (some ⟨sb, 0, none⟩)] 26)).heap.size = s + 1 + 1 + 1 + 1 := by simp [hs]
  obtain ⟨W0, hW0⟩ : ∃ W0, (((w.alloc (.cells #[.int .i64 kd] 3)).alloc (.cells #[.int .i64 to] 3)).alloc (.cells #[.slice none 0 0] 38)).alloc (.cells #[.pointer (some ⟨sb, 0, none⟩)] 26) = W0 := ⟨_, rfl⟩
  rw [hW0] at hN4 bN4 hz4 ⊢
  have hAll : AllB s W0 sb v q := by
    have h : AllB s w sb v q := by
      refine ⟨⟨hO.cell [] _ 2 (v := v) rfl, by have := (hO.blk_at [] _).2.2; omega⟩, ?_, fun j x hx => ⟨(hR.ppg j x hx).1, by have := (hR.ppg j x hx).2; omega⟩⟩
      obtain ⟨ao, cap, hv, hg⟩ := hR.prow
      refine ⟨ao, cap, hv, fun h0 => ?_⟩
      obtain ⟨g, hg1, hg2⟩ := hg h0
      refine ⟨g, hg1, ?_, hg2⟩
      have := ((hO.row_at [_] _).2 g (by rw [hv, hg1]; simp [Value.ownBlock])).2
      omega
    exact h.below bN4
  have hcab := hN4.cell [] _ 0 (v := .pointer (some ⟨sb, 0, none⟩)) rfl
  have h0 : Has W0 s [blk (s + 1 + 1) 38 #[.slice none 0 0], row 46 2 (.slice none 0 0) (toldL kd to []).length (atsL (toldL kd to [])), blk s 3 #[.int .i64 kd], blk (s + 1) 3 #[.int .i64 to]] := by
    have h1 := hN4.drop.nilrow 46 2
    exact h1.perm ((List.Perm.swap _ _ _).trans (List.Perm.cons _ (List.Perm.cons _ (List.Perm.swap _ _ _))))
  have hps : ∀ p ∈ q.map Prod.snd, p.s.length = 8 := h8
  clear hN4 hN3 hN2 hN1 hN0 bN1 bN2 bN3 hW0 hO hR hH hP h8
  refine wpIn_rangeFunc_ownH rfl (by decide) (gf := 83) (lb := #[.pointer (some ⟨s + 1 + 1 + 1, 0, none⟩)]) rfl trivial (enters_of Try.func83 (by kernel_rfl) rfl)
    (all_stops 8 (by decide) (s + 1 + 1 + 1) sb s v q hps hl W0 (by omega) hcab (by omega) hAll) belowK_t (belowK_b (by omega)) (Below.refl _ _) (fun _ => rfl)
    (fun pre W => (∃ u, Has W s [blk (s + 1 + 1) 38 #[u], row 46 2 u (toldL kd to pre).length (atsL (toldL kd to pre)), blk s 3 #[.int .i64 kd], blk (s + 1) 3 #[.int .i64 to]]) ∧ Below s w W)
    (fun _ _ _ => False)
    (OwnFrom.and (fun pre X Y r hs hg hr => by
      obtain ⟨u, hu⟩ := hs
      refine ⟨u, Has.ownFrom ?_ hu hg hr⟩
      intro A hA
      simp only [List.mem_cons, List.not_mem_nil, or_false] at hA
      rcases hA with rfl | rfl | rfl | rfl
      · exact cly_blk _ _ _
      · exact cly_row _ _ _ _ _
      · exact cly_blk _ _ _
      · exact cly_blk _ _ _) (ownFrom_below (by omega) (by omega)))
    (fun _ _ _ _ _ hs _ _ => hs)
    ⟨⟨_, h0⟩, bN4⟩
    (fun x a' W => ∃ tb sk, W.heap[tb]? = some (.cells (atL x.1).toArray 46 (0, 0)) ∧ W.heap[sk]? = some (.cells (slotL x.2).toArray 42 (0, 0)) ∧ a' = { tmps := #[.pointer (some ⟨sb, 0, none⟩), .int .i64 kd, .int .i64 to, undef, .pointer (some ⟨s, 0, none⟩), .pointer (some ⟨s + 1, 0, none⟩), .slice none 0 0, .pointer (some ⟨s + 1 + 1, 0, none⟩), .pointer (some ⟨tb, 0, none⟩), .pointer (some ⟨sk, 0, none⟩), .pointer (some ⟨sb, 0, none⟩), .func (.func 83) #[] #[.pointer (some ⟨s + 1 + 1 + 1, 0, none⟩)], .agg #[.int .i64 x.1.1, .int .i64 x.1.2], .agg (slotC x.2), undef, undef, undef, undef, undef, undef, undef, undef, undef, undef, undef, undef, undef, undef, undef], defers := [] })
    (fun x a' _ X Y r hs hg hr => by
      obtain ⟨tb, sk, h1, h2, h3⟩ := hs
      exact ⟨tb, sk, block_from h1 hg hr, block_from h2 hg hr, h3⟩)
    ?assign ?body ?done ?stop
  case assign =>
    rintro l pre x W K ⟨⟨u, hu⟩, hB⟩ hK
    have za := zeroAt
    have zs := zeroSlot
    have hA1 := (Has.nil (Nat.le_refl _) : Has W W.heap.size []).newblk W.heap.size 46 #[.int .i64 0, .int .i64 0] rfl
    have bA1 := below_new (Below.refl _ W) (Has.nil (Nat.le_refl _) : Has W W.heap.size []) (.cells #[.int .i64 0, .int .i64 0] 46)
    have tok1 : True := trivial
    dsimp only [atE]
    gi_wp2_with (first
      | (have _t := tok1; refine wpListIn_store_all [] _ hA1 46 (.tmp 8) (.tmp 12) rfl rfl rfl (atL x.1).toArray rfl at_size rfl (at_one _) ?_; clear _t tok1; intro w3 hH3 hB3 hz3; clear hz3; have hS1 := hH3.newblk w3.heap.size 42 (slotC slotZ) rfl; have bS1 := below_new (bA1.trans hB3) hH3 (.cells (slotC slotZ) 42); have tok2 : True := trivial)
      | (have _t := tok2; refine wpListIn_store_all [] _ hS1 42 (.tmp 9) (.tmp 13) rfl rfl rfl (slotL x.2).toArray rfl slot_size rfl (slot_one _) ?_; clear _t tok2; intro w5 hH5 hB5 hz5))
    have b5 := bS1.trans hB5
    exact hK _ _ ⟨b5.size, fun k o _ hk _ => (b5.block k (Array.getElem?_eq_some_iff.1 hk).1).trans hk⟩ (b5.mono hu.le) ⟨⟨u, hu.below b5⟩, hB.trans (b5.mono hu.le)⟩ ⟨_, _, (hH5.blk_at [_] _).1, (hH5.blk_at [] _).1, rfl⟩
  case body =>
    rintro l pre x a' W hl' hr ⟨⟨u, hu⟩, hB⟩ ⟨tb, sk, h1, h2, rfl⟩ hlt
    have d0 := cell_of_blk h2 (i := 0) (v := .int .i64 x.2.kd) rfl
    have d1 := cell_of_blk h2 (i := 1) (v := .int .i64 x.2.to) rfl
    have g0 := hu.cell [_, _] _ 0 (v := .int .i64 kd) rfl
    have g1 := hu.cell [_, _, _] _ 0 (v := .int .i64 to) rfl
    have gu := hu.cell [] _ 0 (v := u) rfl
    have hsn := toldL_snoc kd to pre x
    have hle : (toldL kd to pre).length ≤ 2048 := Nat.le_trans (toldL_le _ _ _) (by omega)
    have HSN := hid hsn
    clear hsn
    by_cases f1 : x.2.kd = kd
    · have e1 : (x.2.kd == kd) = true := by rw [beq_iff_eq]; exact f1
      by_cases f2 : x.2.to = to
      · have e2 : (x.2.to == to) = true := by rw [beq_iff_eq]; exact f2
        have hT : tellB kd to x.2 = true := by unfold tellB; rw [e1, e2]; rfl
        have HT := hid hT
        have h1c : ∀ j u, (atL x.1)[j]? = some u → W.cell? ((⟨tb, 0, none⟩ : Addr).add j) = some u := fun j u hj => by
          have e : (⟨tb, 0, none⟩ : Addr).add j = ⟨tb, j, none⟩ := by unfold Addr.add; split <;> simp_all
          rw [e]
          exact cell_of_blk h1 (by simpa using hj)
        have H1C := hid h1c
        clear hT f1 f2 h1 h2 h1c
        gi_wp2_with (first
          | (refine wpListIn_load_at 46 (.tmp 8) rfl rfl ⟨tb, 0, none⟩ rfl _ [.int .i64 x.1.1, .int .i64 x.1.2] H1C.out Try.underlying46 rfl at_size ?_)
          | (gi_at_builtin; refine wpListIn_append_row [_] _ (hu.alloc _) rfl (.tmp 24) (.tmp 26) 38 rfl i0 (.agg #[.int .i64 0, .int .i64 0]) 16 Try.underlying38 hi hz0 hz1 hz2 rfl (by decide) rfl ⟨W.heap.size, 0, none⟩ 1 1 (atL x.1) rfl rfl (blk_adds [] _ (hu.newblk W.heap.size 46 #[.int .i64 x.1.1, .int .i64 x.1.2] rfl)) (at_one _) (by decide) (by unfold maxLen; omega) (by omega) ?_; intro g2 cap2 w3 hH3 hB3 hK3; have k4 := Has.frozen [] _ hH3 0; have k5 := Has.cell [] _ hH3 0 (v := u) rfl))
        have hS := hH3.set [] _ 0 (.slice (some ⟨g2, 0, none⟩) ((toldL kd to pre).length + 1) cap2)
        have bS := below_set hB3 [] _ hH3 0 (.slice (some ⟨g2, 0, none⟩) ((toldL kd to pre).length + 1) cap2)
        have bA : Below s W (W.alloc (.cells #[.int .i64 x.1.1, .int .i64 x.1.2] 46)) := below_new (Below.refl _ _) hu _
        refine ⟨(((KeepsOthers.alloc _ _).from _).trans (hK3.from _)).trans ((KeepsOthers.setCell _ _ _).from _), bA.trans bS, ⟨.slice (some ⟨g2, 0, none⟩) ((toldL kd to pre).length + 1) cap2, ?_⟩, hB.trans (bA.trans bS)⟩
        rw [HSN.out, HT.out, if_pos rfl, atsL_snoc, List.length_append]
        exact hS
      · have e2 : (x.2.to == to) = false := by rw [beq_eq_false_iff_ne]; exact f2
        have hT : tellB kd to x.2 = false := by unfold tellB; rw [e1, e2]; rfl
        have HT := hid hT
        clear hT f1 f2
        gi_wp2
        exact ⟨KeepsFrom.refl _ _, Below.refl _ _, ⟨u, by rw [HSN.out, HT.out]; simpa using hu⟩, hB⟩
    · have e1 : (x.2.kd == kd) = false := by rw [beq_eq_false_iff_ne]; exact f1
      have hT : tellB kd to x.2 = false := by unfold tellB; rw [e1]; rfl
      have HT := hid hT
      clear hT f1
      gi_wp2
      exact ⟨KeepsFrom.refl _ _, Below.refl _ _, ⟨u, by rw [HSN.out, HT.out]; simpa using hu⟩, hB⟩
  case done =>
    rintro D ys W hD rfl ⟨⟨u, hu⟩, hB⟩ hK
    have cu := hu.cell [] _ 0 (v := u) rfl
    gi_wp2
    refine ⟨by simp, .inl ⟨_, _, rfl, run_takeDeferred hK, ?_⟩⟩
    refine ⟨_, results_tmp rfl _ _ _, u, rfl, ?_, hB.trans (belowK_b (n₀ := s) (w := W0) (by omega) W D _ _ hD hK rfl rfl)⟩
    have h2 : Has (W.putObj D (.deferred none)) s _ := Has.ownFrom (C := 0) ?_ hu (grownBy_putObj' W D _) (fun k e => by cases e; exact ⟨Nat.zero_le _, _, hK, rfl⟩)
    · exact (h2.pick [1])
    · intro A hA
      simp only [List.mem_cons, List.not_mem_nil, or_false] at hA
      rcases hA with rfl | rfl | rfl | rfl
      · exact cly_blk _ _ _
      · exact cly_row _ _ _ _ _
      · exact cly_blk _ _ _
      · exact cly_blk _ _ _
  case stop =>
    rintro D c pre W _ _ h _
    exact h.elim

theorem Has.joinS {w w' : World} {B : Nat} {X L : List Asr} (h : Has w B X) (hb : Below w.heap.size w w') (hn : Has w' w.heap.size L) : Has w' B (L ++ X) := by
  unfold Has at h hn ⊢
  obtain ⟨hB, S, hS, hSb⟩ := h
  obtain ⟨hB', S', hS', hSb'⟩ := hn
  refine ⟨Nat.le_trans hB hb.size, S' ++ S, (sepL_app L X w' (S' ++ S)).2 ⟨S', S, rfl, hS', sepL_loc X w w' S hS (fun k hk => hb.block k (sepL_lt X w S hS k hk)), fun k h h' => ?_⟩, fun k h => ?_⟩
  · have := sepL_lt X w S hS k h'
    have := hSb' k h
    omega
  · rcases List.mem_append.1 h with h' | h'
    · have := hSb' k h'; omega
    · exact hSb k h'

/-- Places told, as a slice of the call's own. -/
def AtPost (l : List (Int × Int)) (X : List Asr) (B : Nat) (w : World) (e : Ending) (w' : World) : Prop :=
  ∃ ao cap, e = .returned (.slice ao l.length cap) ∧ Has w' B (row 46 2 (.slice ao l.length cap) l.length (atsL l) :: X) ∧ Below B w w'

theorem Parents_calls (sb hb n : Nat) (first many : Int) (F : List Int) (ps : List PageS) (to : Int) (w : World) (B : Nat) (X : List Asr) (hH : Has w B (StoA sb hb n first many F ps :: X)) :
    Calls Try.prog 18 #[.pointer (some ⟨sb, 0, none⟩), .int .i64 to] w (AtPost (toldL 1 to (allS ps)) (StoA sb hb n first many F ps :: X) B w) := by
  have CT := hid (told_calls sb hb n first many F ps 1 to w B X hH)
  unfold AtPost
  go_enter Try.func18, Try.ntmps18
  go_wp2_with fail
  refine CT.out.mono ?_
  rintro e w2 ⟨u, rfl, hH2, hB2⟩
  have hJ := hH.joinS hB2 hH2
  obtain ⟨ao, cap, rfl, _, _, _⟩ := hJ.row_form [] _
  clear CT hH2
  go_wp2_with fail
  go_ret
  exact ⟨ao, cap, rfl, hJ, hB2.mono hH.le⟩

theorem Leaves_calls (sb hb n : Nat) (first many : Int) (F : List Int) (ps : List PageS) (to : Int) (w : World) (B : Nat) (X : List Asr) (hH : Has w B (StoA sb hb n first many F ps :: X)) :
    Calls Try.prog 19 #[.pointer (some ⟨sb, 0, none⟩), .int .i64 to] w (AtPost (toldL 2 to (allS ps)) (StoA sb hb n first many F ps :: X) B w) := by
  have CT := hid (told_calls sb hb n first many F ps 2 to w B X hH)
  unfold AtPost
  go_enter Try.func19, Try.ntmps19
  go_wp2_with fail
  refine CT.out.mono ?_
  rintro e w2 ⟨u, rfl, hH2, hB2⟩
  have hJ := hH.joinS hB2 hH2
  obtain ⟨ao, cap, rfl, _, _, _⟩ := hJ.row_form [] _
  clear CT hH2
  go_wp2_with fail
  go_ret
  exact ⟨ao, cap, rfl, hJ, hB2.mono hH.le⟩

end Go.Proofs.Yteeapkndappnoaa
