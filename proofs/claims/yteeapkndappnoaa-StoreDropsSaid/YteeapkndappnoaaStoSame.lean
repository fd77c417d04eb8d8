/-
  Alike: two lists of ints; two lists of places.
-/
import Derived.Test.YteeapkndappnoaaStoArgs
namespace Go.Proofs.Yteeapkndappnoaa
open Go.RowKit
set_option linter.unusedVariables false
set_option linter.unusedSimpArgs false

/-- A list of ints in memory, whatever they are. -/
structure SrcI (w : World) (a : Option Addr) (l : List Int) : Prop where
  small : l.length ≤ 9223372036854775807
  mem : 0 < l.length → ∃ b o, a = some ⟨b, o, none⟩ ∧ b < w.heap.size ∧ ∀ j u, (l.map (Value.int .i64))[j]? = some u → w.cell? ⟨b, o + j, none⟩ = some u
theorem SrcI.later {w w' : World} {a : Option Addr} {l : List Int} (h : SrcI w a l) (hb : Below w.heap.size w w') : SrcI w' a l :=
  ⟨h.small, fun h0 => by
    obtain ⟨b, o, ha, hlt, hc⟩ := h.mem h0
    exact ⟨b, o, ha, Nat.lt_of_lt_of_le hlt hb.size, fun j u hj => ArgRow.later hlt hc hb j hj⟩⟩
theorem SrcI.at {w : World} {a : Option Addr} {l : List Int} (h : SrcI w a l) {b o : Nat} (ha : a = some ⟨b, o, none⟩) {k : Nat} {x : Int} (hk : l[k]? = some x) : w.cell? ⟨b, o + k, none⟩ = some (.int .i64 x) := by
  have := (List.getElem?_eq_some_iff.1 hk).1
  obtain ⟨b', o', e, hlt, hc⟩ := h.mem (by omega)
  rw [ha] at e
  injection e with e
  injection e with e1 e2 e3
  subst e1 e2
  exact hc k _ (by simp [hk])
theorem srci_row {w : World} {B cap n : Nat} {ao : Option Addr} {T : TypeId} {l : List Int} (L1 L2 : List Asr) (hH : Has w B (L1 ++ row T 1 (.slice ao n cap) n (l.map (Value.int .i64)) :: L2)) (hn : n = l.length) : SrcI w ao l := by
  subst hn
  rcases hH.row_shape L1 L2 with ⟨h, h0⟩ | ⟨g', cap', h, h1, h2, _, hg⟩
  · exact ⟨by omega, by omega⟩
  · cases h
    refine ⟨by unfold maxLen at h2; omega, fun _ => ⟨g', 0, rfl, hg, fun j u hj => ?_⟩⟩
    rw [Nat.zero_add]
    exact hH.row_cell L1 L2 j hj


set_option maxHeartbeats 1000000 in
set_option maxRecDepth 100000 in
/-- SameInts. -/
theorem SameInts_calls (a b : Option Addr) (ca cb : Nat) (l m : List Int) (w : World) (h1 : SrcI w a l) (h2 : SrcI w b m) :
    Calls Try.prog 38 #[.slice a l.length ca, .slice b m.length cb] w fun e w' => e = .returned (.bool (l == m)) ∧ Below w.heap.size w w' := by
  have s1 := h1.small
  have s2 := h2.small
  by_cases hn : l.length = m.length
  · have e1 : (l.length == m.length) = true := by rw [beq_iff_eq]; exact hn
    have H1 := hid h1
    have H2 := hid h2
    rw [← hn]
    have HN := hid hn
    clear h1 h2 hn e1 s2
    go_enter Try.func38, Try.ntmps38
    go_wp2_with fail
    go_loopw [5] (fun i wr => ∃ k : Nat, k ≤ l.length ∧ i = .int .i64 k ∧ Below w.heap.size w wr ∧ ∀ j, j < k → l[j]? = m[j]?) (fun i _ => l.length - (intOf i).toNat)
    case atStart => exact ⟨0, by omega, rfl, Below.refl _ _, fun j h => by omega⟩
    case round =>
      obtain ⟨k, hk, rfl, hBr, hall⟩ := hrel
      have HALL := hid hall
      clear hall
      by_cases hlt : k < l.length
      · obtain ⟨x, hx⟩ : ∃ x, l[k]? = some x := ⟨l[k], List.getElem?_eq_getElem hlt⟩
        obtain ⟨y, hy⟩ : ∃ y, m[k]? = some y := ⟨_, List.getElem?_eq_getElem (by have := HN.out; omega)⟩
        obtain ⟨ba, oa, rfl, _, _⟩ := H1.out.mem (by omega)
        obtain ⟨bb, ob, rfl, _, _⟩ := H2.out.mem (by have := HN.out; omega)
        have c1 := (H1.out.later hBr).at rfl hx
        have c2 := (H2.out.later hBr).at rfl hy
        by_cases hxy : x = y
        · subst hxy
          have HX := hid (And.intro hx hy)
          clear hx hy
          go_wp2_with fail
          go_quiet (fail)
          have hBq := below_drewNS hBr nq
          go_wp2_with fail
          go_roundw
          case rel => exact ⟨k + 1, by omega, by go_num, hBq, fun j hj => by
            by_cases e : j = k
            · subst e; rw [HX.out.1, HX.out.2]
            · exact HALL.out j (by omega)⟩
          case measure => simp [intOf] <;> omega
        · have e1 : (x == y) = false := by rw [beq_eq_false_iff_ne]; exact hxy
          have hr : (l == m) = false := by
            rw [beq_eq_false_iff_ne]
            intro e
            rw [e, hy] at hx
            injection hx with hx
            exact hxy hx.symm
          have HR := hid hr
          clear hx hy hxy hr
          go_wp2_with fail
          go_quiet (fail)
          have hBq := below_drewNS hBr nq
          go_wp2_with fail
          go_ret
          exact ⟨by rw [HR.out]; rfl, hBq⟩
      · obtain rfl : k = l.length := by omega
        have hr : (l == m) = true := by
          rw [beq_iff_eq]
          refine List.ext_getElem? fun i => ?_
          by_cases hi : i < l.length
          · exact HALL.out i hi
          · rw [List.getElem?_eq_none (by omega), List.getElem?_eq_none (by have := HN.out; omega)]
        have HR := hid hr
        clear hr
        go_wp2_with fail
        go_ret
        exact ⟨by rw [HR.out]; rfl, hBr⟩
  · have e1 : (l.length == m.length) = false := by rw [beq_eq_false_iff_ne]; exact hn
    have e2 : ((l.length : Int) == (m.length : Int)) = false := by rw [beq_eq_false_iff_ne]; omega
    have hr : (l == m) = false := by
      rw [beq_eq_false_iff_ne]
      intro e
      exact hn (by rw [e])
    rw [hr]
    clear hr h1 h2
    go_enter Try.func38, Try.ntmps38
    go_wp2_with fail
    go_ret
    exact ⟨rfl, Below.refl _ _⟩


/-- A list of places in memory. -/
structure SrcA (w : World) (a : Option Addr) (l : List (Int × Int)) : Prop where
  small : l.length ≤ 9223372036854775807
  mem : 0 < l.length → ∃ b o, a = some ⟨b, o, none⟩ ∧ b < w.heap.size ∧ ∀ j u, (atsL l)[j]? = some u → w.cell? ⟨b, o + j, none⟩ = some u
theorem SrcA.later {w w' : World} {a : Option Addr} {l : List (Int × Int)} (h : SrcA w a l) (hb : Below w.heap.size w w') : SrcA w' a l :=
  ⟨h.small, fun h0 => by
    obtain ⟨b, o, ha, hlt, hc⟩ := h.mem h0
    exact ⟨b, o, ha, Nat.lt_of_lt_of_le hlt hb.size, fun j u hj => ArgRow.later hlt hc hb j hj⟩⟩
theorem SrcA.at {w : World} {a : Option Addr} {l : List (Int × Int)} (h : SrcA w a l) {b o : Nat} (ha : a = some ⟨b, o, none⟩) {k : Nat} {x : Int × Int} (hk : l[k]? = some x) : w.cell? ⟨b, o + k * 2, none⟩ = some (.int .i64 x.1) ∧ w.cell? ⟨b, o + k * 2 + 1, none⟩ = some (.int .i64 x.2) := by
  have := (List.getElem?_eq_some_iff.1 hk).1
  obtain ⟨b', o', e, hlt, hc⟩ := h.mem (by omega)
  rw [ha] at e
  injection e with e
  injection e with e1 e2 e3
  subst e1 e2
  refine ⟨hc (k * 2) _ ?_, ?_⟩
  · have := flat_get atL 2 (fun _ => rfl) l k 0 x hk (by omega)
    rw [atsL]
    simpa [atL] using this
  · have h1 := hc (k * 2 + 1) (.int .i64 x.2) (by
      have := flat_get atL 2 (fun _ => rfl) l k 1 x hk (by omega)
      rw [atsL]
      simpa [atL] using this)
    rwa [← Nat.add_assoc] at h1
theorem srca_row {w : World} {B cap n : Nat} {ao : Option Addr} {T : TypeId} {l : List (Int × Int)} (L1 L2 : List Asr) (hH : Has w B (L1 ++ row T 2 (.slice ao n cap) n (atsL l) :: L2)) (hn : n = l.length) : SrcA w ao l := by
  subst hn
  rcases hH.row_shape L1 L2 with ⟨h, h0⟩ | ⟨g', cap', h, h1, h2, _, hg⟩
  · exact ⟨by omega, by omega⟩
  · cases h
    refine ⟨by unfold maxLen at h2; omega, fun _ => ⟨g', 0, rfl, hg, fun j u hj => ?_⟩⟩
    rw [Nat.zero_add]
    exact hH.row_cell L1 L2 j hj
theorem srca_blk {w : World} {B b : Nat} {T : TypeId} {l : List (Int × Int)} (L1 L2 : List Asr) (hH : Has w B (L1 ++ blk b T (atsL l).toArray :: L2)) (hn : l.length ≤ 1000) : SrcA w (some ⟨b, 0, none⟩) l :=
  ⟨by omega, fun _ => ⟨b, 0, rfl, (hH.blk_at L1 L2).2.2, fun j u hj => by rw [Nat.zero_add]; exact hH.cell L1 L2 j (by simpa using hj)⟩⟩
theorem srci_blk {w : World} {B b : Nat} {T : TypeId} {l : List Int} (L1 L2 : List Asr) (hH : Has w B (L1 ++ blk b T (l.map (Value.int .i64)).toArray :: L2)) (hn : l.length ≤ 1000) : SrcI w (some ⟨b, 0, none⟩) l :=
  ⟨by omega, fun _ => ⟨b, 0, rfl, (hH.blk_at L1 L2).2.2, fun j u hj => by rw [Nat.zero_add]; exact hH.cell L1 L2 j (by simpa using hj)⟩⟩
theorem at_neq (a b c d : Int) (w : World) : Sem.run Try.prog (binOp .neq 46 (.agg #[.int .i64 a, .int .i64 b]) (.agg #[.int .i64 c, .int .i64 d])) w = .ok (.bool (!decide (a = c ∧ b = d))) w := by
  have h' := at_eql a b c d w
  rw [run_eql_struct] at h'
  simp only [binOp, Sem.run_bind, Op.equal, Op.maxDepth]
  revert h'
  generalize (Op.equalIn 10000 46 (.agg #[.int .i64 a, .int .i64 b]) (.agg #[.int .i64 c, .int .i64 d])).run Try.prog w = r
  cases r with
  | ok b w' => intro h; simp at h ⊢; simp [h]
  | halt x w' => intro h; simp [Result.andThen] at h

set_option maxHeartbeats 1000000 in
set_option maxRecDepth 100000 in
/-- SameAts. -/
theorem SameAts_calls (a b : Option Addr) (ca cb : Nat) (l m : List (Int × Int)) (w : World) (h1 : SrcA w a l) (h2 : SrcA w b m) :
    Calls Try.prog 17 #[.slice a l.length ca, .slice b m.length cb] w fun e w' => e = .returned (.bool (l == m)) ∧ Below w.heap.size w w' := by
  have s1 := h1.small
  have s2 := h2.small
  by_cases hn : l.length = m.length
  · have e1 : (l.length == m.length) = true := by rw [beq_iff_eq]; exact hn
    have H1 := hid h1
    have H2 := hid h2
    rw [← hn]
    have HN := hid hn
    clear h1 h2 hn e1 s2
    go_enter Try.func17, Try.ntmps17
    go_wp2_with fail
    go_loopw [5] (fun i wr => ∃ k : Nat, k ≤ l.length ∧ i = .int .i64 k ∧ Below w.heap.size w wr ∧ ∀ j, j < k → l[j]? = m[j]?) (fun i _ => l.length - (intOf i).toNat)
    case atStart => exact ⟨0, by omega, rfl, Below.refl _ _, fun j h => by omega⟩
    case round =>
      obtain ⟨k, hk, rfl, hBr, hall⟩ := hrel
      have HALL := hid hall
      clear hall
      by_cases hlt : k < l.length
      · obtain ⟨x, hx⟩ : ∃ x, l[k]? = some x := ⟨l[k], List.getElem?_eq_getElem hlt⟩
        obtain ⟨y, hy⟩ : ∃ y, m[k]? = some y := ⟨_, List.getElem?_eq_getElem (by have := HN.out; omega)⟩
        obtain ⟨ba, oa, rfl, _, _⟩ := H1.out.mem (by omega)
        obtain ⟨bb, ob, rfl, _, _⟩ := H2.out.mem (by have := HN.out; omega)
        obtain ⟨c1, d1⟩ := (H1.out.later hBr).at rfl hx
        obtain ⟨c2, d2⟩ := (H2.out.later hBr).at rfl hy
        by_cases hxy : x = y
        · subst hxy
          have hE : ∀ W, Sem.run Try.prog (binOp .neq 46 (.agg #[.int .i64 x.1, .int .i64 x.2]) (.agg #[.int .i64 x.1, .int .i64 x.2])) W = .ok (.bool false) W := fun W => by rw [at_neq]; simp
          have HX := hid (And.intro hx hy)
          clear hx hy
          go_wp2_with fail
          go_quiet (fail)
          have hBq := below_drewNS hBr nq
          go_wp2_with fail
          go_roundw
          case rel => exact ⟨k + 1, by omega, by go_num, hBq, fun j hj => by
            by_cases e : j = k
            · subst e; rw [HX.out.1, HX.out.2]
            · exact HALL.out j (by omega)⟩
          case measure => simp [intOf] <;> omega
        · have hE : ∀ W, Sem.run Try.prog (binOp .neq 46 (.agg #[.int .i64 x.1, .int .i64 x.2]) (.agg #[.int .i64 y.1, .int .i64 y.2])) W = .ok (.bool true) W := fun W => by
            rw [at_neq]
            have : ¬ (x.1 = y.1 ∧ x.2 = y.2) := fun h => hxy (Prod.ext h.1 h.2)
            rw [decide_eq_false this]
            rfl
          have hr : (l == m) = false := by
            rw [beq_eq_false_iff_ne]
            intro e
            rw [e, hy] at hx
            injection hx with hx
            exact hxy hx.symm
          have HR := hid hr
          clear hx hy hxy hr
          go_wp2_with fail
          go_quiet (fail)
          have hBq := below_drewNS hBr nq
          go_wp2_with fail
          go_ret
          exact ⟨by rw [HR.out]; rfl, hBq⟩
      · obtain rfl : k = l.length := by omega
        have hr : (l == m) = true := by
          rw [beq_iff_eq]
          refine List.ext_getElem? fun i => ?_
          by_cases hi : i < l.length
          · exact HALL.out i hi
          · rw [List.getElem?_eq_none (by omega), List.getElem?_eq_none (by have := HN.out; omega)]
        have HR := hid hr
        clear hr
        go_wp2_with fail
        go_ret
        exact ⟨by rw [HR.out]; rfl, hBr⟩
  · have e1 : (l.length == m.length) = false := by rw [beq_eq_false_iff_ne]; exact hn
    have e2 : ((l.length : Int) == (m.length : Int)) = false := by rw [beq_eq_false_iff_ne]; omega
    have hr : (l == m) = false := by
      rw [beq_eq_false_iff_ne]
      intro e
      exact hn (by rw [e])
    rw [hr]
    clear hr h1 h2
    go_enter Try.func17, Try.ntmps17
    go_wp2_with fail
    go_ret
    exact ⟨rfl, Below.refl _ _⟩

end Go.Proofs.Yteeapkndappnoaa
