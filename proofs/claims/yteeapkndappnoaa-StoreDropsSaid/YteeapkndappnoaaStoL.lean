/-
  Package store: one page is deleted from the list of all (slices.DeleteFunc).
-/
import Derived.Test.YteeapkndappnoaaStoK
import Derived.Test.YteeapkndappnoaaRowMore
namespace Go.Proofs.Yteeapkndappnoaa
open Go.RowKit Go.Shelf
set_option linter.unusedVariables false
set_option linter.unusedSimpArgs false

theorem PgR.of0 {w : World} {B : Nat} {v : Value} {q : List (Nat × PageS)} {X : List Asr} (hH : Has w B (row 91 1 v q.length (ptrs q) :: (pgs q ++ X))) : PgR w v q := by
  refine ⟨?_, fun j x hx => ?_⟩
  · obtain ⟨ao, cap, rfl, _, _, hg⟩ := hH.row_form [] _
    refine ⟨ao, cap, rfl, fun h0 => ?_⟩
    obtain ⟨g, rfl⟩ := hg h0
    exact ⟨g, rfl, fun j x hx => hH.row_cell [] _ j (ptrs_get hx)⟩
  · have h := pgs_at [_] X hH hx
    exact ⟨h.1, h.2.2⟩
theorem zeroPtr (w : World) : (zeroValue 91).run Try.prog w = .ok (.pointer none) w := by kernel_rfl
/-- What lies in the slice while the pages behind the k-th are moved up. -/
def movL (q : List (Nat × PageS)) (k i : Nat) : List (Nat × PageS) := (q.eraseIdx k).take i ++ q.drop i
theorem movL_start {q : List (Nat × PageS)} {k : Nat} (hk : k < q.length) : movL q k k = q := by
  unfold movL
  rw [List.eraseIdx_eq_take_drop_succ, List.take_append_of_le_length (by simp; omega), List.take_take, Nat.min_self, List.take_append_drop]
theorem movL_length {q : List (Nat × PageS)} {k i : Nat} (hk : k < q.length) (hi : i < q.length) : (movL q k i).length = q.length := by
  unfold movL
  rw [List.length_append, List.length_take, List.length_drop, List.length_eraseIdx, if_pos hk]
  omega
theorem movL_get {q : List (Nat × PageS)} {k i : Nat} (hk : k < q.length) (hi : i + 1 < q.length) : (movL q k i)[i + 1]? = q[i + 1]? := by
  unfold movL
  have h1 : ((q.eraseIdx k).take i).length = i := by rw [List.length_take, List.length_eraseIdx, if_pos hk]; omega
  rw [List.getElem?_append_right (by omega), h1, List.getElem?_drop]
  congr 1
  omega
theorem movL_set {q : List (Nat × PageS)} {k i : Nat} {x : Nat × PageS} (hki : k ≤ i) (hi : i + 1 < q.length) (hx : q[i + 1]? = some x) : (movL q k i).set i x = movL q k (i + 1) := by
  have hk : k < q.length := by omega
  have h1 : ((q.eraseIdx k).take i).length = i := by rw [List.length_take, List.length_eraseIdx, if_pos hk]; omega
  have h2 : (q.eraseIdx k)[i]? = some x := by rw [List.getElem?_eraseIdx_of_ge hki]; exact hx
  unfold movL
  have h3 : q.drop i = q[i] :: q.drop (i + 1) := List.drop_eq_getElem_cons (by omega)
  rw [List.set_append_right _ _ (by omega), h1, Nat.sub_self, h3, List.set_cons_zero, List.take_add_one, h2]
  simp
theorem movL_end {q : List (Nat × PageS)} {k n : Nat} (hk : k < q.length) (hn : q.length = n + 1) : (movL q k n).take n = q.eraseIdx k := by
  have h1 : (q.eraseIdx k).length = n := by rw [List.length_eraseIdx, if_pos hk]; omega
  unfold movL
  rw [List.take_append_of_le_length (by simp; omega), List.take_take, Nat.min_self, List.take_of_length_le (by omega)]
theorem ptrs_set1 (l : List (Nat × PageS)) (i : Nat) (x : Nat × PageS) : (ptrs l).set i (.pointer (some ⟨x.1, 0, none⟩)) = ptrs (l.set i x) := by
  unfold ptrs
  rw [List.map_set]
  rfl
theorem ptrs_take (l : List (Nat × PageS)) (i : Nat) : (ptrs l).take i = ptrs (l.take i) := by simp [ptrs, List.map_take]
theorem movL_ptrs {q : List (Nat × PageS)} {k i : Nat} (hk : k < q.length) (hi : i < q.length) : (ptrs (movL q k i)).length = q.length := by rw [ptrs_length, movL_length hk hi]

set_option maxHeartbeats 1000000 in
set_option maxRecDepth 100000 in
theorem PDelete_calls (bb : Nat) (f : Int) (v : Value) (q : List (Nat × PageS)) (hq : q.length ≤ 256) (k : Nat) (x : Nat × PageS) (hk : q[k]? = some x) (hf : x.2.f = f) (hu : ∀ (j : Nat) y, j ≠ k → q[j]? = some y → y.2.f ≠ f) (w : World) (B : Nat) (X : List Asr)
    (hH : Has w B (row 91 1 v q.length (ptrs q) :: (pgs q ++ blk bb 3 #[.int .i64 f] :: X))) :
    Calls Try.prog 53 #[v, .func (.func 54) #[] #[.pointer (some ⟨bb, 0, none⟩)]] w fun e w' => ∃ u, e = .returned u ∧ Has w' B (row 91 1 u (q.eraseIdx k).length (ptrs (q.eraseIdx k)) :: (pgs q ++ blk bb 3 #[.int .i64 f] :: X)) ∧ Below B w w' := by
  have hkl := (List.getElem?_eq_some_iff.1 hk).1
  obtain ⟨n, hn⟩ : ∃ n, q.length = n + 1 := ⟨q.length - 1, by omega⟩
  have hcb := Has.cell (row 91 1 v q.length (ptrs q) :: pgs q) X hH 0 (v := .int .i64 f) rfl
  have CI := hid (PIndexK 54 (enters_of Try.func54 (by kernel_rfl) rfl) bb f v q w (PgR.of0 hH) hq hcb (fun pb pf w1 c0 c1 => dropK pb _ pf f w1 c0 c1))
  obtain ⟨ao, cap, rfl, hcap, hcap2, hao⟩ := hH.row_form [] _
  obtain ⟨g, rfl⟩ := hao (by omega)
  have hle : (q.eraseIdx k).length = n := by rw [List.length_eraseIdx, if_pos hkl]; omega
  have HK := hid hk
  have HU := hid hu
  have HF := hid hf
  have HLE := hid hle
  rw [hn] at hH hcap ⊢
  have HN := hid hn
  have hkn : k ≤ n := by omega
  have hn256 : n < 256 := by omega
  have CI2 := CI.out
  rw [hn] at CI2
  clear hcb hk hu hf hle hao hn CI hkl hq
  have CI := hid CI2
  clear CI2
  go_enter Try.func53, Try.ntmps53
  go_wp2_with fail
  refine CI.out.mono ?_
  rintro e w1 ⟨r, rfl, hidx, m, rfl⟩
  have hr : r = (k : Int) := by
    rcases hidx with ⟨rfl, hall⟩ | ⟨k2, x2, rfl, h2, h3, _⟩
    · exact absurd HF.out (hall x (List.mem_of_getElem? HK.out))
    · by_cases e : k2 = k
      · rw [e]
      · exact absurd h3 (HU.out k2 x2 e h2)
  subst hr
  have e0 : ((k : Int) == -1) = false := by rw [beq_eq_false_iff_ne]; omega
  have hD := hH.drewN m
  have bD := below_drewNS (Below.refl B w) m
  clear hidx hH CI
  go_wp2_with fail
  go_loopg [5, 6] (n - k) (fun t i j wr => ∃ ni : Nat, t + ni = n ∧ k ≤ ni ∧ i = .int .i64 ni ∧ j = .int .i64 ((ni + 1 : Nat) : Int) ∧ Has wr B (row 91 1 (.slice (some ⟨g, 0, none⟩) (n + 1) cap) (n + 1) (ptrs (movL q k ni)) :: (pgs q ++ blk bb 3 #[.int .i64 f] :: X)) ∧ Below B w wr)
  case atStart => exact ⟨k, by omega, Nat.le_refl _, rfl, by go_num, by rw [movL_start (by have := HN.out; omega)]; exact hD, bD⟩
  case round =>
    obtain ⟨ni, ht, hki, rfl, rfl, hHr, hBr⟩ := hrel
    clear hD bD
    have HT := hid ht
    by_cases hlt : ni < n
    · have hlen := HN.out
      obtain ⟨y, hy⟩ : ∃ y, q[ni + 1]? = some y := ⟨_, List.getElem?_eq_getElem (by omega)⟩
      have hne := HU.out (ni + 1) y (by omega) hy
      have hg := movL_get (q := q) (k := k) (i := ni) (by omega) (by omega)
      rw [hy] at hg
      have cr : wr.cell? ⟨g, ni + 1, none⟩ = some (.pointer (some ⟨y.1, 0, none⟩)) := hHr.row_cell [] _ (ni + 1) (ptrs_get hg)
      have hp := (pgs_at [_] _ hHr hy).1
      have c0 : wr.cell? ⟨y.1, 0, none⟩ = some (.int .i64 y.2.f) := cell_of_blk hp rfl
      have c1 := Has.cell (row 91 1 (.slice (some ⟨g, 0, none⟩) (n + 1) cap) (n + 1) (ptrs (movL q k ni)) :: pgs q) X hHr 0 (v := .int .i64 f) rfl
      have e1 : (y.2.f == f) = false := by rw [beq_eq_false_iff_ne]; exact hne
      have ck := dropK y.1 bb y.2.f f wr c0 c1
      rw [e1] at ck
      have CK := hid ck
      have HY := hid hy
      have hl2 : ni < (ptrs (movL q k ni)).length := by rw [movL_ptrs (by omega) (by omega)]; omega
      have hold : ∃ z, (ptrs (movL q k ni))[ni]? = some z := ⟨_, List.getElem?_eq_getElem hl2⟩
      obtain ⟨z, hz⟩ := hold
      have hnn : (ni : Int) + 1 < (n : Int) + 1 := by omega
      have HL2 := hid hl2
      have HZ := hid hz
      clear hg hp c0 c1 ck hne e1 hy hl2 hz hlen ht
      go_wp2_with fail
      refine CK.out.mono ?_
      rintro e w2 ⟨rfl, m2, rfl⟩
      have hH2 := hHr.drewN m2
      have bH2 := below_drewNS hBr m2
      have k4 := hH2.row_frozen [] _ ni
      have k5 := hH2.row_cell [] _ ni HZ.out
      have hS := Has.row_set [] _ hH2 ni HL2.out (.pointer (some ⟨y.1, 0, none⟩))
      obtain ⟨_, hgr⟩ := hH2.row_at [] _
      have hbg : B ≤ g := (hgr g rfl).1
      rw [ptrs_set1, movL_set hki (by have := HN.out; omega) HY.out] at hS
      have hltn : ni < n + 1 := by omega
      clear CK hHr hBr cr hgr
      generalize wr.drewN m2 = w3 at *
      go_wp2_with fail
      go_roundg (gk - 1)
      case measure => have := HT.out; omega
      case rel => exact ⟨ni + 1, by have := HT.out; omega, by omega, by go_num, by go_num, hS, bH2.trans ((Below.refl B _).setCell (p := ⟨g, ni, none⟩) hbg _)⟩
    · obtain rfl : ni = n := by omega
      have hC := hHr.row_cut1 [] _ (show ni ≤ ni + 1 by omega)
      rw [ptrs_take, movL_end (by have := HN.out; omega) HN.out] at hC
      have hz1 : (0 : Int) ≤ (ni : Int) := by omega
      have hz2 : (ni : Int) ≤ (ni : Int) + 1 := by omega
      have hz3 : ¬ cap = ni := by omega
      have hz4 : ¬ ni = cap := by omega
      have hz5 : ni ≤ cap := by omega
      clear hHr ht HT hlt
      go_wp2_with (first
        | (refine wpList_clear_row [] _ hC rfl (.tmp 38) 86 rfl Try.underlying86 (.pointer none) zeroPtr rfl (by simp [Value.cells, Value.oneCell']) ni 1 (cap - ni) ni (by omega) rfl (by omega) (by omega) ?_; intro w3 hH3 hB3))
      go_ret
      rw [HLE.out]
      exact ⟨_, rfl, hH3, hBr.trans hB3⟩

end Go.Proofs.Yteeapkndappnoaa
