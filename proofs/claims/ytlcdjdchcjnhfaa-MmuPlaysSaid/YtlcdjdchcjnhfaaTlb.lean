/-
  Contracts of package tlb (layer 9) and of the library's functions that it calls: what is known of pages, as a list.
-/
import Derived.Test.YtlcdjdchcjnhfaaRows
import Derived.Test.YtlcdjdchcjnhfaaRowMore
import Derived.StillTailTactics
import Derived.Deep.RegionHeld3
import Derived.Laws.StructEq
namespace Go.Proofs.Ytlcdjdchcjnhfaa
open Go.RowKit
set_option linter.unusedVariables false
set_option linter.unusedSimpArgs false

structure HitS where
  a : Int
  p : Int
  f : Int
  w : Bool
  u : Bool
  x : Bool
  d : Bool
deriving DecidableEq
/-- Its cells. -/
def hitC (h : HitS) : List Value := [.int .i64 h.a, .int .i64 h.p, .int .i64 h.f, .bool h.w, .bool h.u, .bool h.x, .bool h.d]
def hitsC (L : List HitS) : List Value := L.flatMap hitC
theorem hitC_length (h : HitS) : (hitC h).length = 7 := rfl
theorem hitsC_length (L : List HitS) : (hitsC L).length = L.length * 7 := flat_length hitC 7 (fun _ => rfl) L
theorem hitsC_one (L : List HitS) : ∀ u ∈ hitsC L, u.oneCell' = true := by
  intro u hu
  obtain ⟨h, _, hu⟩ := List.mem_flatMap.1 hu
  simp [hitC] at hu
  rcases hu with rfl | rfl | rfl | rfl | rfl | rfl | rfl <;> rfl
theorem hitC_one (h : HitS) : ∀ u ∈ (hitC h).toArray.toList, u.oneCell' = true := by
  intro u hu
  simp [hitC] at hu
  rcases hu with rfl | rfl | rfl | rfl | rfl | rfl | rfl <;> rfl
theorem hitsC_app (L M : List HitS) : hitsC L ++ hitsC M = hitsC (L ++ M) := by simp [hitsC]
theorem hitsC_take (L : List HitS) (k : Nat) : (hitsC L).take (k * 7) = hitsC (L.take k) := by
  induction L generalizing k with
  | nil => simp [hitsC]
  | cons h L ih =>
    cases k with
    | zero => simp [hitsC]
    | succ k =>
      have e : hitsC (h :: L) = hitC h ++ hitsC L := by simp [hitsC]
      rw [e, List.take_succ_cons, show (k + 1) * 7 = 7 + k * 7 from by omega, List.take_append, List.take_of_length_le (by rw [hitC_length]; omega), hitC_length, show 7 + k * 7 - 7 = k * 7 from by omega, ih]
      simp [hitsC]
theorem hitsC_drop (L : List HitS) (k : Nat) : (hitsC L).drop (k * 7) = hitsC (L.drop k) := by
  induction L generalizing k with
  | nil => simp [hitsC]
  | cons h L ih =>
    cases k with
    | zero => simp [hitsC]
    | succ k =>
      have e : hitsC (h :: L) = hitC h ++ hitsC L := by simp [hitsC]
      rw [e, List.drop_succ_cons, show (k + 1) * 7 = 7 + k * 7 from by omega, List.drop_append, List.drop_of_length_le (by rw [hitC_length]; omega), hitC_length, show 7 + k * 7 - 7 = k * 7 from by omega, ih]
      rfl
theorem hitsC_get {L : List HitS} {k : Nat} {h : HitS} (hk : L[k]? = some h) : ∀ j u, (hitC h)[j]? = some u → (hitsC L)[k * 7 + j]? = some u := by
  intro j u hj
  have hj7 : j < 7 := by have := (List.getElem?_eq_some_iff.1 hj).1; rw [hitC_length] at this; exact this
  rw [hitsC, flat_get hitC 7 (fun _ => rfl) L k j h hk hj7]
  exact hj
theorem hit_size8 : (Try.prog.info? 46).map (fun i => i.size) = some 7 := by kernel_rfl
theorem hit_size {h : HitS} : (Try.prog.info? 46).map (fun i => i.size) = some (hitC h).length := hit_size8
theorem hit_size' {h : HitS} : (Try.prog.info? 46).map (fun i => i.size) = some (hitC h).toArray.size := hit_size8
def hitZ : Array Value := #[.int .i64 0, .int .i64 0, .int .i64 0, .bool false, .bool false, .bool false, .bool false]
theorem infoHit : (Try.prog.info? 46).map (fun i => (i.zero, i.size, i.bytes)) = some (some (.agg hitZ), 7, 32) := by kernel_rfl
theorem zeroHit (w : World) : (zeroValue 46).run Try.prog w = .ok (.agg hitZ) w := by kernel_rfl

/-! ### whose page a hit is of -/
/-- Two pages, as their keys. -/
def keyE (a p b q : Int) : Bool := decide (a = b ∧ p = q)
theorem key_eql (a p b q : Int) (w : World) : Sem.run Try.prog (binOp .eql 96 (.agg #[.int .i64 a, .int .i64 p]) (.agg #[.int .i64 b, .int .i64 q])) w = .ok (.bool (keyE a p b q)) w := by
  have h := Try.underlying96
  have hi := Try.underlying3
  have si : (Try.prog.info? 3).map (fun i => i.size) = some 1 := by kernel_rfl
  rw [run_eql_struct, run_equalIn_struct w 9999 96 _ _ (by rw [h]; kernel_rfl) (by kernel_rfl)]
  have hf : Try.prog.fieldsOf 96 = #[⟨"asid", 3, 0, false, "", "silhouette/tlb", 0⟩, ⟨"page", 3, 1, false, "", "silhouette/tlb", 8⟩] := by
    rw [Program.fieldsOf, h]
  rw [hf]
  unfold keyE
  simp [Op.eqFields, go_sem, part]
  (repeat' split) <;> simp_all

theorem of_calls (h : HitS) (w : World) : Calls Try.prog 71 #[.agg (hitC h).toArray] w fun e w' => e = .returned (.agg #[.int .i64 h.a, .int .i64 h.p]) ∧ Below w.heap.size w w' := by
  have hH0 : Has w w.heap.size [] := Has.nil (Nat.le_refl _)
  have hH1 := hH0.newblk w.heap.size 46 (hitC h).toArray rfl
  have hB1 := below_new (Below.refl _ w) hH0 (.cells (hitC h).toArray 46)
  have hH2 := hH1.newblk (w.heap.size + 1) 96 #[.int .i64 0, .int .i64 0] (by simp)
  have hB2 := below_new hB1 hH1 (.cells #[.int .i64 0, .int .i64 0] 96)
  have c0 := hH2.cell [_] _ 0 (v := .int .i64 h.a) rfl
  have c1 := hH2.cell [_] _ 1 (v := .int .i64 h.p) rfl
  go_enter Try.func71, Try.ntmps71
  go_wp2_with (refine wpList_store_all [] _ hH2 96 (.tmp 2) (.tmp 7) rfl rfl rfl _ rfl (by kernel_rfl) rfl (by simp [Value.oneCell']) ?_; intro w3 hH3 hB3 hz3)
  exact bodyPost_ret (results_cell_row (fn := Try.f71) rfl _ w3 (w.heap.size + 1) 96 _ (0, 0) _ rfl (hH3.blk_at [] _).1 Try.underlying96 rfl (by kernel_rfl)) rfl ⟨rfl, hB2.trans hB3⟩

/-- Is it of the page? -/
def keyB (a p : Int) (h : HitS) : Bool := keyE h.a h.p a p
/-- Is it of the space? -/
def asidB (a : Int) (h : HitS) : Bool := decide (h.a = a)

set_option maxHeartbeats 1000000 in
set_option maxRecDepth 100000 in
theorem atK_calls (h : HitS) (kb : Nat) (a p : Int) (w : World) (B : Nat) (X : List Asr) (hH : Has w B (blk kb 96 #[.int .i64 a, .int .i64 p] :: X)) :
    Calls Try.prog 70 #[.agg (hitC h).toArray, .pointer (some ⟨kb, 0, none⟩)] w fun e w' => e = .returned (.bool (keyB a p h)) ∧ Has w' B (blk kb 96 #[.int .i64 a, .int .i64 p] :: X) ∧ Below B w w' := by
  have hH1 := (hH.newblk w.heap.size 46 (hitC h).toArray rfl)
  have hB1 := below_new (Below.refl B w) hH (.cells (hitC h).toArray 46)
  have hkey := key_eql h.a h.p a p
  have c0 := hH1.drew.cell [] _ 0 (v := .int .i64 h.a) rfl
  have c1 := hH1.drew.cell [] _ 1 (v := .int .i64 h.p) rfl
  have c2 := hH1.drew.cell [] _ 2 (v := .int .i64 h.f) rfl
  have c3 := hH1.drew.cell [] _ 3 (v := .bool h.w) rfl
  have c4 := hH1.drew.cell [] _ 4 (v := .bool h.u) rfl
  have c5 := hH1.drew.cell [] _ 5 (v := .bool h.x) rfl
  have c6 := hH1.drew.cell [] _ 6 (v := .bool h.d) rfl
  have d0 := hH1.drew.cell [_] _ 0 (v := .int .i64 a) rfl
  have d1 := hH1.drew.cell [_] _ 1 (v := .int .i64 p) rfl
  go_enter Try.func70, Try.ntmps70
  go_wp2_with fail
  go_region_held3 (fun W => W.cell? ⟨w.heap.size, 0, none⟩ = some (.int .i64 h.a) ∧ W.cell? ⟨w.heap.size, 1, none⟩ = some (.int .i64 h.p) ∧ W.cell? ⟨w.heap.size, 2, none⟩ = some (.int .i64 h.f) ∧ W.cell? ⟨w.heap.size, 3, none⟩ = some (.bool h.w) ∧ W.cell? ⟨w.heap.size, 4, none⟩ = some (.bool h.u) ∧ W.cell? ⟨w.heap.size, 5, none⟩ = some (.bool h.x) ∧ W.cell? ⟨w.heap.size, 6, none⟩ = some (.bool h.d) ∧ W.cell? ⟨kb, 0, none⟩ = some (.int .i64 a) ∧ W.cell? ⟨kb, 1, none⟩ = some (.int .i64 p))
    (first | exact ⟨c0, c1, c2, c3, c4, c5, c6, d0, d1⟩ | exact ⟨b0, b1, b2, b3, b4, b5, b6, f0, f1⟩)
    (first
      | (go_at_call 71; refine (keeps (of_calls h _) hH1.drew).mono ?_; rintro e w3 ⟨rfl, hH3, hB3⟩; have b0 := hH3.cell [] _ 0 (v := .int .i64 h.a) rfl; have b1 := hH3.cell [] _ 1 (v := .int .i64 h.p) rfl; have b2 := hH3.cell [] _ 2 (v := .int .i64 h.f) rfl; have b3 := hH3.cell [] _ 3 (v := .bool h.w) rfl; have b4 := hH3.cell [] _ 4 (v := .bool h.u) rfl; have b5 := hH3.cell [] _ 5 (v := .bool h.x) rfl; have b6 := hH3.cell [] _ 6 (v := .bool h.d) rfl; have f0 := hH3.cell [_] _ 0 (v := .int .i64 a) rfl; have f1 := hH3.cell [_] _ 1 (v := .int .i64 p) rfl))
  all_goals (
    go_wp2_with fail
    go_ret
    exact ⟨rfl, hH3.drop, (Below.drew hB1).trans hB3⟩)

set_option maxHeartbeats 1000000 in
theorem flK_calls (h : HitS) (kb : Nat) (a : Int) (w : World) (B : Nat) (X : List Asr) (hH : Has w B (blk kb 3 #[.int .i64 a] :: X)) :
    Calls Try.prog 64 #[.agg (hitC h).toArray, .pointer (some ⟨kb, 0, none⟩)] w fun e w' => e = .returned (.bool (asidB a h)) ∧ Has w' B (blk kb 3 #[.int .i64 a] :: X) ∧ Below B w w' := by
  have hH1 := (hH.newblk w.heap.size 46 (hitC h).toArray rfl)
  have hB1 := below_new (Below.refl B w) hH (.cells (hitC h).toArray 46)
  have c0 := hH1.cell [] _ 0 (v := .int .i64 h.a) rfl
  have d0 := hH1.cell [_] _ 0 (v := .int .i64 a) rfl
  have e : (h.a == a) = asidB a h := by
    unfold asidB
    by_cases hh : h.a = a
    · simp [hh]
    · simp [hh]
  go_enter Try.func64, Try.ntmps64
  go_wp2_with fail
  go_ret
  exact ⟨rfl, hH1.drop, hB1⟩

/-- Where the first one is. -/
def IdxIs (q : HitS → Bool) (L : List HitS) (r : Int) : Prop :=
  (r = -1 ∧ ∀ h ∈ L, q h = false) ∨ (∃ (k : Nat) (h : HitS), r = k ∧ L[k]? = some h ∧ q h = true ∧ ∀ (j : Nat) g, j < k → L[j]? = some g → q g = false)

end Go.Proofs.Ytlcdjdchcjnhfaa
