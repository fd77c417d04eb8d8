/-
  The plain side of chapter 13: which machines are right, and whose each of the host's frames is.
-/
import Derived.Test.YtkgijfodjmkhgaaGmapNew
namespace Go.Proofs.Ytkgijfodjmkhgaa
open Go.RowKit
set_option linter.unusedVariables false
set_option linter.unusedSimpArgs false

instance gokDec (l : List Int) (frames : Int) : Decidable (gok l frames) := by unfold gok; infer_instance

/-- A machine. -/
structure ConfS where
  host : Int
  a : Option Addr
  l : List Int
  cap : Nat
  first : Int
  many : Int
  tlb : Int
  asids : Int
  root : Int
def confC (c : ConfS) : List Value := [.int .i64 c.host, .slice c.a c.l.length c.cap, .int .i64 c.first, .int .i64 c.many, .int .i64 c.tlb, .int .i64 c.asids, .int .i64 c.root]
theorem confC_one (c : ConfS) : ∀ u ∈ confC c, u.oneCell' = true := by
  intro u hu
  simp [confC] at hu
  rcases hu with rfl | rfl | rfl | rfl | rfl | rfl | rfl <;> rfl

/-- All its numbers are numbers. -/
structure ConfW (c : ConfS) : Prop where
  host : (Lit.int .i64 c.host).wf = true
  first : (Lit.int .i64 c.first).wf = true
  many : (Lit.int .i64 c.many).wf = true
  tlb : (Lit.int .i64 c.tlb).wf = true
  asids : (Lit.int .i64 c.asids).wf = true
  root : (Lit.int .i64 c.root).wf = true

def poolP (first many f : Int) : Prop := first ≤ f ∧ f - first < many
instance poolDec (first many f : Int) : Decidable (poolP first many f) := by unfold poolP; infer_instance
def freeP (first many : Int) : Prop := 0 ≤ first ∧ 0 ≤ many ∧ first ≤ 256 ∧ many ≤ 256 - first
instance freeDec (first many : Int) : Decidable (freeP first many) := by unfold freeP; infer_instance
/-- A right one. -/
structure ConfP (l : List Int) (host first many tlb asids root : Int) : Prop where
  g : gok l host
  f : freeP first many
  h : first + many ≤ host
  p : ∀ x ∈ l, ¬ poolP first many x
  t1 : 1 ≤ tlb
  t2 : tlb ≤ 64
  a1 : 1 ≤ asids
  a2 : asids ≤ 8
  r1 : 0 ≤ root
  r2 : root ≤ 255
theorem confP_iff (l : List Int) (host first many tlb asids root : Int) : (gok l host ∧ freeP first many ∧ first + many ≤ host ∧ (∀ x ∈ l, ¬ poolP first many x) ∧ 1 ≤ tlb ∧ tlb ≤ 64 ∧ 1 ≤ asids ∧ asids ≤ 8 ∧ 0 ≤ root ∧ root ≤ 255) ↔ ConfP l host first many tlb asids root :=
  ⟨fun ⟨h1, h2, h3, h4, h5, h6, h7, h8, h9, h10⟩ => ⟨h1, h2, h3, h4, h5, h6, h7, h8, h9, h10⟩, fun ⟨h1, h2, h3, h4, h5, h6, h7, h8, h9, h10⟩ => ⟨h1, h2, h3, h4, h5, h6, h7, h8, h9, h10⟩⟩
instance confDec (l : List Int) (host first many tlb asids root : Int) : Decidable (ConfP l host first many tlb asids root) := decidable_of_iff _ (confP_iff l host first many tlb asids root)
def okC (c : ConfS) : Prop := ConfP c.l c.host c.first c.many c.tlb c.asids c.root
instance okDec (c : ConfS) : Decidable (okC c) := by unfold okC; infer_instance

/-- Whose a frame is: nobody's (0), the guest's (1), the shadow pages' (2). -/
def ownI (l : List Int) (first many f : Int) : Int := if f ∈ l then 1 else if poolP first many f then 2 else 0
/-- The frames below k that are somebody's. -/
def frs (l : List Int) (first many whose : Int) (k : Nat) : List Int := ((List.range k).map fun n : Nat => (n : Int)).filter fun f => decide (ownI l first many f = whose)
def allC (c : ConfS) (whose : Int) : List Int := if okC c then frs c.l c.first c.many whose c.host.toNat else []

theorem frs_zero (l : List Int) (first many whose : Int) : frs l first many whose 0 = [] := rfl
theorem frs_succ (l : List Int) (first many whose : Int) (k : Nat) : frs l first many whose (k + 1) = frs l first many whose k ++ if ownI l first many k = whose then [(k : Int)] else [] := by
  unfold frs
  rw [List.range_succ, List.map_append, List.filter_append]
  by_cases h : ownI l first many k = whose <;> simp [h]
theorem frs_le (l : List Int) (first many whose : Int) (k : Nat) : (frs l first many whose k).length ≤ k := by
  unfold frs
  exact Nat.le_trans (List.length_filter_le _ _) (by simp)
theorem frs_mem {l : List Int} {first many whose : Int} {k : Nat} {x : Int} : x ∈ frs l first many whose k ↔ 0 ≤ x ∧ x < k ∧ ownI l first many x = whose := by
  unfold frs
  simp only [List.mem_filter, List.mem_map, List.mem_range, decide_eq_true_eq]
  constructor
  · rintro ⟨⟨n, hn, rfl⟩, h⟩
    exact ⟨by omega, by omega, h⟩
  · rintro ⟨h1, h2, h⟩
    exact ⟨⟨x.toNat, by omega, by omega⟩, h⟩
theorem frs_sorted (l : List Int) (first many whose : Int) : ∀ k, (frs l first many whose k).Pairwise (· < ·) := by
  intro k
  unfold frs
  refine List.Pairwise.filter _ ?_
  rw [List.pairwise_map]
  exact (List.pairwise_lt_range (n := k)).imp (fun h => by omega)
theorem frs_same (l l2 : List Int) (f m f2 m2 whose : Int) (k : Nat) (h : ∀ n : Nat, n < k → (ownI l f m n = whose ↔ ownI l2 f2 m2 n = whose)) : frs l f m whose k = frs l2 f2 m2 whose k := by
  unfold frs
  refine List.filter_congr fun x hx => ?_
  rw [List.mem_map] at hx
  obtain ⟨n, hn, rfl⟩ := hx
  rw [List.mem_range] at hn
  rw [decide_eq_decide]
  exact h n hn
theorem frs_get_lt {l : List Int} {first many whose : Int} {k i j : Nat} {x y : Int} (hi : (frs l first many whose k)[i]? = some x) (hj : (frs l first many whose k)[j]? = some y) (h : i < j) : x < y := by
  have hs := frs_sorted l first many whose k
  rw [List.pairwise_iff_getElem] at hs
  obtain ⟨h1, h2⟩ := List.getElem?_eq_some_iff.1 hi
  obtain ⟨h3, h4⟩ := List.getElem?_eq_some_iff.1 hj
  have := hs i j h1 h3 h
  omega
/-- How often one is there. -/
theorem frs_count (l : List Int) (first many whose : Int) (k n : Nat) : (frs l first many whose k).count (n : Int) = if n < k ∧ ownI l first many n = whose then 1 else 0 := by
  by_cases h : n < k ∧ ownI l first many n = whose
  · rw [if_pos h]
    have hnd : (frs l first many whose k).Nodup := (frs_sorted l first many whose k).imp (fun h => by omega)
    rw [hnd.count, if_pos (frs_mem.2 ⟨by omega, by omega, h.2⟩)]
  · rw [if_neg h]
    exact List.count_eq_zero.2 (fun hm => h (by have := frs_mem.1 hm; exact ⟨by omega, this.2.2⟩))

end Go.Proofs.Ytkgijfodjmkhgaa
