/-
  Host, Guest and Many of package gmap.
-/
import Derived.Test.YtlkjccchlmhchaaGmapNew
namespace Go.Proofs.Ytlkjccchlmhchaa
open Go.RowKit
set_option linter.unusedVariables false
set_option linter.unusedSimpArgs false

theorem GmapA.open {b : Nat} {l : List Int} {w : World} {B : Nat} {X : List Asr} (hH : Has w B (GmapA b l :: X)) : ∃ s : GmapS, (l.Nodup ∧ 1 ≤ l.length ∧ l.length ≤ 64) ∧
    Has w B (blk b 65 #[s.v, .map (some s.m)] :: imap Try.prog 3 s.m (gmG l l.length) l.length :: row 3 1 s.v l.length (l.map (Value.int .i64)) :: X) := by
  obtain ⟨s, hH⟩ := hH.open_ex
  obtain ⟨hI, hH⟩ := hH.open_and
  exact ⟨s, hI, hH.open_all⟩

/-- The host's frame of a guest's. -/
def hostR (l : List Int) (g : Int) : Value := .tuple #[.int .i64 (if 0 ≤ g ∧ g < l.length then l.getD g.toNat 0 else 0), .bool (decide (0 ≤ g ∧ g < l.length))]
/-- The guest's frame of a host's. -/
def guestR (l : List Int) (h : Int) : Value := .tuple #[.int .i64 ((gmG l l.length h).getD 0), .bool (gmG l l.length h).isSome]

theorem Many_calls (b : Nat) (l : List Int) (w : World) (B : Nat) (X : List Asr) (hH : Has w B (GmapA b l :: X)) :
    Calls Try.prog 37 #[.pointer (some ⟨b, 0, none⟩)] w fun e w' => e = .returned (.int .i64 l.length) ∧ w = w' := by
  obtain ⟨⟨m, v⟩, ⟨hnd, h1, h2⟩, hO⟩ := GmapA.open hH
  obtain ⟨ao, cap, rfl, _, _, _⟩ := hO.row_form [_, _] _
  have c0 := hO.cell [] _ 0 rfl
  clear hH hO hnd
  go_enter Try.func37, Try.ntmps37
  go_wp2_with fail
  go_ret
  exact ⟨rfl, rfl⟩

theorem Host_calls (b : Nat) (l : List Int) (g : Int) (w : World) (B : Nat) (X : List Asr) (hH : Has w B (GmapA b l :: X)) :
    Calls Try.prog 35 #[.pointer (some ⟨b, 0, none⟩), .int .i64 g] w fun e w' => e = .returned (hostR l g) ∧ w = w' := by
  obtain ⟨⟨m, v⟩, ⟨hnd, h1, h2⟩, hO⟩ := GmapA.open hH
  obtain ⟨ao, cap, rfl, hc1, hc2, hc3⟩ := hO.row_form [_, _] _
  obtain ⟨gb, rfl⟩ := hc3 (by omega)
  have c0 := hO.cell [] _ 0 rfl
  have c1 := fun (k : Nat) (x : Int) (hk : l[k]? = some x) => hO.row_cell [_, _] _ k (u := .int .i64 x) (by simp [hk])
  have C1 := hid c1
  clear hH hO hnd c1
  by_cases hg0 : g < 0
  · have e1 : decide (g < 0) = true := by rw [decide_eq_true_eq]; exact hg0
    have er : hostR l g = .tuple #[.int .i64 0, .bool false] := by
      have hn : ¬ (0 ≤ g ∧ g < l.length) := by omega
      simp [hostR, hn] <;> omega
    rw [er]
    clear er
    go_enter Try.func35, Try.ntmps35
    go_wp2_with fail
    go_ret2
    exact ⟨rfl, rfl⟩
  · have e1 : decide (g < 0) = false := by rw [decide_eq_false_iff_not]; exact hg0
    obtain ⟨k, rfl⟩ := Int.eq_ofNat_of_zero_le (show 0 ≤ g by omega)
    by_cases hk : k < l.length
    · obtain ⟨x, hx⟩ : ∃ x, l[k]? = some x := ⟨l[k], List.getElem?_eq_getElem hk⟩
      have cx := C1.out k x hx
      have e2 : decide (l.length ≤ k) = false := by rw [decide_eq_false_iff_not]; omega
      have e3 : decide ((l.length : Int) ≤ (k : Int)) = false := by rw [decide_eq_false_iff_not]; omega
      have er : hostR l k = .tuple #[.int .i64 x, .bool true] := by
        have hn : 0 ≤ (k : Int) ∧ (k : Int) < l.length := by omega
        simp [hostR, hn, List.getD, hx] <;> omega
      rw [er]
      clear er
      go_enter Try.func35, Try.ntmps35
      go_wp2_with fail
      go_ret2
      exact ⟨rfl, rfl⟩
    · have e2 : decide (l.length ≤ k) = true := by rw [decide_eq_true_eq]; omega
      have e3 : decide ((l.length : Int) ≤ (k : Int)) = true := by rw [decide_eq_true_eq]; omega
      have er : hostR l k = .tuple #[.int .i64 0, .bool false] := by
        have hn : ¬ (0 ≤ (k : Int) ∧ (k : Int) < l.length) := by omega
        simp [hostR, hn] <;> omega
      rw [er]
      clear er
      go_enter Try.func35, Try.ntmps35
      go_wp2_with fail
      go_ret2
      exact ⟨rfl, rfl⟩

theorem Guest_calls (b : Nat) (l : List Int) (h : Int) (hwf : (Lit.int .i64 h).wf = true) (w : World) (B : Nat) (X : List Asr) (hH : Has w B (GmapA b l :: X)) :
    Calls Try.prog 32 #[.pointer (some ⟨b, 0, none⟩), .int .i64 h] w fun e w' => e = .returned (guestR l h) ∧ w = w' := by
  obtain ⟨⟨m, v⟩, ⟨hnd, h1, h2⟩, hO⟩ := GmapA.open hH
  have c1 := hO.cell [] _ 1 rfl
  simp at c1
  clear hH hnd
  go_enter Try.func32, Try.ntmps32
  go_wp2_with (at_lookup; refine wpList_map_get_ok [_] _ hO rfl _ _ 62 rfl Try.underlying62 Try.underlying3 (zeroInt _) rfl _ rfl hwf ?_)
  go_ret2
  exact ⟨rfl, rfl⟩

end Go.Proofs.Ytlkjccchlmhchaa
