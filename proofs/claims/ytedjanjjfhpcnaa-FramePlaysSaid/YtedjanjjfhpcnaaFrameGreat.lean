/-
  Whether the calls are too many.
-/
import Derived.Test.YtedjanjjfhpcnaaFrameArgs
namespace Go.Proofs.Ytedjanjjfhpcnaa
open Go.RowKit Go.Deep
set_option linter.unusedVariables false
set_option linter.unusedSimpArgs false

/-- Field i of call k, now and later. -/
theorem ops_at {l : List FOp} {w w' : World} {a : Option Addr} {len : Nat} (hA : ArgRow w 5 a len (l.flatMap opC)) (hb : Below w.heap.size w w') {b o : Nat} (ha : a = some ⟨b, o, none⟩) {k : Nat} {x : FOp} (hk : l[k]? = some x) (i : Nat) {u : Value} (hu : (opC x)[i]? = some u) : w'.cell? ⟨b, o + k * 5 + i, none⟩ = some u := by
  obtain ⟨h1, h2, h3⟩ := hA
  have hl : l.length = len := by rw [flat_length opC 5 (fun _ => rfl)] at h1; omega
  have := (List.getElem?_eq_some_iff.1 hk).1
  obtain ⟨b', o', e, hlt, hc⟩ := h3 (by omega)
  rw [ha] at e
  injection e with e
  injection e with e1 e2 e3
  subst e1 e2
  exact ArgRow.elem (f := opC) (size := 5) (fun _ => rfl) hlt hc hb k i _ hk hu
theorem ops_len {l : List FOp} {w : World} {a : Option Addr} {len : Nat} (hA : ArgRow w 5 a len (l.flatMap opC)) : l.length = len := by
  have h1 := hA.lc
  rw [flat_length opC 5 (fun _ => rfl)] at h1
  omega

theorem ops_adds {l : List FOp} {w w' : World} {a : Option Addr} {len : Nat} (hA : ArgRow w 5 a len (l.flatMap opC)) (hb : Below w.heap.size w w') {b o : Nat} (ha : a = some ⟨b, o, none⟩) {k : Nat} {x : FOp} (hk : l[k]? = some x) : ∀ j u, (opC x)[j]? = some u → w'.cell? ((⟨b, o + k * 5, none⟩ : Addr).add j) = some u := by
  intro j u hj
  have e : (⟨b, o + k * 5, none⟩ : Addr).add j = ⟨b, o + k * 5 + j, none⟩ := by unfold Addr.add; split <;> simp_all
  rw [e]
  exact ops_at hA hb ha hk j hj
theorem op_size {x : FOp} : (Try.prog.info? 32).map (fun i => i.size) = some (opC x).length := by
  rw [show (opC x).length = 5 from rfl]; kernel_rfl
theorem op_size' {x : FOp} : (Try.prog.info? 32).map (fun i => i.size) = some (opC x).toArray.size := by
  rw [show (opC x).toArray.size = 5 from rfl]; kernel_rfl
theorem op_one (x : FOp) : ∀ u ∈ (opC x).toArray.toList, u.oneCell' = true := by simp [opC, Value.oneCell']
def opZ : Array Value := #[.int .i64 0, .int .i64 0, .int .i64 0, .int .u64 0, .slice none 0 0]
/-- What Get answers where a word is known. -/
theorem getR_at {W : List Int} {n k j : Nat} {x : Int} (h : W[k * 8 + j]? = some x) (hk : k < n) (hj : j < 8) : getR W n k j = .tuple #[.int .u64 x, .bool true] := by
  have hw : wok n k j := ⟨by omega, by omega, by omega, by omega⟩
  simp [getR, hw, wat, List.getD, h]

/-- It answers, and turns nothing. -/
def GreatPost (w : World) (e : Ending) (w' : World) : Prop := (∃ g : Bool, e = .returned (.bool g)) ∧ w = w'

set_option maxHeartbeats 1000000 in
set_option maxRecDepth 100000 in
theorem Great_calls (a : Option Addr) (cap : Nat) (l : List FOp) (w w0 : World) (hA : ArgRow w0 5 a l.length (l.flatMap opC)) (hb : Below w0.heap.size w0 w) (hl : ∀ x ∈ l, FOk w0 x) :
    Calls Try.prog 10 #[.slice a l.length cap] w (GreatPost w) := by
  have hs := hA.small
  have HA := hid hA
  have HL := hid hl
  have HB := hid hb
  clear hA hl hb
  go_enter Try.func10, Try.ntmps10
  go_wp2_with fail
  go_loopw [3, 4] (fun n i wr => ∃ (k : Nat) (m : Int), k ≤ l.length ∧ i = .int .i64 k ∧ n = .int .i64 m ∧ 0 ≤ m ∧ m ≤ 9223372036854775807 ∧ w = wr) (fun _ i _ => l.length - (intOf i).toNat)
  case atStart => exact ⟨0, l.length, by omega, rfl, rfl, by omega, by omega, rfl⟩
  case round =>
    obtain ⟨k, m, hk, rfl, rfl, hm0, hm1, rfl⟩ := hrel
    by_cases hlt : k < l.length
    · by_cases hm : m < 9000
      · have e1 : decide (m < 9000) = true := by rw [decide_eq_true_eq]; exact hm
        obtain ⟨x, hx⟩ : ∃ x, l[k]? = some x := ⟨l[k], List.getElem?_eq_getElem hlt⟩
        have hsx := (HL.out x (List.mem_of_getElem? hx)).src.small
        obtain ⟨b, o, rfl, _, _⟩ := HA.out.mem (by omega)
        have c4 := ops_at HA.out HB.out rfl hx 4 (u := .slice x.La x.L.length x.Lc) rfl
        clear hx
        go_wp2_with fail
        refine ⟨⟨k + 1, _, by omega, by go_num, rfl, by split <;> omega, by split <;> omega, trivial⟩, ?_⟩
        simp [intOf] <;> omega
      · have e1 : decide (m < 9000) = false := by rw [decide_eq_false_iff_not]; exact hm
        have e2 : decide (9000 ≤ m) = true := by rw [decide_eq_true_eq]; omega
        go_wp2_with fail
        go_ret
        exact ⟨⟨_, rfl⟩, rfl⟩
    · obtain rfl : k = l.length := by omega
      by_cases hm : 9000 ≤ m
      · have e2 : decide (9000 ≤ m) = true := by rw [decide_eq_true_eq]; omega
        go_wp2_with fail
        go_ret
        exact ⟨⟨_, rfl⟩, rfl⟩
      · have e2 : decide (9000 ≤ m) = false := by rw [decide_eq_false_iff_not]; omega
        go_wp2_with fail
        go_ret
        exact ⟨⟨_, rfl⟩, rfl⟩

end Go.Proofs.Ytedjanjjfhpcnaa
