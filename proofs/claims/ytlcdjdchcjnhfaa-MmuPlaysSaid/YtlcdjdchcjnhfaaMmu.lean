/-
  Package mmu (layer 15): what a walk tells; its contract's words.
-/
import Derived.Test.YtlcdjdchcjnhfaaRightB
import Derived.Test.YtlcdjdchcjnhfaaFrameHead
import Derived.Test.YtlcdjdchcjnhfaaVa
import Derived.Test.YtlcdjdchcjnhfaaTlbC
namespace Go.Proofs.Ytlcdjdchcjnhfaa
open Go.RowKit
set_option linter.unusedVariables false
set_option linter.unusedSimpArgs false

/-- Each word is one. -/
def okW (W : List Int) : Prop := ∀ x ∈ W, 0 ≤ x ∧ x < 18446744073709551616
theorem okW_at {W : List Int} (h : okW W) (i : Nat) : ∃ V : Nat, V < 18446744073709551616 ∧ W.getD i 0 = (V : Int) := by
  by_cases hi : i < W.length
  · have := h _ (List.getElem_mem hi)
    refine ⟨(W[i]).toNat, by omega, ?_⟩
    simp [List.getD, List.getElem?_eq_getElem hi]
    omega
  · exact ⟨0, by decide, by simp [List.getD, List.getElem?_eq_none (by omega : W.length ≤ i)]⟩
/-- The entry that a walk reads, where it is one. -/
def entS (W : List Int) (n : Nat) (at_ page : Int) (lv : Nat) : Option PteS :=
  if wok n at_ (idxI page lv) then (if (getS (W.getD (wat at_ (idxI page lv)) 0).toNat).P then some (getS (W.getD (wat at_ (idxI page lv)) 0).toNat) else none) else none
/-- What a walk tells, from a level on. -/
def walkS (W : List Int) (n : Nat) (page : Int) : Nat → Int → RightS → Option (Int × RightS)
  | 0, a, r => some (a, r)
  | lv + 1, a, r => match entS W n a page (lv + 1) with
    | some p => walkS W n page lv p.Frame (rMeet r (rOf p))
    | none => none
def walkV (o : Option (Int × RightS)) : Value := match o with
  | some (f, r) => .tuple #[.int .i64 f, .agg (rightC r).toArray, .bool true]
  | none => .tuple #[.int .i64 0, .agg (rightC rNone).toArray, .bool false]
/-- Its block. -/
def mmuB (mb tb hb : Nat) : Asr := blk mb 81 #[.pointer (some ⟨tb, 0, none⟩), .pointer (some ⟨hb, 0, none⟩)]

theorem quiet_drew {P : Program} {f : FuncId} {args : Array Value} {w : World} {n : Nat} {v : Value}
    (h : ∀ W, Calls P f args W fun e w' => e = .returned v ∧ ∃ m, w' = W.drewN m) : Calls P f args (w.drewN n) fun e w'' => e = .returned v ∧ ∃ m, w'' = w.drewN m :=
  (h (w.drewN n)).mono fun _ _ ⟨he, m, hm⟩ => ⟨he, n + m, by rw [hm, World.drewN_drewN]⟩

theorem results_walk {P : Program} {fn : Func} {p s t : Tmp} {ty : TypeId} (h : fn.results = #[.tmp s, .cell p ty, .tmp t]) (tmps : Array Value) (w : World) (g : Nat) (ty' : TypeId) (cs : Array Value) (fr : Nat × Nat) (d : TypeDesc)
    (hp : tmps.getD p undef = .pointer (some ⟨g, 0, none⟩)) (hg : w.heap[g]? = some (.cells cs ty' fr))
    (hu : P.underlying ty = some d) (hd : (match d with | .struct _ | .array _ _ => true | _ => false) = true) (hi : (P.info? ty).map (·.size) = some cs.size) :
    (results fn tmps).run P w = .ok (.tuple #[tmps.getD s undef, .agg cs, tmps.getD t undef]) w := by
  have hp' : tmps[p]?.getD undef = .pointer (some ⟨g, 0, none⟩) := by simpa using hp
  simp [results, h, hp', asAddr, run_loadVar_row w g ty' ty cs fr d hg hu hd hi]

theorem Of_lit (p : PteS) (o : RightS) (ho : rOf p = o) (w : World) : Calls Try.prog 48 #[.agg #[.bool p.P, .bool p.W, .bool p.U, .bool p.A, .bool p.D, .bool p.PS, .bool p.NX, .bool p.Bad, .int .i64 p.Frame]] w fun e w' => e = .returned (.agg #[.bool o.W, .bool o.U, .bool o.X]) ∧ Below w.heap.size w w' := by
  subst ho
  exact Of_calls p w

theorem MmuNew_calls (tb hb : Nat) (w : World) (B : Nat) (X : List Asr) (hH : Has w B X) :
    Calls Try.prog 13 #[.pointer (some ⟨hb, 0, none⟩), .pointer (some ⟨tb, 0, none⟩)] w fun e w' => ∃ mb, e = .returned (.pointer (some ⟨mb, 0, none⟩)) ∧ Has w' B (mmuB mb tb hb :: X) ∧ Below B w w' := by
  go_enter Try.func13, Try.ntmps13
  go_wp2_with fail
  go_ret
  exact ⟨w.heap.size, rfl, hH.newblk w.heap.size 81 _ rfl, below_new (Below.refl _ _) hH _⟩

end Go.Proofs.Ytlcdjdchcjnhfaa
