/-
  No cell of these rows narrows 'for every input' (looked for: loops, veiled, ifaces, maps, wideKeys, modest, calm, conditions, laid).
  DERIVED. THE GIVEN ROWS OF THIS SEAT. 7 by the template 'for every input the law returns true; each argument reads behind the call as it read before'; 0 by the template 'total and deterministic' (their statements: YtlcdjdchcjnhfaaTotals.lean).
  GIVEN WITH THE SEED: the statements are not yours to turn. If you find one false, say at which input.
  Laid BY PROGRAM, IN A SANDBOX (cutbox-rows.mjs): the forced cells as the released guide's own fill.sh prints them over the translation e2fd76094ce7020f… (all of the seat's roots in one cut). By AI agents, Wed Nov 11 2026. No macro, syntax, notation, axiom, sorry.
-/
import Derived.Test.YtlcdjdchcjnhfaaChecked
import GoSem.Claim
import GoSem.ClaimJoined
import GoSem.ClaimMapViews
import Derived.JoinedTies
import Derived.KernelRfl
namespace Go.Proofs.Ytlcdjdchcjnhfaa
/- THE CELL 'sum', in the pinned program and in every row, IS THE sha256 OF THE DUMP (.gsa) THAT YtlcdjdchcjnhfaaProg.lean LOADS. Nothing in Lean hashes anything: it is a label: what it is worth is what the hold of that sum in a sandbox is worth. -/
noncomputable def Try.pinned : Pinned := { name := "ytlcdjdchcjnhfaa", sum := "e2fd76094ce7020fa70a9170fc4e0d6b56efb55b6289dd7f098a5784980265c0", checked := Try.checked }
namespace Rows
def none {H : Type} : Left H := { results := [], args := [] }

/-- 'silhouettelaw15.MmuKnown': WHATEVER THE INPUT: true; the input reads as it did. -/
def mmuKnownSpec : ChangeSpec := { name := "mmuKnown", fn := fun _ => fun
  | [d1, d2, d3, d4, d5] => { results := [.lit (.bool true)], args := [d1, d2, d3, d4, d5] }
  | _ => none }
def mmuKnownRow : OpenClaim := { program := "ytlcdjdchcjnhfaa", sum := "e2fd76094ce7020fa70a9170fc4e0d6b56efb55b6289dd7f098a5784980265c0", func := "silhouette/silhouettelaw15.MmuKnown", spec := "mmuKnown", unfollowed := true, recurses := true, apart := false }
def MmuKnownSaid : Prop := mmuKnownRow.holds Try.pinned (OpenSpec.ofChange mmuKnownSpec)

/-- ITS FALSE NEIGHBOUR: 'it returns false'. Refute it at one input. -/
def mmuKnownWrong : ChangeSpec := { name := "mmuKnown", fn := fun _ => fun
  | [d1, d2, d3, d4, d5] => { results := [.lit (.bool false)], args := [d1, d2, d3, d4, d5] }
  | _ => none }
def MmuKnownWrongFalsely : Prop := mmuKnownRow.holds Try.pinned (OpenSpec.ofChange mmuKnownWrong)

/-- 'silhouettelaw15.MmuFinds': WHATEVER THE INPUT: true; the input reads as it did. -/
def mmuFindsSpec : ChangeSpec := { name := "mmuFinds", fn := fun _ => fun
  | [d1, d2, d3, d4] => { results := [.lit (.bool true)], args := [d1, d2, d3, d4] }
  | _ => none }
def mmuFindsRow : OpenClaim := { program := "ytlcdjdchcjnhfaa", sum := "e2fd76094ce7020fa70a9170fc4e0d6b56efb55b6289dd7f098a5784980265c0", func := "silhouette/silhouettelaw15.MmuFinds", spec := "mmuFinds", unfollowed := true, recurses := true, apart := false }
def MmuFindsSaid : Prop := mmuFindsRow.holds Try.pinned (OpenSpec.ofChange mmuFindsSpec)

/-- ITS FALSE NEIGHBOUR: 'it returns false'. Refute it at one input. -/
def mmuFindsWrong : ChangeSpec := { name := "mmuFinds", fn := fun _ => fun
  | [d1, d2, d3, d4] => { results := [.lit (.bool false)], args := [d1, d2, d3, d4] }
  | _ => none }
def MmuFindsWrongFalsely : Prop := mmuFindsRow.holds Try.pinned (OpenSpec.ofChange mmuFindsWrong)

/-- 'silhouettelaw15.MmuMeets': WHATEVER THE INPUT: true; the input reads as it did. -/
def mmuMeetsSpec : ChangeSpec := { name := "mmuMeets", fn := fun _ => fun
  | [d1, d2, d3, d4, d5] => { results := [.lit (.bool true)], args := [d1, d2, d3, d4, d5] }
  | _ => none }
def mmuMeetsRow : OpenClaim := { program := "ytlcdjdchcjnhfaa", sum := "e2fd76094ce7020fa70a9170fc4e0d6b56efb55b6289dd7f098a5784980265c0", func := "silhouette/silhouettelaw15.MmuMeets", spec := "mmuMeets", unfollowed := true, recurses := true, apart := false }
def MmuMeetsSaid : Prop := mmuMeetsRow.holds Try.pinned (OpenSpec.ofChange mmuMeetsSpec)

/-- ITS FALSE NEIGHBOUR: 'it returns false'. Refute it at one input. -/
def mmuMeetsWrong : ChangeSpec := { name := "mmuMeets", fn := fun _ => fun
  | [d1, d2, d3, d4, d5] => { results := [.lit (.bool false)], args := [d1, d2, d3, d4, d5] }
  | _ => none }
def MmuMeetsWrongFalsely : Prop := mmuMeetsRow.holds Try.pinned (OpenSpec.ofChange mmuMeetsWrong)

/-- 'silhouettelaw15.MmuTables': WHATEVER THE INPUT: true; the input reads as it did. -/
def mmuTablesSpec : ChangeSpec := { name := "mmuTables", fn := fun _ => fun
  | [d1, d2, d3, d4] => { results := [.lit (.bool true)], args := [d1, d2, d3, d4] }
  | _ => none }
def mmuTablesRow : OpenClaim := { program := "ytlcdjdchcjnhfaa", sum := "e2fd76094ce7020fa70a9170fc4e0d6b56efb55b6289dd7f098a5784980265c0", func := "silhouette/silhouettelaw15.MmuTables", spec := "mmuTables", unfollowed := true, recurses := true, apart := false }
def MmuTablesSaid : Prop := mmuTablesRow.holds Try.pinned (OpenSpec.ofChange mmuTablesSpec)

/-- ITS FALSE NEIGHBOUR: 'it returns false'. Refute it at one input. -/
def mmuTablesWrong : ChangeSpec := { name := "mmuTables", fn := fun _ => fun
  | [d1, d2, d3, d4] => { results := [.lit (.bool false)], args := [d1, d2, d3, d4] }
  | _ => none }
def MmuTablesWrongFalsely : Prop := mmuTablesRow.holds Try.pinned (OpenSpec.ofChange mmuTablesWrong)

/-- 'silhouettelaw15.MmuPlays': WHATEVER THE INPUT: true; the input reads as it did. -/
def mmuPlaysSpec : ChangeSpec := { name := "mmuPlays", fn := fun _ => fun
  | [d1, d2, d3] => { results := [.lit (.bool true)], args := [d1, d2, d3] }
  | _ => none }
def mmuPlaysRow : OpenClaim := { program := "ytlcdjdchcjnhfaa", sum := "e2fd76094ce7020fa70a9170fc4e0d6b56efb55b6289dd7f098a5784980265c0", func := "silhouette/silhouettelaw15.MmuPlays", spec := "mmuPlays", unfollowed := true, recurses := true, apart := false }
def MmuPlaysSaid : Prop := mmuPlaysRow.holds Try.pinned (OpenSpec.ofChange mmuPlaysSpec)

/-- ITS FALSE NEIGHBOUR: 'it returns false'. Refute it at one input. -/
def mmuPlaysWrong : ChangeSpec := { name := "mmuPlays", fn := fun _ => fun
  | [d1, d2, d3] => { results := [.lit (.bool false)], args := [d1, d2, d3] }
  | _ => none }
def MmuPlaysWrongFalsely : Prop := mmuPlaysRow.holds Try.pinned (OpenSpec.ofChange mmuPlaysWrong)

/-- 'silhouettelaw15.MmuFresh': WHATEVER THE INPUT: true; the input reads as it did. -/
def mmuFreshSpec : ChangeSpec := { name := "mmuFresh", fn := fun _ => fun
  | [d1, d2, d3, d4, d5, d6] => { results := [.lit (.bool true)], args := [d1, d2, d3, d4, d5, d6] }
  | _ => none }
def mmuFreshRow : OpenClaim := { program := "ytlcdjdchcjnhfaa", sum := "e2fd76094ce7020fa70a9170fc4e0d6b56efb55b6289dd7f098a5784980265c0", func := "silhouette/silhouettelaw15.MmuFresh", spec := "mmuFresh", unfollowed := true, recurses := true, apart := false }
def MmuFreshSaid : Prop := mmuFreshRow.holds Try.pinned (OpenSpec.ofChange mmuFreshSpec)

/-- ITS FALSE NEIGHBOUR: 'it returns false'. Refute it at one input. -/
def mmuFreshWrong : ChangeSpec := { name := "mmuFresh", fn := fun _ => fun
  | [d1, d2, d3, d4, d5, d6] => { results := [.lit (.bool false)], args := [d1, d2, d3, d4, d5, d6] }
  | _ => none }
def MmuFreshWrongFalsely : Prop := mmuFreshRow.holds Try.pinned (OpenSpec.ofChange mmuFreshWrong)

/-- 'silhouettelaw15.MmuSpaces': WHATEVER THE INPUT: true; the input reads as it did. -/
def mmuSpacesSpec : ChangeSpec := { name := "mmuSpaces", fn := fun _ => fun
  | [d1, d2, d3, d4] => { results := [.lit (.bool true)], args := [d1, d2, d3, d4] }
  | _ => none }
def mmuSpacesRow : OpenClaim := { program := "ytlcdjdchcjnhfaa", sum := "e2fd76094ce7020fa70a9170fc4e0d6b56efb55b6289dd7f098a5784980265c0", func := "silhouette/silhouettelaw15.MmuSpaces", spec := "mmuSpaces", unfollowed := true, recurses := true, apart := false }
def MmuSpacesSaid : Prop := mmuSpacesRow.holds Try.pinned (OpenSpec.ofChange mmuSpacesSpec)

/-- ITS FALSE NEIGHBOUR: 'it returns false'. Refute it at one input. -/
def mmuSpacesWrong : ChangeSpec := { name := "mmuSpaces", fn := fun _ => fun
  | [d1, d2, d3, d4] => { results := [.lit (.bool false)], args := [d1, d2, d3, d4] }
  | _ => none }
def MmuSpacesWrongFalsely : Prop := mmuSpacesRow.holds Try.pinned (OpenSpec.ofChange mmuSpacesWrong)

/- THE SECOND FORM. 'bulk': how many values and letters a reading holds, each counted each time it is reached (what is shared counts as often as it is met; a slice's spare places count too). A statement '..UptoSaid' is the law's where the arguments, and the package variables that the reading takes, are together of bulk at most 1048576: NARROWER than '..Said'. Prove '..Said' where nothing that the law and all that it calls make is longer than what came in: it says more and counts as full. Else prove '..UptoSaid'. A law counts once. -/
mutual
def uptoBulk {H : Type} : DataW H → Nat
  | .lit (.string bytes) => bytes.length + 1
  | .lit _ => 1
  | .nil => 1
  | .ptr d => uptoBulk d + 1
  | .slice elems spare => uptoBulkAll elems + uptoBulkAll spare + 1
  | .agg parts => uptoBulkAll parts + 1
  | .iface _ d => uptoBulk d + 1
  | .map entries => uptoBulkEntries entries + 1
  | .held _ => 1
def uptoBulkAll {H : Type} : List (DataW H) → Nat
  | [] => 0
  | d :: r => uptoBulk d + uptoBulkAll r
def uptoBulkEntries {H : Type} : List (Lit × DataW H) → Nat
  | [] => 0
  | x :: r => uptoBulkEntry x + uptoBulkEntries r
def uptoBulkEntry {H : Type} : Lit × DataW H → Nat
  | (.string bytes, d) => bytes.length + uptoBulk d + 1
  | (_, d) => uptoBulk d + 1
 end
def uptoSmall : (H : Type) → List (DataW H) → Bool := fun _ ds => decide (uptoBulkAll ds ≤ 1048576)
def OpenSpec.upto (s : _root_.Go.ChangeSpec) : _root_.Go.OpenSpec := { _root_.Go.OpenSpec.ofChange s with cond := some uptoSmall }

/-- 'silhouettelaw15.MmuKnown', WHERE WHAT IT READS IS OF BULK AT MOST 1048576: true; the input reads as it did. -/
def mmuKnownUptoRow : OpenClaim := { program := "ytlcdjdchcjnhfaa", sum := "e2fd76094ce7020fa70a9170fc4e0d6b56efb55b6289dd7f098a5784980265c0", func := "silhouette/silhouettelaw15.MmuKnown", spec := "mmuKnown", unfollowed := true, recurses := true, apart := false, narrowed := true }
def MmuKnownUptoSaid : Prop := mmuKnownUptoRow.holds Try.pinned (OpenSpec.upto mmuKnownSpec)

/-- 'silhouettelaw15.MmuFinds', WHERE WHAT IT READS IS OF BULK AT MOST 1048576: true; the input reads as it did. -/
def mmuFindsUptoRow : OpenClaim := { program := "ytlcdjdchcjnhfaa", sum := "e2fd76094ce7020fa70a9170fc4e0d6b56efb55b6289dd7f098a5784980265c0", func := "silhouette/silhouettelaw15.MmuFinds", spec := "mmuFinds", unfollowed := true, recurses := true, apart := false, narrowed := true }
def MmuFindsUptoSaid : Prop := mmuFindsUptoRow.holds Try.pinned (OpenSpec.upto mmuFindsSpec)

/-- 'silhouettelaw15.MmuMeets', WHERE WHAT IT READS IS OF BULK AT MOST 1048576: true; the input reads as it did. -/
def mmuMeetsUptoRow : OpenClaim := { program := "ytlcdjdchcjnhfaa", sum := "e2fd76094ce7020fa70a9170fc4e0d6b56efb55b6289dd7f098a5784980265c0", func := "silhouette/silhouettelaw15.MmuMeets", spec := "mmuMeets", unfollowed := true, recurses := true, apart := false, narrowed := true }
def MmuMeetsUptoSaid : Prop := mmuMeetsUptoRow.holds Try.pinned (OpenSpec.upto mmuMeetsSpec)

/-- 'silhouettelaw15.MmuTables', WHERE WHAT IT READS IS OF BULK AT MOST 1048576: true; the input reads as it did. -/
def mmuTablesUptoRow : OpenClaim := { program := "ytlcdjdchcjnhfaa", sum := "e2fd76094ce7020fa70a9170fc4e0d6b56efb55b6289dd7f098a5784980265c0", func := "silhouette/silhouettelaw15.MmuTables", spec := "mmuTables", unfollowed := true, recurses := true, apart := false, narrowed := true }
def MmuTablesUptoSaid : Prop := mmuTablesUptoRow.holds Try.pinned (OpenSpec.upto mmuTablesSpec)

/-- 'silhouettelaw15.MmuPlays', WHERE WHAT IT READS IS OF BULK AT MOST 1048576: true; the input reads as it did. -/
def mmuPlaysUptoRow : OpenClaim := { program := "ytlcdjdchcjnhfaa", sum := "e2fd76094ce7020fa70a9170fc4e0d6b56efb55b6289dd7f098a5784980265c0", func := "silhouette/silhouettelaw15.MmuPlays", spec := "mmuPlays", unfollowed := true, recurses := true, apart := false, narrowed := true }
def MmuPlaysUptoSaid : Prop := mmuPlaysUptoRow.holds Try.pinned (OpenSpec.upto mmuPlaysSpec)

/-- 'silhouettelaw15.MmuFresh', WHERE WHAT IT READS IS OF BULK AT MOST 1048576: true; the input reads as it did. -/
def mmuFreshUptoRow : OpenClaim := { program := "ytlcdjdchcjnhfaa", sum := "e2fd76094ce7020fa70a9170fc4e0d6b56efb55b6289dd7f098a5784980265c0", func := "silhouette/silhouettelaw15.MmuFresh", spec := "mmuFresh", unfollowed := true, recurses := true, apart := false, narrowed := true }
def MmuFreshUptoSaid : Prop := mmuFreshUptoRow.holds Try.pinned (OpenSpec.upto mmuFreshSpec)

/-- 'silhouettelaw15.MmuSpaces', WHERE WHAT IT READS IS OF BULK AT MOST 1048576: true; the input reads as it did. -/
def mmuSpacesUptoRow : OpenClaim := { program := "ytlcdjdchcjnhfaa", sum := "e2fd76094ce7020fa70a9170fc4e0d6b56efb55b6289dd7f098a5784980265c0", func := "silhouette/silhouettelaw15.MmuSpaces", spec := "mmuSpaces", unfollowed := true, recurses := true, apart := false, narrowed := true }
def MmuSpacesUptoSaid : Prop := mmuSpacesUptoRow.holds Try.pinned (OpenSpec.upto mmuSpacesSpec)

end Rows
end Go.Proofs.Ytlcdjdchcjnhfaa
