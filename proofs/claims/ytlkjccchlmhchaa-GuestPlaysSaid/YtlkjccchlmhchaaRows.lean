/-
  No cell of these rows narrows 'for every input' (looked for: loops, veiled, ifaces, maps, wideKeys, modest, calm, conditions, laid).
  DERIVED. THE GIVEN ROWS OF THIS SEAT. 6 by the template 'for every input the law returns true; each argument reads behind the call as it read before'; 0 by the template 'total and deterministic' (their statements: YtlkjccchlmhchaaTotals.lean).
  GIVEN WITH THE SEED: the statements are not yours to turn. If you find one false, say at which input.
  Laid BY PROGRAM, IN A SANDBOX (cutbox-rows.mjs): the forced cells as the released guide's own fill.sh prints them over the translation 4747dcdb5de4d2a2… (all of the seat's roots in one cut). By AI agents, Wed Nov 11 2026. No macro, syntax, notation, axiom, sorry.
-/
import Derived.Test.YtlkjccchlmhchaaChecked
import GoSem.Claim
import GoSem.ClaimJoined
import GoSem.ClaimMapViews
import Derived.JoinedTies
import Derived.KernelRfl
namespace Go.Proofs.Ytlkjccchlmhchaa
/- THE CELL 'sum', in the pinned program and in every row, IS THE sha256 OF THE DUMP (.gsa) THAT YtlkjccchlmhchaaProg.lean LOADS. Nothing in Lean hashes anything: it is a label: what it is worth is what the hold of that sum in a sandbox is worth. -/
noncomputable def Try.pinned : Pinned := { name := "ytlkjccchlmhchaa", sum := "4747dcdb5de4d2a2ab61892d9be419c6ee46c7935c9c6d7b3928478c1f576a3f", checked := Try.checked }
namespace Rows
def none {H : Type} : Left H := { results := [], args := [] }

/-- 'silhouettelaw07.GuestTwo': WHATEVER THE INPUT: true; the input reads as it did. -/
def guestTwoSpec : ChangeSpec := { name := "guestTwo", fn := fun _ => fun
  | [d1, d2, d3] => { results := [.lit (.bool true)], args := [d1, d2, d3] }
  | _ => none }
def guestTwoRow : OpenClaim := { program := "ytlkjccchlmhchaa", sum := "4747dcdb5de4d2a2ab61892d9be419c6ee46c7935c9c6d7b3928478c1f576a3f", func := "silhouette/silhouettelaw07.GuestTwo", spec := "guestTwo", apart := false }
def GuestTwoSaid : Prop := guestTwoRow.holds Try.pinned (OpenSpec.ofChange guestTwoSpec)

/-- ITS FALSE NEIGHBOUR: 'it returns false'. Refute it at one input. -/
def guestTwoWrong : ChangeSpec := { name := "guestTwo", fn := fun _ => fun
  | [d1, d2, d3] => { results := [.lit (.bool false)], args := [d1, d2, d3] }
  | _ => none }
def GuestTwoWrongFalsely : Prop := guestTwoRow.holds Try.pinned (OpenSpec.ofChange guestTwoWrong)

/-- 'silhouettelaw07.GuestLoads': WHATEVER THE INPUT: true; the input reads as it did. -/
def guestLoadsSpec : ChangeSpec := { name := "guestLoads", fn := fun _ => fun
  | [d1, d2] => { results := [.lit (.bool true)], args := [d1, d2] }
  | _ => none }
def guestLoadsRow : OpenClaim := { program := "ytlkjccchlmhchaa", sum := "4747dcdb5de4d2a2ab61892d9be419c6ee46c7935c9c6d7b3928478c1f576a3f", func := "silhouette/silhouettelaw07.GuestLoads", spec := "guestLoads", apart := false }
def GuestLoadsSaid : Prop := guestLoadsRow.holds Try.pinned (OpenSpec.ofChange guestLoadsSpec)

/-- ITS FALSE NEIGHBOUR: 'it returns false'. Refute it at one input. -/
def guestLoadsWrong : ChangeSpec := { name := "guestLoads", fn := fun _ => fun
  | [d1, d2] => { results := [.lit (.bool false)], args := [d1, d2] }
  | _ => none }
def GuestLoadsWrongFalsely : Prop := guestLoadsRow.holds Try.pinned (OpenSpec.ofChange guestLoadsWrong)

/-- 'silhouettelaw07.GuestSets': WHATEVER THE INPUT: true; the input reads as it did. -/
def guestSetsSpec : ChangeSpec := { name := "guestSets", fn := fun _ => fun
  | [d1, d2, d3, d4, d5] => { results := [.lit (.bool true)], args := [d1, d2, d3, d4, d5] }
  | _ => none }
def guestSetsRow : OpenClaim := { program := "ytlkjccchlmhchaa", sum := "4747dcdb5de4d2a2ab61892d9be419c6ee46c7935c9c6d7b3928478c1f576a3f", func := "silhouette/silhouettelaw07.GuestSets", spec := "guestSets", apart := false }
def GuestSetsSaid : Prop := guestSetsRow.holds Try.pinned (OpenSpec.ofChange guestSetsSpec)

/-- ITS FALSE NEIGHBOUR: 'it returns false'. Refute it at one input. -/
def guestSetsWrong : ChangeSpec := { name := "guestSets", fn := fun _ => fun
  | [d1, d2, d3, d4, d5] => { results := [.lit (.bool false)], args := [d1, d2, d3, d4, d5] }
  | _ => none }
def GuestSetsWrongFalsely : Prop := guestSetsRow.holds Try.pinned (OpenSpec.ofChange guestSetsWrong)

/-- 'silhouettelaw07.GuestMaps': WHATEVER THE INPUT: true; the input reads as it did. -/
def guestMapsSpec : ChangeSpec := { name := "guestMaps", fn := fun _ => fun
  | [d1, d2] => { results := [.lit (.bool true)], args := [d1, d2] }
  | _ => none }
def guestMapsRow : OpenClaim := { program := "ytlkjccchlmhchaa", sum := "4747dcdb5de4d2a2ab61892d9be419c6ee46c7935c9c6d7b3928478c1f576a3f", func := "silhouette/silhouettelaw07.GuestMaps", spec := "guestMaps", apart := false }
def GuestMapsSaid : Prop := guestMapsRow.holds Try.pinned (OpenSpec.ofChange guestMapsSpec)

/-- ITS FALSE NEIGHBOUR: 'it returns false'. Refute it at one input. -/
def guestMapsWrong : ChangeSpec := { name := "guestMaps", fn := fun _ => fun
  | [d1, d2] => { results := [.lit (.bool false)], args := [d1, d2] }
  | _ => none }
def GuestMapsWrongFalsely : Prop := guestMapsRow.holds Try.pinned (OpenSpec.ofChange guestMapsWrong)

/-- 'silhouettelaw07.GuestPlays': WHATEVER THE INPUT: true; the input reads as it did. -/
def guestPlaysSpec : ChangeSpec := { name := "guestPlays", fn := fun _ => fun
  | [d1, d2, d3] => { results := [.lit (.bool true)], args := [d1, d2, d3] }
  | _ => none }
def guestPlaysRow : OpenClaim := { program := "ytlkjccchlmhchaa", sum := "4747dcdb5de4d2a2ab61892d9be419c6ee46c7935c9c6d7b3928478c1f576a3f", func := "silhouette/silhouettelaw07.GuestPlays", spec := "guestPlays", apart := false }
def GuestPlaysSaid : Prop := guestPlaysRow.holds Try.pinned (OpenSpec.ofChange guestPlaysSpec)

/-- ITS FALSE NEIGHBOUR: 'it returns false'. Refute it at one input. -/
def guestPlaysWrong : ChangeSpec := { name := "guestPlays", fn := fun _ => fun
  | [d1, d2, d3] => { results := [.lit (.bool false)], args := [d1, d2, d3] }
  | _ => none }
def GuestPlaysWrongFalsely : Prop := guestPlaysRow.holds Try.pinned (OpenSpec.ofChange guestPlaysWrong)

/-- 'silhouettelaw07.GuestWithin': WHATEVER THE INPUT: true; the input reads as it did. -/
def guestWithinSpec : ChangeSpec := { name := "guestWithin", fn := fun _ => fun
  | [d1, d2, d3] => { results := [.lit (.bool true)], args := [d1, d2, d3] }
  | _ => none }
def guestWithinRow : OpenClaim := { program := "ytlkjccchlmhchaa", sum := "4747dcdb5de4d2a2ab61892d9be419c6ee46c7935c9c6d7b3928478c1f576a3f", func := "silhouette/silhouettelaw07.GuestWithin", spec := "guestWithin", apart := false }
def GuestWithinSaid : Prop := guestWithinRow.holds Try.pinned (OpenSpec.ofChange guestWithinSpec)

/-- ITS FALSE NEIGHBOUR: 'it returns false'. Refute it at one input. -/
def guestWithinWrong : ChangeSpec := { name := "guestWithin", fn := fun _ => fun
  | [d1, d2, d3] => { results := [.lit (.bool false)], args := [d1, d2, d3] }
  | _ => none }
def GuestWithinWrongFalsely : Prop := guestWithinRow.holds Try.pinned (OpenSpec.ofChange guestWithinWrong)

/- THE SECOND FORM. 'bulk': how many values and letters a reading holds, each counted each time it is reached (what is shared counts as often as it is met; a slice's spare places count too). A statement '..UptoSaid' is the law's where the arguments, and the package variables that the reading takes, are together of bulk at most 1048576: NARROWER than '..Said'. Prove '..Said' where nothing that the law and all that it calls make is longer than what came in: it says more and counts as full. Else prove '..UptoSaid'. A law counts once. -/
mutual
def uptoBulk {H : Type} : DataW H → Nat
  | .lit (.string bytes) => bytes.length + 1
  | .lit _ => 1
  | .nil => 1
  | .ptr d => uptoBulk d + 1
  | .slice elems spare => uptoBulkAll elems + uptoBulkAll spare + 1
  | .agg parts => uptoBulkAll parts + 1
  | .iface _ d => uptoBulk d + 1
  | .map entries => uptoBulkEntries entries + 1
  | .held _ => 1
def uptoBulkAll {H : Type} : List (DataW H) → Nat
  | [] => 0
  | d :: r => uptoBulk d + uptoBulkAll r
def uptoBulkEntries {H : Type} : List (Lit × DataW H) → Nat
  | [] => 0
  | x :: r => uptoBulkEntry x + uptoBulkEntries r
def uptoBulkEntry {H : Type} : Lit × DataW H → Nat
  | (.string bytes, d) => bytes.length + uptoBulk d + 1
  | (_, d) => uptoBulk d + 1
 end
def uptoSmall : (H : Type) → List (DataW H) → Bool := fun _ ds => decide (uptoBulkAll ds ≤ 1048576)
def OpenSpec.upto (s : _root_.Go.ChangeSpec) : _root_.Go.OpenSpec := { _root_.Go.OpenSpec.ofChange s with cond := some uptoSmall }

/-- 'silhouettelaw07.GuestTwo', WHERE WHAT IT READS IS OF BULK AT MOST 1048576: true; the input reads as it did. -/
def guestTwoUptoRow : OpenClaim := { program := "ytlkjccchlmhchaa", sum := "4747dcdb5de4d2a2ab61892d9be419c6ee46c7935c9c6d7b3928478c1f576a3f", func := "silhouette/silhouettelaw07.GuestTwo", spec := "guestTwo", apart := false, narrowed := true }
def GuestTwoUptoSaid : Prop := guestTwoUptoRow.holds Try.pinned (OpenSpec.upto guestTwoSpec)

/-- 'silhouettelaw07.GuestLoads', WHERE WHAT IT READS IS OF BULK AT MOST 1048576: true; the input reads as it did. -/
def guestLoadsUptoRow : OpenClaim := { program := "ytlkjccchlmhchaa", sum := "4747dcdb5de4d2a2ab61892d9be419c6ee46c7935c9c6d7b3928478c1f576a3f", func := "silhouette/silhouettelaw07.GuestLoads", spec := "guestLoads", apart := false, narrowed := true }
def GuestLoadsUptoSaid : Prop := guestLoadsUptoRow.holds Try.pinned (OpenSpec.upto guestLoadsSpec)

/-- 'silhouettelaw07.GuestSets', WHERE WHAT IT READS IS OF BULK AT MOST 1048576: true; the input reads as it did. -/
def guestSetsUptoRow : OpenClaim := { program := "ytlkjccchlmhchaa", sum := "4747dcdb5de4d2a2ab61892d9be419c6ee46c7935c9c6d7b3928478c1f576a3f", func := "silhouette/silhouettelaw07.GuestSets", spec := "guestSets", apart := false, narrowed := true }
def GuestSetsUptoSaid : Prop := guestSetsUptoRow.holds Try.pinned (OpenSpec.upto guestSetsSpec)

/-- 'silhouettelaw07.GuestMaps', WHERE WHAT IT READS IS OF BULK AT MOST 1048576: true; the input reads as it did. -/
def guestMapsUptoRow : OpenClaim := { program := "ytlkjccchlmhchaa", sum := "4747dcdb5de4d2a2ab61892d9be419c6ee46c7935c9c6d7b3928478c1f576a3f", func := "silhouette/silhouettelaw07.GuestMaps", spec := "guestMaps", apart := false, narrowed := true }
def GuestMapsUptoSaid : Prop := guestMapsUptoRow.holds Try.pinned (OpenSpec.upto guestMapsSpec)

/-- 'silhouettelaw07.GuestPlays', WHERE WHAT IT READS IS OF BULK AT MOST 1048576: true; the input reads as it did. -/
def guestPlaysUptoRow : OpenClaim := { program := "ytlkjccchlmhchaa", sum := "4747dcdb5de4d2a2ab61892d9be419c6ee46c7935c9c6d7b3928478c1f576a3f", func := "silhouette/silhouettelaw07.GuestPlays", spec := "guestPlays", apart := false, narrowed := true }
def GuestPlaysUptoSaid : Prop := guestPlaysUptoRow.holds Try.pinned (OpenSpec.upto guestPlaysSpec)

/-- 'silhouettelaw07.GuestWithin', WHERE WHAT IT READS IS OF BULK AT MOST 1048576: true; the input reads as it did. -/
def guestWithinUptoRow : OpenClaim := { program := "ytlkjccchlmhchaa", sum := "4747dcdb5de4d2a2ab61892d9be419c6ee46c7935c9c6d7b3928478c1f576a3f", func := "silhouette/silhouettelaw07.GuestWithin", spec := "guestWithin", apart := false, narrowed := true }
def GuestWithinUptoSaid : Prop := guestWithinUptoRow.holds Try.pinned (OpenSpec.upto guestWithinSpec)

end Rows
end Go.Proofs.Ytlkjccchlmhchaa
