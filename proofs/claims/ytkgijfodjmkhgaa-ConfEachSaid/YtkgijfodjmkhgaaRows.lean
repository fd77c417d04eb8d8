/-
  No cell of these rows narrows 'for every input' (looked for: loops, veiled, ifaces, maps, wideKeys, modest, calm, conditions, laid).
  DERIVED. THE GIVEN ROWS OF THIS SEAT. 6 by the template 'for every input the law returns true; each argument reads behind the call as it read before'; 0 by the template 'total and deterministic' (their statements: YtkgijfodjmkhgaaTotals.lean).
  GIVEN WITH THE SEED: the statements are not yours to turn. If you find one false, say at which input.
  Laid BY PROGRAM, IN A SANDBOX (cutbox-rows.mjs): the forced cells as the released guide's own fill.sh prints them over the translation f476893ac8589e19… (all of the seat's roots in one cut). By AI agents, Wed Nov 11 2026. No macro, syntax, notation, axiom, sorry.
-/
import Derived.Test.YtkgijfodjmkhgaaChecked
import GoSem.Claim
import GoSem.ClaimJoined
import GoSem.ClaimMapViews
import Derived.JoinedTies
import Derived.KernelRfl
namespace Go.Proofs.Ytkgijfodjmkhgaa
/- THE CELL 'sum', in the pinned program and in every row, IS THE sha256 OF THE DUMP (.gsa) THAT YtkgijfodjmkhgaaProg.lean LOADS. Nothing in Lean hashes anything: it is a label: what it is worth is what the hold of that sum in a sandbox is worth. -/
noncomputable def Try.pinned : Pinned := { name := "ytkgijfodjmkhgaa", sum := "f476893ac8589e197b4dd9639906975c834413f0acd8c17ea78ada31f64e0250", checked := Try.checked }
namespace Rows
def none {H : Type} : Left H := { results := [], args := [] }

/-- 'silhouettelaw13.ConfTells': WHATEVER THE INPUT: true; the input reads as it did. -/
def confTellsSpec : ChangeSpec := { name := "confTells", fn := fun _ => fun
  | [d] => { results := [.lit (.bool true)], args := [d] }
  | _ => none }
def confTellsRow : OpenClaim := { program := "ytkgijfodjmkhgaa", sum := "f476893ac8589e197b4dd9639906975c834413f0acd8c17ea78ada31f64e0250", func := "silhouette/silhouettelaw13.ConfTells", spec := "confTells", unfollowed := true, recurses := true, apart := false }
def ConfTellsSaid : Prop := confTellsRow.holds Try.pinned (OpenSpec.ofChange confTellsSpec)

/-- ITS FALSE NEIGHBOUR: 'it returns false'. Refute it at one input. -/
def confTellsWrong : ChangeSpec := { name := "confTells", fn := fun _ => fun
  | [d] => { results := [.lit (.bool false)], args := [d] }
  | _ => none }
def ConfTellsWrongFalsely : Prop := confTellsRow.holds Try.pinned (OpenSpec.ofChange confTellsWrong)

/-- 'silhouettelaw13.ConfEach': WHATEVER THE INPUT: true; the input reads as it did. -/
def confEachSpec : ChangeSpec := { name := "confEach", fn := fun _ => fun
  | [d] => { results := [.lit (.bool true)], args := [d] }
  | _ => none }
def confEachRow : OpenClaim := { program := "ytkgijfodjmkhgaa", sum := "f476893ac8589e197b4dd9639906975c834413f0acd8c17ea78ada31f64e0250", func := "silhouette/silhouettelaw13.ConfEach", spec := "confEach", unfollowed := true, recurses := true, apart := false }
def ConfEachSaid : Prop := confEachRow.holds Try.pinned (OpenSpec.ofChange confEachSpec)

/-- ITS FALSE NEIGHBOUR: 'it returns false'. Refute it at one input. -/
def confEachWrong : ChangeSpec := { name := "confEach", fn := fun _ => fun
  | [d] => { results := [.lit (.bool false)], args := [d] }
  | _ => none }
def ConfEachWrongFalsely : Prop := confEachRow.holds Try.pinned (OpenSpec.ofChange confEachWrong)

/-- 'silhouettelaw13.ConfBounds': WHATEVER THE INPUT: true; the input reads as it did. -/
def confBoundsSpec : ChangeSpec := { name := "confBounds", fn := fun _ => fun
  | [d1, d2] => { results := [.lit (.bool true)], args := [d1, d2] }
  | _ => none }
def confBoundsRow : OpenClaim := { program := "ytkgijfodjmkhgaa", sum := "f476893ac8589e197b4dd9639906975c834413f0acd8c17ea78ada31f64e0250", func := "silhouette/silhouettelaw13.ConfBounds", spec := "confBounds", unfollowed := true, recurses := true, apart := false }
def ConfBoundsSaid : Prop := confBoundsRow.holds Try.pinned (OpenSpec.ofChange confBoundsSpec)

/-- ITS FALSE NEIGHBOUR: 'it returns false'. Refute it at one input. -/
def confBoundsWrong : ChangeSpec := { name := "confBounds", fn := fun _ => fun
  | [d1, d2] => { results := [.lit (.bool false)], args := [d1, d2] }
  | _ => none }
def ConfBoundsWrongFalsely : Prop := confBoundsRow.holds Try.pinned (OpenSpec.ofChange confBoundsWrong)

/-- 'silhouettelaw13.ConfRoom': WHATEVER THE INPUT: true; the input reads as it did. -/
def confRoomSpec : ChangeSpec := { name := "confRoom", fn := fun _ => fun
  | [d] => { results := [.lit (.bool true)], args := [d] }
  | _ => none }
def confRoomRow : OpenClaim := { program := "ytkgijfodjmkhgaa", sum := "f476893ac8589e197b4dd9639906975c834413f0acd8c17ea78ada31f64e0250", func := "silhouette/silhouettelaw13.ConfRoom", spec := "confRoom", unfollowed := true, recurses := true, apart := false }
def ConfRoomSaid : Prop := confRoomRow.holds Try.pinned (OpenSpec.ofChange confRoomSpec)

/-- ITS FALSE NEIGHBOUR: 'it returns false'. Refute it at one input. -/
def confRoomWrong : ChangeSpec := { name := "confRoom", fn := fun _ => fun
  | [d] => { results := [.lit (.bool false)], args := [d] }
  | _ => none }
def ConfRoomWrongFalsely : Prop := confRoomRow.holds Try.pinned (OpenSpec.ofChange confRoomWrong)

/-- 'silhouettelaw13.ConfMap': WHATEVER THE INPUT: true; the input reads as it did. -/
def confMapSpec : ChangeSpec := { name := "confMap", fn := fun _ => fun
  | [d1, d2] => { results := [.lit (.bool true)], args := [d1, d2] }
  | _ => none }
def confMapRow : OpenClaim := { program := "ytkgijfodjmkhgaa", sum := "f476893ac8589e197b4dd9639906975c834413f0acd8c17ea78ada31f64e0250", func := "silhouette/silhouettelaw13.ConfMap", spec := "confMap", unfollowed := true, recurses := true, apart := false }
def ConfMapSaid : Prop := confMapRow.holds Try.pinned (OpenSpec.ofChange confMapSpec)

/-- ITS FALSE NEIGHBOUR: 'it returns false'. Refute it at one input. -/
def confMapWrong : ChangeSpec := { name := "confMap", fn := fun _ => fun
  | [d1, d2] => { results := [.lit (.bool false)], args := [d1, d2] }
  | _ => none }
def ConfMapWrongFalsely : Prop := confMapRow.holds Try.pinned (OpenSpec.ofChange confMapWrong)

/-- 'silhouettelaw13.ConfPool': WHATEVER THE INPUT: true; the input reads as it did. -/
def confPoolSpec : ChangeSpec := { name := "confPool", fn := fun _ => fun
  | [d1, d2] => { results := [.lit (.bool true)], args := [d1, d2] }
  | _ => none }
def confPoolRow : OpenClaim := { program := "ytkgijfodjmkhgaa", sum := "f476893ac8589e197b4dd9639906975c834413f0acd8c17ea78ada31f64e0250", func := "silhouette/silhouettelaw13.ConfPool", spec := "confPool", unfollowed := true, recurses := true, apart := false }
def ConfPoolSaid : Prop := confPoolRow.holds Try.pinned (OpenSpec.ofChange confPoolSpec)

/-- ITS FALSE NEIGHBOUR: 'it returns false'. Refute it at one input. -/
def confPoolWrong : ChangeSpec := { name := "confPool", fn := fun _ => fun
  | [d1, d2] => { results := [.lit (.bool false)], args := [d1, d2] }
  | _ => none }
def ConfPoolWrongFalsely : Prop := confPoolRow.holds Try.pinned (OpenSpec.ofChange confPoolWrong)

/- THE SECOND FORM. 'bulk': how many values and letters a reading holds, each counted each time it is reached (what is shared counts as often as it is met; a slice's spare places count too). A statement '..UptoSaid' is the law's where the arguments, and the package variables that the reading takes, are together of bulk at most 1048576: NARROWER than '..Said'. Prove '..Said' where nothing that the law and all that it calls make is longer than what came in: it says more and counts as full. Else prove '..UptoSaid'. A law counts once. -/
mutual
def uptoBulk {H : Type} : DataW H → Nat
  | .lit (.string bytes) => bytes.length + 1
  | .lit _ => 1
  | .nil => 1
  | .ptr d => uptoBulk d + 1
  | .slice elems spare => uptoBulkAll elems + uptoBulkAll spare + 1
  | .agg parts => uptoBulkAll parts + 1
  | .iface _ d => uptoBulk d + 1
  | .map entries => uptoBulkEntries entries + 1
  | .held _ => 1
def uptoBulkAll {H : Type} : List (DataW H) → Nat
  | [] => 0
  | d :: r => uptoBulk d + uptoBulkAll r
def uptoBulkEntries {H : Type} : List (Lit × DataW H) → Nat
  | [] => 0
  | x :: r => uptoBulkEntry x + uptoBulkEntries r
def uptoBulkEntry {H : Type} : Lit × DataW H → Nat
  | (.string bytes, d) => bytes.length + uptoBulk d + 1
  | (_, d) => uptoBulk d + 1
 end
def uptoSmall : (H : Type) → List (DataW H) → Bool := fun _ ds => decide (uptoBulkAll ds ≤ 1048576)
def OpenSpec.upto (s : _root_.Go.ChangeSpec) : _root_.Go.OpenSpec := { _root_.Go.OpenSpec.ofChange s with cond := some uptoSmall }

/-- 'silhouettelaw13.ConfTells', WHERE WHAT IT READS IS OF BULK AT MOST 1048576: true; the input reads as it did. -/
def confTellsUptoRow : OpenClaim := { program := "ytkgijfodjmkhgaa", sum := "f476893ac8589e197b4dd9639906975c834413f0acd8c17ea78ada31f64e0250", func := "silhouette/silhouettelaw13.ConfTells", spec := "confTells", unfollowed := true, recurses := true, apart := false, narrowed := true }
def ConfTellsUptoSaid : Prop := confTellsUptoRow.holds Try.pinned (OpenSpec.upto confTellsSpec)

/-- 'silhouettelaw13.ConfEach', WHERE WHAT IT READS IS OF BULK AT MOST 1048576: true; the input reads as it did. -/
def confEachUptoRow : OpenClaim := { program := "ytkgijfodjmkhgaa", sum := "f476893ac8589e197b4dd9639906975c834413f0acd8c17ea78ada31f64e0250", func := "silhouette/silhouettelaw13.ConfEach", spec := "confEach", unfollowed := true, recurses := true, apart := false, narrowed := true }
def ConfEachUptoSaid : Prop := confEachUptoRow.holds Try.pinned (OpenSpec.upto confEachSpec)

/-- 'silhouettelaw13.ConfBounds', WHERE WHAT IT READS IS OF BULK AT MOST 1048576: true; the input reads as it did. -/
def confBoundsUptoRow : OpenClaim := { program := "ytkgijfodjmkhgaa", sum := "f476893ac8589e197b4dd9639906975c834413f0acd8c17ea78ada31f64e0250", func := "silhouette/silhouettelaw13.ConfBounds", spec := "confBounds", unfollowed := true, recurses := true, apart := false, narrowed := true }
def ConfBoundsUptoSaid : Prop := confBoundsUptoRow.holds Try.pinned (OpenSpec.upto confBoundsSpec)

/-- 'silhouettelaw13.ConfRoom', WHERE WHAT IT READS IS OF BULK AT MOST 1048576: true; the input reads as it did. -/
def confRoomUptoRow : OpenClaim := { program := "ytkgijfodjmkhgaa", sum := "f476893ac8589e197b4dd9639906975c834413f0acd8c17ea78ada31f64e0250", func := "silhouette/silhouettelaw13.ConfRoom", spec := "confRoom", unfollowed := true, recurses := true, apart := false, narrowed := true }
def ConfRoomUptoSaid : Prop := confRoomUptoRow.holds Try.pinned (OpenSpec.upto confRoomSpec)

/-- 'silhouettelaw13.ConfMap', WHERE WHAT IT READS IS OF BULK AT MOST 1048576: true; the input reads as it did. -/
def confMapUptoRow : OpenClaim := { program := "ytkgijfodjmkhgaa", sum := "f476893ac8589e197b4dd9639906975c834413f0acd8c17ea78ada31f64e0250", func := "silhouette/silhouettelaw13.ConfMap", spec := "confMap", unfollowed := true, recurses := true, apart := false, narrowed := true }
def ConfMapUptoSaid : Prop := confMapUptoRow.holds Try.pinned (OpenSpec.upto confMapSpec)

/-- 'silhouettelaw13.ConfPool', WHERE WHAT IT READS IS OF BULK AT MOST 1048576: true; the input reads as it did. -/
def confPoolUptoRow : OpenClaim := { program := "ytkgijfodjmkhgaa", sum := "f476893ac8589e197b4dd9639906975c834413f0acd8c17ea78ada31f64e0250", func := "silhouette/silhouettelaw13.ConfPool", spec := "confPool", unfollowed := true, recurses := true, apart := false, narrowed := true }
def ConfPoolUptoSaid : Prop := confPoolUptoRow.holds Try.pinned (OpenSpec.upto confPoolSpec)

end Rows
end Go.Proofs.Ytkgijfodjmkhgaa
