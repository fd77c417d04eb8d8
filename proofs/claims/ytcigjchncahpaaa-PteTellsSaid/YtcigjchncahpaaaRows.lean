/-
  No cell of these rows narrows 'for every input' (looked for: loops, veiled, ifaces, maps, wideKeys, modest, calm, conditions, laid).
  DERIVED. THE GIVEN ROWS OF THIS SEAT. 6 by the template 'for every input the law returns true; each argument reads behind the call as it read before'; 0 by the template 'total and deterministic' (their statements: YtcigjchncahpaaaTotals.lean).
  GIVEN WITH THE SEED: the statements are not yours to turn. If you find one false, say at which input.
  Laid BY PROGRAM, IN A SANDBOX (cutbox-rows.mjs): the forced cells as the released guide's own fill.sh prints them over the translation eb0611a8b9c5a3af… (all of the seat's roots in one cut). By AI agents, Wed Nov 11 2026. No macro, syntax, notation, axiom, sorry.
-/
import Derived.Test.YtcigjchncahpaaaChecked
import GoSem.Claim
import GoSem.ClaimJoined
import GoSem.ClaimMapViews
import Derived.JoinedTies
import Derived.KernelRfl
namespace Go.Proofs.Ytcigjchncahpaaa
/- THE CELL 'sum', in the pinned program and in every row, IS THE sha256 OF THE DUMP (.gsa) THAT YtcigjchncahpaaaProg.lean LOADS. Nothing in Lean hashes anything: it is a label: what it is worth is what the hold of that sum in a sandbox is worth. -/
noncomputable def Try.pinned : Pinned := { name := "ytcigjchncahpaaa", sum := "eb0611a8b9c5a3afd23279577d9f2f68297bd817e5c9d88c605ca9dd4938f1e9", checked := Try.checked }
namespace Rows
def none {H : Type} : Left H := { results := [], args := [] }

/-- 'silhouettelaw04.PteTells': WHATEVER THE INPUT: true; the input reads as it did. -/
def pteTellsSpec : ChangeSpec := { name := "pteTells", fn := fun _ => fun
  | [d1, d2, d3] => { results := [.lit (.bool true)], args := [d1, d2, d3] }
  | _ => none }
def pteTellsRow : OpenClaim := { program := "ytcigjchncahpaaa", sum := "eb0611a8b9c5a3afd23279577d9f2f68297bd817e5c9d88c605ca9dd4938f1e9", func := "silhouette/silhouettelaw04.PteTells", spec := "pteTells", apart := false }
def PteTellsSaid : Prop := pteTellsRow.holds Try.pinned (OpenSpec.ofChange pteTellsSpec)

/-- ITS FALSE NEIGHBOUR: 'it returns false'. Refute it at one input. -/
def pteTellsWrong : ChangeSpec := { name := "pteTells", fn := fun _ => fun
  | [d1, d2, d3] => { results := [.lit (.bool false)], args := [d1, d2, d3] }
  | _ => none }
def PteTellsWrongFalsely : Prop := pteTellsRow.holds Try.pinned (OpenSpec.ofChange pteTellsWrong)

/-- 'silhouettelaw04.PteBack': WHATEVER THE INPUT: true; the input reads as it did. -/
def pteBackSpec : ChangeSpec := { name := "pteBack", fn := fun _ => fun
  | [d1, d2] => { results := [.lit (.bool true)], args := [d1, d2] }
  | _ => none }
def pteBackRow : OpenClaim := { program := "ytcigjchncahpaaa", sum := "eb0611a8b9c5a3afd23279577d9f2f68297bd817e5c9d88c605ca9dd4938f1e9", func := "silhouette/silhouettelaw04.PteBack", spec := "pteBack", apart := false }
def PteBackSaid : Prop := pteBackRow.holds Try.pinned (OpenSpec.ofChange pteBackSpec)

/-- ITS FALSE NEIGHBOUR: 'it returns false'. Refute it at one input. -/
def pteBackWrong : ChangeSpec := { name := "pteBack", fn := fun _ => fun
  | [d1, d2] => { results := [.lit (.bool false)], args := [d1, d2] }
  | _ => none }
def PteBackWrongFalsely : Prop := pteBackRow.holds Try.pinned (OpenSpec.ofChange pteBackWrong)

/-- 'silhouettelaw04.PteUsed': WHATEVER THE INPUT: true; the input reads as it did. -/
def pteUsedSpec : ChangeSpec := { name := "pteUsed", fn := fun _ => fun
  | [d1, d2] => { results := [.lit (.bool true)], args := [d1, d2] }
  | _ => none }
def pteUsedRow : OpenClaim := { program := "ytcigjchncahpaaa", sum := "eb0611a8b9c5a3afd23279577d9f2f68297bd817e5c9d88c605ca9dd4938f1e9", func := "silhouette/silhouettelaw04.PteUsed", spec := "pteUsed", apart := false }
def PteUsedSaid : Prop := pteUsedRow.holds Try.pinned (OpenSpec.ofChange pteUsedSpec)

/-- ITS FALSE NEIGHBOUR: 'it returns false'. Refute it at one input. -/
def pteUsedWrong : ChangeSpec := { name := "pteUsed", fn := fun _ => fun
  | [d1, d2] => { results := [.lit (.bool false)], args := [d1, d2] }
  | _ => none }
def PteUsedWrongFalsely : Prop := pteUsedRow.holds Try.pinned (OpenSpec.ofChange pteUsedWrong)

/-- 'silhouettelaw04.PteBits': WHATEVER THE INPUT: true; the input reads as it did. -/
def pteBitsSpec : ChangeSpec := { name := "pteBits", fn := fun _ => fun
  | [d1, d2] => { results := [.lit (.bool true)], args := [d1, d2] }
  | _ => none }
def pteBitsRow : OpenClaim := { program := "ytcigjchncahpaaa", sum := "eb0611a8b9c5a3afd23279577d9f2f68297bd817e5c9d88c605ca9dd4938f1e9", func := "silhouette/silhouettelaw04.PteBits", spec := "pteBits", apart := false }
def PteBitsSaid : Prop := pteBitsRow.holds Try.pinned (OpenSpec.ofChange pteBitsSpec)

/-- ITS FALSE NEIGHBOUR: 'it returns false'. Refute it at one input. -/
def pteBitsWrong : ChangeSpec := { name := "pteBits", fn := fun _ => fun
  | [d1, d2] => { results := [.lit (.bool false)], args := [d1, d2] }
  | _ => none }
def PteBitsWrongFalsely : Prop := pteBitsRow.holds Try.pinned (OpenSpec.ofChange pteBitsWrong)

/-- 'silhouettelaw04.PteUnlike': WHATEVER THE INPUT: true; the input reads as it did. -/
def pteUnlikeSpec : ChangeSpec := { name := "pteUnlike", fn := fun _ => fun
  | [d1, d2, d3, d4] => { results := [.lit (.bool true)], args := [d1, d2, d3, d4] }
  | _ => none }
def pteUnlikeRow : OpenClaim := { program := "ytcigjchncahpaaa", sum := "eb0611a8b9c5a3afd23279577d9f2f68297bd817e5c9d88c605ca9dd4938f1e9", func := "silhouette/silhouettelaw04.PteUnlike", spec := "pteUnlike", apart := false }
def PteUnlikeSaid : Prop := pteUnlikeRow.holds Try.pinned (OpenSpec.ofChange pteUnlikeSpec)

/-- ITS FALSE NEIGHBOUR: 'it returns false'. Refute it at one input. -/
def pteUnlikeWrong : ChangeSpec := { name := "pteUnlike", fn := fun _ => fun
  | [d1, d2, d3, d4] => { results := [.lit (.bool false)], args := [d1, d2, d3, d4] }
  | _ => none }
def PteUnlikeWrongFalsely : Prop := pteUnlikeRow.holds Try.pinned (OpenSpec.ofChange pteUnlikeWrong)

/-- 'silhouettelaw04.PteFrames': WHATEVER THE INPUT: true; the input reads as it did. -/
def pteFramesSpec : ChangeSpec := { name := "pteFrames", fn := fun _ => fun
  | [d1, d2] => { results := [.lit (.bool true)], args := [d1, d2] }
  | _ => none }
def pteFramesRow : OpenClaim := { program := "ytcigjchncahpaaa", sum := "eb0611a8b9c5a3afd23279577d9f2f68297bd817e5c9d88c605ca9dd4938f1e9", func := "silhouette/silhouettelaw04.PteFrames", spec := "pteFrames", apart := false }
def PteFramesSaid : Prop := pteFramesRow.holds Try.pinned (OpenSpec.ofChange pteFramesSpec)

/-- ITS FALSE NEIGHBOUR: 'it returns false'. Refute it at one input. -/
def pteFramesWrong : ChangeSpec := { name := "pteFrames", fn := fun _ => fun
  | [d1, d2] => { results := [.lit (.bool false)], args := [d1, d2] }
  | _ => none }
def PteFramesWrongFalsely : Prop := pteFramesRow.holds Try.pinned (OpenSpec.ofChange pteFramesWrong)

/- THE SECOND FORM. 'bulk': how many values and letters a reading holds, each counted each time it is reached (what is shared counts as often as it is met; a slice's spare places count too). A statement '..UptoSaid' is the law's where the arguments, and the package variables that the reading takes, are together of bulk at most 1048576: NARROWER than '..Said'. Prove '..Said' where nothing that the law and all that it calls make is longer than what came in: it says more and counts as full. Else prove '..UptoSaid'. A law counts once. -/
mutual
def uptoBulk {H : Type} : DataW H → Nat
  | .lit (.string bytes) => bytes.length + 1
  | .lit _ => 1
  | .nil => 1
  | .ptr d => uptoBulk d + 1
  | .slice elems spare => uptoBulkAll elems + uptoBulkAll spare + 1
  | .agg parts => uptoBulkAll parts + 1
  | .iface _ d => uptoBulk d + 1
  | .map entries => uptoBulkEntries entries + 1
  | .held _ => 1
def uptoBulkAll {H : Type} : List (DataW H) → Nat
  | [] => 0
  | d :: r => uptoBulk d + uptoBulkAll r
def uptoBulkEntries {H : Type} : List (Lit × DataW H) → Nat
  | [] => 0
  | x :: r => uptoBulkEntry x + uptoBulkEntries r
def uptoBulkEntry {H : Type} : Lit × DataW H → Nat
  | (.string bytes, d) => bytes.length + uptoBulk d + 1
  | (_, d) => uptoBulk d + 1
 end
def uptoSmall : (H : Type) → List (DataW H) → Bool := fun _ ds => decide (uptoBulkAll ds ≤ 1048576)
def OpenSpec.upto (s : _root_.Go.ChangeSpec) : _root_.Go.OpenSpec := { _root_.Go.OpenSpec.ofChange s with cond := some uptoSmall }

/-- 'silhouettelaw04.PteTells', WHERE WHAT IT READS IS OF BULK AT MOST 1048576: true; the input reads as it did. -/
def pteTellsUptoRow : OpenClaim := { program := "ytcigjchncahpaaa", sum := "eb0611a8b9c5a3afd23279577d9f2f68297bd817e5c9d88c605ca9dd4938f1e9", func := "silhouette/silhouettelaw04.PteTells", spec := "pteTells", apart := false, narrowed := true }
def PteTellsUptoSaid : Prop := pteTellsUptoRow.holds Try.pinned (OpenSpec.upto pteTellsSpec)

/-- 'silhouettelaw04.PteBack', WHERE WHAT IT READS IS OF BULK AT MOST 1048576: true; the input reads as it did. -/
def pteBackUptoRow : OpenClaim := { program := "ytcigjchncahpaaa", sum := "eb0611a8b9c5a3afd23279577d9f2f68297bd817e5c9d88c605ca9dd4938f1e9", func := "silhouette/silhouettelaw04.PteBack", spec := "pteBack", apart := false, narrowed := true }
def PteBackUptoSaid : Prop := pteBackUptoRow.holds Try.pinned (OpenSpec.upto pteBackSpec)

/-- 'silhouettelaw04.PteUsed', WHERE WHAT IT READS IS OF BULK AT MOST 1048576: true; the input reads as it did. -/
def pteUsedUptoRow : OpenClaim := { program := "ytcigjchncahpaaa", sum := "eb0611a8b9c5a3afd23279577d9f2f68297bd817e5c9d88c605ca9dd4938f1e9", func := "silhouette/silhouettelaw04.PteUsed", spec := "pteUsed", apart := false, narrowed := true }
def PteUsedUptoSaid : Prop := pteUsedUptoRow.holds Try.pinned (OpenSpec.upto pteUsedSpec)

/-- 'silhouettelaw04.PteBits', WHERE WHAT IT READS IS OF BULK AT MOST 1048576: true; the input reads as it did. -/
def pteBitsUptoRow : OpenClaim := { program := "ytcigjchncahpaaa", sum := "eb0611a8b9c5a3afd23279577d9f2f68297bd817e5c9d88c605ca9dd4938f1e9", func := "silhouette/silhouettelaw04.PteBits", spec := "pteBits", apart := false, narrowed := true }
def PteBitsUptoSaid : Prop := pteBitsUptoRow.holds Try.pinned (OpenSpec.upto pteBitsSpec)

/-- 'silhouettelaw04.PteUnlike', WHERE WHAT IT READS IS OF BULK AT MOST 1048576: true; the input reads as it did. -/
def pteUnlikeUptoRow : OpenClaim := { program := "ytcigjchncahpaaa", sum := "eb0611a8b9c5a3afd23279577d9f2f68297bd817e5c9d88c605ca9dd4938f1e9", func := "silhouette/silhouettelaw04.PteUnlike", spec := "pteUnlike", apart := false, narrowed := true }
def PteUnlikeUptoSaid : Prop := pteUnlikeUptoRow.holds Try.pinned (OpenSpec.upto pteUnlikeSpec)

/-- 'silhouettelaw04.PteFrames', WHERE WHAT IT READS IS OF BULK AT MOST 1048576: true; the input reads as it did. -/
def pteFramesUptoRow : OpenClaim := { program := "ytcigjchncahpaaa", sum := "eb0611a8b9c5a3afd23279577d9f2f68297bd817e5c9d88c605ca9dd4938f1e9", func := "silhouette/silhouettelaw04.PteFrames", spec := "pteFrames", apart := false, narrowed := true }
def PteFramesUptoSaid : Prop := pteFramesUptoRow.holds Try.pinned (OpenSpec.upto pteFramesSpec)

end Rows
end Go.Proofs.Ytcigjchncahpaaa
