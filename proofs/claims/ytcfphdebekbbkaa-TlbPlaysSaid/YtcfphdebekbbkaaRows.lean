/-
  No cell of these rows narrows 'for every input' (looked for: loops, veiled, ifaces, maps, wideKeys, modest, calm, conditions, laid).
  DERIVED. THE GIVEN ROWS OF THIS SEAT. 7 by the template 'for every input the law returns true; each argument reads behind the call as it read before'; 0 by the template 'total and deterministic' (their statements: YtcfphdebekbbkaaTotals.lean).
  GIVEN WITH THE SEED: the statements are not yours to turn. If you find one false, say at which input.
  Laid BY PROGRAM, IN A SANDBOX (cutbox-rows.mjs): the forced cells as the released guide's own fill.sh prints them over the translation 87fdda5ad4df8b11… (all of the seat's roots in one cut). By AI agents, Wed Nov 11 2026. No macro, syntax, notation, axiom, sorry.
-/
import Derived.Test.YtcfphdebekbbkaaChecked
import GoSem.Claim
import GoSem.ClaimJoined
import GoSem.ClaimMapViews
import Derived.JoinedTies
import Derived.KernelRfl
namespace Go.Proofs.Ytcfphdebekbbkaa
/- THE CELL 'sum', in the pinned program and in every row, IS THE sha256 OF THE DUMP (.gsa) THAT YtcfphdebekbbkaaProg.lean LOADS. Nothing in Lean hashes anything: it is a label: what it is worth is what the hold of that sum in a sandbox is worth. -/
noncomputable def Try.pinned : Pinned := { name := "ytcfphdebekbbkaa", sum := "87fdda5ad4df8b110c6777aae8d4a13b4b944b56e7f850c76683d2e6f458e752", checked := Try.checked }
namespace Rows
def none {H : Type} : Left H := { results := [], args := [] }

/-- 'silhouettelaw09.TlbMost': WHATEVER THE INPUT: true; the input reads as it did. -/
def tlbMostSpec : ChangeSpec := { name := "tlbMost", fn := fun _ => fun
  | [d1, d2] => { results := [.lit (.bool true)], args := [d1, d2] }
  | _ => none }
def tlbMostRow : OpenClaim := { program := "ytcfphdebekbbkaa", sum := "87fdda5ad4df8b110c6777aae8d4a13b4b944b56e7f850c76683d2e6f458e752", func := "silhouette/silhouettelaw09.TlbMost", spec := "tlbMost", unfollowed := true, recurses := true, apart := false }
def TlbMostSaid : Prop := tlbMostRow.holds Try.pinned (OpenSpec.ofChange tlbMostSpec)

/-- ITS FALSE NEIGHBOUR: 'it returns false'. Refute it at one input. -/
def tlbMostWrong : ChangeSpec := { name := "tlbMost", fn := fun _ => fun
  | [d1, d2] => { results := [.lit (.bool false)], args := [d1, d2] }
  | _ => none }
def TlbMostWrongFalsely : Prop := tlbMostRow.holds Try.pinned (OpenSpec.ofChange tlbMostWrong)

/-- 'silhouettelaw09.TlbPicks': WHATEVER THE INPUT: true; the input reads as it did. -/
def tlbPicksSpec : ChangeSpec := { name := "tlbPicks", fn := fun _ => fun
  | [d1, d2] => { results := [.lit (.bool true)], args := [d1, d2] }
  | _ => none }
def tlbPicksRow : OpenClaim := { program := "ytcfphdebekbbkaa", sum := "87fdda5ad4df8b110c6777aae8d4a13b4b944b56e7f850c76683d2e6f458e752", func := "silhouette/silhouettelaw09.TlbPicks", spec := "tlbPicks", unfollowed := true, recurses := true, apart := false }
def TlbPicksSaid : Prop := tlbPicksRow.holds Try.pinned (OpenSpec.ofChange tlbPicksSpec)

/-- ITS FALSE NEIGHBOUR: 'it returns false'. Refute it at one input. -/
def tlbPicksWrong : ChangeSpec := { name := "tlbPicks", fn := fun _ => fun
  | [d1, d2] => { results := [.lit (.bool false)], args := [d1, d2] }
  | _ => none }
def TlbPicksWrongFalsely : Prop := tlbPicksRow.holds Try.pinned (OpenSpec.ofChange tlbPicksWrong)

/-- 'silhouettelaw09.TlbAgain': WHATEVER THE INPUT: true; the input reads as it did. -/
def tlbAgainSpec : ChangeSpec := { name := "tlbAgain", fn := fun _ => fun
  | [d1, d2, d3] => { results := [.lit (.bool true)], args := [d1, d2, d3] }
  | _ => none }
def tlbAgainRow : OpenClaim := { program := "ytcfphdebekbbkaa", sum := "87fdda5ad4df8b110c6777aae8d4a13b4b944b56e7f850c76683d2e6f458e752", func := "silhouette/silhouettelaw09.TlbAgain", spec := "tlbAgain", unfollowed := true, recurses := true, apart := false }
def TlbAgainSaid : Prop := tlbAgainRow.holds Try.pinned (OpenSpec.ofChange tlbAgainSpec)

/-- ITS FALSE NEIGHBOUR: 'it returns false'. Refute it at one input. -/
def tlbAgainWrong : ChangeSpec := { name := "tlbAgain", fn := fun _ => fun
  | [d1, d2, d3] => { results := [.lit (.bool false)], args := [d1, d2, d3] }
  | _ => none }
def TlbAgainWrongFalsely : Prop := tlbAgainRow.holds Try.pinned (OpenSpec.ofChange tlbAgainWrong)

/-- 'silhouettelaw09.TlbWithin': WHATEVER THE INPUT: true; the input reads as it did. -/
def tlbWithinSpec : ChangeSpec := { name := "tlbWithin", fn := fun _ => fun
  | [d1, d2, d3] => { results := [.lit (.bool true)], args := [d1, d2, d3] }
  | _ => none }
def tlbWithinRow : OpenClaim := { program := "ytcfphdebekbbkaa", sum := "87fdda5ad4df8b110c6777aae8d4a13b4b944b56e7f850c76683d2e6f458e752", func := "silhouette/silhouettelaw09.TlbWithin", spec := "tlbWithin", unfollowed := true, recurses := true, apart := false }
def TlbWithinSaid : Prop := tlbWithinRow.holds Try.pinned (OpenSpec.ofChange tlbWithinSpec)

/-- ITS FALSE NEIGHBOUR: 'it returns false'. Refute it at one input. -/
def tlbWithinWrong : ChangeSpec := { name := "tlbWithin", fn := fun _ => fun
  | [d1, d2, d3] => { results := [.lit (.bool false)], args := [d1, d2, d3] }
  | _ => none }
def TlbWithinWrongFalsely : Prop := tlbWithinRow.holds Try.pinned (OpenSpec.ofChange tlbWithinWrong)

/-- 'silhouettelaw09.TlbPlays': WHATEVER THE INPUT: true; the input reads as it did. -/
def tlbPlaysSpec : ChangeSpec := { name := "tlbPlays", fn := fun _ => fun
  | [d1, d2, d3, d4] => { results := [.lit (.bool true)], args := [d1, d2, d3, d4] }
  | _ => none }
def tlbPlaysRow : OpenClaim := { program := "ytcfphdebekbbkaa", sum := "87fdda5ad4df8b110c6777aae8d4a13b4b944b56e7f850c76683d2e6f458e752", func := "silhouette/silhouettelaw09.TlbPlays", spec := "tlbPlays", unfollowed := true, recurses := true, apart := false }
def TlbPlaysSaid : Prop := tlbPlaysRow.holds Try.pinned (OpenSpec.ofChange tlbPlaysSpec)

/-- ITS FALSE NEIGHBOUR: 'it returns false'. Refute it at one input. -/
def tlbPlaysWrong : ChangeSpec := { name := "tlbPlays", fn := fun _ => fun
  | [d1, d2, d3, d4] => { results := [.lit (.bool false)], args := [d1, d2, d3, d4] }
  | _ => none }
def TlbPlaysWrongFalsely : Prop := tlbPlaysRow.holds Try.pinned (OpenSpec.ofChange tlbPlaysWrong)

/-- 'silhouettelaw09.TlbMap': WHATEVER THE INPUT: true; the input reads as it did. -/
def tlbMapSpec : ChangeSpec := { name := "tlbMap", fn := fun _ => fun
  | [d1, d2, d3] => { results := [.lit (.bool true)], args := [d1, d2, d3] }
  | _ => none }
def tlbMapRow : OpenClaim := { program := "ytcfphdebekbbkaa", sum := "87fdda5ad4df8b110c6777aae8d4a13b4b944b56e7f850c76683d2e6f458e752", func := "silhouette/silhouettelaw09.TlbMap", spec := "tlbMap", unfollowed := true, recurses := true, apart := false }
def TlbMapSaid : Prop := tlbMapRow.holds Try.pinned (OpenSpec.ofChange tlbMapSpec)

/-- ITS FALSE NEIGHBOUR: 'it returns false'. Refute it at one input. -/
def tlbMapWrong : ChangeSpec := { name := "tlbMap", fn := fun _ => fun
  | [d1, d2, d3] => { results := [.lit (.bool false)], args := [d1, d2, d3] }
  | _ => none }
def TlbMapWrongFalsely : Prop := tlbMapRow.holds Try.pinned (OpenSpec.ofChange tlbMapWrong)

/-- 'silhouettelaw09.TlbFlushes': WHATEVER THE INPUT: true; the input reads as it did. -/
def tlbFlushesSpec : ChangeSpec := { name := "tlbFlushes", fn := fun _ => fun
  | [d1, d2] => { results := [.lit (.bool true)], args := [d1, d2] }
  | _ => none }
def tlbFlushesRow : OpenClaim := { program := "ytcfphdebekbbkaa", sum := "87fdda5ad4df8b110c6777aae8d4a13b4b944b56e7f850c76683d2e6f458e752", func := "silhouette/silhouettelaw09.TlbFlushes", spec := "tlbFlushes", unfollowed := true, recurses := true, apart := false }
def TlbFlushesSaid : Prop := tlbFlushesRow.holds Try.pinned (OpenSpec.ofChange tlbFlushesSpec)

/-- ITS FALSE NEIGHBOUR: 'it returns false'. Refute it at one input. -/
def tlbFlushesWrong : ChangeSpec := { name := "tlbFlushes", fn := fun _ => fun
  | [d1, d2] => { results := [.lit (.bool false)], args := [d1, d2] }
  | _ => none }
def TlbFlushesWrongFalsely : Prop := tlbFlushesRow.holds Try.pinned (OpenSpec.ofChange tlbFlushesWrong)

/- THE SECOND FORM. 'bulk': how many values and letters a reading holds, each counted each time it is reached (what is shared counts as often as it is met; a slice's spare places count too). A statement '..UptoSaid' is the law's where the arguments, and the package variables that the reading takes, are together of bulk at most 1048576: NARROWER than '..Said'. Prove '..Said' where nothing that the law and all that it calls make is longer than what came in: it says more and counts as full. Else prove '..UptoSaid'. A law counts once. -/
mutual
def uptoBulk {H : Type} : DataW H → Nat
  | .lit (.string bytes) => bytes.length + 1
  | .lit _ => 1
  | .nil => 1
  | .ptr d => uptoBulk d + 1
  | .slice elems spare => uptoBulkAll elems + uptoBulkAll spare + 1
  | .agg parts => uptoBulkAll parts + 1
  | .iface _ d => uptoBulk d + 1
  | .map entries => uptoBulkEntries entries + 1
  | .held _ => 1
def uptoBulkAll {H : Type} : List (DataW H) → Nat
  | [] => 0
  | d :: r => uptoBulk d + uptoBulkAll r
def uptoBulkEntries {H : Type} : List (Lit × DataW H) → Nat
  | [] => 0
  | x :: r => uptoBulkEntry x + uptoBulkEntries r
def uptoBulkEntry {H : Type} : Lit × DataW H → Nat
  | (.string bytes, d) => bytes.length + uptoBulk d + 1
  | (_, d) => uptoBulk d + 1
 end
def uptoSmall : (H : Type) → List (DataW H) → Bool := fun _ ds => decide (uptoBulkAll ds ≤ 1048576)
def OpenSpec.upto (s : _root_.Go.ChangeSpec) : _root_.Go.OpenSpec := { _root_.Go.OpenSpec.ofChange s with cond := some uptoSmall }

/-- 'silhouettelaw09.TlbMost', WHERE WHAT IT READS IS OF BULK AT MOST 1048576: true; the input reads as it did. -/
def tlbMostUptoRow : OpenClaim := { program := "ytcfphdebekbbkaa", sum := "87fdda5ad4df8b110c6777aae8d4a13b4b944b56e7f850c76683d2e6f458e752", func := "silhouette/silhouettelaw09.TlbMost", spec := "tlbMost", unfollowed := true, recurses := true, apart := false, narrowed := true }
def TlbMostUptoSaid : Prop := tlbMostUptoRow.holds Try.pinned (OpenSpec.upto tlbMostSpec)

/-- 'silhouettelaw09.TlbPicks', WHERE WHAT IT READS IS OF BULK AT MOST 1048576: true; the input reads as it did. -/
def tlbPicksUptoRow : OpenClaim := { program := "ytcfphdebekbbkaa", sum := "87fdda5ad4df8b110c6777aae8d4a13b4b944b56e7f850c76683d2e6f458e752", func := "silhouette/silhouettelaw09.TlbPicks", spec := "tlbPicks", unfollowed := true, recurses := true, apart := false, narrowed := true }
def TlbPicksUptoSaid : Prop := tlbPicksUptoRow.holds Try.pinned (OpenSpec.upto tlbPicksSpec)

/-- 'silhouettelaw09.TlbAgain', WHERE WHAT IT READS IS OF BULK AT MOST 1048576: true; the input reads as it did. -/
def tlbAgainUptoRow : OpenClaim := { program := "ytcfphdebekbbkaa", sum := "87fdda5ad4df8b110c6777aae8d4a13b4b944b56e7f850c76683d2e6f458e752", func := "silhouette/silhouettelaw09.TlbAgain", spec := "tlbAgain", unfollowed := true, recurses := true, apart := false, narrowed := true }
def TlbAgainUptoSaid : Prop := tlbAgainUptoRow.holds Try.pinned (OpenSpec.upto tlbAgainSpec)

/-- 'silhouettelaw09.TlbWithin', WHERE WHAT IT READS IS OF BULK AT MOST 1048576: true; the input reads as it did. -/
def tlbWithinUptoRow : OpenClaim := { program := "ytcfphdebekbbkaa", sum := "87fdda5ad4df8b110c6777aae8d4a13b4b944b56e7f850c76683d2e6f458e752", func := "silhouette/silhouettelaw09.TlbWithin", spec := "tlbWithin", unfollowed := true, recurses := true, apart := false, narrowed := true }
def TlbWithinUptoSaid : Prop := tlbWithinUptoRow.holds Try.pinned (OpenSpec.upto tlbWithinSpec)

/-- 'silhouettelaw09.TlbPlays', WHERE WHAT IT READS IS OF BULK AT MOST 1048576: true; the input reads as it did. -/
def tlbPlaysUptoRow : OpenClaim := { program := "ytcfphdebekbbkaa", sum := "87fdda5ad4df8b110c6777aae8d4a13b4b944b56e7f850c76683d2e6f458e752", func := "silhouette/silhouettelaw09.TlbPlays", spec := "tlbPlays", unfollowed := true, recurses := true, apart := false, narrowed := true }
def TlbPlaysUptoSaid : Prop := tlbPlaysUptoRow.holds Try.pinned (OpenSpec.upto tlbPlaysSpec)

/-- 'silhouettelaw09.TlbMap', WHERE WHAT IT READS IS OF BULK AT MOST 1048576: true; the input reads as it did. -/
def tlbMapUptoRow : OpenClaim := { program := "ytcfphdebekbbkaa", sum := "87fdda5ad4df8b110c6777aae8d4a13b4b944b56e7f850c76683d2e6f458e752", func := "silhouette/silhouettelaw09.TlbMap", spec := "tlbMap", unfollowed := true, recurses := true, apart := false, narrowed := true }
def TlbMapUptoSaid : Prop := tlbMapUptoRow.holds Try.pinned (OpenSpec.upto tlbMapSpec)

/-- 'silhouettelaw09.TlbFlushes', WHERE WHAT IT READS IS OF BULK AT MOST 1048576: true; the input reads as it did. -/
def tlbFlushesUptoRow : OpenClaim := { program := "ytcfphdebekbbkaa", sum := "87fdda5ad4df8b110c6777aae8d4a13b4b944b56e7f850c76683d2e6f458e752", func := "silhouette/silhouettelaw09.TlbFlushes", spec := "tlbFlushes", unfollowed := true, recurses := true, apart := false, narrowed := true }
def TlbFlushesUptoSaid : Prop := tlbFlushesUptoRow.holds Try.pinned (OpenSpec.upto tlbFlushesSpec)

end Rows
end Go.Proofs.Ytcfphdebekbbkaa
