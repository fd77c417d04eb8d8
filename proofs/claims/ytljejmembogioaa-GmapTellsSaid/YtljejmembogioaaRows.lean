/-
  No cell of these rows narrows 'for every input' (looked for: loops, veiled, ifaces, maps, wideKeys, modest, calm, conditions, laid).
  DERIVED. THE GIVEN ROWS OF THIS SEAT. 6 by the template 'for every input the law returns true; each argument reads behind the call as it read before'; 0 by the template 'total and deterministic' (their statements: YtljejmembogioaaTotals.lean).
  GIVEN WITH THE SEED: the statements are not yours to turn. If you find one false, say at which input.
  Laid BY PROGRAM, IN A SANDBOX (cutbox-rows.mjs): the forced cells as the released guide's own fill.sh prints them over the translation cdaa62a363a754ed… (all of the seat's roots in one cut). By AI agents, Wed Nov 11 2026. No macro, syntax, notation, axiom, sorry.
-/
import Derived.Test.YtljejmembogioaaChecked
import GoSem.Claim
import GoSem.ClaimJoined
import GoSem.ClaimMapViews
import Derived.JoinedTies
import Derived.KernelRfl
namespace Go.Proofs.Ytljejmembogioaa
/- THE CELL 'sum', in the pinned program and in every row, IS THE sha256 OF THE DUMP (.gsa) THAT YtljejmembogioaaProg.lean LOADS. Nothing in Lean hashes anything: it is a label: what it is worth is what the hold of that sum in a sandbox is worth. -/
noncomputable def Try.pinned : Pinned := { name := "ytljejmembogioaa", sum := "cdaa62a363a754edf53a03fa7069f860cb82ba9b2a70ce4c2da65382d5538e44", checked := Try.checked }
namespace Rows
def none {H : Type} : Left H := { results := [], args := [] }

/-- 'silhouettelaw03.GmapTells': WHATEVER THE INPUT: true; the input reads as it did. -/
def gmapTellsSpec : ChangeSpec := { name := "gmapTells", fn := fun _ => fun
  | [d1, d2, d3] => { results := [.lit (.bool true)], args := [d1, d2, d3] }
  | _ => none }
def gmapTellsRow : OpenClaim := { program := "ytljejmembogioaa", sum := "cdaa62a363a754edf53a03fa7069f860cb82ba9b2a70ce4c2da65382d5538e44", func := "silhouette/silhouettelaw03.GmapTells", spec := "gmapTells", apart := false }
def GmapTellsSaid : Prop := gmapTellsRow.holds Try.pinned (OpenSpec.ofChange gmapTellsSpec)

/-- ITS FALSE NEIGHBOUR: 'it returns false'. Refute it at one input. -/
def gmapTellsWrong : ChangeSpec := { name := "gmapTells", fn := fun _ => fun
  | [d1, d2, d3] => { results := [.lit (.bool false)], args := [d1, d2, d3] }
  | _ => none }
def GmapTellsWrongFalsely : Prop := gmapTellsRow.holds Try.pinned (OpenSpec.ofChange gmapTellsWrong)

/-- 'silhouettelaw03.GmapBack': WHATEVER THE INPUT: true; the input reads as it did. -/
def gmapBackSpec : ChangeSpec := { name := "gmapBack", fn := fun _ => fun
  | [d1, d2] => { results := [.lit (.bool true)], args := [d1, d2] }
  | _ => none }
def gmapBackRow : OpenClaim := { program := "ytljejmembogioaa", sum := "cdaa62a363a754edf53a03fa7069f860cb82ba9b2a70ce4c2da65382d5538e44", func := "silhouette/silhouettelaw03.GmapBack", spec := "gmapBack", apart := false }
def GmapBackSaid : Prop := gmapBackRow.holds Try.pinned (OpenSpec.ofChange gmapBackSpec)

/-- ITS FALSE NEIGHBOUR: 'it returns false'. Refute it at one input. -/
def gmapBackWrong : ChangeSpec := { name := "gmapBack", fn := fun _ => fun
  | [d1, d2] => { results := [.lit (.bool false)], args := [d1, d2] }
  | _ => none }
def GmapBackWrongFalsely : Prop := gmapBackRow.holds Try.pinned (OpenSpec.ofChange gmapBackWrong)

/-- 'silhouettelaw03.GmapRefuses': WHATEVER THE INPUT: true; the input reads as it did. -/
def gmapRefusesSpec : ChangeSpec := { name := "gmapRefuses", fn := fun _ => fun
  | [d1, d2, d3] => { results := [.lit (.bool true)], args := [d1, d2, d3] }
  | _ => none }
def gmapRefusesRow : OpenClaim := { program := "ytljejmembogioaa", sum := "cdaa62a363a754edf53a03fa7069f860cb82ba9b2a70ce4c2da65382d5538e44", func := "silhouette/silhouettelaw03.GmapRefuses", spec := "gmapRefuses", apart := false }
def GmapRefusesSaid : Prop := gmapRefusesRow.holds Try.pinned (OpenSpec.ofChange gmapRefusesSpec)

/-- ITS FALSE NEIGHBOUR: 'it returns false'. Refute it at one input. -/
def gmapRefusesWrong : ChangeSpec := { name := "gmapRefuses", fn := fun _ => fun
  | [d1, d2, d3] => { results := [.lit (.bool false)], args := [d1, d2, d3] }
  | _ => none }
def GmapRefusesWrongFalsely : Prop := gmapRefusesRow.holds Try.pinned (OpenSpec.ofChange gmapRefusesWrong)

/-- 'silhouettelaw03.GmapOwn': WHATEVER THE INPUT: true; the input reads as it did. -/
def gmapOwnSpec : ChangeSpec := { name := "gmapOwn", fn := fun _ => fun
  | [d1, d2] => { results := [.lit (.bool true)], args := [d1, d2] }
  | _ => none }
def gmapOwnRow : OpenClaim := { program := "ytljejmembogioaa", sum := "cdaa62a363a754edf53a03fa7069f860cb82ba9b2a70ce4c2da65382d5538e44", func := "silhouette/silhouettelaw03.GmapOwn", spec := "gmapOwn", apart := false }
def GmapOwnSaid : Prop := gmapOwnRow.holds Try.pinned (OpenSpec.ofChange gmapOwnSpec)

/-- ITS FALSE NEIGHBOUR: 'it returns false'. Refute it at one input. -/
def gmapOwnWrong : ChangeSpec := { name := "gmapOwn", fn := fun _ => fun
  | [d1, d2] => { results := [.lit (.bool false)], args := [d1, d2] }
  | _ => none }
def GmapOwnWrongFalsely : Prop := gmapOwnRow.holds Try.pinned (OpenSpec.ofChange gmapOwnWrong)

/-- 'silhouettelaw03.GmapTurned': WHATEVER THE INPUT: true; the input reads as it did. -/
def gmapTurnedSpec : ChangeSpec := { name := "gmapTurned", fn := fun _ => fun
  | [d1, d2] => { results := [.lit (.bool true)], args := [d1, d2] }
  | _ => none }
def gmapTurnedRow : OpenClaim := { program := "ytljejmembogioaa", sum := "cdaa62a363a754edf53a03fa7069f860cb82ba9b2a70ce4c2da65382d5538e44", func := "silhouette/silhouettelaw03.GmapTurned", spec := "gmapTurned", apart := false }
def GmapTurnedSaid : Prop := gmapTurnedRow.holds Try.pinned (OpenSpec.ofChange gmapTurnedSpec)

/-- ITS FALSE NEIGHBOUR: 'it returns false'. Refute it at one input. -/
def gmapTurnedWrong : ChangeSpec := { name := "gmapTurned", fn := fun _ => fun
  | [d1, d2] => { results := [.lit (.bool false)], args := [d1, d2] }
  | _ => none }
def GmapTurnedWrongFalsely : Prop := gmapTurnedRow.holds Try.pinned (OpenSpec.ofChange gmapTurnedWrong)

/-- 'silhouettelaw03.GmapMore': WHATEVER THE INPUT: true; the input reads as it did. -/
def gmapMoreSpec : ChangeSpec := { name := "gmapMore", fn := fun _ => fun
  | [d1, d2, d3] => { results := [.lit (.bool true)], args := [d1, d2, d3] }
  | _ => none }
def gmapMoreRow : OpenClaim := { program := "ytljejmembogioaa", sum := "cdaa62a363a754edf53a03fa7069f860cb82ba9b2a70ce4c2da65382d5538e44", func := "silhouette/silhouettelaw03.GmapMore", spec := "gmapMore", apart := false }
def GmapMoreSaid : Prop := gmapMoreRow.holds Try.pinned (OpenSpec.ofChange gmapMoreSpec)

/-- ITS FALSE NEIGHBOUR: 'it returns false'. Refute it at one input. -/
def gmapMoreWrong : ChangeSpec := { name := "gmapMore", fn := fun _ => fun
  | [d1, d2, d3] => { results := [.lit (.bool false)], args := [d1, d2, d3] }
  | _ => none }
def GmapMoreWrongFalsely : Prop := gmapMoreRow.holds Try.pinned (OpenSpec.ofChange gmapMoreWrong)

/- THE SECOND FORM. 'bulk': how many values and letters a reading holds, each counted each time it is reached (what is shared counts as often as it is met; a slice's spare places count too). A statement '..UptoSaid' is the law's where the arguments, and the package variables that the reading takes, are together of bulk at most 1048576: NARROWER than '..Said'. Prove '..Said' where nothing that the law and all that it calls make is longer than what came in: it says more and counts as full. Else prove '..UptoSaid'. A law counts once. -/
mutual
def uptoBulk {H : Type} : DataW H → Nat
  | .lit (.string bytes) => bytes.length + 1
  | .lit _ => 1
  | .nil => 1
  | .ptr d => uptoBulk d + 1
  | .slice elems spare => uptoBulkAll elems + uptoBulkAll spare + 1
  | .agg parts => uptoBulkAll parts + 1
  | .iface _ d => uptoBulk d + 1
  | .map entries => uptoBulkEntries entries + 1
  | .held _ => 1
def uptoBulkAll {H : Type} : List (DataW H) → Nat
  | [] => 0
  | d :: r => uptoBulk d + uptoBulkAll r
def uptoBulkEntries {H : Type} : List (Lit × DataW H) → Nat
  | [] => 0
  | x :: r => uptoBulkEntry x + uptoBulkEntries r
def uptoBulkEntry {H : Type} : Lit × DataW H → Nat
  | (.string bytes, d) => bytes.length + uptoBulk d + 1
  | (_, d) => uptoBulk d + 1
 end
def uptoSmall : (H : Type) → List (DataW H) → Bool := fun _ ds => decide (uptoBulkAll ds ≤ 1048576)
def OpenSpec.upto (s : _root_.Go.ChangeSpec) : _root_.Go.OpenSpec := { _root_.Go.OpenSpec.ofChange s with cond := some uptoSmall }

/-- 'silhouettelaw03.GmapTells', WHERE WHAT IT READS IS OF BULK AT MOST 1048576: true; the input reads as it did. -/
def gmapTellsUptoRow : OpenClaim := { program := "ytljejmembogioaa", sum := "cdaa62a363a754edf53a03fa7069f860cb82ba9b2a70ce4c2da65382d5538e44", func := "silhouette/silhouettelaw03.GmapTells", spec := "gmapTells", apart := false, narrowed := true }
def GmapTellsUptoSaid : Prop := gmapTellsUptoRow.holds Try.pinned (OpenSpec.upto gmapTellsSpec)

/-- 'silhouettelaw03.GmapBack', WHERE WHAT IT READS IS OF BULK AT MOST 1048576: true; the input reads as it did. -/
def gmapBackUptoRow : OpenClaim := { program := "ytljejmembogioaa", sum := "cdaa62a363a754edf53a03fa7069f860cb82ba9b2a70ce4c2da65382d5538e44", func := "silhouette/silhouettelaw03.GmapBack", spec := "gmapBack", apart := false, narrowed := true }
def GmapBackUptoSaid : Prop := gmapBackUptoRow.holds Try.pinned (OpenSpec.upto gmapBackSpec)

/-- 'silhouettelaw03.GmapRefuses', WHERE WHAT IT READS IS OF BULK AT MOST 1048576: true; the input reads as it did. -/
def gmapRefusesUptoRow : OpenClaim := { program := "ytljejmembogioaa", sum := "cdaa62a363a754edf53a03fa7069f860cb82ba9b2a70ce4c2da65382d5538e44", func := "silhouette/silhouettelaw03.GmapRefuses", spec := "gmapRefuses", apart := false, narrowed := true }
def GmapRefusesUptoSaid : Prop := gmapRefusesUptoRow.holds Try.pinned (OpenSpec.upto gmapRefusesSpec)

/-- 'silhouettelaw03.GmapOwn', WHERE WHAT IT READS IS OF BULK AT MOST 1048576: true; the input reads as it did. -/
def gmapOwnUptoRow : OpenClaim := { program := "ytljejmembogioaa", sum := "cdaa62a363a754edf53a03fa7069f860cb82ba9b2a70ce4c2da65382d5538e44", func := "silhouette/silhouettelaw03.GmapOwn", spec := "gmapOwn", apart := false, narrowed := true }
def GmapOwnUptoSaid : Prop := gmapOwnUptoRow.holds Try.pinned (OpenSpec.upto gmapOwnSpec)

/-- 'silhouettelaw03.GmapTurned', WHERE WHAT IT READS IS OF BULK AT MOST 1048576: true; the input reads as it did. -/
def gmapTurnedUptoRow : OpenClaim := { program := "ytljejmembogioaa", sum := "cdaa62a363a754edf53a03fa7069f860cb82ba9b2a70ce4c2da65382d5538e44", func := "silhouette/silhouettelaw03.GmapTurned", spec := "gmapTurned", apart := false, narrowed := true }
def GmapTurnedUptoSaid : Prop := gmapTurnedUptoRow.holds Try.pinned (OpenSpec.upto gmapTurnedSpec)

/-- 'silhouettelaw03.GmapMore', WHERE WHAT IT READS IS OF BULK AT MOST 1048576: true; the input reads as it did. -/
def gmapMoreUptoRow : OpenClaim := { program := "ytljejmembogioaa", sum := "cdaa62a363a754edf53a03fa7069f860cb82ba9b2a70ce4c2da65382d5538e44", func := "silhouette/silhouettelaw03.GmapMore", spec := "gmapMore", apart := false, narrowed := true }
def GmapMoreUptoSaid : Prop := gmapMoreUptoRow.holds Try.pinned (OpenSpec.upto gmapMoreSpec)

end Rows
end Go.Proofs.Ytljejmembogioaa
