/-
  No cell of these rows narrows 'for every input' (looked for: loops, veiled, ifaces, maps, wideKeys, modest, calm, conditions, laid).
  DERIVED. THE GIVEN ROWS OF THIS SEAT. 6 by the template 'for every input the law returns true; each argument reads behind the call as it read before'; 0 by the template 'total and deterministic' (their statements: YtjbeneiicneidaaTotals.lean).
  GIVEN WITH THE SEED: the statements are not yours to turn. If you find one false, say at which input.
  Laid BY PROGRAM, IN A SANDBOX (cutbox-rows.mjs): the forced cells as the released guide's own fill.sh prints them over the translation 4b2a7c7f3038b39a… (all of the seat's roots in one cut). By AI agents, Wed Nov 11 2026. No macro, syntax, notation, axiom, sorry.
-/
import Derived.Test.YtjbeneiicneidaaChecked
import GoSem.Claim
import GoSem.ClaimJoined
import GoSem.ClaimMapViews
import Derived.JoinedTies
import Derived.KernelRfl
namespace Go.Proofs.Ytjbeneiicneidaa
/- THE CELL 'sum', in the pinned program and in every row, IS THE sha256 OF THE DUMP (.gsa) THAT YtjbeneiicneidaaProg.lean LOADS. Nothing in Lean hashes anything: it is a label: what it is worth is what the hold of that sum in a sandbox is worth. -/
noncomputable def Try.pinned : Pinned := { name := "ytjbeneiicneidaa", sum := "4b2a7c7f3038b39ae1351803387b9bb1063f2b3824a9d7e9804692cc95845627", checked := Try.checked }
namespace Rows
def none {H : Type} : Left H := { results := [], args := [] }

/-- 'silhouettelaw02.FreePlays': WHATEVER THE INPUT: true; the input reads as it did. -/
def freePlaysSpec : ChangeSpec := { name := "freePlays", fn := fun _ => fun
  | [d1, d2, d3, d4] => { results := [.lit (.bool true)], args := [d1, d2, d3, d4] }
  | _ => none }
def freePlaysRow : OpenClaim := { program := "ytjbeneiicneidaa", sum := "4b2a7c7f3038b39ae1351803387b9bb1063f2b3824a9d7e9804692cc95845627", func := "silhouette/silhouettelaw02.FreePlays", spec := "freePlays", apart := false }
def FreePlaysSaid : Prop := freePlaysRow.holds Try.pinned (OpenSpec.ofChange freePlaysSpec)

/-- ITS FALSE NEIGHBOUR: 'it returns false'. Refute it at one input. -/
def freePlaysWrong : ChangeSpec := { name := "freePlays", fn := fun _ => fun
  | [d1, d2, d3, d4] => { results := [.lit (.bool false)], args := [d1, d2, d3, d4] }
  | _ => none }
def FreePlaysWrongFalsely : Prop := freePlaysRow.holds Try.pinned (OpenSpec.ofChange freePlaysWrong)

/-- 'silhouettelaw02.FreeOnce': WHATEVER THE INPUT: true; the input reads as it did. -/
def freeOnceSpec : ChangeSpec := { name := "freeOnce", fn := fun _ => fun
  | [d1, d2, d3] => { results := [.lit (.bool true)], args := [d1, d2, d3] }
  | _ => none }
def freeOnceRow : OpenClaim := { program := "ytjbeneiicneidaa", sum := "4b2a7c7f3038b39ae1351803387b9bb1063f2b3824a9d7e9804692cc95845627", func := "silhouette/silhouettelaw02.FreeOnce", spec := "freeOnce", apart := false }
def FreeOnceSaid : Prop := freeOnceRow.holds Try.pinned (OpenSpec.ofChange freeOnceSpec)

/-- ITS FALSE NEIGHBOUR: 'it returns false'. Refute it at one input. -/
def freeOnceWrong : ChangeSpec := { name := "freeOnce", fn := fun _ => fun
  | [d1, d2, d3] => { results := [.lit (.bool false)], args := [d1, d2, d3] }
  | _ => none }
def FreeOnceWrongFalsely : Prop := freeOnceRow.holds Try.pinned (OpenSpec.ofChange freeOnceWrong)

/-- 'silhouettelaw02.FreeAll': WHATEVER THE INPUT: true; the input reads as it did. -/
def freeAllSpec : ChangeSpec := { name := "freeAll", fn := fun _ => fun
  | [d1, d2] => { results := [.lit (.bool true)], args := [d1, d2] }
  | _ => none }
def freeAllRow : OpenClaim := { program := "ytjbeneiicneidaa", sum := "4b2a7c7f3038b39ae1351803387b9bb1063f2b3824a9d7e9804692cc95845627", func := "silhouette/silhouettelaw02.FreeAll", spec := "freeAll", apart := false }
def FreeAllSaid : Prop := freeAllRow.holds Try.pinned (OpenSpec.ofChange freeAllSpec)

/-- ITS FALSE NEIGHBOUR: 'it returns false'. Refute it at one input. -/
def freeAllWrong : ChangeSpec := { name := "freeAll", fn := fun _ => fun
  | [d1, d2] => { results := [.lit (.bool false)], args := [d1, d2] }
  | _ => none }
def FreeAllWrongFalsely : Prop := freeAllRow.holds Try.pinned (OpenSpec.ofChange freeAllWrong)

/-- 'silhouettelaw02.FreeLast': WHATEVER THE INPUT: true; the input reads as it did. -/
def freeLastSpec : ChangeSpec := { name := "freeLast", fn := fun _ => fun
  | [d1, d2] => { results := [.lit (.bool true)], args := [d1, d2] }
  | _ => none }
def freeLastRow : OpenClaim := { program := "ytjbeneiicneidaa", sum := "4b2a7c7f3038b39ae1351803387b9bb1063f2b3824a9d7e9804692cc95845627", func := "silhouette/silhouettelaw02.FreeLast", spec := "freeLast", apart := false }
def FreeLastSaid : Prop := freeLastRow.holds Try.pinned (OpenSpec.ofChange freeLastSpec)

/-- ITS FALSE NEIGHBOUR: 'it returns false'. Refute it at one input. -/
def freeLastWrong : ChangeSpec := { name := "freeLast", fn := fun _ => fun
  | [d1, d2] => { results := [.lit (.bool false)], args := [d1, d2] }
  | _ => none }
def FreeLastWrongFalsely : Prop := freeLastRow.holds Try.pinned (OpenSpec.ofChange freeLastWrong)

/-- 'silhouettelaw02.FreeBack': WHATEVER THE INPUT: true; the input reads as it did. -/
def freeBackSpec : ChangeSpec := { name := "freeBack", fn := fun _ => fun
  | [d1, d2] => { results := [.lit (.bool true)], args := [d1, d2] }
  | _ => none }
def freeBackRow : OpenClaim := { program := "ytjbeneiicneidaa", sum := "4b2a7c7f3038b39ae1351803387b9bb1063f2b3824a9d7e9804692cc95845627", func := "silhouette/silhouettelaw02.FreeBack", spec := "freeBack", apart := false }
def FreeBackSaid : Prop := freeBackRow.holds Try.pinned (OpenSpec.ofChange freeBackSpec)

/-- ITS FALSE NEIGHBOUR: 'it returns false'. Refute it at one input. -/
def freeBackWrong : ChangeSpec := { name := "freeBack", fn := fun _ => fun
  | [d1, d2] => { results := [.lit (.bool false)], args := [d1, d2] }
  | _ => none }
def FreeBackWrongFalsely : Prop := freeBackRow.holds Try.pinned (OpenSpec.ofChange freeBackWrong)

/-- 'silhouettelaw02.FreeMany': WHATEVER THE INPUT: true; the input reads as it did. -/
def freeManySpec : ChangeSpec := { name := "freeMany", fn := fun _ => fun
  | [d1, d2] => { results := [.lit (.bool true)], args := [d1, d2] }
  | _ => none }
def freeManyRow : OpenClaim := { program := "ytjbeneiicneidaa", sum := "4b2a7c7f3038b39ae1351803387b9bb1063f2b3824a9d7e9804692cc95845627", func := "silhouette/silhouettelaw02.FreeMany", spec := "freeMany", apart := false }
def FreeManySaid : Prop := freeManyRow.holds Try.pinned (OpenSpec.ofChange freeManySpec)

/-- ITS FALSE NEIGHBOUR: 'it returns false'. Refute it at one input. -/
def freeManyWrong : ChangeSpec := { name := "freeMany", fn := fun _ => fun
  | [d1, d2] => { results := [.lit (.bool false)], args := [d1, d2] }
  | _ => none }
def FreeManyWrongFalsely : Prop := freeManyRow.holds Try.pinned (OpenSpec.ofChange freeManyWrong)

/- THE SECOND FORM. 'bulk': how many values and letters a reading holds, each counted each time it is reached (what is shared counts as often as it is met; a slice's spare places count too). A statement '..UptoSaid' is the law's where the arguments, and the package variables that the reading takes, are together of bulk at most 1048576: NARROWER than '..Said'. Prove '..Said' where nothing that the law and all that it calls make is longer than what came in: it says more and counts as full. Else prove '..UptoSaid'. A law counts once. -/
mutual
def uptoBulk {H : Type} : DataW H → Nat
  | .lit (.string bytes) => bytes.length + 1
  | .lit _ => 1
  | .nil => 1
  | .ptr d => uptoBulk d + 1
  | .slice elems spare => uptoBulkAll elems + uptoBulkAll spare + 1
  | .agg parts => uptoBulkAll parts + 1
  | .iface _ d => uptoBulk d + 1
  | .map entries => uptoBulkEntries entries + 1
  | .held _ => 1
def uptoBulkAll {H : Type} : List (DataW H) → Nat
  | [] => 0
  | d :: r => uptoBulk d + uptoBulkAll r
def uptoBulkEntries {H : Type} : List (Lit × DataW H) → Nat
  | [] => 0
  | x :: r => uptoBulkEntry x + uptoBulkEntries r
def uptoBulkEntry {H : Type} : Lit × DataW H → Nat
  | (.string bytes, d) => bytes.length + uptoBulk d + 1
  | (_, d) => uptoBulk d + 1
 end
def uptoSmall : (H : Type) → List (DataW H) → Bool := fun _ ds => decide (uptoBulkAll ds ≤ 1048576)
def OpenSpec.upto (s : _root_.Go.ChangeSpec) : _root_.Go.OpenSpec := { _root_.Go.OpenSpec.ofChange s with cond := some uptoSmall }

/-- 'silhouettelaw02.FreePlays', WHERE WHAT IT READS IS OF BULK AT MOST 1048576: true; the input reads as it did. -/
def freePlaysUptoRow : OpenClaim := { program := "ytjbeneiicneidaa", sum := "4b2a7c7f3038b39ae1351803387b9bb1063f2b3824a9d7e9804692cc95845627", func := "silhouette/silhouettelaw02.FreePlays", spec := "freePlays", apart := false, narrowed := true }
def FreePlaysUptoSaid : Prop := freePlaysUptoRow.holds Try.pinned (OpenSpec.upto freePlaysSpec)

/-- 'silhouettelaw02.FreeOnce', WHERE WHAT IT READS IS OF BULK AT MOST 1048576: true; the input reads as it did. -/
def freeOnceUptoRow : OpenClaim := { program := "ytjbeneiicneidaa", sum := "4b2a7c7f3038b39ae1351803387b9bb1063f2b3824a9d7e9804692cc95845627", func := "silhouette/silhouettelaw02.FreeOnce", spec := "freeOnce", apart := false, narrowed := true }
def FreeOnceUptoSaid : Prop := freeOnceUptoRow.holds Try.pinned (OpenSpec.upto freeOnceSpec)

/-- 'silhouettelaw02.FreeAll', WHERE WHAT IT READS IS OF BULK AT MOST 1048576: true; the input reads as it did. -/
def freeAllUptoRow : OpenClaim := { program := "ytjbeneiicneidaa", sum := "4b2a7c7f3038b39ae1351803387b9bb1063f2b3824a9d7e9804692cc95845627", func := "silhouette/silhouettelaw02.FreeAll", spec := "freeAll", apart := false, narrowed := true }
def FreeAllUptoSaid : Prop := freeAllUptoRow.holds Try.pinned (OpenSpec.upto freeAllSpec)

/-- 'silhouettelaw02.FreeLast', WHERE WHAT IT READS IS OF BULK AT MOST 1048576: true; the input reads as it did. -/
def freeLastUptoRow : OpenClaim := { program := "ytjbeneiicneidaa", sum := "4b2a7c7f3038b39ae1351803387b9bb1063f2b3824a9d7e9804692cc95845627", func := "silhouette/silhouettelaw02.FreeLast", spec := "freeLast", apart := false, narrowed := true }
def FreeLastUptoSaid : Prop := freeLastUptoRow.holds Try.pinned (OpenSpec.upto freeLastSpec)

/-- 'silhouettelaw02.FreeBack', WHERE WHAT IT READS IS OF BULK AT MOST 1048576: true; the input reads as it did. -/
def freeBackUptoRow : OpenClaim := { program := "ytjbeneiicneidaa", sum := "4b2a7c7f3038b39ae1351803387b9bb1063f2b3824a9d7e9804692cc95845627", func := "silhouette/silhouettelaw02.FreeBack", spec := "freeBack", apart := false, narrowed := true }
def FreeBackUptoSaid : Prop := freeBackUptoRow.holds Try.pinned (OpenSpec.upto freeBackSpec)

/-- 'silhouettelaw02.FreeMany', WHERE WHAT IT READS IS OF BULK AT MOST 1048576: true; the input reads as it did. -/
def freeManyUptoRow : OpenClaim := { program := "ytjbeneiicneidaa", sum := "4b2a7c7f3038b39ae1351803387b9bb1063f2b3824a9d7e9804692cc95845627", func := "silhouette/silhouettelaw02.FreeMany", spec := "freeMany", apart := false, narrowed := true }
def FreeManyUptoSaid : Prop := freeManyUptoRow.holds Try.pinned (OpenSpec.upto freeManySpec)

end Rows
end Go.Proofs.Ytjbeneiicneidaa
