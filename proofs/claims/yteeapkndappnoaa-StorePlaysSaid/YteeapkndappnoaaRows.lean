/-
  No cell of these rows narrows 'for every input' (looked for: loops, veiled, ifaces, maps, wideKeys, modest, calm, conditions, laid).
  DERIVED. THE GIVEN ROWS OF THIS SEAT. 7 by the template 'for every input the law returns true; each argument reads behind the call as it read before'; 0 by the template 'total and deterministic' (their statements: YteeapkndappnoaaTotals.lean).
  GIVEN WITH THE SEED: the statements are not yours to turn. If you find one false, say at which input.
  Laid BY PROGRAM, IN A SANDBOX (cutbox-rows.mjs): the forced cells as the released guide's own fill.sh prints them over the translation 0839dae34e3504f9… (all of the seat's roots in one cut). By AI agents, Wed Nov 11 2026. No macro, syntax, notation, axiom, sorry.
-/
import Derived.Test.YteeapkndappnoaaChecked
import GoSem.Claim
import GoSem.ClaimJoined
import GoSem.ClaimMapViews
import Derived.JoinedTies
import Derived.KernelRfl
namespace Go.Proofs.Yteeapkndappnoaa
/- THE CELL 'sum', in the pinned program and in every row, IS THE sha256 OF THE DUMP (.gsa) THAT YteeapkndappnoaaProg.lean LOADS. Nothing in Lean hashes anything: it is a label: what it is worth is what the hold of that sum in a sandbox is worth. -/
noncomputable def Try.pinned : Pinned := { name := "yteeapkndappnoaa", sum := "0839dae34e3504f9f54679204b9a7e7d80103828554d540ebb0cc0c6793f38ae", checked := Try.checked }
namespace Rows
def none {H : Type} : Left H := { results := [], args := [] }

/-- 'silhouettelaw14.StoreLinks': WHATEVER THE INPUT: true; the input reads as it did. -/
def storeLinksSpec : ChangeSpec := { name := "storeLinks", fn := fun _ => fun
  | [d1, d2] => { results := [.lit (.bool true)], args := [d1, d2] }
  | _ => none }
def storeLinksRow : OpenClaim := { program := "yteeapkndappnoaa", sum := "0839dae34e3504f9f54679204b9a7e7d80103828554d540ebb0cc0c6793f38ae", func := "silhouette/silhouettelaw14.StoreLinks", spec := "storeLinks", unfollowed := true, recurses := true, apart := false }
def StoreLinksSaid : Prop := storeLinksRow.holds Try.pinned (OpenSpec.ofChange storeLinksSpec)

/-- ITS FALSE NEIGHBOUR: 'it returns false'. Refute it at one input. -/
def storeLinksWrong : ChangeSpec := { name := "storeLinks", fn := fun _ => fun
  | [d1, d2] => { results := [.lit (.bool false)], args := [d1, d2] }
  | _ => none }
def StoreLinksWrongFalsely : Prop := storeLinksRow.holds Try.pinned (OpenSpec.ofChange storeLinksWrong)

/-- 'silhouettelaw14.StoreDrops': WHATEVER THE INPUT: true; the input reads as it did. -/
def storeDropsSpec : ChangeSpec := { name := "storeDrops", fn := fun _ => fun
  | [d1, d2, d3] => { results := [.lit (.bool true)], args := [d1, d2, d3] }
  | _ => none }
def storeDropsRow : OpenClaim := { program := "yteeapkndappnoaa", sum := "0839dae34e3504f9f54679204b9a7e7d80103828554d540ebb0cc0c6793f38ae", func := "silhouette/silhouettelaw14.StoreDrops", spec := "storeDrops", unfollowed := true, recurses := true, apart := false }
def StoreDropsSaid : Prop := storeDropsRow.holds Try.pinned (OpenSpec.ofChange storeDropsSpec)

/-- ITS FALSE NEIGHBOUR: 'it returns false'. Refute it at one input. -/
def storeDropsWrong : ChangeSpec := { name := "storeDrops", fn := fun _ => fun
  | [d1, d2, d3] => { results := [.lit (.bool false)], args := [d1, d2, d3] }
  | _ => none }
def StoreDropsWrongFalsely : Prop := storeDropsRow.holds Try.pinned (OpenSpec.ofChange storeDropsWrong)

/-- 'silhouettelaw14.StoreMakes': WHATEVER THE INPUT: true; the input reads as it did. -/
def storeMakesSpec : ChangeSpec := { name := "storeMakes", fn := fun _ => fun
  | [d1, d2] => { results := [.lit (.bool true)], args := [d1, d2] }
  | _ => none }
def storeMakesRow : OpenClaim := { program := "yteeapkndappnoaa", sum := "0839dae34e3504f9f54679204b9a7e7d80103828554d540ebb0cc0c6793f38ae", func := "silhouette/silhouettelaw14.StoreMakes", spec := "storeMakes", unfollowed := true, recurses := true, apart := false }
def StoreMakesSaid : Prop := storeMakesRow.holds Try.pinned (OpenSpec.ofChange storeMakesSpec)

/-- ITS FALSE NEIGHBOUR: 'it returns false'. Refute it at one input. -/
def storeMakesWrong : ChangeSpec := { name := "storeMakes", fn := fun _ => fun
  | [d1, d2] => { results := [.lit (.bool false)], args := [d1, d2] }
  | _ => none }
def StoreMakesWrongFalsely : Prop := storeMakesRow.holds Try.pinned (OpenSpec.ofChange storeMakesWrong)

/-- 'silhouettelaw14.StoreApart': WHATEVER THE INPUT: true; the input reads as it did. -/
def storeApartSpec : ChangeSpec := { name := "storeApart", fn := fun _ => fun
  | [d1, d2] => { results := [.lit (.bool true)], args := [d1, d2] }
  | _ => none }
def storeApartRow : OpenClaim := { program := "yteeapkndappnoaa", sum := "0839dae34e3504f9f54679204b9a7e7d80103828554d540ebb0cc0c6793f38ae", func := "silhouette/silhouettelaw14.StoreApart", spec := "storeApart", unfollowed := true, recurses := true, apart := false }
def StoreApartSaid : Prop := storeApartRow.holds Try.pinned (OpenSpec.ofChange storeApartSpec)

/-- ITS FALSE NEIGHBOUR: 'it returns false'. Refute it at one input. -/
def storeApartWrong : ChangeSpec := { name := "storeApart", fn := fun _ => fun
  | [d1, d2] => { results := [.lit (.bool false)], args := [d1, d2] }
  | _ => none }
def StoreApartWrongFalsely : Prop := storeApartRow.holds Try.pinned (OpenSpec.ofChange storeApartWrong)

/-- 'silhouettelaw14.StoreWords': WHATEVER THE INPUT: true; the input reads as it did. -/
def storeWordsSpec : ChangeSpec := { name := "storeWords", fn := fun _ => fun
  | [d1, d2] => { results := [.lit (.bool true)], args := [d1, d2] }
  | _ => none }
def storeWordsRow : OpenClaim := { program := "yteeapkndappnoaa", sum := "0839dae34e3504f9f54679204b9a7e7d80103828554d540ebb0cc0c6793f38ae", func := "silhouette/silhouettelaw14.StoreWords", spec := "storeWords", unfollowed := true, recurses := true, apart := false }
def StoreWordsSaid : Prop := storeWordsRow.holds Try.pinned (OpenSpec.ofChange storeWordsSpec)

/-- ITS FALSE NEIGHBOUR: 'it returns false'. Refute it at one input. -/
def storeWordsWrong : ChangeSpec := { name := "storeWords", fn := fun _ => fun
  | [d1, d2] => { results := [.lit (.bool false)], args := [d1, d2] }
  | _ => none }
def StoreWordsWrongFalsely : Prop := storeWordsRow.holds Try.pinned (OpenSpec.ofChange storeWordsWrong)

/-- 'silhouettelaw14.StoreClears': WHATEVER THE INPUT: true; the input reads as it did. -/
def storeClearsSpec : ChangeSpec := { name := "storeClears", fn := fun _ => fun
  | [d1, d2, d3] => { results := [.lit (.bool true)], args := [d1, d2, d3] }
  | _ => none }
def storeClearsRow : OpenClaim := { program := "yteeapkndappnoaa", sum := "0839dae34e3504f9f54679204b9a7e7d80103828554d540ebb0cc0c6793f38ae", func := "silhouette/silhouettelaw14.StoreClears", spec := "storeClears", unfollowed := true, recurses := true, apart := false }
def StoreClearsSaid : Prop := storeClearsRow.holds Try.pinned (OpenSpec.ofChange storeClearsSpec)

/-- ITS FALSE NEIGHBOUR: 'it returns false'. Refute it at one input. -/
def storeClearsWrong : ChangeSpec := { name := "storeClears", fn := fun _ => fun
  | [d1, d2, d3] => { results := [.lit (.bool false)], args := [d1, d2, d3] }
  | _ => none }
def StoreClearsWrongFalsely : Prop := storeClearsRow.holds Try.pinned (OpenSpec.ofChange storeClearsWrong)

/-- 'silhouettelaw14.StorePlays': WHATEVER THE INPUT: true; the input reads as it did. -/
def storePlaysSpec : ChangeSpec := { name := "storePlays", fn := fun _ => fun
  | [d1, d2, d3, d4, d5, d6] => { results := [.lit (.bool true)], args := [d1, d2, d3, d4, d5, d6] }
  | _ => none }
def storePlaysRow : OpenClaim := { program := "yteeapkndappnoaa", sum := "0839dae34e3504f9f54679204b9a7e7d80103828554d540ebb0cc0c6793f38ae", func := "silhouette/silhouettelaw14.StorePlays", spec := "storePlays", unfollowed := true, recurses := true, apart := false }
def StorePlaysSaid : Prop := storePlaysRow.holds Try.pinned (OpenSpec.ofChange storePlaysSpec)

/-- ITS FALSE NEIGHBOUR: 'it returns false'. Refute it at one input. -/
def storePlaysWrong : ChangeSpec := { name := "storePlays", fn := fun _ => fun
  | [d1, d2, d3, d4, d5, d6] => { results := [.lit (.bool false)], args := [d1, d2, d3, d4, d5, d6] }
  | _ => none }
def StorePlaysWrongFalsely : Prop := storePlaysRow.holds Try.pinned (OpenSpec.ofChange storePlaysWrong)

/- THE SECOND FORM. 'bulk': how many values and letters a reading holds, each counted each time it is reached (what is shared counts as often as it is met; a slice's spare places count too). A statement '..UptoSaid' is the law's where the arguments, and the package variables that the reading takes, are together of bulk at most 1048576: NARROWER than '..Said'. Prove '..Said' where nothing that the law and all that it calls make is longer than what came in: it says more and counts as full. Else prove '..UptoSaid'. A law counts once. -/
mutual
def uptoBulk {H : Type} : DataW H → Nat
  | .lit (.string bytes) => bytes.length + 1
  | .lit _ => 1
  | .nil => 1
  | .ptr d => uptoBulk d + 1
  | .slice elems spare => uptoBulkAll elems + uptoBulkAll spare + 1
  | .agg parts => uptoBulkAll parts + 1
  | .iface _ d => uptoBulk d + 1
  | .map entries => uptoBulkEntries entries + 1
  | .held _ => 1
def uptoBulkAll {H : Type} : List (DataW H) → Nat
  | [] => 0
  | d :: r => uptoBulk d + uptoBulkAll r
def uptoBulkEntries {H : Type} : List (Lit × DataW H) → Nat
  | [] => 0
  | x :: r => uptoBulkEntry x + uptoBulkEntries r
def uptoBulkEntry {H : Type} : Lit × DataW H → Nat
  | (.string bytes, d) => bytes.length + uptoBulk d + 1
  | (_, d) => uptoBulk d + 1
 end
def uptoSmall : (H : Type) → List (DataW H) → Bool := fun _ ds => decide (uptoBulkAll ds ≤ 1048576)
def OpenSpec.upto (s : _root_.Go.ChangeSpec) : _root_.Go.OpenSpec := { _root_.Go.OpenSpec.ofChange s with cond := some uptoSmall }

/-- 'silhouettelaw14.StoreLinks', WHERE WHAT IT READS IS OF BULK AT MOST 1048576: true; the input reads as it did. -/
def storeLinksUptoRow : OpenClaim := { program := "yteeapkndappnoaa", sum := "0839dae34e3504f9f54679204b9a7e7d80103828554d540ebb0cc0c6793f38ae", func := "silhouette/silhouettelaw14.StoreLinks", spec := "storeLinks", unfollowed := true, recurses := true, apart := false, narrowed := true }
def StoreLinksUptoSaid : Prop := storeLinksUptoRow.holds Try.pinned (OpenSpec.upto storeLinksSpec)

/-- 'silhouettelaw14.StoreDrops', WHERE WHAT IT READS IS OF BULK AT MOST 1048576: true; the input reads as it did. -/
def storeDropsUptoRow : OpenClaim := { program := "yteeapkndappnoaa", sum := "0839dae34e3504f9f54679204b9a7e7d80103828554d540ebb0cc0c6793f38ae", func := "silhouette/silhouettelaw14.StoreDrops", spec := "storeDrops", unfollowed := true, recurses := true, apart := false, narrowed := true }
def StoreDropsUptoSaid : Prop := storeDropsUptoRow.holds Try.pinned (OpenSpec.upto storeDropsSpec)

/-- 'silhouettelaw14.StoreMakes', WHERE WHAT IT READS IS OF BULK AT MOST 1048576: true; the input reads as it did. -/
def storeMakesUptoRow : OpenClaim := { program := "yteeapkndappnoaa", sum := "0839dae34e3504f9f54679204b9a7e7d80103828554d540ebb0cc0c6793f38ae", func := "silhouette/silhouettelaw14.StoreMakes", spec := "storeMakes", unfollowed := true, recurses := true, apart := false, narrowed := true }
def StoreMakesUptoSaid : Prop := storeMakesUptoRow.holds Try.pinned (OpenSpec.upto storeMakesSpec)

/-- 'silhouettelaw14.StoreApart', WHERE WHAT IT READS IS OF BULK AT MOST 1048576: true; the input reads as it did. -/
def storeApartUptoRow : OpenClaim := { program := "yteeapkndappnoaa", sum := "0839dae34e3504f9f54679204b9a7e7d80103828554d540ebb0cc0c6793f38ae", func := "silhouette/silhouettelaw14.StoreApart", spec := "storeApart", unfollowed := true, recurses := true, apart := false, narrowed := true }
def StoreApartUptoSaid : Prop := storeApartUptoRow.holds Try.pinned (OpenSpec.upto storeApartSpec)

/-- 'silhouettelaw14.StoreWords', WHERE WHAT IT READS IS OF BULK AT MOST 1048576: true; the input reads as it did. -/
def storeWordsUptoRow : OpenClaim := { program := "yteeapkndappnoaa", sum := "0839dae34e3504f9f54679204b9a7e7d80103828554d540ebb0cc0c6793f38ae", func := "silhouette/silhouettelaw14.StoreWords", spec := "storeWords", unfollowed := true, recurses := true, apart := false, narrowed := true }
def StoreWordsUptoSaid : Prop := storeWordsUptoRow.holds Try.pinned (OpenSpec.upto storeWordsSpec)

/-- 'silhouettelaw14.StoreClears', WHERE WHAT IT READS IS OF BULK AT MOST 1048576: true; the input reads as it did. -/
def storeClearsUptoRow : OpenClaim := { program := "yteeapkndappnoaa", sum := "0839dae34e3504f9f54679204b9a7e7d80103828554d540ebb0cc0c6793f38ae", func := "silhouette/silhouettelaw14.StoreClears", spec := "storeClears", unfollowed := true, recurses := true, apart := false, narrowed := true }
def StoreClearsUptoSaid : Prop := storeClearsUptoRow.holds Try.pinned (OpenSpec.upto storeClearsSpec)

/-- 'silhouettelaw14.StorePlays', WHERE WHAT IT READS IS OF BULK AT MOST 1048576: true; the input reads as it did. -/
def storePlaysUptoRow : OpenClaim := { program := "yteeapkndappnoaa", sum := "0839dae34e3504f9f54679204b9a7e7d80103828554d540ebb0cc0c6793f38ae", func := "silhouette/silhouettelaw14.StorePlays", spec := "storePlays", unfollowed := true, recurses := true, apart := false, narrowed := true }
def StorePlaysUptoSaid : Prop := storePlaysUptoRow.holds Try.pinned (OpenSpec.upto storePlaysSpec)

end Rows
end Go.Proofs.Yteeapkndappnoaa
