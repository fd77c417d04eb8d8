/-
  No cell of these rows narrows 'for every input' (looked for: loops, veiled, ifaces, maps, wideKeys, modest, calm, conditions, laid).
  DERIVED. THE GIVEN ROWS OF THIS SEAT. 6 by the template 'for every input the law returns true; each argument reads behind the call as it read before'; 0 by the template 'total and deterministic' (their statements: YtedjanjjfhpcnaaTotals.lean).
  GIVEN WITH THE SEED: the statements are not yours to turn. If you find one false, say at which input.
  Laid BY PROGRAM, IN A SANDBOX (cutbox-rows.mjs): the forced cells as the released guide's own fill.sh prints them over the translation 72e9550c3e51ae5d… (all of the seat's roots in one cut). By AI agents, Wed Nov 11 2026. No macro, syntax, notation, axiom, sorry.
-/
import Derived.Test.YtedjanjjfhpcnaaChecked
import GoSem.Claim
import GoSem.ClaimJoined
import GoSem.ClaimMapViews
import Derived.JoinedTies
import Derived.KernelRfl
namespace Go.Proofs.Ytedjanjjfhpcnaa
/- THE CELL 'sum', in the pinned program and in every row, IS THE sha256 OF THE DUMP (.gsa) THAT YtedjanjjfhpcnaaProg.lean LOADS. Nothing in Lean hashes anything: it is a label: what it is worth is what the hold of that sum in a sandbox is worth. -/
noncomputable def Try.pinned : Pinned := { name := "ytedjanjjfhpcnaa", sum := "72e9550c3e51ae5d4e36c691146d6b51d2ffdfe5673a6ff24e7f91c46be385db", checked := Try.checked }
namespace Rows
def none {H : Type} : Left H := { results := [], args := [] }

/-- 'silhouettelaw01.FramePlays': WHATEVER THE INPUT: true; the input reads as it did. -/
def framePlaysSpec : ChangeSpec := { name := "framePlays", fn := fun _ => fun
  | [d1, d2] => { results := [.lit (.bool true)], args := [d1, d2] }
  | _ => none }
def framePlaysRow : OpenClaim := { program := "ytedjanjjfhpcnaa", sum := "72e9550c3e51ae5d4e36c691146d6b51d2ffdfe5673a6ff24e7f91c46be385db", func := "silhouette/silhouettelaw01.FramePlays", spec := "framePlays", unfollowed := true, recurses := true, apart := false }
def FramePlaysSaid : Prop := framePlaysRow.holds Try.pinned (OpenSpec.ofChange framePlaysSpec)

/-- ITS FALSE NEIGHBOUR: 'it returns false'. Refute it at one input. -/
def framePlaysWrong : ChangeSpec := { name := "framePlays", fn := fun _ => fun
  | [d1, d2] => { results := [.lit (.bool false)], args := [d1, d2] }
  | _ => none }
def FramePlaysWrongFalsely : Prop := framePlaysRow.holds Try.pinned (OpenSpec.ofChange framePlaysWrong)

/-- 'silhouettelaw01.FrameWords': WHATEVER THE INPUT: true; the input reads as it did. -/
def frameWordsSpec : ChangeSpec := { name := "frameWords", fn := fun _ => fun
  | [d1, d2, d3] => { results := [.lit (.bool true)], args := [d1, d2, d3] }
  | _ => none }
def frameWordsRow : OpenClaim := { program := "ytedjanjjfhpcnaa", sum := "72e9550c3e51ae5d4e36c691146d6b51d2ffdfe5673a6ff24e7f91c46be385db", func := "silhouette/silhouettelaw01.FrameWords", spec := "frameWords", unfollowed := true, recurses := true, apart := false }
def FrameWordsSaid : Prop := frameWordsRow.holds Try.pinned (OpenSpec.ofChange frameWordsSpec)

/-- ITS FALSE NEIGHBOUR: 'it returns false'. Refute it at one input. -/
def frameWordsWrong : ChangeSpec := { name := "frameWords", fn := fun _ => fun
  | [d1, d2, d3] => { results := [.lit (.bool false)], args := [d1, d2, d3] }
  | _ => none }
def FrameWordsWrongFalsely : Prop := frameWordsRow.holds Try.pinned (OpenSpec.ofChange frameWordsWrong)

/-- 'silhouettelaw01.FrameSame': WHATEVER THE INPUT: true; the input reads as it did. -/
def frameSameSpec : ChangeSpec := { name := "frameSame", fn := fun _ => fun
  | [d1, d2, d3, d4] => { results := [.lit (.bool true)], args := [d1, d2, d3, d4] }
  | _ => none }
def frameSameRow : OpenClaim := { program := "ytedjanjjfhpcnaa", sum := "72e9550c3e51ae5d4e36c691146d6b51d2ffdfe5673a6ff24e7f91c46be385db", func := "silhouette/silhouettelaw01.FrameSame", spec := "frameSame", unfollowed := true, recurses := true, apart := false }
def FrameSameSaid : Prop := frameSameRow.holds Try.pinned (OpenSpec.ofChange frameSameSpec)

/-- ITS FALSE NEIGHBOUR: 'it returns false'. Refute it at one input. -/
def frameSameWrong : ChangeSpec := { name := "frameSame", fn := fun _ => fun
  | [d1, d2, d3, d4] => { results := [.lit (.bool false)], args := [d1, d2, d3, d4] }
  | _ => none }
def FrameSameWrongFalsely : Prop := frameSameRow.holds Try.pinned (OpenSpec.ofChange frameSameWrong)

/-- 'silhouettelaw01.FrameOwn': WHATEVER THE INPUT: true; the input reads as it did. -/
def frameOwnSpec : ChangeSpec := { name := "frameOwn", fn := fun _ => fun
  | [d1, d2] => { results := [.lit (.bool true)], args := [d1, d2] }
  | _ => none }
def frameOwnRow : OpenClaim := { program := "ytedjanjjfhpcnaa", sum := "72e9550c3e51ae5d4e36c691146d6b51d2ffdfe5673a6ff24e7f91c46be385db", func := "silhouette/silhouettelaw01.FrameOwn", spec := "frameOwn", unfollowed := true, recurses := true, apart := false }
def FrameOwnSaid : Prop := frameOwnRow.holds Try.pinned (OpenSpec.ofChange frameOwnSpec)

/-- ITS FALSE NEIGHBOUR: 'it returns false'. Refute it at one input. -/
def frameOwnWrong : ChangeSpec := { name := "frameOwn", fn := fun _ => fun
  | [d1, d2] => { results := [.lit (.bool false)], args := [d1, d2] }
  | _ => none }
def FrameOwnWrongFalsely : Prop := frameOwnRow.holds Try.pinned (OpenSpec.ofChange frameOwnWrong)

/-- 'silhouettelaw01.FrameApart': WHATEVER THE INPUT: true; the input reads as it did. -/
def frameApartSpec : ChangeSpec := { name := "frameApart", fn := fun _ => fun
  | [d1, d2, d3, d4] => { results := [.lit (.bool true)], args := [d1, d2, d3, d4] }
  | _ => none }
def frameApartRow : OpenClaim := { program := "ytedjanjjfhpcnaa", sum := "72e9550c3e51ae5d4e36c691146d6b51d2ffdfe5673a6ff24e7f91c46be385db", func := "silhouette/silhouettelaw01.FrameApart", spec := "frameApart", unfollowed := true, recurses := true, apart := false }
def FrameApartSaid : Prop := frameApartRow.holds Try.pinned (OpenSpec.ofChange frameApartSpec)

/-- ITS FALSE NEIGHBOUR: 'it returns false'. Refute it at one input. -/
def frameApartWrong : ChangeSpec := { name := "frameApart", fn := fun _ => fun
  | [d1, d2, d3, d4] => { results := [.lit (.bool false)], args := [d1, d2, d3, d4] }
  | _ => none }
def FrameApartWrongFalsely : Prop := frameApartRow.holds Try.pinned (OpenSpec.ofChange frameApartWrong)

/-- 'silhouettelaw01.FrameFills': WHATEVER THE INPUT: true; the input reads as it did. -/
def frameFillsSpec : ChangeSpec := { name := "frameFills", fn := fun _ => fun
  | [d1, d2, d3] => { results := [.lit (.bool true)], args := [d1, d2, d3] }
  | _ => none }
def frameFillsRow : OpenClaim := { program := "ytedjanjjfhpcnaa", sum := "72e9550c3e51ae5d4e36c691146d6b51d2ffdfe5673a6ff24e7f91c46be385db", func := "silhouette/silhouettelaw01.FrameFills", spec := "frameFills", unfollowed := true, recurses := true, apart := false }
def FrameFillsSaid : Prop := frameFillsRow.holds Try.pinned (OpenSpec.ofChange frameFillsSpec)

/-- ITS FALSE NEIGHBOUR: 'it returns false'. Refute it at one input. -/
def frameFillsWrong : ChangeSpec := { name := "frameFills", fn := fun _ => fun
  | [d1, d2, d3] => { results := [.lit (.bool false)], args := [d1, d2, d3] }
  | _ => none }
def FrameFillsWrongFalsely : Prop := frameFillsRow.holds Try.pinned (OpenSpec.ofChange frameFillsWrong)

/- THE SECOND FORM. 'bulk': how many values and letters a reading holds, each counted each time it is reached (what is shared counts as often as it is met; a slice's spare places count too). A statement '..UptoSaid' is the law's where the arguments, and the package variables that the reading takes, are together of bulk at most 1048576: NARROWER than '..Said'. Prove '..Said' where nothing that the law and all that it calls make is longer than what came in: it says more and counts as full. Else prove '..UptoSaid'. A law counts once. -/
mutual
def uptoBulk {H : Type} : DataW H → Nat
  | .lit (.string bytes) => bytes.length + 1
  | .lit _ => 1
  | .nil => 1
  | .ptr d => uptoBulk d + 1
  | .slice elems spare => uptoBulkAll elems + uptoBulkAll spare + 1
  | .agg parts => uptoBulkAll parts + 1
  | .iface _ d => uptoBulk d + 1
  | .map entries => uptoBulkEntries entries + 1
  | .held _ => 1
def uptoBulkAll {H : Type} : List (DataW H) → Nat
  | [] => 0
  | d :: r => uptoBulk d + uptoBulkAll r
def uptoBulkEntries {H : Type} : List (Lit × DataW H) → Nat
  | [] => 0
  | x :: r => uptoBulkEntry x + uptoBulkEntries r
def uptoBulkEntry {H : Type} : Lit × DataW H → Nat
  | (.string bytes, d) => bytes.length + uptoBulk d + 1
  | (_, d) => uptoBulk d + 1
 end
def uptoSmall : (H : Type) → List (DataW H) → Bool := fun _ ds => decide (uptoBulkAll ds ≤ 1048576)
def OpenSpec.upto (s : _root_.Go.ChangeSpec) : _root_.Go.OpenSpec := { _root_.Go.OpenSpec.ofChange s with cond := some uptoSmall }

/-- 'silhouettelaw01.FramePlays', WHERE WHAT IT READS IS OF BULK AT MOST 1048576: true; the input reads as it did. -/
def framePlaysUptoRow : OpenClaim := { program := "ytedjanjjfhpcnaa", sum := "72e9550c3e51ae5d4e36c691146d6b51d2ffdfe5673a6ff24e7f91c46be385db", func := "silhouette/silhouettelaw01.FramePlays", spec := "framePlays", unfollowed := true, recurses := true, apart := false, narrowed := true }
def FramePlaysUptoSaid : Prop := framePlaysUptoRow.holds Try.pinned (OpenSpec.upto framePlaysSpec)

/-- 'silhouettelaw01.FrameWords', WHERE WHAT IT READS IS OF BULK AT MOST 1048576: true; the input reads as it did. -/
def frameWordsUptoRow : OpenClaim := { program := "ytedjanjjfhpcnaa", sum := "72e9550c3e51ae5d4e36c691146d6b51d2ffdfe5673a6ff24e7f91c46be385db", func := "silhouette/silhouettelaw01.FrameWords", spec := "frameWords", unfollowed := true, recurses := true, apart := false, narrowed := true }
def FrameWordsUptoSaid : Prop := frameWordsUptoRow.holds Try.pinned (OpenSpec.upto frameWordsSpec)

/-- 'silhouettelaw01.FrameSame', WHERE WHAT IT READS IS OF BULK AT MOST 1048576: true; the input reads as it did. -/
def frameSameUptoRow : OpenClaim := { program := "ytedjanjjfhpcnaa", sum := "72e9550c3e51ae5d4e36c691146d6b51d2ffdfe5673a6ff24e7f91c46be385db", func := "silhouette/silhouettelaw01.FrameSame", spec := "frameSame", unfollowed := true, recurses := true, apart := false, narrowed := true }
def FrameSameUptoSaid : Prop := frameSameUptoRow.holds Try.pinned (OpenSpec.upto frameSameSpec)

/-- 'silhouettelaw01.FrameOwn', WHERE WHAT IT READS IS OF BULK AT MOST 1048576: true; the input reads as it did. -/
def frameOwnUptoRow : OpenClaim := { program := "ytedjanjjfhpcnaa", sum := "72e9550c3e51ae5d4e36c691146d6b51d2ffdfe5673a6ff24e7f91c46be385db", func := "silhouette/silhouettelaw01.FrameOwn", spec := "frameOwn", unfollowed := true, recurses := true, apart := false, narrowed := true }
def FrameOwnUptoSaid : Prop := frameOwnUptoRow.holds Try.pinned (OpenSpec.upto frameOwnSpec)

/-- 'silhouettelaw01.FrameApart', WHERE WHAT IT READS IS OF BULK AT MOST 1048576: true; the input reads as it did. -/
def frameApartUptoRow : OpenClaim := { program := "ytedjanjjfhpcnaa", sum := "72e9550c3e51ae5d4e36c691146d6b51d2ffdfe5673a6ff24e7f91c46be385db", func := "silhouette/silhouettelaw01.FrameApart", spec := "frameApart", unfollowed := true, recurses := true, apart := false, narrowed := true }
def FrameApartUptoSaid : Prop := frameApartUptoRow.holds Try.pinned (OpenSpec.upto frameApartSpec)

/-- 'silhouettelaw01.FrameFills', WHERE WHAT IT READS IS OF BULK AT MOST 1048576: true; the input reads as it did. -/
def frameFillsUptoRow : OpenClaim := { program := "ytedjanjjfhpcnaa", sum := "72e9550c3e51ae5d4e36c691146d6b51d2ffdfe5673a6ff24e7f91c46be385db", func := "silhouette/silhouettelaw01.FrameFills", spec := "frameFills", unfollowed := true, recurses := true, apart := false, narrowed := true }
def FrameFillsUptoSaid : Prop := frameFillsUptoRow.holds Try.pinned (OpenSpec.upto frameFillsSpec)

end Rows
end Go.Proofs.Ytedjanjjfhpcnaa
