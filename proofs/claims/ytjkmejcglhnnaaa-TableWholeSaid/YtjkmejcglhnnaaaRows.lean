/-
  No cell of these rows narrows 'for every input' (looked for: loops, veiled, ifaces, maps, wideKeys, modest, calm, conditions, laid).
  DERIVED. THE GIVEN ROWS OF THIS SEAT. 4 by the template 'for every input the law returns true; each argument reads behind the call as it read before'; 0 by the template 'total and deterministic' (their statements: YtjkmejcglhnnaaaTotals.lean).
  GIVEN WITH THE SEED: the statements are not yours to turn. If you find one false, say at which input.
  Laid BY PROGRAM, IN A SANDBOX (cutbox-rows.mjs): the forced cells as the released guide's own fill.sh prints them over the translation b08d8210b192917b… (all of the seat's roots in one cut). By AI agents, Wed Nov 11 2026. No macro, syntax, notation, axiom, sorry.
-/
import Derived.Test.YtjkmejcglhnnaaaChecked
import GoSem.Claim
import GoSem.ClaimJoined
import GoSem.ClaimMapViews
import Derived.JoinedTies
import Derived.KernelRfl
namespace Go.Proofs.Ytjkmejcglhnnaaa
/- THE CELL 'sum', in the pinned program and in every row, IS THE sha256 OF THE DUMP (.gsa) THAT YtjkmejcglhnnaaaProg.lean LOADS. Nothing in Lean hashes anything: it is a label: what it is worth is what the hold of that sum in a sandbox is worth. -/
noncomputable def Try.pinned : Pinned := { name := "ytjkmejcglhnnaaa", sum := "b08d8210b192917b0eb3838c2c91f263ab10898459b73b0b67168581ebf6d19e", checked := Try.checked }
namespace Rows
def none {H : Type} : Left H := { results := [], args := [] }

/-- 'concertinalaw06.TableReads': WHATEVER THE INPUT: true; the input reads as it did. -/
def tableReadsSpec : ChangeSpec := { name := "tableReads", fn := fun _ => fun
  | [d1, d2, d3, d4] => { results := [.lit (.bool true)], args := [d1, d2, d3, d4] }
  | _ => none }
def tableReadsRow : OpenClaim := { program := "ytjkmejcglhnnaaa", sum := "b08d8210b192917b0eb3838c2c91f263ab10898459b73b0b67168581ebf6d19e", func := "concertina/concertinalaw06.TableReads", spec := "tableReads", apart := false }
def TableReadsSaid : Prop := tableReadsRow.holds Try.pinned (OpenSpec.ofChange tableReadsSpec)

/-- ITS FALSE NEIGHBOUR: 'it returns false'. Refute it at one input. -/
def tableReadsWrong : ChangeSpec := { name := "tableReads", fn := fun _ => fun
  | [d1, d2, d3, d4] => { results := [.lit (.bool false)], args := [d1, d2, d3, d4] }
  | _ => none }
def TableReadsWrongFalsely : Prop := tableReadsRow.holds Try.pinned (OpenSpec.ofChange tableReadsWrong)

/-- 'concertinalaw06.TableNone': WHATEVER THE INPUT: true; the input reads as it did. -/
def tableNoneSpec : ChangeSpec := { name := "tableNone", fn := fun _ => fun
  | [d1, d2] => { results := [.lit (.bool true)], args := [d1, d2] }
  | _ => none }
def tableNoneRow : OpenClaim := { program := "ytjkmejcglhnnaaa", sum := "b08d8210b192917b0eb3838c2c91f263ab10898459b73b0b67168581ebf6d19e", func := "concertina/concertinalaw06.TableNone", spec := "tableNone", apart := false }
def TableNoneSaid : Prop := tableNoneRow.holds Try.pinned (OpenSpec.ofChange tableNoneSpec)

/-- ITS FALSE NEIGHBOUR: 'it returns false'. Refute it at one input. -/
def tableNoneWrong : ChangeSpec := { name := "tableNone", fn := fun _ => fun
  | [d1, d2] => { results := [.lit (.bool false)], args := [d1, d2] }
  | _ => none }
def TableNoneWrongFalsely : Prop := tableNoneRow.holds Try.pinned (OpenSpec.ofChange tableNoneWrong)

/-- 'concertinalaw06.TableBack': WHATEVER THE INPUT: true; the input reads as it did. -/
def tableBackSpec : ChangeSpec := { name := "tableBack", fn := fun _ => fun
  | [d1, d2] => { results := [.lit (.bool true)], args := [d1, d2] }
  | _ => none }
def tableBackRow : OpenClaim := { program := "ytjkmejcglhnnaaa", sum := "b08d8210b192917b0eb3838c2c91f263ab10898459b73b0b67168581ebf6d19e", func := "concertina/concertinalaw06.TableBack", spec := "tableBack", apart := false }
def TableBackSaid : Prop := tableBackRow.holds Try.pinned (OpenSpec.ofChange tableBackSpec)

/-- ITS FALSE NEIGHBOUR: 'it returns false'. Refute it at one input. -/
def tableBackWrong : ChangeSpec := { name := "tableBack", fn := fun _ => fun
  | [d1, d2] => { results := [.lit (.bool false)], args := [d1, d2] }
  | _ => none }
def TableBackWrongFalsely : Prop := tableBackRow.holds Try.pinned (OpenSpec.ofChange tableBackWrong)

/-- 'concertinalaw06.TableWhole': WHATEVER THE INPUT: true; the input reads as it did. -/
def tableWholeSpec : ChangeSpec := { name := "tableWhole", fn := fun _ => fun
  | [d1, d2] => { results := [.lit (.bool true)], args := [d1, d2] }
  | _ => none }
def tableWholeRow : OpenClaim := { program := "ytjkmejcglhnnaaa", sum := "b08d8210b192917b0eb3838c2c91f263ab10898459b73b0b67168581ebf6d19e", func := "concertina/concertinalaw06.TableWhole", spec := "tableWhole", apart := false }
def TableWholeSaid : Prop := tableWholeRow.holds Try.pinned (OpenSpec.ofChange tableWholeSpec)

/-- ITS FALSE NEIGHBOUR: 'it returns false'. Refute it at one input. -/
def tableWholeWrong : ChangeSpec := { name := "tableWhole", fn := fun _ => fun
  | [d1, d2] => { results := [.lit (.bool false)], args := [d1, d2] }
  | _ => none }
def TableWholeWrongFalsely : Prop := tableWholeRow.holds Try.pinned (OpenSpec.ofChange tableWholeWrong)

/- THE SECOND FORM. 'bulk': how many values and letters a reading holds, each counted each time it is reached (what is shared counts as often as it is met; a slice's spare places count too). A statement '..UptoSaid' is the law's where the arguments, and the package variables that the reading takes, are together of bulk at most 1048576: NARROWER than '..Said'. Prove '..Said' where nothing that the law and all that it calls make is longer than what came in: it says more and counts as full. Else prove '..UptoSaid'. A law counts once. -/
mutual
def uptoBulk {H : Type} : DataW H → Nat
  | .lit (.string bytes) => bytes.length + 1
  | .lit _ => 1
  | .nil => 1
  | .ptr d => uptoBulk d + 1
  | .slice elems spare => uptoBulkAll elems + uptoBulkAll spare + 1
  | .agg parts => uptoBulkAll parts + 1
  | .iface _ d => uptoBulk d + 1
  | .map entries => uptoBulkEntries entries + 1
  | .held _ => 1
def uptoBulkAll {H : Type} : List (DataW H) → Nat
  | [] => 0
  | d :: r => uptoBulk d + uptoBulkAll r
def uptoBulkEntries {H : Type} : List (Lit × DataW H) → Nat
  | [] => 0
  | x :: r => uptoBulkEntry x + uptoBulkEntries r
def uptoBulkEntry {H : Type} : Lit × DataW H → Nat
  | (.string bytes, d) => bytes.length + uptoBulk d + 1
  | (_, d) => uptoBulk d + 1
 end
def uptoSmall : (H : Type) → List (DataW H) → Bool := fun _ ds => decide (uptoBulkAll ds ≤ 1048576)
def OpenSpec.upto (s : _root_.Go.ChangeSpec) : _root_.Go.OpenSpec := { _root_.Go.OpenSpec.ofChange s with cond := some uptoSmall }

/-- 'concertinalaw06.TableReads', WHERE WHAT IT READS IS OF BULK AT MOST 1048576: true; the input reads as it did. -/
def tableReadsUptoRow : OpenClaim := { program := "ytjkmejcglhnnaaa", sum := "b08d8210b192917b0eb3838c2c91f263ab10898459b73b0b67168581ebf6d19e", func := "concertina/concertinalaw06.TableReads", spec := "tableReads", apart := false, narrowed := true }
def TableReadsUptoSaid : Prop := tableReadsUptoRow.holds Try.pinned (OpenSpec.upto tableReadsSpec)

/-- 'concertinalaw06.TableNone', WHERE WHAT IT READS IS OF BULK AT MOST 1048576: true; the input reads as it did. -/
def tableNoneUptoRow : OpenClaim := { program := "ytjkmejcglhnnaaa", sum := "b08d8210b192917b0eb3838c2c91f263ab10898459b73b0b67168581ebf6d19e", func := "concertina/concertinalaw06.TableNone", spec := "tableNone", apart := false, narrowed := true }
def TableNoneUptoSaid : Prop := tableNoneUptoRow.holds Try.pinned (OpenSpec.upto tableNoneSpec)

/-- 'concertinalaw06.TableBack', WHERE WHAT IT READS IS OF BULK AT MOST 1048576: true; the input reads as it did. -/
def tableBackUptoRow : OpenClaim := { program := "ytjkmejcglhnnaaa", sum := "b08d8210b192917b0eb3838c2c91f263ab10898459b73b0b67168581ebf6d19e", func := "concertina/concertinalaw06.TableBack", spec := "tableBack", apart := false, narrowed := true }
def TableBackUptoSaid : Prop := tableBackUptoRow.holds Try.pinned (OpenSpec.upto tableBackSpec)

/-- 'concertinalaw06.TableWhole', WHERE WHAT IT READS IS OF BULK AT MOST 1048576: true; the input reads as it did. -/
def tableWholeUptoRow : OpenClaim := { program := "ytjkmejcglhnnaaa", sum := "b08d8210b192917b0eb3838c2c91f263ab10898459b73b0b67168581ebf6d19e", func := "concertina/concertinalaw06.TableWhole", spec := "tableWhole", apart := false, narrowed := true }
def TableWholeUptoSaid : Prop := tableWholeUptoRow.holds Try.pinned (OpenSpec.upto tableWholeSpec)

end Rows
end Go.Proofs.Ytjkmejcglhnnaaa
