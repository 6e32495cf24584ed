/-
  No cell of these rows narrows 'for every input' (looked for: loops, veiled, ifaces, maps, wideKeys, modest, calm, conditions, laid).
  DERIVED. THE GIVEN ROWS OF THIS SEAT. 4 by the template 'for every input the law returns true; each argument reads behind the call as it read before'; 0 by the template 'total and deterministic' (their statements: YtckhkkjdibcclaaTotals.lean).
  GIVEN WITH THE SEED: the statements are not yours to turn. If you find one false, say at which input.
  Laid BY PROGRAM, IN A SANDBOX (cutbox-rows.mjs): the forced cells as the released guide's own fill.sh prints them over the translation 4cd9c0e503935086… (all of the seat's roots in one cut). By AI agents, Wed Nov 11 2026. No macro, syntax, notation, axiom, sorry.
-/
import Derived.Test.YtckhkkjdibcclaaChecked
import GoSem.Claim
import GoSem.ClaimJoined
import GoSem.ClaimMapViews
import Derived.JoinedTies
import Derived.KernelRfl
namespace Go.Proofs.Ytckhkkjdibcclaa
/- THE CELL 'sum', in the pinned program and in every row, IS THE sha256 OF THE DUMP (.gsa) THAT YtckhkkjdibcclaaProg.lean LOADS. Nothing in Lean hashes anything: it is a label: what it is worth is what the hold of that sum in a sandbox is worth. -/
noncomputable def Try.pinned : Pinned := { name := "ytckhkkjdibcclaa", sum := "4cd9c0e5039350869eca1c935f4d22d4ddb8dbf0d93d1ecdaa3aafbeff6d23e1", checked := Try.checked }
namespace Rows
def none {H : Type} : Left H := { results := [], args := [] }

/-- 'concertinalaw10.BlockCodes': WHATEVER THE INPUT: true; the input reads as it did. -/
def blockCodesSpec : ChangeSpec := { name := "blockCodes", fn := fun _ => fun
  | [d] => { results := [.lit (.bool true)], args := [d] }
  | _ => none }
def blockCodesRow : OpenClaim := { program := "ytckhkkjdibcclaa", sum := "4cd9c0e5039350869eca1c935f4d22d4ddb8dbf0d93d1ecdaa3aafbeff6d23e1", func := "concertina/concertinalaw10.BlockCodes", spec := "blockCodes", unfollowed := true, recurses := true, apart := false }
def BlockCodesSaid : Prop := blockCodesRow.holds Try.pinned (OpenSpec.ofChange blockCodesSpec)

/-- ITS FALSE NEIGHBOUR: 'it returns false'. Refute it at one input. -/
def blockCodesWrong : ChangeSpec := { name := "blockCodes", fn := fun _ => fun
  | [d] => { results := [.lit (.bool false)], args := [d] }
  | _ => none }
def BlockCodesWrongFalsely : Prop := blockCodesRow.holds Try.pinned (OpenSpec.ofChange blockCodesWrong)

/-- 'concertinalaw10.BlockMeans': WHATEVER THE INPUT: true; the input reads as it did. -/
def blockMeansSpec : ChangeSpec := { name := "blockMeans", fn := fun _ => fun
  | [d1, d2, d3, d4] => { results := [.lit (.bool true)], args := [d1, d2, d3, d4] }
  | _ => none }
def blockMeansRow : OpenClaim := { program := "ytckhkkjdibcclaa", sum := "4cd9c0e5039350869eca1c935f4d22d4ddb8dbf0d93d1ecdaa3aafbeff6d23e1", func := "concertina/concertinalaw10.BlockMeans", spec := "blockMeans", unfollowed := true, recurses := true, apart := false }
def BlockMeansSaid : Prop := blockMeansRow.holds Try.pinned (OpenSpec.ofChange blockMeansSpec)

/-- ITS FALSE NEIGHBOUR: 'it returns false'. Refute it at one input. -/
def blockMeansWrong : ChangeSpec := { name := "blockMeans", fn := fun _ => fun
  | [d1, d2, d3, d4] => { results := [.lit (.bool false)], args := [d1, d2, d3, d4] }
  | _ => none }
def BlockMeansWrongFalsely : Prop := blockMeansRow.holds Try.pinned (OpenSpec.ofChange blockMeansWrong)

/-- 'concertinalaw10.BlockCheap': WHATEVER THE INPUT: true; the input reads as it did. -/
def blockCheapSpec : ChangeSpec := { name := "blockCheap", fn := fun _ => fun
  | [d1, d2] => { results := [.lit (.bool true)], args := [d1, d2] }
  | _ => none }
def blockCheapRow : OpenClaim := { program := "ytckhkkjdibcclaa", sum := "4cd9c0e5039350869eca1c935f4d22d4ddb8dbf0d93d1ecdaa3aafbeff6d23e1", func := "concertina/concertinalaw10.BlockCheap", spec := "blockCheap", unfollowed := true, recurses := true, apart := false }
def BlockCheapSaid : Prop := blockCheapRow.holds Try.pinned (OpenSpec.ofChange blockCheapSpec)

/-- ITS FALSE NEIGHBOUR: 'it returns false'. Refute it at one input. -/
def blockCheapWrong : ChangeSpec := { name := "blockCheap", fn := fun _ => fun
  | [d1, d2] => { results := [.lit (.bool false)], args := [d1, d2] }
  | _ => none }
def BlockCheapWrongFalsely : Prop := blockCheapRow.holds Try.pinned (OpenSpec.ofChange blockCheapWrong)

/-- 'concertinalaw10.BlockWrong': WHATEVER THE INPUT: true; the input reads as it did. -/
def blockWrongSpec : ChangeSpec := { name := "blockWrong", fn := fun _ => fun
  | [d1, d2, d3] => { results := [.lit (.bool true)], args := [d1, d2, d3] }
  | _ => none }
def blockWrongRow : OpenClaim := { program := "ytckhkkjdibcclaa", sum := "4cd9c0e5039350869eca1c935f4d22d4ddb8dbf0d93d1ecdaa3aafbeff6d23e1", func := "concertina/concertinalaw10.BlockWrong", spec := "blockWrong", unfollowed := true, recurses := true, apart := false }
def BlockWrongSaid : Prop := blockWrongRow.holds Try.pinned (OpenSpec.ofChange blockWrongSpec)

/-- ITS FALSE NEIGHBOUR: 'it returns false'. Refute it at one input. -/
def blockWrongWrong : ChangeSpec := { name := "blockWrong", fn := fun _ => fun
  | [d1, d2, d3] => { results := [.lit (.bool false)], args := [d1, d2, d3] }
  | _ => none }
def BlockWrongWrongFalsely : Prop := blockWrongRow.holds Try.pinned (OpenSpec.ofChange blockWrongWrong)

/- THE SECOND FORM. 'bulk': how many values and letters a reading holds, each counted each time it is reached (what is shared counts as often as it is met; a slice's spare places count too). A statement '..UptoSaid' is the law's where the arguments, and the package variables that the reading takes, are together of bulk at most 1048576: NARROWER than '..Said'. Prove '..Said' where nothing that the law and all that it calls make is longer than what came in: it says more and counts as full. Else prove '..UptoSaid'. A law counts once. -/
mutual
def uptoBulk {H : Type} : DataW H → Nat
  | .lit (.string bytes) => bytes.length + 1
  | .lit _ => 1
  | .nil => 1
  | .ptr d => uptoBulk d + 1
  | .slice elems spare => uptoBulkAll elems + uptoBulkAll spare + 1
  | .agg parts => uptoBulkAll parts + 1
  | .iface _ d => uptoBulk d + 1
  | .map entries => uptoBulkEntries entries + 1
  | .held _ => 1
def uptoBulkAll {H : Type} : List (DataW H) → Nat
  | [] => 0
  | d :: r => uptoBulk d + uptoBulkAll r
def uptoBulkEntries {H : Type} : List (Lit × DataW H) → Nat
  | [] => 0
  | x :: r => uptoBulkEntry x + uptoBulkEntries r
def uptoBulkEntry {H : Type} : Lit × DataW H → Nat
  | (.string bytes, d) => bytes.length + uptoBulk d + 1
  | (_, d) => uptoBulk d + 1
 end
def uptoSmall : (H : Type) → List (DataW H) → Bool := fun _ ds => decide (uptoBulkAll ds ≤ 1048576)
def OpenSpec.upto (s : _root_.Go.ChangeSpec) : _root_.Go.OpenSpec := { _root_.Go.OpenSpec.ofChange s with cond := some uptoSmall }

/-- 'concertinalaw10.BlockCodes', WHERE WHAT IT READS IS OF BULK AT MOST 1048576: true; the input reads as it did. -/
def blockCodesUptoRow : OpenClaim := { program := "ytckhkkjdibcclaa", sum := "4cd9c0e5039350869eca1c935f4d22d4ddb8dbf0d93d1ecdaa3aafbeff6d23e1", func := "concertina/concertinalaw10.BlockCodes", spec := "blockCodes", unfollowed := true, recurses := true, apart := false, narrowed := true }
def BlockCodesUptoSaid : Prop := blockCodesUptoRow.holds Try.pinned (OpenSpec.upto blockCodesSpec)

/-- 'concertinalaw10.BlockMeans', WHERE WHAT IT READS IS OF BULK AT MOST 1048576: true; the input reads as it did. -/
def blockMeansUptoRow : OpenClaim := { program := "ytckhkkjdibcclaa", sum := "4cd9c0e5039350869eca1c935f4d22d4ddb8dbf0d93d1ecdaa3aafbeff6d23e1", func := "concertina/concertinalaw10.BlockMeans", spec := "blockMeans", unfollowed := true, recurses := true, apart := false, narrowed := true }
def BlockMeansUptoSaid : Prop := blockMeansUptoRow.holds Try.pinned (OpenSpec.upto blockMeansSpec)

/-- 'concertinalaw10.BlockCheap', WHERE WHAT IT READS IS OF BULK AT MOST 1048576: true; the input reads as it did. -/
def blockCheapUptoRow : OpenClaim := { program := "ytckhkkjdibcclaa", sum := "4cd9c0e5039350869eca1c935f4d22d4ddb8dbf0d93d1ecdaa3aafbeff6d23e1", func := "concertina/concertinalaw10.BlockCheap", spec := "blockCheap", unfollowed := true, recurses := true, apart := false, narrowed := true }
def BlockCheapUptoSaid : Prop := blockCheapUptoRow.holds Try.pinned (OpenSpec.upto blockCheapSpec)

/-- 'concertinalaw10.BlockWrong', WHERE WHAT IT READS IS OF BULK AT MOST 1048576: true; the input reads as it did. -/
def blockWrongUptoRow : OpenClaim := { program := "ytckhkkjdibcclaa", sum := "4cd9c0e5039350869eca1c935f4d22d4ddb8dbf0d93d1ecdaa3aafbeff6d23e1", func := "concertina/concertinalaw10.BlockWrong", spec := "blockWrong", unfollowed := true, recurses := true, apart := false, narrowed := true }
def BlockWrongUptoSaid : Prop := blockWrongUptoRow.holds Try.pinned (OpenSpec.upto blockWrongSpec)

end Rows
end Go.Proofs.Ytckhkkjdibcclaa
