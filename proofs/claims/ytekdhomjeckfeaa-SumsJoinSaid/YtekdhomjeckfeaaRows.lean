/-
  No cell of these rows narrows 'for every input' (looked for: loops, veiled, ifaces, maps, wideKeys, modest, calm, conditions, laid).
  DERIVED. THE GIVEN ROWS OF THIS SEAT. 4 by the template 'for every input the law returns true; each argument reads behind the call as it read before'; 0 by the template 'total and deterministic' (their statements: YtekdhomjeckfeaaTotals.lean).
  GIVEN WITH THE SEED: the statements are not yours to turn. If you find one false, say at which input.
  Laid BY PROGRAM, IN A SANDBOX (cutbox-rows.mjs): the forced cells as the released guide's own fill.sh prints them over the translation 985990678af9e068… (all of the seat's roots in one cut). By AI agents, Wed Nov 11 2026. No macro, syntax, notation, axiom, sorry.
-/
import Derived.Test.YtekdhomjeckfeaaChecked
import GoSem.Claim
import GoSem.ClaimJoined
import GoSem.ClaimMapViews
import Derived.JoinedTies
import Derived.KernelRfl
namespace Go.Proofs.Ytekdhomjeckfeaa
/- THE CELL 'sum', in the pinned program and in every row, IS THE sha256 OF THE DUMP (.gsa) THAT YtekdhomjeckfeaaProg.lean LOADS. Nothing in Lean hashes anything: it is a label: what it is worth is what the hold of that sum in a sandbox is worth. -/
noncomputable def Try.pinned : Pinned := { name := "ytekdhomjeckfeaa", sum := "985990678af9e068106fd333603a989630c59018ff26ce11cdffe6163d9de8ba", checked := Try.checked }
namespace Rows
def none {H : Type} : Left H := { results := [], args := [] }

/-- 'concertinalaw02.SumsAre': WHATEVER THE INPUT: true; the input reads as it did. -/
def sumsAreSpec : ChangeSpec := { name := "sumsAre", fn := fun _ => fun
  | [d1, d2] => { results := [.lit (.bool true)], args := [d1, d2] }
  | _ => none }
def sumsAreRow : OpenClaim := { program := "ytekdhomjeckfeaa", sum := "985990678af9e068106fd333603a989630c59018ff26ce11cdffe6163d9de8ba", func := "concertina/concertinalaw02.SumsAre", spec := "sumsAre", apart := false }
def SumsAreSaid : Prop := sumsAreRow.holds Try.pinned (OpenSpec.ofChange sumsAreSpec)

/-- ITS FALSE NEIGHBOUR: 'it returns false'. Refute it at one input. -/
def sumsAreWrong : ChangeSpec := { name := "sumsAre", fn := fun _ => fun
  | [d1, d2] => { results := [.lit (.bool false)], args := [d1, d2] }
  | _ => none }
def SumsAreWrongFalsely : Prop := sumsAreRow.holds Try.pinned (OpenSpec.ofChange sumsAreWrong)

/-- 'concertinalaw02.SumsTable': WHATEVER THE INPUT: true; the input reads as it did. -/
def sumsTableSpec : ChangeSpec := { name := "sumsTable", fn := fun _ => fun
  | [d1, d2] => { results := [.lit (.bool true)], args := [d1, d2] }
  | _ => none }
def sumsTableRow : OpenClaim := { program := "ytekdhomjeckfeaa", sum := "985990678af9e068106fd333603a989630c59018ff26ce11cdffe6163d9de8ba", func := "concertina/concertinalaw02.SumsTable", spec := "sumsTable", apart := false }
def SumsTableSaid : Prop := sumsTableRow.holds Try.pinned (OpenSpec.ofChange sumsTableSpec)

/-- ITS FALSE NEIGHBOUR: 'it returns false'. Refute it at one input. -/
def sumsTableWrong : ChangeSpec := { name := "sumsTable", fn := fun _ => fun
  | [d1, d2] => { results := [.lit (.bool false)], args := [d1, d2] }
  | _ => none }
def SumsTableWrongFalsely : Prop := sumsTableRow.holds Try.pinned (OpenSpec.ofChange sumsTableWrong)

/-- 'concertinalaw02.SumsTell': WHATEVER THE INPUT: true; the input reads as it did. -/
def sumsTellSpec : ChangeSpec := { name := "sumsTell", fn := fun _ => fun
  | [d1, d2, d3, d4] => { results := [.lit (.bool true)], args := [d1, d2, d3, d4] }
  | _ => none }
def sumsTellRow : OpenClaim := { program := "ytekdhomjeckfeaa", sum := "985990678af9e068106fd333603a989630c59018ff26ce11cdffe6163d9de8ba", func := "concertina/concertinalaw02.SumsTell", spec := "sumsTell", apart := false }
def SumsTellSaid : Prop := sumsTellRow.holds Try.pinned (OpenSpec.ofChange sumsTellSpec)

/-- ITS FALSE NEIGHBOUR: 'it returns false'. Refute it at one input. -/
def sumsTellWrong : ChangeSpec := { name := "sumsTell", fn := fun _ => fun
  | [d1, d2, d3, d4] => { results := [.lit (.bool false)], args := [d1, d2, d3, d4] }
  | _ => none }
def SumsTellWrongFalsely : Prop := sumsTellRow.holds Try.pinned (OpenSpec.ofChange sumsTellWrong)

/-- 'concertinalaw02.SumsJoin': WHATEVER THE INPUT: true; the input reads as it did. -/
def sumsJoinSpec : ChangeSpec := { name := "sumsJoin", fn := fun _ => fun
  | [d1, d2, d3] => { results := [.lit (.bool true)], args := [d1, d2, d3] }
  | _ => none }
def sumsJoinRow : OpenClaim := { program := "ytekdhomjeckfeaa", sum := "985990678af9e068106fd333603a989630c59018ff26ce11cdffe6163d9de8ba", func := "concertina/concertinalaw02.SumsJoin", spec := "sumsJoin", apart := false }
def SumsJoinSaid : Prop := sumsJoinRow.holds Try.pinned (OpenSpec.ofChange sumsJoinSpec)

/-- ITS FALSE NEIGHBOUR: 'it returns false'. Refute it at one input. -/
def sumsJoinWrong : ChangeSpec := { name := "sumsJoin", fn := fun _ => fun
  | [d1, d2, d3] => { results := [.lit (.bool false)], args := [d1, d2, d3] }
  | _ => none }
def SumsJoinWrongFalsely : Prop := sumsJoinRow.holds Try.pinned (OpenSpec.ofChange sumsJoinWrong)

/- THE SECOND FORM. 'bulk': how many values and letters a reading holds, each counted each time it is reached (what is shared counts as often as it is met; a slice's spare places count too). A statement '..UptoSaid' is the law's where the arguments, and the package variables that the reading takes, are together of bulk at most 1048576: NARROWER than '..Said'. Prove '..Said' where nothing that the law and all that it calls make is longer than what came in: it says more and counts as full. Else prove '..UptoSaid'. A law counts once. -/
mutual
def uptoBulk {H : Type} : DataW H → Nat
  | .lit (.string bytes) => bytes.length + 1
  | .lit _ => 1
  | .nil => 1
  | .ptr d => uptoBulk d + 1
  | .slice elems spare => uptoBulkAll elems + uptoBulkAll spare + 1
  | .agg parts => uptoBulkAll parts + 1
  | .iface _ d => uptoBulk d + 1
  | .map entries => uptoBulkEntries entries + 1
  | .held _ => 1
def uptoBulkAll {H : Type} : List (DataW H) → Nat
  | [] => 0
  | d :: r => uptoBulk d + uptoBulkAll r
def uptoBulkEntries {H : Type} : List (Lit × DataW H) → Nat
  | [] => 0
  | x :: r => uptoBulkEntry x + uptoBulkEntries r
def uptoBulkEntry {H : Type} : Lit × DataW H → Nat
  | (.string bytes, d) => bytes.length + uptoBulk d + 1
  | (_, d) => uptoBulk d + 1
 end
def uptoSmall : (H : Type) → List (DataW H) → Bool := fun _ ds => decide (uptoBulkAll ds ≤ 1048576)
def OpenSpec.upto (s : _root_.Go.ChangeSpec) : _root_.Go.OpenSpec := { _root_.Go.OpenSpec.ofChange s with cond := some uptoSmall }

/-- 'concertinalaw02.SumsAre', WHERE WHAT IT READS IS OF BULK AT MOST 1048576: true; the input reads as it did. -/
def sumsAreUptoRow : OpenClaim := { program := "ytekdhomjeckfeaa", sum := "985990678af9e068106fd333603a989630c59018ff26ce11cdffe6163d9de8ba", func := "concertina/concertinalaw02.SumsAre", spec := "sumsAre", apart := false, narrowed := true }
def SumsAreUptoSaid : Prop := sumsAreUptoRow.holds Try.pinned (OpenSpec.upto sumsAreSpec)

/-- 'concertinalaw02.SumsTable', WHERE WHAT IT READS IS OF BULK AT MOST 1048576: true; the input reads as it did. -/
def sumsTableUptoRow : OpenClaim := { program := "ytekdhomjeckfeaa", sum := "985990678af9e068106fd333603a989630c59018ff26ce11cdffe6163d9de8ba", func := "concertina/concertinalaw02.SumsTable", spec := "sumsTable", apart := false, narrowed := true }
def SumsTableUptoSaid : Prop := sumsTableUptoRow.holds Try.pinned (OpenSpec.upto sumsTableSpec)

/-- 'concertinalaw02.SumsTell', WHERE WHAT IT READS IS OF BULK AT MOST 1048576: true; the input reads as it did. -/
def sumsTellUptoRow : OpenClaim := { program := "ytekdhomjeckfeaa", sum := "985990678af9e068106fd333603a989630c59018ff26ce11cdffe6163d9de8ba", func := "concertina/concertinalaw02.SumsTell", spec := "sumsTell", apart := false, narrowed := true }
def SumsTellUptoSaid : Prop := sumsTellUptoRow.holds Try.pinned (OpenSpec.upto sumsTellSpec)

/-- 'concertinalaw02.SumsJoin', WHERE WHAT IT READS IS OF BULK AT MOST 1048576: true; the input reads as it did. -/
def sumsJoinUptoRow : OpenClaim := { program := "ytekdhomjeckfeaa", sum := "985990678af9e068106fd333603a989630c59018ff26ce11cdffe6163d9de8ba", func := "concertina/concertinalaw02.SumsJoin", spec := "sumsJoin", apart := false, narrowed := true }
def SumsJoinUptoSaid : Prop := sumsJoinUptoRow.holds Try.pinned (OpenSpec.upto sumsJoinSpec)

end Rows
end Go.Proofs.Ytekdhomjeckfeaa
