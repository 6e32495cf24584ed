/-
  No cell of these rows narrows 'for every input' (looked for: loops, veiled, ifaces, maps, wideKeys, modest, calm, conditions, laid).
  DERIVED. THE GIVEN ROWS OF THIS SEAT. 5 by the template 'for every input the law returns true; each argument reads behind the call as it read before'; 0 by the template 'total and deterministic' (their statements: YtllndcngccjooaaTotals.lean).
  GIVEN WITH THE SEED: the statements are not yours to turn. If you find one false, say at which input.
  Laid BY PROGRAM, IN A SANDBOX (cutbox-rows.mjs): the forced cells as the released guide's own fill.sh prints them over the translation 0bbbaa2ccb7cd176… (all of the seat's roots in one cut). By AI agents, Wed Nov 11 2026. No macro, syntax, notation, axiom, sorry.
-/
import Derived.Test.YtllndcngccjooaaChecked
import GoSem.Claim
import GoSem.ClaimJoined
import GoSem.ClaimMapViews
import Derived.JoinedTies
import Derived.KernelRfl
namespace Go.Proofs.Ytllndcngccjooaa
/- THE CELL 'sum', in the pinned program and in every row, IS THE sha256 OF THE DUMP (.gsa) THAT YtllndcngccjooaaProg.lean LOADS. Nothing in Lean hashes anything: it is a label: what it is worth is what the hold of that sum in a sandbox is worth. -/
noncomputable def Try.pinned : Pinned := { name := "ytllndcngccjooaa", sum := "0bbbaa2ccb7cd176c9f86303f9d500958697da5f07d934cf8f792eb9aa4fa748", checked := Try.checked }
namespace Rows
def none {H : Type} : Left H := { results := [], args := [] }

/-- 'concertinalaw04.CodeCosts': WHATEVER THE INPUT: true; the input reads as it did. -/
def codeCostsSpec : ChangeSpec := { name := "codeCosts", fn := fun _ => fun
  | [d1, d2] => { results := [.lit (.bool true)], args := [d1, d2] }
  | _ => none }
def codeCostsRow : OpenClaim := { program := "ytllndcngccjooaa", sum := "0bbbaa2ccb7cd176c9f86303f9d500958697da5f07d934cf8f792eb9aa4fa748", func := "concertina/concertinalaw04.CodeCosts", spec := "codeCosts", apart := false }
def CodeCostsSaid : Prop := codeCostsRow.holds Try.pinned (OpenSpec.ofChange codeCostsSpec)

/-- ITS FALSE NEIGHBOUR: 'it returns false'. Refute it at one input. -/
def codeCostsWrong : ChangeSpec := { name := "codeCosts", fn := fun _ => fun
  | [d1, d2] => { results := [.lit (.bool false)], args := [d1, d2] }
  | _ => none }
def CodeCostsWrongFalsely : Prop := codeCostsRow.holds Try.pinned (OpenSpec.ofChange codeCostsWrong)

/-- 'concertinalaw04.CodeChecks': WHATEVER THE INPUT: true; the input reads as it did. -/
def codeChecksSpec : ChangeSpec := { name := "codeChecks", fn := fun _ => fun
  | [d1, d2] => { results := [.lit (.bool true)], args := [d1, d2] }
  | _ => none }
def codeChecksRow : OpenClaim := { program := "ytllndcngccjooaa", sum := "0bbbaa2ccb7cd176c9f86303f9d500958697da5f07d934cf8f792eb9aa4fa748", func := "concertina/concertinalaw04.CodeChecks", spec := "codeChecks", apart := false }
def CodeChecksSaid : Prop := codeChecksRow.holds Try.pinned (OpenSpec.ofChange codeChecksSpec)

/-- ITS FALSE NEIGHBOUR: 'it returns false'. Refute it at one input. -/
def codeChecksWrong : ChangeSpec := { name := "codeChecks", fn := fun _ => fun
  | [d1, d2] => { results := [.lit (.bool false)], args := [d1, d2] }
  | _ => none }
def CodeChecksWrongFalsely : Prop := codeChecksRow.holds Try.pinned (OpenSpec.ofChange codeChecksWrong)

/-- 'concertinalaw04.CodePrefix': WHATEVER THE INPUT: true; the input reads as it did. -/
def codePrefixSpec : ChangeSpec := { name := "codePrefix", fn := fun _ => fun
  | [d1, d2] => { results := [.lit (.bool true)], args := [d1, d2] }
  | _ => none }
def codePrefixRow : OpenClaim := { program := "ytllndcngccjooaa", sum := "0bbbaa2ccb7cd176c9f86303f9d500958697da5f07d934cf8f792eb9aa4fa748", func := "concertina/concertinalaw04.CodePrefix", spec := "codePrefix", apart := false }
def CodePrefixSaid : Prop := codePrefixRow.holds Try.pinned (OpenSpec.ofChange codePrefixSpec)

/-- ITS FALSE NEIGHBOUR: 'it returns false'. Refute it at one input. -/
def codePrefixWrong : ChangeSpec := { name := "codePrefix", fn := fun _ => fun
  | [d1, d2] => { results := [.lit (.bool false)], args := [d1, d2] }
  | _ => none }
def CodePrefixWrongFalsely : Prop := codePrefixRow.holds Try.pinned (OpenSpec.ofChange codePrefixWrong)

/-- 'concertinalaw04.CodeOrder': WHATEVER THE INPUT: true; the input reads as it did. -/
def codeOrderSpec : ChangeSpec := { name := "codeOrder", fn := fun _ => fun
  | [d1, d2, d3] => { results := [.lit (.bool true)], args := [d1, d2, d3] }
  | _ => none }
def codeOrderRow : OpenClaim := { program := "ytllndcngccjooaa", sum := "0bbbaa2ccb7cd176c9f86303f9d500958697da5f07d934cf8f792eb9aa4fa748", func := "concertina/concertinalaw04.CodeOrder", spec := "codeOrder", apart := false }
def CodeOrderSaid : Prop := codeOrderRow.holds Try.pinned (OpenSpec.ofChange codeOrderSpec)

/-- ITS FALSE NEIGHBOUR: 'it returns false'. Refute it at one input. -/
def codeOrderWrong : ChangeSpec := { name := "codeOrder", fn := fun _ => fun
  | [d1, d2, d3] => { results := [.lit (.bool false)], args := [d1, d2, d3] }
  | _ => none }
def CodeOrderWrongFalsely : Prop := codeOrderRow.holds Try.pinned (OpenSpec.ofChange codeOrderWrong)

/-- 'concertinalaw04.CodeSplits': WHATEVER THE INPUT: true; the input reads as it did. -/
def codeSplitsSpec : ChangeSpec := { name := "codeSplits", fn := fun _ => fun
  | [d1, d2] => { results := [.lit (.bool true)], args := [d1, d2] }
  | _ => none }
def codeSplitsRow : OpenClaim := { program := "ytllndcngccjooaa", sum := "0bbbaa2ccb7cd176c9f86303f9d500958697da5f07d934cf8f792eb9aa4fa748", func := "concertina/concertinalaw04.CodeSplits", spec := "codeSplits", apart := false }
def CodeSplitsSaid : Prop := codeSplitsRow.holds Try.pinned (OpenSpec.ofChange codeSplitsSpec)

/-- ITS FALSE NEIGHBOUR: 'it returns false'. Refute it at one input. -/
def codeSplitsWrong : ChangeSpec := { name := "codeSplits", fn := fun _ => fun
  | [d1, d2] => { results := [.lit (.bool false)], args := [d1, d2] }
  | _ => none }
def CodeSplitsWrongFalsely : Prop := codeSplitsRow.holds Try.pinned (OpenSpec.ofChange codeSplitsWrong)

/- THE SECOND FORM. 'bulk': how many values and letters a reading holds, each counted each time it is reached (what is shared counts as often as it is met; a slice's spare places count too). A statement '..UptoSaid' is the law's where the arguments, and the package variables that the reading takes, are together of bulk at most 1048576: NARROWER than '..Said'. Prove '..Said' where nothing that the law and all that it calls make is longer than what came in: it says more and counts as full. Else prove '..UptoSaid'. A law counts once. -/
mutual
def uptoBulk {H : Type} : DataW H → Nat
  | .lit (.string bytes) => bytes.length + 1
  | .lit _ => 1
  | .nil => 1
  | .ptr d => uptoBulk d + 1
  | .slice elems spare => uptoBulkAll elems + uptoBulkAll spare + 1
  | .agg parts => uptoBulkAll parts + 1
  | .iface _ d => uptoBulk d + 1
  | .map entries => uptoBulkEntries entries + 1
  | .held _ => 1
def uptoBulkAll {H : Type} : List (DataW H) → Nat
  | [] => 0
  | d :: r => uptoBulk d + uptoBulkAll r
def uptoBulkEntries {H : Type} : List (Lit × DataW H) → Nat
  | [] => 0
  | x :: r => uptoBulkEntry x + uptoBulkEntries r
def uptoBulkEntry {H : Type} : Lit × DataW H → Nat
  | (.string bytes, d) => bytes.length + uptoBulk d + 1
  | (_, d) => uptoBulk d + 1
 end
def uptoSmall : (H : Type) → List (DataW H) → Bool := fun _ ds => decide (uptoBulkAll ds ≤ 1048576)
def OpenSpec.upto (s : _root_.Go.ChangeSpec) : _root_.Go.OpenSpec := { _root_.Go.OpenSpec.ofChange s with cond := some uptoSmall }

/-- 'concertinalaw04.CodeCosts', WHERE WHAT IT READS IS OF BULK AT MOST 1048576: true; the input reads as it did. -/
def codeCostsUptoRow : OpenClaim := { program := "ytllndcngccjooaa", sum := "0bbbaa2ccb7cd176c9f86303f9d500958697da5f07d934cf8f792eb9aa4fa748", func := "concertina/concertinalaw04.CodeCosts", spec := "codeCosts", apart := false, narrowed := true }
def CodeCostsUptoSaid : Prop := codeCostsUptoRow.holds Try.pinned (OpenSpec.upto codeCostsSpec)

/-- 'concertinalaw04.CodeChecks', WHERE WHAT IT READS IS OF BULK AT MOST 1048576: true; the input reads as it did. -/
def codeChecksUptoRow : OpenClaim := { program := "ytllndcngccjooaa", sum := "0bbbaa2ccb7cd176c9f86303f9d500958697da5f07d934cf8f792eb9aa4fa748", func := "concertina/concertinalaw04.CodeChecks", spec := "codeChecks", apart := false, narrowed := true }
def CodeChecksUptoSaid : Prop := codeChecksUptoRow.holds Try.pinned (OpenSpec.upto codeChecksSpec)

/-- 'concertinalaw04.CodePrefix', WHERE WHAT IT READS IS OF BULK AT MOST 1048576: true; the input reads as it did. -/
def codePrefixUptoRow : OpenClaim := { program := "ytllndcngccjooaa", sum := "0bbbaa2ccb7cd176c9f86303f9d500958697da5f07d934cf8f792eb9aa4fa748", func := "concertina/concertinalaw04.CodePrefix", spec := "codePrefix", apart := false, narrowed := true }
def CodePrefixUptoSaid : Prop := codePrefixUptoRow.holds Try.pinned (OpenSpec.upto codePrefixSpec)

/-- 'concertinalaw04.CodeOrder', WHERE WHAT IT READS IS OF BULK AT MOST 1048576: true; the input reads as it did. -/
def codeOrderUptoRow : OpenClaim := { program := "ytllndcngccjooaa", sum := "0bbbaa2ccb7cd176c9f86303f9d500958697da5f07d934cf8f792eb9aa4fa748", func := "concertina/concertinalaw04.CodeOrder", spec := "codeOrder", apart := false, narrowed := true }
def CodeOrderUptoSaid : Prop := codeOrderUptoRow.holds Try.pinned (OpenSpec.upto codeOrderSpec)

/-- 'concertinalaw04.CodeSplits', WHERE WHAT IT READS IS OF BULK AT MOST 1048576: true; the input reads as it did. -/
def codeSplitsUptoRow : OpenClaim := { program := "ytllndcngccjooaa", sum := "0bbbaa2ccb7cd176c9f86303f9d500958697da5f07d934cf8f792eb9aa4fa748", func := "concertina/concertinalaw04.CodeSplits", spec := "codeSplits", apart := false, narrowed := true }
def CodeSplitsUptoSaid : Prop := codeSplitsUptoRow.holds Try.pinned (OpenSpec.upto codeSplitsSpec)

end Rows
end Go.Proofs.Ytllndcngccjooaa
