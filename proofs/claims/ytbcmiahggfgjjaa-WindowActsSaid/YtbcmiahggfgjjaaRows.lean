/-
  No cell of these rows narrows 'for every input' (looked for: loops, veiled, ifaces, maps, wideKeys, modest, calm, conditions, laid).
  DERIVED. THE GIVEN ROWS OF THIS SEAT. 8 by the template 'for every input the law returns true; each argument reads behind the call as it read before'; 0 by the template 'total and deterministic' (their statements: YtbcmiahggfgjjaaTotals.lean).
  GIVEN WITH THE SEED: the statements are not yours to turn. If you find one false, say at which input.
  Laid BY PROGRAM, IN A SANDBOX (cutbox-rows.mjs): the forced cells as the released guide's own fill.sh prints them over the translation ad0e33445742f12c… (all of the seat's roots in one cut). By AI agents, Wed Nov 11 2026. No macro, syntax, notation, axiom, sorry.
-/
import Derived.Test.YtbcmiahggfgjjaaChecked
import GoSem.Claim
import GoSem.ClaimJoined
import GoSem.ClaimMapViews
import Derived.JoinedTies
import Derived.KernelRfl
namespace Go.Proofs.Ytbcmiahggfgjjaa
/- THE CELL 'sum', in the pinned program and in every row, IS THE sha256 OF THE DUMP (.gsa) THAT YtbcmiahggfgjjaaProg.lean LOADS. Nothing in Lean hashes anything: it is a label: what it is worth is what the hold of that sum in a sandbox is worth. -/
noncomputable def Try.pinned : Pinned := { name := "ytbcmiahggfgjjaa", sum := "ad0e33445742f12c8c2b80125162173aef41fe5b1ac11415349c60c7b5d44d1b", checked := Try.checked }
namespace Rows
def none {H : Type} : Left H := { results := [], args := [] }

/-- 'concertinalaw07.WindowRuns': WHATEVER THE INPUT: true; the input reads as it did. -/
def windowRunsSpec : ChangeSpec := { name := "windowRuns", fn := fun _ => fun
  | [d1, d2, d3] => { results := [.lit (.bool true)], args := [d1, d2, d3] }
  | _ => none }
def windowRunsRow : OpenClaim := { program := "ytbcmiahggfgjjaa", sum := "ad0e33445742f12c8c2b80125162173aef41fe5b1ac11415349c60c7b5d44d1b", func := "concertina/concertinalaw07.WindowRuns", spec := "windowRuns", apart := false }
def WindowRunsSaid : Prop := windowRunsRow.holds Try.pinned (OpenSpec.ofChange windowRunsSpec)

/-- ITS FALSE NEIGHBOUR: 'it returns false'. Refute it at one input. -/
def windowRunsWrong : ChangeSpec := { name := "windowRuns", fn := fun _ => fun
  | [d1, d2, d3] => { results := [.lit (.bool false)], args := [d1, d2, d3] }
  | _ => none }
def WindowRunsWrongFalsely : Prop := windowRunsRow.holds Try.pinned (OpenSpec.ofChange windowRunsWrong)

/-- 'concertinalaw07.WindowFar': WHATEVER THE INPUT: true; the input reads as it did. -/
def windowFarSpec : ChangeSpec := { name := "windowFar", fn := fun _ => fun
  | [d1, d2] => { results := [.lit (.bool true)], args := [d1, d2] }
  | _ => none }
def windowFarRow : OpenClaim := { program := "ytbcmiahggfgjjaa", sum := "ad0e33445742f12c8c2b80125162173aef41fe5b1ac11415349c60c7b5d44d1b", func := "concertina/concertinalaw07.WindowFar", spec := "windowFar", apart := false }
def WindowFarSaid : Prop := windowFarRow.holds Try.pinned (OpenSpec.ofChange windowFarSpec)

/-- ITS FALSE NEIGHBOUR: 'it returns false'. Refute it at one input. -/
def windowFarWrong : ChangeSpec := { name := "windowFar", fn := fun _ => fun
  | [d1, d2] => { results := [.lit (.bool false)], args := [d1, d2] }
  | _ => none }
def WindowFarWrongFalsely : Prop := windowFarRow.holds Try.pinned (OpenSpec.ofChange windowFarWrong)

/-- 'concertinalaw07.WindowActs': WHATEVER THE INPUT: true; the input reads as it did. -/
def windowActsSpec : ChangeSpec := { name := "windowActs", fn := fun _ => fun
  | [d1, d2] => { results := [.lit (.bool true)], args := [d1, d2] }
  | _ => none }
def windowActsRow : OpenClaim := { program := "ytbcmiahggfgjjaa", sum := "ad0e33445742f12c8c2b80125162173aef41fe5b1ac11415349c60c7b5d44d1b", func := "concertina/concertinalaw07.WindowActs", spec := "windowActs", apart := false }
def WindowActsSaid : Prop := windowActsRow.holds Try.pinned (OpenSpec.ofChange windowActsSpec)

/-- ITS FALSE NEIGHBOUR: 'it returns false'. Refute it at one input. -/
def windowActsWrong : ChangeSpec := { name := "windowActs", fn := fun _ => fun
  | [d1, d2] => { results := [.lit (.bool false)], args := [d1, d2] }
  | _ => none }
def WindowActsWrongFalsely : Prop := windowActsRow.holds Try.pinned (OpenSpec.ofChange windowActsWrong)

/-- 'concertinalaw07.WindowNone': WHATEVER THE INPUT: true; the input reads as it did. -/
def windowNoneSpec : ChangeSpec := { name := "windowNone", fn := fun _ => fun
  | [d1, d2, d3] => { results := [.lit (.bool true)], args := [d1, d2, d3] }
  | _ => none }
def windowNoneRow : OpenClaim := { program := "ytbcmiahggfgjjaa", sum := "ad0e33445742f12c8c2b80125162173aef41fe5b1ac11415349c60c7b5d44d1b", func := "concertina/concertinalaw07.WindowNone", spec := "windowNone", apart := false }
def WindowNoneSaid : Prop := windowNoneRow.holds Try.pinned (OpenSpec.ofChange windowNoneSpec)

/-- ITS FALSE NEIGHBOUR: 'it returns false'. Refute it at one input. -/
def windowNoneWrong : ChangeSpec := { name := "windowNone", fn := fun _ => fun
  | [d1, d2, d3] => { results := [.lit (.bool false)], args := [d1, d2, d3] }
  | _ => none }
def WindowNoneWrongFalsely : Prop := windowNoneRow.holds Try.pinned (OpenSpec.ofChange windowNoneWrong)

/-- 'concertinalaw08.TokenCodes': WHATEVER THE INPUT: true; the input reads as it did. -/
def tokenCodesSpec : ChangeSpec := { name := "tokenCodes", fn := fun _ => fun
  | [d1, d2] => { results := [.lit (.bool true)], args := [d1, d2] }
  | _ => none }
def tokenCodesRow : OpenClaim := { program := "ytbcmiahggfgjjaa", sum := "ad0e33445742f12c8c2b80125162173aef41fe5b1ac11415349c60c7b5d44d1b", func := "concertina/concertinalaw08.TokenCodes", spec := "tokenCodes", apart := false }
def TokenCodesSaid : Prop := tokenCodesRow.holds Try.pinned (OpenSpec.ofChange tokenCodesSpec)

/-- ITS FALSE NEIGHBOUR: 'it returns false'. Refute it at one input. -/
def tokenCodesWrong : ChangeSpec := { name := "tokenCodes", fn := fun _ => fun
  | [d1, d2] => { results := [.lit (.bool false)], args := [d1, d2] }
  | _ => none }
def TokenCodesWrongFalsely : Prop := tokenCodesRow.holds Try.pinned (OpenSpec.ofChange tokenCodesWrong)

/-- 'concertinalaw08.TokenAll': WHATEVER THE INPUT: true; the input reads as it did. -/
def tokenAllSpec : ChangeSpec := { name := "tokenAll", fn := fun _ => fun
  | [d] => { results := [.lit (.bool true)], args := [d] }
  | _ => none }
def tokenAllRow : OpenClaim := { program := "ytbcmiahggfgjjaa", sum := "ad0e33445742f12c8c2b80125162173aef41fe5b1ac11415349c60c7b5d44d1b", func := "concertina/concertinalaw08.TokenAll", spec := "tokenAll", apart := false }
def TokenAllSaid : Prop := tokenAllRow.holds Try.pinned (OpenSpec.ofChange tokenAllSpec)

/-- ITS FALSE NEIGHBOUR: 'it returns false'. Refute it at one input. -/
def tokenAllWrong : ChangeSpec := { name := "tokenAll", fn := fun _ => fun
  | [d] => { results := [.lit (.bool false)], args := [d] }
  | _ => none }
def TokenAllWrongFalsely : Prop := tokenAllRow.holds Try.pinned (OpenSpec.ofChange tokenAllWrong)

/-- 'concertinalaw08.TokenExpands': WHATEVER THE INPUT: true; the input reads as it did. -/
def tokenExpandsSpec : ChangeSpec := { name := "tokenExpands", fn := fun _ => fun
  | [d] => { results := [.lit (.bool true)], args := [d] }
  | _ => none }
def tokenExpandsRow : OpenClaim := { program := "ytbcmiahggfgjjaa", sum := "ad0e33445742f12c8c2b80125162173aef41fe5b1ac11415349c60c7b5d44d1b", func := "concertina/concertinalaw08.TokenExpands", spec := "tokenExpands", apart := false }
def TokenExpandsSaid : Prop := tokenExpandsRow.holds Try.pinned (OpenSpec.ofChange tokenExpandsSpec)

/-- ITS FALSE NEIGHBOUR: 'it returns false'. Refute it at one input. -/
def tokenExpandsWrong : ChangeSpec := { name := "tokenExpands", fn := fun _ => fun
  | [d] => { results := [.lit (.bool false)], args := [d] }
  | _ => none }
def TokenExpandsWrongFalsely : Prop := tokenExpandsRow.holds Try.pinned (OpenSpec.ofChange tokenExpandsWrong)

/-- 'concertinalaw08.TokenJoins': WHATEVER THE INPUT: true; the input reads as it did. -/
def tokenJoinsSpec : ChangeSpec := { name := "tokenJoins", fn := fun _ => fun
  | [d1, d2] => { results := [.lit (.bool true)], args := [d1, d2] }
  | _ => none }
def tokenJoinsRow : OpenClaim := { program := "ytbcmiahggfgjjaa", sum := "ad0e33445742f12c8c2b80125162173aef41fe5b1ac11415349c60c7b5d44d1b", func := "concertina/concertinalaw08.TokenJoins", spec := "tokenJoins", apart := false }
def TokenJoinsSaid : Prop := tokenJoinsRow.holds Try.pinned (OpenSpec.ofChange tokenJoinsSpec)

/-- ITS FALSE NEIGHBOUR: 'it returns false'. Refute it at one input. -/
def tokenJoinsWrong : ChangeSpec := { name := "tokenJoins", fn := fun _ => fun
  | [d1, d2] => { results := [.lit (.bool false)], args := [d1, d2] }
  | _ => none }
def TokenJoinsWrongFalsely : Prop := tokenJoinsRow.holds Try.pinned (OpenSpec.ofChange tokenJoinsWrong)

/- THE SECOND FORM. 'bulk': how many values and letters a reading holds, each counted each time it is reached (what is shared counts as often as it is met; a slice's spare places count too). A statement '..UptoSaid' is the law's where the arguments, and the package variables that the reading takes, are together of bulk at most 1048576: NARROWER than '..Said'. Prove '..Said' where nothing that the law and all that it calls make is longer than what came in: it says more and counts as full. Else prove '..UptoSaid'. A law counts once. -/
mutual
def uptoBulk {H : Type} : DataW H → Nat
  | .lit (.string bytes) => bytes.length + 1
  | .lit _ => 1
  | .nil => 1
  | .ptr d => uptoBulk d + 1
  | .slice elems spare => uptoBulkAll elems + uptoBulkAll spare + 1
  | .agg parts => uptoBulkAll parts + 1
  | .iface _ d => uptoBulk d + 1
  | .map entries => uptoBulkEntries entries + 1
  | .held _ => 1
def uptoBulkAll {H : Type} : List (DataW H) → Nat
  | [] => 0
  | d :: r => uptoBulk d + uptoBulkAll r
def uptoBulkEntries {H : Type} : List (Lit × DataW H) → Nat
  | [] => 0
  | x :: r => uptoBulkEntry x + uptoBulkEntries r
def uptoBulkEntry {H : Type} : Lit × DataW H → Nat
  | (.string bytes, d) => bytes.length + uptoBulk d + 1
  | (_, d) => uptoBulk d + 1
 end
def uptoSmall : (H : Type) → List (DataW H) → Bool := fun _ ds => decide (uptoBulkAll ds ≤ 1048576)
def OpenSpec.upto (s : _root_.Go.ChangeSpec) : _root_.Go.OpenSpec := { _root_.Go.OpenSpec.ofChange s with cond := some uptoSmall }

/-- 'concertinalaw07.WindowRuns', WHERE WHAT IT READS IS OF BULK AT MOST 1048576: true; the input reads as it did. -/
def windowRunsUptoRow : OpenClaim := { program := "ytbcmiahggfgjjaa", sum := "ad0e33445742f12c8c2b80125162173aef41fe5b1ac11415349c60c7b5d44d1b", func := "concertina/concertinalaw07.WindowRuns", spec := "windowRuns", apart := false, narrowed := true }
def WindowRunsUptoSaid : Prop := windowRunsUptoRow.holds Try.pinned (OpenSpec.upto windowRunsSpec)

/-- 'concertinalaw07.WindowFar', WHERE WHAT IT READS IS OF BULK AT MOST 1048576: true; the input reads as it did. -/
def windowFarUptoRow : OpenClaim := { program := "ytbcmiahggfgjjaa", sum := "ad0e33445742f12c8c2b80125162173aef41fe5b1ac11415349c60c7b5d44d1b", func := "concertina/concertinalaw07.WindowFar", spec := "windowFar", apart := false, narrowed := true }
def WindowFarUptoSaid : Prop := windowFarUptoRow.holds Try.pinned (OpenSpec.upto windowFarSpec)

/-- 'concertinalaw07.WindowActs', WHERE WHAT IT READS IS OF BULK AT MOST 1048576: true; the input reads as it did. -/
def windowActsUptoRow : OpenClaim := { program := "ytbcmiahggfgjjaa", sum := "ad0e33445742f12c8c2b80125162173aef41fe5b1ac11415349c60c7b5d44d1b", func := "concertina/concertinalaw07.WindowActs", spec := "windowActs", apart := false, narrowed := true }
def WindowActsUptoSaid : Prop := windowActsUptoRow.holds Try.pinned (OpenSpec.upto windowActsSpec)

/-- 'concertinalaw07.WindowNone', WHERE WHAT IT READS IS OF BULK AT MOST 1048576: true; the input reads as it did. -/
def windowNoneUptoRow : OpenClaim := { program := "ytbcmiahggfgjjaa", sum := "ad0e33445742f12c8c2b80125162173aef41fe5b1ac11415349c60c7b5d44d1b", func := "concertina/concertinalaw07.WindowNone", spec := "windowNone", apart := false, narrowed := true }
def WindowNoneUptoSaid : Prop := windowNoneUptoRow.holds Try.pinned (OpenSpec.upto windowNoneSpec)

/-- 'concertinalaw08.TokenCodes', WHERE WHAT IT READS IS OF BULK AT MOST 1048576: true; the input reads as it did. -/
def tokenCodesUptoRow : OpenClaim := { program := "ytbcmiahggfgjjaa", sum := "ad0e33445742f12c8c2b80125162173aef41fe5b1ac11415349c60c7b5d44d1b", func := "concertina/concertinalaw08.TokenCodes", spec := "tokenCodes", apart := false, narrowed := true }
def TokenCodesUptoSaid : Prop := tokenCodesUptoRow.holds Try.pinned (OpenSpec.upto tokenCodesSpec)

/-- 'concertinalaw08.TokenAll', WHERE WHAT IT READS IS OF BULK AT MOST 1048576: true; the input reads as it did. -/
def tokenAllUptoRow : OpenClaim := { program := "ytbcmiahggfgjjaa", sum := "ad0e33445742f12c8c2b80125162173aef41fe5b1ac11415349c60c7b5d44d1b", func := "concertina/concertinalaw08.TokenAll", spec := "tokenAll", apart := false, narrowed := true }
def TokenAllUptoSaid : Prop := tokenAllUptoRow.holds Try.pinned (OpenSpec.upto tokenAllSpec)

/-- 'concertinalaw08.TokenExpands', WHERE WHAT IT READS IS OF BULK AT MOST 1048576: true; the input reads as it did. -/
def tokenExpandsUptoRow : OpenClaim := { program := "ytbcmiahggfgjjaa", sum := "ad0e33445742f12c8c2b80125162173aef41fe5b1ac11415349c60c7b5d44d1b", func := "concertina/concertinalaw08.TokenExpands", spec := "tokenExpands", apart := false, narrowed := true }
def TokenExpandsUptoSaid : Prop := tokenExpandsUptoRow.holds Try.pinned (OpenSpec.upto tokenExpandsSpec)

/-- 'concertinalaw08.TokenJoins', WHERE WHAT IT READS IS OF BULK AT MOST 1048576: true; the input reads as it did. -/
def tokenJoinsUptoRow : OpenClaim := { program := "ytbcmiahggfgjjaa", sum := "ad0e33445742f12c8c2b80125162173aef41fe5b1ac11415349c60c7b5d44d1b", func := "concertina/concertinalaw08.TokenJoins", spec := "tokenJoins", apart := false, narrowed := true }
def TokenJoinsUptoSaid : Prop := tokenJoinsUptoRow.holds Try.pinned (OpenSpec.upto tokenJoinsSpec)

end Rows
end Go.Proofs.Ytbcmiahggfgjjaa
