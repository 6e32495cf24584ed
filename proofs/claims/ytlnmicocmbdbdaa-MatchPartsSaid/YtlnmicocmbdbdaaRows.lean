/-
  No cell of these rows narrows 'for every input' (looked for: loops, veiled, ifaces, maps, wideKeys, modest, calm, conditions, laid).
  DERIVED. THE GIVEN ROWS OF THIS SEAT. 5 by the template 'for every input the law returns true; each argument reads behind the call as it read before'; 0 by the template 'total and deterministic' (their statements: YtlnmicocmbdbdaaTotals.lean).
  GIVEN WITH THE SEED: the statements are not yours to turn. If you find one false, say at which input.
  Laid BY PROGRAM, IN A SANDBOX (cutbox-rows.mjs): the forced cells as the released guide's own fill.sh prints them over the translation 09a5d669adc2e622… (all of the seat's roots in one cut). By AI agents, Wed Nov 11 2026. No macro, syntax, notation, axiom, sorry.
-/
import Derived.Test.YtlnmicocmbdbdaaChecked
import GoSem.Claim
import GoSem.ClaimJoined
import GoSem.ClaimMapViews
import Derived.JoinedTies
import Derived.KernelRfl
namespace Go.Proofs.Ytlnmicocmbdbdaa
/- THE CELL 'sum', in the pinned program and in every row, IS THE sha256 OF THE DUMP (.gsa) THAT YtlnmicocmbdbdaaProg.lean LOADS. Nothing in Lean hashes anything: it is a label: what it is worth is what the hold of that sum in a sandbox is worth. -/
noncomputable def Try.pinned : Pinned := { name := "ytlnmicocmbdbdaa", sum := "09a5d669adc2e62212c7ae46c9aed72e720a99e916f050da5f388c37a7a0b45a", checked := Try.checked }
namespace Rows
def none {H : Type} : Left H := { results := [], args := [] }

/-- 'concertinalaw09.MatchMeans': WHATEVER THE INPUT: true; the input reads as it did. -/
def matchMeansSpec : ChangeSpec := { name := "matchMeans", fn := fun _ => fun
  | [d1, d2, d3, d4] => { results := [.lit (.bool true)], args := [d1, d2, d3, d4] }
  | _ => none }
def matchMeansRow : OpenClaim := { program := "ytlnmicocmbdbdaa", sum := "09a5d669adc2e62212c7ae46c9aed72e720a99e916f050da5f388c37a7a0b45a", func := "concertina/concertinalaw09.MatchMeans", spec := "matchMeans", apart := false }
def MatchMeansSaid : Prop := matchMeansRow.holds Try.pinned (OpenSpec.ofChange matchMeansSpec)

/-- ITS FALSE NEIGHBOUR: 'it returns false'. Refute it at one input. -/
def matchMeansWrong : ChangeSpec := { name := "matchMeans", fn := fun _ => fun
  | [d1, d2, d3, d4] => { results := [.lit (.bool false)], args := [d1, d2, d3, d4] }
  | _ => none }
def MatchMeansWrongFalsely : Prop := matchMeansRow.holds Try.pinned (OpenSpec.ofChange matchMeansWrong)

/-- 'concertinalaw09.MatchParts': WHATEVER THE INPUT: true; the input reads as it did. -/
def matchPartsSpec : ChangeSpec := { name := "matchParts", fn := fun _ => fun
  | [d1, d2, d3, d4] => { results := [.lit (.bool true)], args := [d1, d2, d3, d4] }
  | _ => none }
def matchPartsRow : OpenClaim := { program := "ytlnmicocmbdbdaa", sum := "09a5d669adc2e62212c7ae46c9aed72e720a99e916f050da5f388c37a7a0b45a", func := "concertina/concertinalaw09.MatchParts", spec := "matchParts", apart := false }
def MatchPartsSaid : Prop := matchPartsRow.holds Try.pinned (OpenSpec.ofChange matchPartsSpec)

/-- ITS FALSE NEIGHBOUR: 'it returns false'. Refute it at one input. -/
def matchPartsWrong : ChangeSpec := { name := "matchParts", fn := fun _ => fun
  | [d1, d2, d3, d4] => { results := [.lit (.bool false)], args := [d1, d2, d3, d4] }
  | _ => none }
def MatchPartsWrongFalsely : Prop := matchPartsRow.holds Try.pinned (OpenSpec.ofChange matchPartsWrong)

/-- 'concertinalaw09.MatchAlike': WHATEVER THE INPUT: true; the input reads as it did. -/
def matchAlikeSpec : ChangeSpec := { name := "matchAlike", fn := fun _ => fun
  | [d1, d2, d3, d4] => { results := [.lit (.bool true)], args := [d1, d2, d3, d4] }
  | _ => none }
def matchAlikeRow : OpenClaim := { program := "ytlnmicocmbdbdaa", sum := "09a5d669adc2e62212c7ae46c9aed72e720a99e916f050da5f388c37a7a0b45a", func := "concertina/concertinalaw09.MatchAlike", spec := "matchAlike", apart := false }
def MatchAlikeSaid : Prop := matchAlikeRow.holds Try.pinned (OpenSpec.ofChange matchAlikeSpec)

/-- ITS FALSE NEIGHBOUR: 'it returns false'. Refute it at one input. -/
def matchAlikeWrong : ChangeSpec := { name := "matchAlike", fn := fun _ => fun
  | [d1, d2, d3, d4] => { results := [.lit (.bool false)], args := [d1, d2, d3, d4] }
  | _ => none }
def MatchAlikeWrongFalsely : Prop := matchAlikeRow.holds Try.pinned (OpenSpec.ofChange matchAlikeWrong)

/-- 'concertinalaw09.MatchShort': WHATEVER THE INPUT: true; the input reads as it did. -/
def matchShortSpec : ChangeSpec := { name := "matchShort", fn := fun _ => fun
  | [d1, d2, d3] => { results := [.lit (.bool true)], args := [d1, d2, d3] }
  | _ => none }
def matchShortRow : OpenClaim := { program := "ytlnmicocmbdbdaa", sum := "09a5d669adc2e62212c7ae46c9aed72e720a99e916f050da5f388c37a7a0b45a", func := "concertina/concertinalaw09.MatchShort", spec := "matchShort", apart := false }
def MatchShortSaid : Prop := matchShortRow.holds Try.pinned (OpenSpec.ofChange matchShortSpec)

/-- ITS FALSE NEIGHBOUR: 'it returns false'. Refute it at one input. -/
def matchShortWrong : ChangeSpec := { name := "matchShort", fn := fun _ => fun
  | [d1, d2, d3] => { results := [.lit (.bool false)], args := [d1, d2, d3] }
  | _ => none }
def MatchShortWrongFalsely : Prop := matchShortRow.holds Try.pinned (OpenSpec.ofChange matchShortWrong)

/-- 'concertinalaw09.MatchFar': WHATEVER THE INPUT: true; the input reads as it did. -/
def matchFarSpec : ChangeSpec := { name := "matchFar", fn := fun _ => fun
  | [d1, d2, d3] => { results := [.lit (.bool true)], args := [d1, d2, d3] }
  | _ => none }
def matchFarRow : OpenClaim := { program := "ytlnmicocmbdbdaa", sum := "09a5d669adc2e62212c7ae46c9aed72e720a99e916f050da5f388c37a7a0b45a", func := "concertina/concertinalaw09.MatchFar", spec := "matchFar", apart := false }
def MatchFarSaid : Prop := matchFarRow.holds Try.pinned (OpenSpec.ofChange matchFarSpec)

/-- ITS FALSE NEIGHBOUR: 'it returns false'. Refute it at one input. -/
def matchFarWrong : ChangeSpec := { name := "matchFar", fn := fun _ => fun
  | [d1, d2, d3] => { results := [.lit (.bool false)], args := [d1, d2, d3] }
  | _ => none }
def MatchFarWrongFalsely : Prop := matchFarRow.holds Try.pinned (OpenSpec.ofChange matchFarWrong)

/- THE SECOND FORM. 'bulk': how many values and letters a reading holds, each counted each time it is reached (what is shared counts as often as it is met; a slice's spare places count too). A statement '..UptoSaid' is the law's where the arguments, and the package variables that the reading takes, are together of bulk at most 1048576: NARROWER than '..Said'. Prove '..Said' where nothing that the law and all that it calls make is longer than what came in: it says more and counts as full. Else prove '..UptoSaid'. A law counts once. -/
mutual
def uptoBulk {H : Type} : DataW H → Nat
  | .lit (.string bytes) => bytes.length + 1
  | .lit _ => 1
  | .nil => 1
  | .ptr d => uptoBulk d + 1
  | .slice elems spare => uptoBulkAll elems + uptoBulkAll spare + 1
  | .agg parts => uptoBulkAll parts + 1
  | .iface _ d => uptoBulk d + 1
  | .map entries => uptoBulkEntries entries + 1
  | .held _ => 1
def uptoBulkAll {H : Type} : List (DataW H) → Nat
  | [] => 0
  | d :: r => uptoBulk d + uptoBulkAll r
def uptoBulkEntries {H : Type} : List (Lit × DataW H) → Nat
  | [] => 0
  | x :: r => uptoBulkEntry x + uptoBulkEntries r
def uptoBulkEntry {H : Type} : Lit × DataW H → Nat
  | (.string bytes, d) => bytes.length + uptoBulk d + 1
  | (_, d) => uptoBulk d + 1
 end
def uptoSmall : (H : Type) → List (DataW H) → Bool := fun _ ds => decide (uptoBulkAll ds ≤ 1048576)
def OpenSpec.upto (s : _root_.Go.ChangeSpec) : _root_.Go.OpenSpec := { _root_.Go.OpenSpec.ofChange s with cond := some uptoSmall }

/-- 'concertinalaw09.MatchMeans', WHERE WHAT IT READS IS OF BULK AT MOST 1048576: true; the input reads as it did. -/
def matchMeansUptoRow : OpenClaim := { program := "ytlnmicocmbdbdaa", sum := "09a5d669adc2e62212c7ae46c9aed72e720a99e916f050da5f388c37a7a0b45a", func := "concertina/concertinalaw09.MatchMeans", spec := "matchMeans", apart := false, narrowed := true }
def MatchMeansUptoSaid : Prop := matchMeansUptoRow.holds Try.pinned (OpenSpec.upto matchMeansSpec)

/-- 'concertinalaw09.MatchParts', WHERE WHAT IT READS IS OF BULK AT MOST 1048576: true; the input reads as it did. -/
def matchPartsUptoRow : OpenClaim := { program := "ytlnmicocmbdbdaa", sum := "09a5d669adc2e62212c7ae46c9aed72e720a99e916f050da5f388c37a7a0b45a", func := "concertina/concertinalaw09.MatchParts", spec := "matchParts", apart := false, narrowed := true }
def MatchPartsUptoSaid : Prop := matchPartsUptoRow.holds Try.pinned (OpenSpec.upto matchPartsSpec)

/-- 'concertinalaw09.MatchAlike', WHERE WHAT IT READS IS OF BULK AT MOST 1048576: true; the input reads as it did. -/
def matchAlikeUptoRow : OpenClaim := { program := "ytlnmicocmbdbdaa", sum := "09a5d669adc2e62212c7ae46c9aed72e720a99e916f050da5f388c37a7a0b45a", func := "concertina/concertinalaw09.MatchAlike", spec := "matchAlike", apart := false, narrowed := true }
def MatchAlikeUptoSaid : Prop := matchAlikeUptoRow.holds Try.pinned (OpenSpec.upto matchAlikeSpec)

/-- 'concertinalaw09.MatchShort', WHERE WHAT IT READS IS OF BULK AT MOST 1048576: true; the input reads as it did. -/
def matchShortUptoRow : OpenClaim := { program := "ytlnmicocmbdbdaa", sum := "09a5d669adc2e62212c7ae46c9aed72e720a99e916f050da5f388c37a7a0b45a", func := "concertina/concertinalaw09.MatchShort", spec := "matchShort", apart := false, narrowed := true }
def MatchShortUptoSaid : Prop := matchShortUptoRow.holds Try.pinned (OpenSpec.upto matchShortSpec)

/-- 'concertinalaw09.MatchFar', WHERE WHAT IT READS IS OF BULK AT MOST 1048576: true; the input reads as it did. -/
def matchFarUptoRow : OpenClaim := { program := "ytlnmicocmbdbdaa", sum := "09a5d669adc2e62212c7ae46c9aed72e720a99e916f050da5f388c37a7a0b45a", func := "concertina/concertinalaw09.MatchFar", spec := "matchFar", apart := false, narrowed := true }
def MatchFarUptoSaid : Prop := matchFarUptoRow.holds Try.pinned (OpenSpec.upto matchFarSpec)

end Rows
end Go.Proofs.Ytlnmicocmbdbdaa
