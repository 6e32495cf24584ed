/-
  No cell of these rows narrows 'for every input' (looked for: loops, veiled, ifaces, maps, wideKeys, modest, calm, conditions, laid).
  DERIVED. THE GIVEN ROWS OF THIS SEAT. 4 by the template 'for every input the law returns true; each argument reads behind the call as it read before'; 0 by the template 'total and deterministic' (their statements: YtoegpffdbfkcpaaTotals.lean).
  GIVEN WITH THE SEED: the statements are not yours to turn. If you find one false, say at which input.
  Laid BY PROGRAM, IN A SANDBOX (cutbox-rows.mjs): the forced cells as the released guide's own fill.sh prints them over the translation 8334d897b2124bd0… (all of the seat's roots in one cut). By AI agents, Wed Nov 11 2026. No macro, syntax, notation, axiom, sorry.
-/
import Derived.Test.YtoegpffdbfkcpaaChecked
import GoSem.Claim
import GoSem.ClaimJoined
import GoSem.ClaimMapViews
import Derived.JoinedTies
import Derived.KernelRfl
namespace Go.Proofs.Ytoegpffdbfkcpaa
/- THE CELL 'sum', in the pinned program and in every row, IS THE sha256 OF THE DUMP (.gsa) THAT YtoegpffdbfkcpaaProg.lean LOADS. Nothing in Lean hashes anything: it is a label: what it is worth is what the hold of that sum in a sandbox is worth. -/
noncomputable def Try.pinned : Pinned := { name := "ytoegpffdbfkcpaa", sum := "8334d897b2124bd000ca5441cd635939dcf9c504810d43350ac3a13987fc9f2c", checked := Try.checked }
namespace Rows
def none {H : Type} : Left H := { results := [], args := [] }

/-- 'concertinalaw12.InflateCut': WHATEVER THE INPUT: true; the input reads as it did. -/
def inflateCutSpec : ChangeSpec := { name := "inflateCut", fn := fun _ => fun
  | [d1, d2] => { results := [.lit (.bool true)], args := [d1, d2] }
  | _ => none }
def inflateCutRow : OpenClaim := { program := "ytoegpffdbfkcpaa", sum := "8334d897b2124bd000ca5441cd635939dcf9c504810d43350ac3a13987fc9f2c", func := "concertina/concertinalaw12.InflateCut", spec := "inflateCut", apart := false }
def InflateCutSaid : Prop := inflateCutRow.holds Try.pinned (OpenSpec.ofChange inflateCutSpec)

/-- ITS FALSE NEIGHBOUR: 'it returns false'. Refute it at one input. -/
def inflateCutWrong : ChangeSpec := { name := "inflateCut", fn := fun _ => fun
  | [d1, d2] => { results := [.lit (.bool false)], args := [d1, d2] }
  | _ => none }
def InflateCutWrongFalsely : Prop := inflateCutRow.holds Try.pinned (OpenSpec.ofChange inflateCutWrong)

/-- 'concertinalaw12.InflateCaps': WHATEVER THE INPUT: true; the input reads as it did. -/
def inflateCapsSpec : ChangeSpec := { name := "inflateCaps", fn := fun _ => fun
  | [d1, d2] => { results := [.lit (.bool true)], args := [d1, d2] }
  | _ => none }
def inflateCapsRow : OpenClaim := { program := "ytoegpffdbfkcpaa", sum := "8334d897b2124bd000ca5441cd635939dcf9c504810d43350ac3a13987fc9f2c", func := "concertina/concertinalaw12.InflateCaps", spec := "inflateCaps", apart := false }
def InflateCapsSaid : Prop := inflateCapsRow.holds Try.pinned (OpenSpec.ofChange inflateCapsSpec)

/-- ITS FALSE NEIGHBOUR: 'it returns false'. Refute it at one input. -/
def inflateCapsWrong : ChangeSpec := { name := "inflateCaps", fn := fun _ => fun
  | [d1, d2] => { results := [.lit (.bool false)], args := [d1, d2] }
  | _ => none }
def InflateCapsWrongFalsely : Prop := inflateCapsRow.holds Try.pinned (OpenSpec.ofChange inflateCapsWrong)

/-- 'concertinalaw12.InflateNone': WHATEVER THE INPUT: true; the input reads as it did. -/
def inflateNoneSpec : ChangeSpec := { name := "inflateNone", fn := fun _ => fun
  | [d1, d2] => { results := [.lit (.bool true)], args := [d1, d2] }
  | _ => none }
def inflateNoneRow : OpenClaim := { program := "ytoegpffdbfkcpaa", sum := "8334d897b2124bd000ca5441cd635939dcf9c504810d43350ac3a13987fc9f2c", func := "concertina/concertinalaw12.InflateNone", spec := "inflateNone", apart := false }
def InflateNoneSaid : Prop := inflateNoneRow.holds Try.pinned (OpenSpec.ofChange inflateNoneSpec)

/-- ITS FALSE NEIGHBOUR: 'it returns false'. Refute it at one input. -/
def inflateNoneWrong : ChangeSpec := { name := "inflateNone", fn := fun _ => fun
  | [d1, d2] => { results := [.lit (.bool false)], args := [d1, d2] }
  | _ => none }
def InflateNoneWrongFalsely : Prop := inflateNoneRow.holds Try.pinned (OpenSpec.ofChange inflateNoneWrong)

/-- 'concertinalaw12.InflateJoins': WHATEVER THE INPUT: true; the input reads as it did. -/
def inflateJoinsSpec : ChangeSpec := { name := "inflateJoins", fn := fun _ => fun
  | [d1, d2, d3, d4] => { results := [.lit (.bool true)], args := [d1, d2, d3, d4] }
  | _ => none }
def inflateJoinsRow : OpenClaim := { program := "ytoegpffdbfkcpaa", sum := "8334d897b2124bd000ca5441cd635939dcf9c504810d43350ac3a13987fc9f2c", func := "concertina/concertinalaw12.InflateJoins", spec := "inflateJoins", apart := false }
def InflateJoinsSaid : Prop := inflateJoinsRow.holds Try.pinned (OpenSpec.ofChange inflateJoinsSpec)

/-- ITS FALSE NEIGHBOUR: 'it returns false'. Refute it at one input. -/
def inflateJoinsWrong : ChangeSpec := { name := "inflateJoins", fn := fun _ => fun
  | [d1, d2, d3, d4] => { results := [.lit (.bool false)], args := [d1, d2, d3, d4] }
  | _ => none }
def InflateJoinsWrongFalsely : Prop := inflateJoinsRow.holds Try.pinned (OpenSpec.ofChange inflateJoinsWrong)

/- THE SECOND FORM. 'bulk': how many values and letters a reading holds, each counted each time it is reached (what is shared counts as often as it is met; a slice's spare places count too). A statement '..UptoSaid' is the law's where the arguments, and the package variables that the reading takes, are together of bulk at most 1048576: NARROWER than '..Said'. Prove '..Said' where nothing that the law and all that it calls make is longer than what came in: it says more and counts as full. Else prove '..UptoSaid'. A law counts once. -/
mutual
def uptoBulk {H : Type} : DataW H → Nat
  | .lit (.string bytes) => bytes.length + 1
  | .lit _ => 1
  | .nil => 1
  | .ptr d => uptoBulk d + 1
  | .slice elems spare => uptoBulkAll elems + uptoBulkAll spare + 1
  | .agg parts => uptoBulkAll parts + 1
  | .iface _ d => uptoBulk d + 1
  | .map entries => uptoBulkEntries entries + 1
  | .held _ => 1
def uptoBulkAll {H : Type} : List (DataW H) → Nat
  | [] => 0
  | d :: r => uptoBulk d + uptoBulkAll r
def uptoBulkEntries {H : Type} : List (Lit × DataW H) → Nat
  | [] => 0
  | x :: r => uptoBulkEntry x + uptoBulkEntries r
def uptoBulkEntry {H : Type} : Lit × DataW H → Nat
  | (.string bytes, d) => bytes.length + uptoBulk d + 1
  | (_, d) => uptoBulk d + 1
 end
def uptoSmall : (H : Type) → List (DataW H) → Bool := fun _ ds => decide (uptoBulkAll ds ≤ 1048576)
def OpenSpec.upto (s : _root_.Go.ChangeSpec) : _root_.Go.OpenSpec := { _root_.Go.OpenSpec.ofChange s with cond := some uptoSmall }

/-- 'concertinalaw12.InflateCut', WHERE WHAT IT READS IS OF BULK AT MOST 1048576: true; the input reads as it did. -/
def inflateCutUptoRow : OpenClaim := { program := "ytoegpffdbfkcpaa", sum := "8334d897b2124bd000ca5441cd635939dcf9c504810d43350ac3a13987fc9f2c", func := "concertina/concertinalaw12.InflateCut", spec := "inflateCut", apart := false, narrowed := true }
def InflateCutUptoSaid : Prop := inflateCutUptoRow.holds Try.pinned (OpenSpec.upto inflateCutSpec)

/-- 'concertinalaw12.InflateCaps', WHERE WHAT IT READS IS OF BULK AT MOST 1048576: true; the input reads as it did. -/
def inflateCapsUptoRow : OpenClaim := { program := "ytoegpffdbfkcpaa", sum := "8334d897b2124bd000ca5441cd635939dcf9c504810d43350ac3a13987fc9f2c", func := "concertina/concertinalaw12.InflateCaps", spec := "inflateCaps", apart := false, narrowed := true }
def InflateCapsUptoSaid : Prop := inflateCapsUptoRow.holds Try.pinned (OpenSpec.upto inflateCapsSpec)

/-- 'concertinalaw12.InflateNone', WHERE WHAT IT READS IS OF BULK AT MOST 1048576: true; the input reads as it did. -/
def inflateNoneUptoRow : OpenClaim := { program := "ytoegpffdbfkcpaa", sum := "8334d897b2124bd000ca5441cd635939dcf9c504810d43350ac3a13987fc9f2c", func := "concertina/concertinalaw12.InflateNone", spec := "inflateNone", apart := false, narrowed := true }
def InflateNoneUptoSaid : Prop := inflateNoneUptoRow.holds Try.pinned (OpenSpec.upto inflateNoneSpec)

/-- 'concertinalaw12.InflateJoins', WHERE WHAT IT READS IS OF BULK AT MOST 1048576: true; the input reads as it did. -/
def inflateJoinsUptoRow : OpenClaim := { program := "ytoegpffdbfkcpaa", sum := "8334d897b2124bd000ca5441cd635939dcf9c504810d43350ac3a13987fc9f2c", func := "concertina/concertinalaw12.InflateJoins", spec := "inflateJoins", apart := false, narrowed := true }
def InflateJoinsUptoSaid : Prop := inflateJoinsUptoRow.holds Try.pinned (OpenSpec.upto inflateJoinsSpec)

end Rows
end Go.Proofs.Ytoegpffdbfkcpaa
