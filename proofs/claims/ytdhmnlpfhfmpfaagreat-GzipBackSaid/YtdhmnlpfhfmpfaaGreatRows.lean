/-
  No cell of these rows narrows 'for every input' (looked for: loops, veiled, ifaces, maps, wideKeys, modest, calm, conditions, laid).
  DERIVED. THE GIVEN ROWS OF THIS SEAT. 3 by the template 'for every input the law returns true; each argument reads behind the call as it read before'; 0 by the template 'total and deterministic' (their statements: YtdhmnlpfhfmpfaaGreatTotals.lean).
  GIVEN WITH THE SEED: the statements are not yours to turn. If you find one false, say at which input.
  Laid BY PROGRAM, IN A SANDBOX (cutbox-rows.mjs): the forced cells as the released guide's own fill.sh prints them over the translation 00ebe11865a29692… (all of the seat's roots in one cut). By AI agents, Wed Nov 11 2026. No macro, syntax, notation, axiom, sorry.
-/
import Derived.Test.YtdhmnlpfhfmpfaaGreatChecked
import GoSem.Claim
import GoSem.ClaimJoined
import GoSem.ClaimMapViews
import Derived.JoinedTies
import Derived.KernelRfl
namespace Go.Proofs.YtdhmnlpfhfmpfaaGreat
/- THE CELL 'sum', in the pinned program and in every row, IS THE sha256 OF THE DUMP (.gsa) THAT YtdhmnlpfhfmpfaaGreatProg.lean LOADS. Nothing in Lean hashes anything: it is a label: what it is worth is what the hold of that sum in a sandbox is worth. -/
noncomputable def Tryz.pinned : Pinned := { name := "ytdhmnlpfhfmpfaagreat", sum := "00ebe11865a296923401f53704fc7e955d4a60fa4aa6c51ca2abffbc7e28aa42", checked := Tryz.checked }
namespace Rows
def none {H : Type} : Left H := { results := [], args := [] }

/-- 'concertinalaw13.GzipTurned': WHATEVER THE INPUT: true; the input reads as it did. -/
def gzipTurnedSpec : ChangeSpec := { name := "gzipTurned", fn := fun _ => fun
  | [d1, d2, d3, d4] => { results := [.lit (.bool true)], args := [d1, d2, d3, d4] }
  | _ => none }
def gzipTurnedRow : OpenClaim := { program := "ytdhmnlpfhfmpfaagreat", sum := "00ebe11865a296923401f53704fc7e955d4a60fa4aa6c51ca2abffbc7e28aa42", func := "concertina/concertinalaw13.GzipTurned", spec := "gzipTurned", inPlace := ["internal/bytealg.IndexByteString"], unfollowed := true, recurses := true, apart := false }
def GzipTurnedSaid : Prop := gzipTurnedRow.holds Tryz.pinned (OpenSpec.ofChange gzipTurnedSpec)

/-- ITS FALSE NEIGHBOUR: 'it returns false'. Refute it at one input. -/
def gzipTurnedWrong : ChangeSpec := { name := "gzipTurned", fn := fun _ => fun
  | [d1, d2, d3, d4] => { results := [.lit (.bool false)], args := [d1, d2, d3, d4] }
  | _ => none }
def GzipTurnedWrongFalsely : Prop := gzipTurnedRow.holds Tryz.pinned (OpenSpec.ofChange gzipTurnedWrong)

/-- 'concertinalaw13.GzipJoins': WHATEVER THE INPUT: true; the input reads as it did. -/
def gzipJoinsSpec : ChangeSpec := { name := "gzipJoins", fn := fun _ => fun
  | [d1, d2, d3, d4] => { results := [.lit (.bool true)], args := [d1, d2, d3, d4] }
  | _ => none }
def gzipJoinsRow : OpenClaim := { program := "ytdhmnlpfhfmpfaagreat", sum := "00ebe11865a296923401f53704fc7e955d4a60fa4aa6c51ca2abffbc7e28aa42", func := "concertina/concertinalaw13.GzipJoins", spec := "gzipJoins", inPlace := ["internal/bytealg.IndexByteString"], unfollowed := true, recurses := true, apart := false }
def GzipJoinsSaid : Prop := gzipJoinsRow.holds Tryz.pinned (OpenSpec.ofChange gzipJoinsSpec)

/-- ITS FALSE NEIGHBOUR: 'it returns false'. Refute it at one input. -/
def gzipJoinsWrong : ChangeSpec := { name := "gzipJoins", fn := fun _ => fun
  | [d1, d2, d3, d4] => { results := [.lit (.bool false)], args := [d1, d2, d3, d4] }
  | _ => none }
def GzipJoinsWrongFalsely : Prop := gzipJoinsRow.holds Tryz.pinned (OpenSpec.ofChange gzipJoinsWrong)

/-- 'concertinalaw13.GzipBack': WHATEVER THE INPUT: true; the input reads as it did. -/
def gzipBackSpec : ChangeSpec := { name := "gzipBack", fn := fun _ => fun
  | [d1, d2, d3] => { results := [.lit (.bool true)], args := [d1, d2, d3] }
  | _ => none }
def gzipBackRow : OpenClaim := { program := "ytdhmnlpfhfmpfaagreat", sum := "00ebe11865a296923401f53704fc7e955d4a60fa4aa6c51ca2abffbc7e28aa42", func := "concertina/concertinalaw13.GzipBack", spec := "gzipBack", inPlace := ["internal/bytealg.IndexByteString"], unfollowed := true, recurses := true, apart := false }
def GzipBackSaid : Prop := gzipBackRow.holds Tryz.pinned (OpenSpec.ofChange gzipBackSpec)

/-- ITS FALSE NEIGHBOUR: 'it returns false'. Refute it at one input. -/
def gzipBackWrong : ChangeSpec := { name := "gzipBack", fn := fun _ => fun
  | [d1, d2, d3] => { results := [.lit (.bool false)], args := [d1, d2, d3] }
  | _ => none }
def GzipBackWrongFalsely : Prop := gzipBackRow.holds Tryz.pinned (OpenSpec.ofChange gzipBackWrong)

/- THE SECOND FORM. 'bulk': how many values and letters a reading holds, each counted each time it is reached (what is shared counts as often as it is met; a slice's spare places count too). A statement '..UptoSaid' is the law's where the arguments, and the package variables that the reading takes, are together of bulk at most 1048576: NARROWER than '..Said'. Prove '..Said' where nothing that the law and all that it calls make is longer than what came in: it says more and counts as full. Else prove '..UptoSaid'. A law counts once. -/
mutual
def uptoBulk {H : Type} : DataW H → Nat
  | .lit (.string bytes) => bytes.length + 1
  | .lit _ => 1
  | .nil => 1
  | .ptr d => uptoBulk d + 1
  | .slice elems spare => uptoBulkAll elems + uptoBulkAll spare + 1
  | .agg parts => uptoBulkAll parts + 1
  | .iface _ d => uptoBulk d + 1
  | .map entries => uptoBulkEntries entries + 1
  | .held _ => 1
def uptoBulkAll {H : Type} : List (DataW H) → Nat
  | [] => 0
  | d :: r => uptoBulk d + uptoBulkAll r
def uptoBulkEntries {H : Type} : List (Lit × DataW H) → Nat
  | [] => 0
  | x :: r => uptoBulkEntry x + uptoBulkEntries r
def uptoBulkEntry {H : Type} : Lit × DataW H → Nat
  | (.string bytes, d) => bytes.length + uptoBulk d + 1
  | (_, d) => uptoBulk d + 1
 end
def uptoSmall : (H : Type) → List (DataW H) → Bool := fun _ ds => decide (uptoBulkAll ds ≤ 1048576)
def OpenSpec.upto (s : _root_.Go.ChangeSpec) : _root_.Go.OpenSpec := { _root_.Go.OpenSpec.ofChange s with cond := some uptoSmall }

/-- 'concertinalaw13.GzipTurned', WHERE WHAT IT READS IS OF BULK AT MOST 1048576: true; the input reads as it did. -/
def gzipTurnedUptoRow : OpenClaim := { program := "ytdhmnlpfhfmpfaagreat", sum := "00ebe11865a296923401f53704fc7e955d4a60fa4aa6c51ca2abffbc7e28aa42", func := "concertina/concertinalaw13.GzipTurned", spec := "gzipTurned", inPlace := ["internal/bytealg.IndexByteString"], unfollowed := true, recurses := true, apart := false, narrowed := true }
def GzipTurnedUptoSaid : Prop := gzipTurnedUptoRow.holds Tryz.pinned (OpenSpec.upto gzipTurnedSpec)

/-- 'concertinalaw13.GzipJoins', WHERE WHAT IT READS IS OF BULK AT MOST 1048576: true; the input reads as it did. -/
def gzipJoinsUptoRow : OpenClaim := { program := "ytdhmnlpfhfmpfaagreat", sum := "00ebe11865a296923401f53704fc7e955d4a60fa4aa6c51ca2abffbc7e28aa42", func := "concertina/concertinalaw13.GzipJoins", spec := "gzipJoins", inPlace := ["internal/bytealg.IndexByteString"], unfollowed := true, recurses := true, apart := false, narrowed := true }
def GzipJoinsUptoSaid : Prop := gzipJoinsUptoRow.holds Tryz.pinned (OpenSpec.upto gzipJoinsSpec)

/-- 'concertinalaw13.GzipBack', WHERE WHAT IT READS IS OF BULK AT MOST 1048576: true; the input reads as it did. -/
def gzipBackUptoRow : OpenClaim := { program := "ytdhmnlpfhfmpfaagreat", sum := "00ebe11865a296923401f53704fc7e955d4a60fa4aa6c51ca2abffbc7e28aa42", func := "concertina/concertinalaw13.GzipBack", spec := "gzipBack", inPlace := ["internal/bytealg.IndexByteString"], unfollowed := true, recurses := true, apart := false, narrowed := true }
def GzipBackUptoSaid : Prop := gzipBackUptoRow.holds Tryz.pinned (OpenSpec.upto gzipBackSpec)

end Rows
end Go.Proofs.YtdhmnlpfhfmpfaaGreat
