/-
  No cell of these rows narrows 'for every input' (looked for: loops, veiled, ifaces, maps, wideKeys, modest, calm, conditions, laid).
  DERIVED. THE GIVEN ROWS OF THIS SEAT. 3 by the template 'for every input the law returns true; each argument reads behind the call as it read before'; 0 by the template 'total and deterministic' (their statements: YtlgkiookobedcaaTotals.lean).
  GIVEN WITH THE SEED: the statements are not yours to turn. If you find one false, say at which input.
  Laid BY PROGRAM, IN A SANDBOX (cutbox-rows.mjs): the forced cells as the released guide's own fill.sh prints them over the translation ce83cfa22f8338f0… (all of the seat's roots in one cut). By AI agents, Wed Nov 11 2026. No macro, syntax, notation, axiom, sorry.
-/
import Derived.Test.YtlgkiookobedcaaChecked
import GoSem.Claim
import GoSem.ClaimJoined
import GoSem.ClaimMapViews
import Derived.JoinedTies
import Derived.KernelRfl
namespace Go.Proofs.Ytlgkiookobedcaa
/- THE CELL 'sum', in the pinned program and in every row, IS THE sha256 OF THE DUMP (.gsa) THAT YtlgkiookobedcaaProg.lean LOADS. Nothing in Lean hashes anything: it is a label: what it is worth is what the hold of that sum in a sandbox is worth. -/
noncomputable def Try.pinned : Pinned := { name := "ytlgkiookobedcaa", sum := "ce83cfa22f8338f01fb9fae468a73d54b9781a828d302f587962888cc0875a17", checked := Try.checked }
namespace Rows
def none {H : Type} : Left H := { results := [], args := [] }

/-- 'concertinalaw11.DeflateMeans': WHATEVER THE INPUT: true; the input reads as it did. -/
def deflateMeansSpec : ChangeSpec := { name := "deflateMeans", fn := fun _ => fun
  | [d1, d2] => { results := [.lit (.bool true)], args := [d1, d2] }
  | _ => none }
def deflateMeansRow : OpenClaim := { program := "ytlgkiookobedcaa", sum := "ce83cfa22f8338f01fb9fae468a73d54b9781a828d302f587962888cc0875a17", func := "concertina/concertinalaw11.DeflateMeans", spec := "deflateMeans", unfollowed := true, recurses := true, apart := false }
def DeflateMeansSaid : Prop := deflateMeansRow.holds Try.pinned (OpenSpec.ofChange deflateMeansSpec)

/-- ITS FALSE NEIGHBOUR: 'it returns false'. Refute it at one input. -/
def deflateMeansWrong : ChangeSpec := { name := "deflateMeans", fn := fun _ => fun
  | [d1, d2] => { results := [.lit (.bool false)], args := [d1, d2] }
  | _ => none }
def DeflateMeansWrongFalsely : Prop := deflateMeansRow.holds Try.pinned (OpenSpec.ofChange deflateMeansWrong)

/-- 'concertinalaw11.DeflateFlush': WHATEVER THE INPUT: true; the input reads as it did. -/
def deflateFlushSpec : ChangeSpec := { name := "deflateFlush", fn := fun _ => fun
  | [d1, d2] => { results := [.lit (.bool true)], args := [d1, d2] }
  | _ => none }
def deflateFlushRow : OpenClaim := { program := "ytlgkiookobedcaa", sum := "ce83cfa22f8338f01fb9fae468a73d54b9781a828d302f587962888cc0875a17", func := "concertina/concertinalaw11.DeflateFlush", spec := "deflateFlush", unfollowed := true, recurses := true, apart := false }
def DeflateFlushSaid : Prop := deflateFlushRow.holds Try.pinned (OpenSpec.ofChange deflateFlushSpec)

/-- ITS FALSE NEIGHBOUR: 'it returns false'. Refute it at one input. -/
def deflateFlushWrong : ChangeSpec := { name := "deflateFlush", fn := fun _ => fun
  | [d1, d2] => { results := [.lit (.bool false)], args := [d1, d2] }
  | _ => none }
def DeflateFlushWrongFalsely : Prop := deflateFlushRow.holds Try.pinned (OpenSpec.ofChange deflateFlushWrong)

/-- 'concertinalaw11.DeflateOver': WHATEVER THE INPUT: true; the input reads as it did. -/
def deflateOverSpec : ChangeSpec := { name := "deflateOver", fn := fun _ => fun
  | [d1, d2] => { results := [.lit (.bool true)], args := [d1, d2] }
  | _ => none }
def deflateOverRow : OpenClaim := { program := "ytlgkiookobedcaa", sum := "ce83cfa22f8338f01fb9fae468a73d54b9781a828d302f587962888cc0875a17", func := "concertina/concertinalaw11.DeflateOver", spec := "deflateOver", unfollowed := true, recurses := true, apart := false }
def DeflateOverSaid : Prop := deflateOverRow.holds Try.pinned (OpenSpec.ofChange deflateOverSpec)

/-- ITS FALSE NEIGHBOUR: 'it returns false'. Refute it at one input. -/
def deflateOverWrong : ChangeSpec := { name := "deflateOver", fn := fun _ => fun
  | [d1, d2] => { results := [.lit (.bool false)], args := [d1, d2] }
  | _ => none }
def DeflateOverWrongFalsely : Prop := deflateOverRow.holds Try.pinned (OpenSpec.ofChange deflateOverWrong)

/- THE SECOND FORM. 'bulk': how many values and letters a reading holds, each counted each time it is reached (what is shared counts as often as it is met; a slice's spare places count too). A statement '..UptoSaid' is the law's where the arguments, and the package variables that the reading takes, are together of bulk at most 1048576: NARROWER than '..Said'. Prove '..Said' where nothing that the law and all that it calls make is longer than what came in: it says more and counts as full. Else prove '..UptoSaid'. A law counts once. -/
mutual
def uptoBulk {H : Type} : DataW H → Nat
  | .lit (.string bytes) => bytes.length + 1
  | .lit _ => 1
  | .nil => 1
  | .ptr d => uptoBulk d + 1
  | .slice elems spare => uptoBulkAll elems + uptoBulkAll spare + 1
  | .agg parts => uptoBulkAll parts + 1
  | .iface _ d => uptoBulk d + 1
  | .map entries => uptoBulkEntries entries + 1
  | .held _ => 1
def uptoBulkAll {H : Type} : List (DataW H) → Nat
  | [] => 0
  | d :: r => uptoBulk d + uptoBulkAll r
def uptoBulkEntries {H : Type} : List (Lit × DataW H) → Nat
  | [] => 0
  | x :: r => uptoBulkEntry x + uptoBulkEntries r
def uptoBulkEntry {H : Type} : Lit × DataW H → Nat
  | (.string bytes, d) => bytes.length + uptoBulk d + 1
  | (_, d) => uptoBulk d + 1
 end
def uptoSmall : (H : Type) → List (DataW H) → Bool := fun _ ds => decide (uptoBulkAll ds ≤ 1048576)
def OpenSpec.upto (s : _root_.Go.ChangeSpec) : _root_.Go.OpenSpec := { _root_.Go.OpenSpec.ofChange s with cond := some uptoSmall }

/-- 'concertinalaw11.DeflateMeans', WHERE WHAT IT READS IS OF BULK AT MOST 1048576: true; the input reads as it did. -/
def deflateMeansUptoRow : OpenClaim := { program := "ytlgkiookobedcaa", sum := "ce83cfa22f8338f01fb9fae468a73d54b9781a828d302f587962888cc0875a17", func := "concertina/concertinalaw11.DeflateMeans", spec := "deflateMeans", unfollowed := true, recurses := true, apart := false, narrowed := true }
def DeflateMeansUptoSaid : Prop := deflateMeansUptoRow.holds Try.pinned (OpenSpec.upto deflateMeansSpec)

/-- 'concertinalaw11.DeflateFlush', WHERE WHAT IT READS IS OF BULK AT MOST 1048576: true; the input reads as it did. -/
def deflateFlushUptoRow : OpenClaim := { program := "ytlgkiookobedcaa", sum := "ce83cfa22f8338f01fb9fae468a73d54b9781a828d302f587962888cc0875a17", func := "concertina/concertinalaw11.DeflateFlush", spec := "deflateFlush", unfollowed := true, recurses := true, apart := false, narrowed := true }
def DeflateFlushUptoSaid : Prop := deflateFlushUptoRow.holds Try.pinned (OpenSpec.upto deflateFlushSpec)

/-- 'concertinalaw11.DeflateOver', WHERE WHAT IT READS IS OF BULK AT MOST 1048576: true; the input reads as it did. -/
def deflateOverUptoRow : OpenClaim := { program := "ytlgkiookobedcaa", sum := "ce83cfa22f8338f01fb9fae468a73d54b9781a828d302f587962888cc0875a17", func := "concertina/concertinalaw11.DeflateOver", spec := "deflateOver", unfollowed := true, recurses := true, apart := false, narrowed := true }
def DeflateOverUptoSaid : Prop := deflateOverUptoRow.holds Try.pinned (OpenSpec.upto deflateOverSpec)

end Rows
end Go.Proofs.Ytlgkiookobedcaa
