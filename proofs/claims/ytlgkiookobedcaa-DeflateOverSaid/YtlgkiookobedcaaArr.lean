/-
  An array literal of integers as a local variable: built, laid, stored, in one step.
-/
import Derived.Test.YtlgkiookobedcaaProg
import Derived.Great.BuildSlice
import Derived.Great.Walk
import Derived.Deep.WholeRow
import Derived.OwnWalk
namespace Go.Proofs.Ytlgkiookobedcaa
open Go.RowKit
set_option linter.unusedVariables false
end Go.Proofs.Ytlgkiookobedcaa
