/-
  Several texts in one (written by pack2.py): OpenG, OpenC.
-/
import Derived.Test.YtlgkiookobedcaaProg
import Derived.Test.YtlgkiookobedcaaPk1
import Derived.Deep.Slices
import Derived.Deep.Fields
import Derived.ProofKit
import Derived.OpenShut
import Derived.ChangeSame
import Derived.ChangeArms
import Derived.KernelRfl
namespace Go.Proofs.Ytlgkiookobedcaa
open Go.RowKit Go.ChangeShapes Go.WideShapes Go.Deep
set_option linter.unusedVariables false
end Go.Proofs.Ytlgkiookobedcaa
namespace Go.Proofs.Ytlgkiookobedcaa
open Go.RowKit Go.ChangeShapes Go.WideShapes Go.Deep
set_option linter.unusedVariables false
def InC (k : IntKind) (w : World) (a : Option Addr) (len cap : Nat) (l : List Int) : Prop :=
  RdI k w w.heap.size a len l ∧ len ≤ maxLen ∧ (∀ n ∈ l, (Lit.int k n).wf = true) ∧ len ≤ cap ∧ cap ≤ maxLen
end Go.Proofs.Ytlgkiookobedcaa
