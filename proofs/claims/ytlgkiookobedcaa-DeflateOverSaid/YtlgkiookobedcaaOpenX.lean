/-
  What is told of a Text that came in by value, and of a list of them.
-/
import Derived.Test.YtlgkiookobedcaaProg
import Derived.Test.YtlgkiookobedcaaPk29
import Derived.Test.YtlgkiookobedcaaPk4
import Derived.ProofKit
import Derived.OpenShut
import Derived.Lib.SmallJoins
namespace Go.Proofs.Ytlgkiookobedcaa
open Go.Joins Go.RowKit Go.ChangeShapes Go.WideShapes Go.Deep
set_option linter.unusedVariables false
structure TxV where
  A : Option Addr
  n : Nat
  c : Nat
  b : List Int
  times : Int
  turn : Int
instance : Inhabited TxV := ⟨⟨none, 0, 0, [], 0, 0⟩⟩
def TxV.v (t : TxV) : Value := .agg #[.slice t.A t.n t.c, .int .u16 t.times, .int .u16 t.turn]
structure InX (w : World) (t : TxV) : Prop where
  x : InC .u8 w t.A t.n t.c t.b
  t1 : 0 ≤ t.times ∧ t.times < 65536
  t2 : 0 ≤ t.turn ∧ t.turn < 65536
def txAt (l : List TxV) (i : Nat) : TxV := l.getD i default
structure RdTx (w : World) (p : Addr) (t : TxV) : Prop where
  c0 : w.cell? p = some (.slice t.A t.n t.c)
  c1 : w.cell? ⟨p.block, p.off + 1, none⟩ = some (.int .u16 t.times)
  c2 : w.cell? ⟨p.block, p.off + 2, none⟩ = some (.int .u16 t.turn)
  lt : p.block < w.heap.size
  x : InX w t
end Go.Proofs.Ytlgkiookobedcaa
