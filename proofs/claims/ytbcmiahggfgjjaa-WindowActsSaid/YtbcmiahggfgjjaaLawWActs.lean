/-
  The walk of the statement WindowActs, in the frame's words.
-/
import Derived.Test.YtbcmiahggfgjjaaActs
namespace Go.Proofs.Ytbcmiahggfgjjaa
open Go.RowKit
theorem windowActs_law (A : Option Addr) (len cap : Nat) (l : List ActV) (N : Int) (w : World) (H : l.length = len ∧ (∀ i, i < len → ∃ ad, A = some ad ∧ RdAct w (ad.add (i * 5)) (actAt l i)) ∧ len ≤ maxLen) (hN : (Lit.int .i64 N).wf = true) :
    Calls Try.prog 5 #[.slice A len cap, .int .i64 N] w fun e w' => e = .returned (.bool true) ∧ Below w.heap.size w w' :=
  windowActs_walk A len cap l N w H.1 H.2.1 H.2.2 hN
end Go.Proofs.Ytbcmiahggfgjjaa
