/-
  Plain law: a symbol's bits.
-/
import Derived.Test.YtckhkkjdibcclaaCodesP
import Derived.Test.YtckhkkjdibcclaaRevP
namespace Go.Proofs.Ytckhkkjdibcclaa
set_option linter.unusedVariables false
/-- a symbol's bits, the code's highest first -/
def symBits (l : List Int) (s : Nat) : List Int := ofN (revN (codeAt l s) (ix l s).toNat) (ix l s).toNat
theorem revN_bd' (V : Int) (N : Nat) : 0 ≤ revN V N ∧ revN V N < 2 ^ N := by
  have h : Bit (ofN V N).reverse := fun x hx => Bit.ofN V N x (List.mem_reverse.1 hx)
  have := numI_bd h
  rwa [List.length_reverse, ofN_length] at this
end Go.Proofs.Ytckhkkjdibcclaa
