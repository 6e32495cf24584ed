/-
  The walk of answers of layer 15.
-/
import Derived.Test.YtlopmioamhendaaGreatNames
namespace Go.Proofs.YtlopmioamhendaaGreat
open Go.RowKit
set_option linter.unusedVariables false

set_option linter.unusedVariables false

theorem nm_answers (w : World) : Calls Tryz.prog 4 #[] w fun e w' => e = .returned (.bool true) ∧ Below w.heap.size w w' := by
  have h0 : ofR (strOf (lowL ⟨#[88, 45, 71, 90, 73, 80]⟩)) = 1 := by decide +kernel
  have H0 := Lib.hid h0
  clear h0
  go_enter Tryz.func4, Tryz.ntmps4
  go_wp2_with fail
  refine (name_any _ _).mono ?_
  rintro e w1 ⟨rfl, rfl⟩
  go_wp2_with fail
  refine (of_any _ _ (by decide)).mono ?_
  rintro e w1 ⟨rfl, hb⟩
  rw [H0.out]
  go_wp2
  go_ret
  exact ⟨rfl, hb⟩

end Go.Proofs.YtlopmioamhendaaGreat
