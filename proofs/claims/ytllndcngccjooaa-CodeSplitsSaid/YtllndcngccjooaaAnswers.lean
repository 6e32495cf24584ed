/-
  The walk of answers.
-/
import Derived.Test.YtllndcngccjooaaProg
import Derived.Test.YtllndcngccjooaaBase
import Derived.Test.YtllndcngccjooaaCodesP
import Derived.Test.YtllndcngccjooaaCodes
namespace Go.Proofs.Ytllndcngccjooaa
open Go.RowKit
set_option linter.unusedVariables false

theorem answers_any (w : World) : Calls Try.prog 8 #[] w fun e w' => e = .returned (.bool true) ∧ Below w.heap.size w w' := by
  have e0 : ix (codesOf [2, 1, 3, 3]) 0 = 2 := by decide
  have e3 : ix (codesOf [2, 1, 3, 3]) 3 = 7 := by decide
  have E0 := Lib.hid e0
  have E3 := Lib.hid e3
  clear e0 e3
  go_enter Try.func8, Try.ntmps8
  go_wp2_with fail
  refine (codes_any _ _ _ _ [2, 1, 3, 3] _ (RdI.lit .i64 w [2, 1, 3, 3] 3) (by simp) (by simp)).mono ?_
  rintro e w1 ⟨g, rfl, hr, hb⟩
  have c0 := hr.head (i := 0) (by simp)
  have c3 := hr.head (i := 3) (by simp)
  rw [E0.out] at c0
  rw [E3.out] at c3
  go_wp2
  go_ret
  exact ⟨rfl, ((Below.refl _ _).alloc (Nat.le_refl _) _).trans (hb.mono (by simp))⟩
end Go.Proofs.Ytllndcngccjooaa
