/-
  The walk of the statement GzipNone.
-/
import Derived.Test.YtkmpohgbbfhciaaGreatHdU
import Derived.Test.YtkmpohgbbfhciaaGreatOpenC
import Derived.Handy
namespace Go.Proofs.YtkmpohgbbfhciaaGreat
open Go.RowKit
set_option linter.unusedVariables false

theorem gdFeed_nil (w : World) (v : Value) : Calls Tryz.prog 4 #[.pointer none, v] w fun e w' => e = .returned (.tuple #[]) ∧ w = w' := by
  go_enter Tryz.func4, Tryz.ntmps4
  go_wp2_with fail
  first
    | (refine bodyPost_ret (results_none rfl _ _ _) rfl ?_; exact ⟨rfl, rfl⟩)
    | (go_end0; exact ⟨rfl, rfl⟩)
theorem gdEnd_nil (w : World) : Calls Tryz.prog 5 #[.pointer none] w fun e w' => e = .returned (.tuple #[]) ∧ w = w' := by
  go_enter Tryz.func5, Tryz.ntmps5
  go_wp2_with fail
  first
    | (refine bodyPost_ret (results_none rfl _ _ _) rfl ?_; exact ⟨rfl, rfl⟩)
    | (go_end0; exact ⟨rfl, rfl⟩)
theorem gdTake_nil (w : World) (v : Value) : Calls Tryz.prog 6 #[.pointer none, v] w fun e w' => e = .returned (.tuple #[.slice none 0 0, .int .i64 8]) ∧ w = w' := by
  go_enter Tryz.func6, Tryz.ntmps6
  go_wp2_with fail
  go_ret2
  exact ⟨rfl, rfl⟩
theorem geWrite_nil (w : World) (v : Value) : Calls Tryz.prog 8 #[.pointer none, v] w fun e w' => e = .returned (.int .i64 8) ∧ w = w' := by
  go_enter Tryz.func8, Tryz.ntmps8
  go_wp2_with fail
  go_ret
  exact ⟨rfl, rfl⟩
theorem geClose_nil (w : World) : Calls Tryz.prog 9 #[.pointer none] w fun e w' => e = .returned (.int .i64 8) ∧ w = w' := by
  go_enter Tryz.func9, Tryz.ntmps9
  go_wp2_with fail
  go_ret
  exact ⟨rfl, rfl⟩
theorem geTake_nil (w : World) : Calls Tryz.prog 10 #[.pointer none] w fun e w' => e = .returned (.slice none 0 0) ∧ w = w' := by
  go_enter Tryz.func10, Tryz.ntmps10
  go_wp2_with fail
  go_ret
  exact ⟨rfl, rfl⟩
theorem gdHeaders_nil (w : World) : Calls Tryz.prog 11 #[.pointer none] w fun e w' => e = .returned (.slice none 0 0) ∧ w = w' := by
  go_enter Tryz.func11, Tryz.ntmps11
  go_wp2_with fail
  go_ret
  exact ⟨rfl, rfl⟩
theorem gnone_law (A : Option Addr) (n c : Nat) (b : List Int) (N : Int) (w : World) (T : InC .u8 w A n c b) (hN : (Lit.int .i64 N).wf = true) :
    Calls Tryz.prog 3 #[.slice A n c, .int .i64 N] w fun e w' => e = .returned (.bool true) ∧ Below w.heap.size w w' := by
  clear T hN
  go_enter Tryz.func3, Tryz.ntmps3
  go_wp2_with (first
    | (go_at_call 7; refine (answers13_any _).mono ?_; rintro e wa ⟨rfl, hba⟩)
    | (go_at_call 4; refine (gdFeed_nil _ _).mono ?_; rintro e w1 ⟨rfl, rfl⟩)
    | (go_at_call 5; refine (gdEnd_nil _).mono ?_; rintro e w1 ⟨rfl, rfl⟩)
    | (go_at_call 6; refine (gdTake_nil _ _).mono ?_; rintro e w1 ⟨rfl, rfl⟩)
    | (go_at_call 8; refine (geWrite_nil _ _).mono ?_; rintro e w1 ⟨rfl, rfl⟩)
    | (go_at_call 9; refine (geClose_nil _).mono ?_; rintro e w1 ⟨rfl, rfl⟩)
    | (go_at_call 10; refine (geTake_nil _).mono ?_; rintro e w1 ⟨rfl, rfl⟩)
    | (go_at_call 11; refine (gdHeaders_nil _).mono ?_; rintro e w1 ⟨rfl, rfl⟩))
  go_ret
  exact ⟨rfl, hba⟩
end Go.Proofs.YtkmpohgbbfhciaaGreat
