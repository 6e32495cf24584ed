/-
  Contracts of coding's methods on nil (written by gencn.py).
-/
import Derived.Test.YtlopmioamhendaaGreatCodZ
import Derived.Handy
namespace Go.Proofs.YtlopmioamhendaaGreat
open Go.RowKit
set_option linter.unusedVariables false

theorem cdFeed_nil (w : World) (v : Value) : Calls Tryz.prog 5 #[.pointer none, v] w fun e w' => e = .returned (.tuple #[]) ∧ w = w' := by
  go_enter Tryz.func5, Tryz.ntmps5
  go_wp2_with fail
  first
    | (refine bodyPost_ret (results_none rfl _ _ _) rfl ?_; exact ⟨rfl, rfl⟩)
    | (go_end0; exact ⟨rfl, rfl⟩)

theorem cdEnd_nil (w : World) : Calls Tryz.prog 6 #[.pointer none] w fun e w' => e = .returned (.tuple #[]) ∧ w = w' := by
  go_enter Tryz.func6, Tryz.ntmps6
  go_wp2_with fail
  first
    | (refine bodyPost_ret (results_none rfl _ _ _) rfl ?_; exact ⟨rfl, rfl⟩)
    | (go_end0; exact ⟨rfl, rfl⟩)

theorem cdTake_nil (w : World) (v : Value) : Calls Tryz.prog 9 #[.pointer none, v] w fun e w' => e = .returned (.tuple #[.slice none 0 0, .int .i64 8]) ∧ w = w' := by
  go_enter Tryz.func9, Tryz.ntmps9
  go_wp2_with fail
  go_ret2
  exact ⟨rfl, rfl⟩

theorem ceWrite_nil (w : World) (v : Value) : Calls Tryz.prog 12 #[.pointer none, v] w fun e w' => e = .returned (.int .i64 8) ∧ w = w' := by
  go_enter Tryz.func12, Tryz.ntmps12
  go_wp2_with fail
  go_ret
  exact ⟨rfl, rfl⟩

theorem ceClose_nil (w : World) : Calls Tryz.prog 13 #[.pointer none] w fun e w' => e = .returned (.int .i64 8) ∧ w = w' := by
  go_enter Tryz.func13, Tryz.ntmps13
  go_wp2_with fail
  go_ret
  exact ⟨rfl, rfl⟩

theorem ceTake_nil (w : World) : Calls Tryz.prog 14 #[.pointer none] w fun e w' => e = .returned (.slice none 0 0) ∧ w = w' := by
  go_enter Tryz.func14, Tryz.ntmps14
  go_wp2_with fail
  go_ret
  exact ⟨rfl, rfl⟩

theorem cpFeed_nil (w : World) (v : Value) : Calls Tryz.prog 7 #[.pointer none, v] w fun e w' => e = .returned (.tuple #[]) ∧ w = w' := by
  go_enter Tryz.func7, Tryz.ntmps7
  go_wp2_with fail
  first
    | (refine bodyPost_ret (results_none rfl _ _ _) rfl ?_; exact ⟨rfl, rfl⟩)
    | (go_end0; exact ⟨rfl, rfl⟩)

theorem cpEnd_nil (w : World) : Calls Tryz.prog 8 #[.pointer none] w fun e w' => e = .returned (.tuple #[]) ∧ w = w' := by
  go_enter Tryz.func8, Tryz.ntmps8
  go_wp2_with fail
  first
    | (refine bodyPost_ret (results_none rfl _ _ _) rfl ?_; exact ⟨rfl, rfl⟩)
    | (go_end0; exact ⟨rfl, rfl⟩)

theorem cpTake_nil (w : World) (v : Value) : Calls Tryz.prog 10 #[.pointer none, v] w fun e w' => e = .returned (.tuple #[.slice none 0 0, .int .i64 8]) ∧ w = w' := by
  go_enter Tryz.func10, Tryz.ntmps10
  go_wp2_with fail
  go_ret2
  exact ⟨rfl, rfl⟩

theorem cpHeld_nil (w : World) : Calls Tryz.prog 15 #[.pointer none] w fun e w' => e = .returned (.int .i64 0) ∧ w = w' := by
  go_enter Tryz.func15, Tryz.ntmps15
  go_wp2_with fail
  go_ret
  exact ⟨rfl, rfl⟩

end Go.Proofs.YtlopmioamhendaaGreat
