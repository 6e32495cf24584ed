/-
  The walks of LenBase, DistBase and of the reference's Lens, Dists. (written by gentok.py)
-/
import Derived.Test.YtckhkkjdibcclaaProg
import Derived.Test.YtckhkkjdibcclaaTokP
namespace Go.Proofs.Ytckhkkjdibcclaa
open Go.RowKit
set_option linter.unusedVariables false

set_option maxHeartbeats 8000000 in
theorem lenBase_code (j : Nat) (hj : j < 29) (x : Int) (hx : x = 257 + (j : Int)) (w : World) : Calls Try.prog 59 #[.int .i64 x] w fun e w' => e = .returned (.tuple #[.int .i64 ((lB j : Nat) : Int), .int .i64 ((lE j : Nat) : Int), .bool true]) ∧ w = w' := by
  have h : j = 0 ∨ j = 1 ∨ j = 2 ∨ j = 3 ∨ j = 4 ∨ j = 5 ∨ j = 6 ∨ j = 7 ∨ j = 8 ∨ j = 9 ∨ j = 10 ∨ j = 11 ∨ j = 12 ∨ j = 13 ∨ j = 14 ∨ j = 15 ∨ j = 16 ∨ j = 17 ∨ j = 18 ∨ j = 19 ∨ j = 20 ∨ j = 21 ∨ j = 22 ∨ j = 23 ∨ j = 24 ∨ j = 25 ∨ j = 26 ∨ j = 27 ∨ j = 28 := by omega
  rcases h with rfl | rfl | rfl | rfl | rfl | rfl | rfl | rfl | rfl | rfl | rfl | rfl | rfl | rfl | rfl | rfl | rfl | rfl | rfl | rfl | rfl | rfl | rfl | rfl | rfl | rfl | rfl | rfl | rfl
  all_goals
    subst hx
    go_enter Try.func59, Try.ntmps59
    go_wp2
    go_ret3
    exact ⟨rfl, rfl⟩

set_option maxHeartbeats 8000000 in
theorem distBase_code (j : Nat) (hj : j < 30) (x : Int) (hx : x = 0 + (j : Int)) (w : World) : Calls Try.prog 60 #[.int .i64 x] w fun e w' => e = .returned (.tuple #[.int .i64 ((dB j : Nat) : Int), .int .i64 ((dE j : Nat) : Int), .bool true]) ∧ w = w' := by
  have h : j = 0 ∨ j = 1 ∨ j = 2 ∨ j = 3 ∨ j = 4 ∨ j = 5 ∨ j = 6 ∨ j = 7 ∨ j = 8 ∨ j = 9 ∨ j = 10 ∨ j = 11 ∨ j = 12 ∨ j = 13 ∨ j = 14 ∨ j = 15 ∨ j = 16 ∨ j = 17 ∨ j = 18 ∨ j = 19 ∨ j = 20 ∨ j = 21 ∨ j = 22 ∨ j = 23 ∨ j = 24 ∨ j = 25 ∨ j = 26 ∨ j = 27 ∨ j = 28 ∨ j = 29 := by omega
  rcases h with rfl | rfl | rfl | rfl | rfl | rfl | rfl | rfl | rfl | rfl | rfl | rfl | rfl | rfl | rfl | rfl | rfl | rfl | rfl | rfl | rfl | rfl | rfl | rfl | rfl | rfl | rfl | rfl | rfl | rfl
  all_goals
    subst hx
    go_enter Try.func60, Try.ntmps60
    go_wp2
    go_ret3
    exact ⟨rfl, rfl⟩

theorem lenBase_none (x : Int) (hx : x < 257 ∨ 285 < x) (hb : -9223372036854775808 ≤ x ∧ x ≤ 9223372036854775807) (w : World) : Calls Try.prog 59 #[.int .i64 x] w fun e w' => e = .returned (.tuple #[.int .i64 0, .int .i64 0, .bool false]) ∧ w = w' := by
  have h : x < 257 ∨ (¬ x < 257 ∧ 285 < x) := by omega
  clear hx
  rcases h with h | ⟨h0, h⟩
  all_goals
    go_enter Try.func59, Try.ntmps59
    go_wp2
    go_ret3
    exact ⟨rfl, rfl⟩
theorem distBase_none (x : Int) (hx : x < 0 ∨ 30 ≤ x) (w : World) : Calls Try.prog 60 #[.int .i64 x] w fun e w' => e = .returned (.tuple #[.int .i64 0, .int .i64 0, .bool false]) ∧ w = w' := by
  have h : x < 0 ∨ (¬ x < 0 ∧ 30 ≤ x) := by omega
  clear hx
  rcases h with h | ⟨h0, h⟩
  all_goals
    go_enter Try.func60, Try.ntmps60
    go_wp2
    go_ret3
    exact ⟨rfl, rfl⟩
end Go.Proofs.Ytckhkkjdibcclaa
