/-
  The walks of Sound and of the statements' own answers, layer 08.
-/
import Derived.Test.YtckhkkjdibcclaaProg
import Derived.Test.YtckhkkjdibcclaaTokC
import Derived.Test.YtckhkkjdibcclaaTokM
namespace Go.Proofs.Ytckhkkjdibcclaa
open Go.RowKit
set_option linter.unusedVariables false

set_option maxHeartbeats 1600000 in
theorem sound_any (L n d : Int) (w : World) : Calls Try.prog 45 #[.agg #[.int .u8 L, .int .i64 n, .int .i64 d]] w fun e w' => e = .returned (.bool (soundB L n d)) ∧ Below w.heap.size w w' := by
  have hb : ∀ o, Below w.heap.size w (w.alloc o) := fun o => (Below.refl _ _).alloc (Nat.le_refl _) o
  by_cases h0 : n = 0
  · rw [soundB_zero h0]
    by_cases hd : d = 0
    · subst h0 hd
      go_enter Try.func45, Try.ntmps45
      go_wp2
      go_ret
      exact ⟨rfl, hb _⟩
    · have hd2 : decide (d = 0) = false := by simpa using hd
      rw [hd2]
      subst h0
      go_enter Try.func45, Try.ntmps45
      go_wp2
      go_ret
      exact ⟨rfl, hb _⟩
  · rw [soundB_match h0]
    by_cases h : L = 0 ∧ 3 ≤ n ∧ n ≤ 258 ∧ 1 ≤ d ∧ d ≤ 32768
    · have hd2 : decide (L = 0 ∧ 3 ≤ n ∧ n ≤ 258 ∧ 1 ≤ d ∧ d ≤ 32768) = true := by simpa using h
      rw [hd2]
      obtain ⟨rfl, h1, h2, h3, h4⟩ := h
      go_enter Try.func45, Try.ntmps45
      go_wp2
      go_ret
      exact ⟨rfl, hb _⟩
    · have hd2 : decide (L = 0 ∧ 3 ≤ n ∧ n ≤ 258 ∧ 1 ≤ d ∧ d ≤ 32768) = false := by simpa using h
      rw [hd2]
      have hc : ¬ L = 0 ∨ (L = 0 ∧ ¬ 3 ≤ n) ∨ ((L = 0 ∧ 3 ≤ n) ∧ ¬ n ≤ 258) ∨ ((L = 0 ∧ 3 ≤ n ∧ n ≤ 258) ∧ ¬ 1 ≤ d) ∨ ((L = 0 ∧ 3 ≤ n ∧ n ≤ 258 ∧ 1 ≤ d) ∧ ¬ d ≤ 32768) := by omega
      clear h
      rcases hc with h | ⟨rfl, h⟩ | ⟨⟨rfl, h1⟩, h⟩ | ⟨⟨rfl, h1, h2⟩, h⟩ | ⟨⟨rfl, h1, h2, h3⟩, h⟩
      all_goals
        go_enter Try.func45, Try.ntmps45
        go_wp2
        go_ret
        exact ⟨rfl, hb _⟩

end Go.Proofs.Ytckhkkjdibcclaa
