/-
  The walks of Sound and of the statements' own answers, layer 08.
-/
import Derived.Test.YtbcmiahggfgjjaaProg
import Derived.Test.YtbcmiahggfgjjaaTokC
namespace Go.Proofs.Ytbcmiahggfgjjaa
open Go.RowKit
set_option linter.unusedVariables false

def soundB (L n d : Int) : Bool := if n = 0 then decide (d = 0) else decide (L = 0 ∧ 3 ≤ n ∧ n ≤ 258 ∧ 1 ≤ d ∧ d ≤ 32768)
theorem soundB_zero {L n d : Int} (h : n = 0) : soundB L n d = decide (d = 0) := by unfold soundB; rw [if_pos h]
theorem soundB_match {L n d : Int} (h : ¬ n = 0) : soundB L n d = decide (L = 0 ∧ 3 ≤ n ∧ n ≤ 258 ∧ 1 ≤ d ∧ d ≤ 32768) := by unfold soundB; rw [if_neg h]
set_option maxHeartbeats 1600000 in
theorem sound_any (L n d : Int) (w : World) : Calls Try.prog 29 #[.agg #[.int .u8 L, .int .i64 n, .int .i64 d]] w fun e w' => e = .returned (.bool (soundB L n d)) ∧ Below w.heap.size w w' := by
  have hb : ∀ o, Below w.heap.size w (w.alloc o) := fun o => (Below.refl _ _).alloc (Nat.le_refl _) o
  by_cases h0 : n = 0
  · rw [soundB_zero h0]
    by_cases hd : d = 0
    · subst h0 hd
      go_enter Try.func29, Try.ntmps29
      go_wp2
      go_ret
      exact ⟨rfl, hb _⟩
    · have hd2 : decide (d = 0) = false := by simpa using hd
      rw [hd2]
      subst h0
      go_enter Try.func29, Try.ntmps29
      go_wp2
      go_ret
      exact ⟨rfl, hb _⟩
  · rw [soundB_match h0]
    by_cases h : L = 0 ∧ 3 ≤ n ∧ n ≤ 258 ∧ 1 ≤ d ∧ d ≤ 32768
    · have hd2 : decide (L = 0 ∧ 3 ≤ n ∧ n ≤ 258 ∧ 1 ≤ d ∧ d ≤ 32768) = true := by simpa using h
      rw [hd2]
      obtain ⟨rfl, h1, h2, h3, h4⟩ := h
      go_enter Try.func29, Try.ntmps29
      go_wp2
      go_ret
      exact ⟨rfl, hb _⟩
    · have hd2 : decide (L = 0 ∧ 3 ≤ n ∧ n ≤ 258 ∧ 1 ≤ d ∧ d ≤ 32768) = false := by simpa using h
      rw [hd2]
      have hc : ¬ L = 0 ∨ (L = 0 ∧ ¬ 3 ≤ n) ∨ ((L = 0 ∧ 3 ≤ n) ∧ ¬ n ≤ 258) ∨ ((L = 0 ∧ 3 ≤ n ∧ n ≤ 258) ∧ ¬ 1 ≤ d) ∨ ((L = 0 ∧ 3 ≤ n ∧ n ≤ 258 ∧ 1 ≤ d) ∧ ¬ d ≤ 32768) := by omega
      clear h
      rcases hc with h | ⟨rfl, h⟩ | ⟨⟨rfl, h1⟩, h⟩ | ⟨⟨rfl, h1, h2⟩, h⟩ | ⟨⟨rfl, h1, h2, h3⟩, h⟩
      all_goals
        go_enter Try.func29, Try.ntmps29
        go_wp2
        go_ret
        exact ⟨rfl, hb _⟩

set_option maxHeartbeats 1600000 in
theorem answers8_any (w : World) : Calls Try.prog 22 #[] w fun e w' => e = .returned (.bool true) ∧ Below w.heap.size w w' := by
  go_enter Try.func22, Try.ntmps22
  go_wp2_with fail
  refine (lenCode_any 258 w).mono ?_
  rintro e w1 ⟨⟨v, rfl, hv⟩, rfl⟩
  have hv2 : v = .tuple #[.int .i64 285, .int .i64 0, .int .i64 0] := by
    refine CodeIs.uniq hv (.inr ⟨by omega, 28, ⟨by omega, by decide, fun i h1 h2 => by omega⟩, rfl⟩)
  subst hv2
  go_wp2_with fail
  refine (sound_any 0 3 1 w).mono ?_
  rintro e w1 ⟨rfl, hb⟩
  have hs : soundB 0 3 1 = true := by decide
  rw [hs]
  go_wp2
  go_ret
  exact ⟨rfl, hb⟩

end Go.Proofs.Ytbcmiahggfgjjaa
