/-
  Plain law: numbers that are put one behind the other.
-/
import Derived.Test.YtefignampkdclaaRdrP
namespace Go.Proofs.Ytefignampkdclaa
open Go Go.RowKit
set_option linter.unusedVariables false
def szN (s : List Int) (k : Nat) : Nat := if k < s.length then (ix s k % 33).toNat else 0
theorem szN_le (s : List Int) (k : Nat) : szN s k ≤ 32 := by unfold szN; split <;> omega
def putAll (l s : List Int) : Nat → List Int
  | 0 => []
  | k + 1 => putAll l s k ++ ofN (ix l k) (szN s k)
theorem putAll_le (l s : List Int) (k : Nat) : (putAll l s k).length ≤ 32 * k := by
  induction k with
  | zero => simp [putAll]
  | succ k ih => rw [putAll, List.length_append, ofN_length]; have := szN_le s k; omega
theorem putAll_bit (l s : List Int) (k : Nat) : Bit (putAll l s k) := by
  induction k with
  | zero => exact Bit.nil_
  | succ k ih => exact ih.app (Bit.ofN _ _)
theorem putAll_pre (l s : List Int) {j k : Nat} (h : j ≤ k) : ∃ t, putAll l s k = putAll l s j ++ t := by
  induction k with
  | zero =>
    obtain rfl : j = 0 := by omega
    exact ⟨[], by simp [putAll]⟩
  | succ k ih =>
    by_cases hj : j = k + 1
    · subst hj; exact ⟨[], by simp⟩
    · obtain ⟨t, ht⟩ := ih (by omega)
      exact ⟨t ++ ofN (ix l k) (szN s k), by rw [putAll, ht, List.append_assoc]⟩
theorem putAll_at (l s : List Int) {k n : Nat} (h : k < n) (z : List Int) : ((putAll l s n ++ z).drop (putAll l s k).length).take (szN s k) = ofN (ix l k) (szN s k) := by
  obtain ⟨t, ht⟩ := putAll_pre l s (show k + 1 ≤ n from h)
  rw [ht, putAll, List.append_assoc, List.append_assoc, List.drop_left, List.take_append_of_le_length (by rw [ofN_length]; exact Nat.le_refl _), List.take_of_length_le (by rw [ofN_length]; exact Nat.le_refl _)]
theorem putAll_end (l s : List Int) {k n : Nat} (h : k < n) : (putAll l s k).length + szN s k ≤ (putAll l s n).length := by
  obtain ⟨t, ht⟩ := putAll_pre l s (show k + 1 ≤ n from h)
  rw [ht, putAll, List.length_append, List.length_append, ofN_length]
  omega
end Go.Proofs.Ytefignampkdclaa
