/-
  Plain law: what a put leaves in the last byte.
-/
import Derived.Test.YtckhkkjdibcclaaBitP
import Derived.Laws.BitsAllLaws
import Derived.Laws.Bits64b
namespace Go.Proofs.Ytckhkkjdibcclaa
open Go Go.RowKit
set_option linter.unusedVariables false
theorem pow_mono2 {a b : Nat} (h : a ≤ b) : (2 : Int) ^ a ≤ 2 ^ b := by
  obtain ⟨k, rfl⟩ := Nat.exists_eq_add_of_le h
  rw [Int.pow_add]
  have := two_pos k
  have h2 := two_pos a
  calc (2 : Int) ^ a = 2 ^ a * 1 := by omega
    _ ≤ 2 ^ a * 2 ^ k := Int.mul_le_mul_of_nonneg_left (by omega) (by omega)
theorem cast_pow2 (n : Nat) : ((2 ^ n : Nat) : Int) = 2 ^ n := by simp
/-- 'x & (1<<n - 1)' -/
theorem and_low {x : Int} {n : Nat} (h0 : 0 ≤ x) (h1 : x < 18446744073709551616) (hn : n ≤ 32) : bits .and .u64 x (2 ^ n - 1) = x % 2 ^ n := by
  obtain ⟨X, rfl⟩ := Int.eq_ofNat_of_zero_le h0
  have hp : (2 : Nat) ^ n ≤ 2 ^ 32 := Nat.pow_le_pow_right (by omega) hn
  have hp0 : 0 < (2 : Nat) ^ n := Nat.two_pow_pos n
  have e : ((2 : Int) ^ n - 1) = ((2 ^ n - 1 : Nat) : Int) := by rw [← cast_pow2]; omega
  rw [e, bits_and_u64_nat _ _ (by omega) (by omega), Nat.and_two_pow_sub_one_eq_mod, ← cast_pow2]
  simp
/-- 'x | y<<k', the bits apart -/
theorem or_high {x y : Int} {k : Nat} (h0 : 0 ≤ x) (h1 : x < 2 ^ k) (hy : 0 ≤ y) (hb : x + y * 2 ^ k < 18446744073709551616) : bits .or .u64 x (y * 2 ^ k) = x + y * 2 ^ k := by
  obtain ⟨X, rfl⟩ := Int.eq_ofNat_of_zero_le h0
  obtain ⟨Y, rfl⟩ := Int.eq_ofNat_of_zero_le hy
  rw [← cast_pow2] at *
  have hX : X < 2 ^ k := by omega
  have e : ((Y : Int) * ((2 ^ k : Nat) : Int)) = ((Y * 2 ^ k : Nat) : Int) := by simp
  rw [e] at hb ⊢
  rw [bits_or_u64_nat _ _ (by omega) (by omega), Nat.or_comm, Nat.mul_comm, ← Nat.two_pow_add_eq_or_of_lt hX]
  simp; omega
end Go.Proofs.Ytckhkkjdibcclaa
