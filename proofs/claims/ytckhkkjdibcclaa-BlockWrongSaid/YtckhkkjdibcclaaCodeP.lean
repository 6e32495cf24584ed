/-
  Plain law: how much of all codes lengths take; when lengths are a code's; their bounds.
-/
import Derived.Test.YtckhkkjdibcclaaCodesP
namespace Go.Proofs.Ytckhkkjdibcclaa

/-- 2^(15-v), closed to the walk -/
def p15 (v : Nat) : Nat := 2 ^ (15 - v)
theorem p15_zero : p15 0 = 32768 := rfl
theorem p15_bd (v : Nat) : 1 ≤ p15 v ∧ p15 v ≤ 32768 := by
  unfold p15
  have h1 : 2 ^ (15 - v) ≤ 2 ^ 15 := Nat.pow_le_pow_right (by omega) (by omega)
  have h2 : 1 ≤ 2 ^ (15 - v) := Nat.one_le_two_pow
  omega
theorem p15_half {v : Nat} (h : v < 15) : p15 v = 2 * p15 (v + 1) := by
  unfold p15
  have : 15 - v = (15 - (v + 1)) + 1 := by omega
  rw [this, Nat.pow_succ]; omega
theorem p15_int (v : Nat) : ((p15 v : Nat) : Int) = 2 ^ (15 - v) := by unfold p15; simp
def share (x : Int) : Nat := if isLen x then p15 x.toNat else 0
def sumTo (l : List Int) : Nat → Nat
  | 0 => 0
  | k + 1 => sumTo l k + share (ix l k)
theorem share_yes {v : Nat} (h1 : 1 ≤ v) (h2 : v ≤ 15) : share (v : Int) = p15 v := by
  unfold share isLen; rw [if_pos (by simp; omega)]; simp
theorem share_no {x : Int} (h : ¬ (1 ≤ x ∧ x ≤ 15)) : share x = 0 := by
  unfold share isLen; rw [if_neg (by simpa using h)]
theorem share_bd (x : Int) : share x ≤ 32768 := by
  unfold share; split
  · exact (p15_bd _).2
  · omega
theorem sumTo_bd (l : List Int) (k : Nat) : sumTo l k ≤ 32768 * k := by
  induction k with
  | zero => simp [sumTo]
  | succ k ih => have := share_bd (ix l k); simp only [sumTo]; omega

/-- how many of the first k lengths are above 0 -/
def posTo (l : List Int) : Nat → Nat
  | 0 => 0
  | k + 1 => posTo l k + if 0 < ix l k then 1 else 0
theorem posTo_le (l : List Int) (k : Nat) : posTo l k ≤ k := by
  induction k with
  | zero => simp [posTo]
  | succ k ih => simp only [posTo]; split <;> omega
/-- no length above 1 among the first k -/
def lowTo (l : List Int) (k : Nat) : Bool := decide (∀ i, i < k → ix l i ≤ 1)
def aloneB (l : List Int) (n : Nat) : Bool := lowTo l n && decide (posTo l n ≤ 1)
/-- all of the first k lengths are between 0 and most -/
def inTo (l : List Int) (most : Int) (k : Nat) : Bool := decide (∀ i, i < k → 0 ≤ ix l i ∧ ix l i ≤ most)
def checkOf (l : List Int) (most : Int) : Int :=
  if most < 1 ∨ 15 < most ∨ 288 < l.length then 1
  else if inTo l most l.length = false then 1
  else if 32768 < sumTo l l.length ∨ (sumTo l l.length < 32768 ∧ aloneB l l.length = false) then 3 else 0
theorem inTo_of {l : List Int} {most : Int} {k : Nat} (h : ∀ i, i < k → 0 ≤ ix l i ∧ ix l i ≤ most) : inTo l most k = true := by simpa [inTo] using h
theorem inTo_not {l : List Int} {most : Int} {n k : Nat} (hk : k < n) (h : ¬ (0 ≤ ix l k ∧ ix l k ≤ most)) : inTo l most n = false := by
  rw [← Bool.not_eq_true]
  intro hh
  have := of_decide_eq_true hh
  exact h (this k hk)
end Go.Proofs.Ytckhkkjdibcclaa
