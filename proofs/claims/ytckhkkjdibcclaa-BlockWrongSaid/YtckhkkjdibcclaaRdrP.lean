/-
  Plain law: the bits that are left, the bits that come next.
-/
import Derived.Test.YtckhkkjdibcclaaWtrP
namespace Go.Proofs.Ytckhkkjdibcclaa
open Go Go.RowKit
set_option linter.unusedVariables false
/-- the bits of the bytes B from bit at on -/
def rb (B : List Int) (at_ : Nat) : List Int := (bts B).drop at_
theorem rb_length (B : List Int) (a : Nat) : (rb B a).length = 8 * B.length - a := by simp [rb, bts_length]
theorem Bit.rb (B : List Int) (a : Nat) : Bit (rb B a) := (Bit.bts B).drop_ a
theorem drop_len_add (a l : List Int) (k : Nat) : (a ++ l).drop (a.length + k) = l.drop k := by rw [List.drop_append, List.drop_eq_nil_of_le (by omega), List.nil_append, Nat.add_sub_cancel_left]
theorem bts_drop (B : List Int) (k : Nat) : bts (B.drop k) = (bts B).drop (8 * k) := by
  induction k generalizing B with
  | zero => rfl
  | succ k ih =>
    cases B with
    | nil => simp [bts]
    | cons b B => rw [List.drop_succ_cons, ih, bts, show 8 * (k + 1) = (ofN b 8).length + 8 * k by rw [ofN_length]; omega, drop_len_add]
theorem rb_feed (B b : List Int) {a : Nat} (h : a ≤ 8 * B.length) : rb (B.drop (a / 8) ++ b) (a % 8) = rb B a ++ bts b := by
  unfold rb
  rw [bts_append, bts_drop, List.drop_append_of_le_length (by rw [List.length_drop, bts_length]; omega), List.drop_drop, show 8 * (a / 8) + a % 8 = a by omega]
theorem rb_drop (B : List Int) (a k : Nat) : (rb B a).drop k = rb B (a + k) := by unfold rb; rw [List.drop_drop]
/-- byte j, as bits -/
theorem bts_byte (B : List Int) {j : Nat} (hj : j < B.length) : ((bts B).drop (8 * j)).take 8 = ofN (ix B j) 8 := by
  rw [← bts_drop, List.drop_eq_getElem_cons hj, bts, List.take_append_of_le_length (by rw [ofN_length]; omega), List.take_of_length_le (by rw [ofN_length]; omega)]
  simp [ix, hj]
/-- what the loop of Peek gathers -/
def gath (B : List Int) (a j : Nat) : Int := numI (((bts B).drop (8 * a)).take (8 * j))
theorem gath_zero (B : List Int) (a : Nat) : gath B a 0 = 0 := by unfold gath; rw [Nat.mul_zero, List.take_zero]; rfl
theorem gath_bd (B : List Int) (a : Nat) {j : Nat} (hj : j ≤ 5) : 0 ≤ gath B a j ∧ gath B a j < 2 ^ (8 * j) ∧ gath B a j < 1099511627776 := by
  have h := numI_bd (((Bit.bts B).drop_ (8 * a)).take_ (8 * j))
  have h2 := pow_mono2 (show (((bts B).drop (8 * a)).take (8 * j)).length ≤ 8 * j by simp; omega)
  have h3 := pow_mono2 (show 8 * j ≤ 40 by omega)
  have h4 : (2 : Int) ^ 40 = 1099511627776 := rfl
  unfold gath
  omega
theorem gath_succ (B : List Int) (a : Nat) {j : Nat} (hj : a + j < B.length) (hB : ∀ x ∈ B, 0 ≤ x ∧ x < 256) : gath B a (j + 1) = gath B a j + ix B (a + j) * 2 ^ (8 * j) := by
  unfold gath
  rw [show 8 * (j + 1) = 8 * j + 8 by omega, List.take_add, numI_append, List.drop_drop, show 8 * a + 8 * j = 8 * (a + j) by omega, bts_byte B hj, numI_ofN, List.length_take, List.length_drop, bts_length, Nat.min_eq_left (by omega), Int.mul_comm]
  have : 0 ≤ ix B (a + j) ∧ ix B (a + j) < 256 := by
    unfold ix
    rw [List.getD_eq_getElem?_getD, List.getElem?_eq_getElem hj]
    exact hB _ (List.getElem_mem hj)
  rw [Int.emod_eq_of_lt this.1 (by have h : (2 : Int) ^ 8 = 256 := rfl; omega)]
theorem ix_bd {B : List Int} (hB : ∀ x ∈ B, 0 ≤ x ∧ x < 256) (j : Nat) : 0 ≤ ix B j ∧ ix B j < 256 := by
  unfold ix
  rw [List.getD_eq_getElem?_getD]
  cases h : B[j]? with
  | none => simp
  | some v => exact hB v (List.mem_of_getElem? h)
theorem gath_end (B : List Int) {a r j n : Nat} (h : r + n ≤ 8 * j) : gath B a j / 2 ^ r % 2 ^ n = numI ((rb B (8 * a + r)).take n) := by
  unfold gath rb
  have hb := ((Bit.bts B).drop_ (8 * a)).take_ (8 * j)
  rw [← numI_drop hb, ← numI_take (hb.drop_ r), List.drop_take, List.take_take, List.drop_drop, Nat.min_eq_left (by omega)]
end Go.Proofs.Ytckhkkjdibcclaa
