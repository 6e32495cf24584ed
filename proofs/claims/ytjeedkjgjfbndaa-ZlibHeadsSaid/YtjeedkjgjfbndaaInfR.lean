/-
  Plain law: several stored bytes at once.
-/
import Derived.Test.YtjeedkjgjfbndaaInfO
namespace Go.Proofs.Ytjeedkjgjfbndaa
set_option linter.unusedVariables false
section
variable {s : IS} {B : List Int} {j : Nat}
theorem num_byte (hB : ∀ x ∈ B, 0 ≤ x ∧ x < 256) (hj : j < B.length) : ((num (rb B (8 * j)) 8 : Nat) : Int) = ix B j := by
  rw [num_int (Bit.rb B _)]
  unfold rb
  rw [bts_byte B hj, numI_ofN]
  have := ix_bd hB j
  have h : (2 : Int) ^ 8 = 256 := rfl
  rw [h]
  omega
theorem take_more {l : List Int} {j K : Nat} (h : j + K < l.length) : (l.drop j).take (K + 1) = (l.drop j).take K ++ [ix l (j + K)] := by
  rw [List.take_succ_eq_append_getElem (by rw [List.length_drop]; omega)]
  congr 1
  simp [ix, List.getD_eq_getElem?_getD, List.getElem?_eq_getElem h]
theorem stored_one (hB : ∀ x ∈ B, 0 ≤ x ∧ x < 256) (hst : s.st = 2) (hx : s.x = rb B (8 * j)) (hj : j < B.length) (hl : s.left ≠ 0) :
    s.step = { s with x := rb B (8 * (j + 1)), left := s.left - 1 }.emit [ix B j] := by
  unfold IS.step
  rw [if_neg (by omega), if_neg (by omega), if_pos hst]
  unfold IS.stored
  rw [if_neg hl, if_neg (by rw [hx, rb_length]; omega), hx, num_byte hB hj, rb_drop, show 8 * j + 8 = 8 * (j + 1) by omega]
theorem stored_steps (hB : ∀ x ∈ B, 0 ≤ x ∧ x < 256) (hst : s.st = 2) (hx : s.x = rb B (8 * j)) (K : Nat) (hK : K ≤ s.left) (hj : j + K ≤ B.length) (hr : K ≤ s.rem) :
    IS.Steps s { s with x := rb B (8 * (j + K)), left := s.left - K, all := s.all ++ (B.drop j).take K, rem := s.rem - K } := by
  induction K with
  | zero =>
    have : ({ s with x := rb B (8 * (j + 0)), left := s.left - 0, all := s.all ++ (B.drop j).take 0, rem := s.rem - 0 } : IS) = s := by
      rw [Nat.add_zero, ← hx, List.take_zero, List.append_nil]
      rfl
    rw [this]
    exact .refl s
  | succ K ih =>
    have h1 := ih (by omega) (by omega) (by omega)
    have h2 := stored_one (s := { s with x := rb B (8 * (j + K)), left := s.left - K, all := s.all ++ (B.drop j).take K, rem := s.rem - K }) hB hst rfl (by omega) (by show s.left - K ≠ 0; omega)
    have h3 : IS.step { s with x := rb B (8 * (j + K)), left := s.left - K, all := s.all ++ (B.drop j).take K, rem := s.rem - K } = ({ s with x := rb B (8 * (j + (K + 1))), left := s.left - (K + 1), all := s.all ++ (B.drop j).take (K + 1), rem := s.rem - (K + 1) }, 0) := by
      rw [h2]
      unfold IS.emit
      simp only
      rw [if_neg (by simp; omega), List.take_of_length_le (l := [ix B (j + K)]) (by simp; omega), take_more (by omega), List.append_assoc, show s.left - K - 1 = s.left - (K + 1) by omega, show s.rem - K - [ix B (j + K)].length = s.rem - (K + 1) by simp; omega]
      rfl
    have h4 := IS.Steps.tail h1 (by rw [h3])
    rwa [h3] at h4
theorem stored_cap (hB : ∀ x ∈ B, 0 ≤ x ∧ x < 256) (hst : s.st = 2) (hx : s.x = rb B (8 * j)) (K : Nat) (hK : K ≤ s.left) (hj : j + K ≤ B.length) (hr : s.rem < K) :
    s.fin.2 = 6 ∧ s.fin.1.all = s.all ++ (B.drop j).take s.rem := by
  have h1 := stored_steps hB hst hx s.rem (by omega) (by omega) (Nat.le_refl _)
  have h2 := stored_one (s := { s with x := rb B (8 * (j + s.rem)), left := s.left - s.rem, all := s.all ++ (B.drop j).take s.rem, rem := s.rem - s.rem }) hB hst rfl (by omega) (by show s.left - s.rem ≠ 0; omega)
  have h3 : (IS.step { s with x := rb B (8 * (j + s.rem)), left := s.left - s.rem, all := s.all ++ (B.drop j).take s.rem, rem := s.rem - s.rem }).2 = 6 := by
    rw [h2]
    unfold IS.emit
    simp
  rw [← h1.fin_eq, IS.fin_stop (by rw [h3]; decide)]
  refine ⟨h3, ?_⟩
  rw [h2]
  unfold IS.emit
  simp
end
end Go.Proofs.Ytjeedkjgjfbndaa
