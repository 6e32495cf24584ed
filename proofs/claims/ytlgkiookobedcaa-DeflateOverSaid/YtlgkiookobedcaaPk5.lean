/-
  Several texts in one (written by pack2.py): WtrP, RdrP, RevP, SymP.
-/
import Derived.Test.YtlgkiookobedcaaPk1
import Derived.Laws.BitsAllLaws
import Derived.Laws.Bits64b
namespace Go.Proofs.Ytlgkiookobedcaa
open Go Go.RowKit
set_option linter.unusedVariables false
theorem pow_mono2 {a b : Nat} (h : a ≤ b) : (2 : Int) ^ a ≤ 2 ^ b := by
  obtain ⟨k, rfl⟩ := Nat.exists_eq_add_of_le h
  rw [Int.pow_add]
  have := two_pos k
  have h2 := two_pos a
  calc (2 : Int) ^ a = 2 ^ a * 1 := by omega
    _ ≤ 2 ^ a * 2 ^ k := Int.mul_le_mul_of_nonneg_left (by omega) (by omega)
theorem cast_pow2 (n : Nat) : ((2 ^ n : Nat) : Int) = 2 ^ n := by simp
theorem and_low {x : Int} {n : Nat} (h0 : 0 ≤ x) (h1 : x < 18446744073709551616) (hn : n ≤ 32) : bits .and .u64 x (2 ^ n - 1) = x % 2 ^ n := by
  obtain ⟨X, rfl⟩ := Int.eq_ofNat_of_zero_le h0
  have hp : (2 : Nat) ^ n ≤ 2 ^ 32 := Nat.pow_le_pow_right (by omega) hn
  have hp0 : 0 < (2 : Nat) ^ n := Nat.two_pow_pos n
  have e : ((2 : Int) ^ n - 1) = ((2 ^ n - 1 : Nat) : Int) := by rw [← cast_pow2]; omega
  rw [e, bits_and_u64_nat _ _ (by omega) (by omega), Nat.and_two_pow_sub_one_eq_mod, ← cast_pow2]
  simp
theorem or_high {x y : Int} {k : Nat} (h0 : 0 ≤ x) (h1 : x < 2 ^ k) (hy : 0 ≤ y) (hb : x + y * 2 ^ k < 18446744073709551616) : bits .or .u64 x (y * 2 ^ k) = x + y * 2 ^ k := by
  obtain ⟨X, rfl⟩ := Int.eq_ofNat_of_zero_le h0
  obtain ⟨Y, rfl⟩ := Int.eq_ofNat_of_zero_le hy
  rw [← cast_pow2] at *
  have hX : X < 2 ^ k := by omega
  have e : ((Y : Int) * ((2 ^ k : Nat) : Int)) = ((Y * 2 ^ k : Nat) : Int) := by simp
  rw [e] at hb ⊢
  rw [bits_or_u64_nat _ _ (by omega) (by omega), Nat.or_comm, Nat.mul_comm, ← Nat.two_pow_add_eq_or_of_lt hX]
  simp; omega
end Go.Proofs.Ytlgkiookobedcaa
namespace Go.Proofs.Ytlgkiookobedcaa
open Go Go.RowKit
set_option linter.unusedVariables false
def rb (B : List Int) (at_ : Nat) : List Int := (bts B).drop at_
theorem rb_length (B : List Int) (a : Nat) : (rb B a).length = 8 * B.length - a := by simp [rb, bts_length]
theorem Bit.rb (B : List Int) (a : Nat) : Bit (rb B a) := (Bit.bts B).drop_ a
theorem drop_len_add (a l : List Int) (k : Nat) : (a ++ l).drop (a.length + k) = l.drop k := by rw [List.drop_append, List.drop_eq_nil_of_le (by omega), List.nil_append, Nat.add_sub_cancel_left]
theorem bts_drop (B : List Int) (k : Nat) : bts (B.drop k) = (bts B).drop (8 * k) := by
  induction k generalizing B with
  | zero => rfl
  | succ k ih =>
    cases B with
    | nil => simp [bts]
    | cons b B => rw [List.drop_succ_cons, ih, bts, show 8 * (k + 1) = (ofN b 8).length + 8 * k by rw [ofN_length]; omega, drop_len_add]
theorem rb_drop (B : List Int) (a k : Nat) : (rb B a).drop k = rb B (a + k) := by unfold rb; rw [List.drop_drop]
theorem bts_byte (B : List Int) {j : Nat} (hj : j < B.length) : ((bts B).drop (8 * j)).take 8 = ofN (ix B j) 8 := by
  rw [← bts_drop, List.drop_eq_getElem_cons hj, bts, List.take_append_of_le_length (by rw [ofN_length]; omega), List.take_of_length_le (by rw [ofN_length]; omega)]
  simp [ix, hj]
theorem ix_bd {B : List Int} (hB : ∀ x ∈ B, 0 ≤ x ∧ x < 256) (j : Nat) : 0 ≤ ix B j ∧ ix B j < 256 := by
  unfold ix
  rw [List.getD_eq_getElem?_getD]
  cases h : B[j]? with
  | none => simp
  | some v => exact hB v (List.mem_of_getElem? h)
end Go.Proofs.Ytlgkiookobedcaa
namespace Go.Proofs.Ytlgkiookobedcaa
open Go Go.RowKit
set_option linter.unusedVariables false
def stg (s m x : Nat) : Nat := ((x >>> s) &&& m) ||| ((x &&& m) <<< s)
theorem stg_bit (s m x i : Nat) : (stg s m x).testBit i = ((x.testBit (s + i) && m.testBit i) || (decide (s ≤ i) && (x.testBit (i - s) && m.testBit (i - s)))) := by
  simp [stg, Nat.testBit_or, Nat.testBit_and, Nat.testBit_shiftRight, Nat.testBit_shiftLeft]
def rev32 (x : Nat) : Nat :=
  let y := stg 8 16711935 (stg 4 252645135 (stg 2 858993459 (stg 1 1431655765 x)))
  (y >>> 16) ||| ((y <<< 16) % 4294967296)
theorem mask1 : ∀ j, j < 32 → Nat.testBit 1431655765 j = decide (j % 2 = 0) := by decide
theorem mask2 : ∀ j, j < 32 → Nat.testBit 858993459 j = decide (j % 4 < 2) := by decide
theorem mask4 : ∀ j, j < 32 → Nat.testBit 252645135 j = decide (j % 8 < 4) := by decide
theorem mask8 : ∀ j, j < 32 → Nat.testBit 16711935 j = decide (j % 16 < 8) := by decide
theorem rev32_bit (x : Nat) (hx : x < 4294967296) {i : Nat} (hi : i < 32) : (rev32 x).testBit i = x.testBit (31 - i) := by
  have hz : ∀ j, 32 ≤ j → x.testBit j = false := fun j hj => Nat.testBit_lt_two_pow (Nat.lt_of_lt_of_le hx (Nat.pow_le_pow_right (n := 2) (by omega) hj))
  have hc : i = 0 ∨ i = 1 ∨ i = 2 ∨ i = 3 ∨ i = 4 ∨ i = 5 ∨ i = 6 ∨ i = 7 ∨ i = 8 ∨ i = 9 ∨ i = 10 ∨ i = 11 ∨ i = 12 ∨ i = 13 ∨ i = 14 ∨ i = 15 ∨ i = 16 ∨ i = 17 ∨ i = 18 ∨ i = 19 ∨ i = 20 ∨ i = 21 ∨ i = 22 ∨ i = 23 ∨ i = 24 ∨ i = 25 ∨ i = 26 ∨ i = 27 ∨ i = 28 ∨ i = 29 ∨ i = 30 ∨ i = 31 := by omega
  have hm : (4294967296 : Nat) = 2 ^ 32 := rfl
  unfold rev32
  rw [hm]
  simp only [Nat.testBit_or, Nat.testBit_shiftRight, Nat.testBit_mod_two_pow, Nat.testBit_shiftLeft]
  rcases hc with rfl | rfl | rfl | rfl | rfl | rfl | rfl | rfl | rfl | rfl | rfl | rfl | rfl | rfl | rfl | rfl | rfl | rfl | rfl | rfl | rfl | rfl | rfl | rfl | rfl | rfl | rfl | rfl | rfl | rfl | rfl | rfl
  all_goals
    simp [stg_bit, hz, mask1, mask2, mask4, mask8, -Nat.testBit_zero]
theorem rev32_lt (x : Nat) (hx : x < 4294967296) : rev32 x < 4294967296 := by
  have hm : (4294967296 : Nat) = 2 ^ 32 := rfl
  rw [hm]
  refine Nat.lt_pow_two_of_testBit _ fun i hi => ?_
  have hz : ∀ j, 32 ≤ j → x.testBit j = false := fun j hj => Nat.testBit_lt_two_pow (Nat.lt_of_lt_of_le hx (Nat.pow_le_pow_right (n := 2) (by omega) hj))
  have hb : ∀ M : Nat, M < 4294967296 → ∀ j, 32 ≤ j → M.testBit j = false := fun M hM j hj => Nat.testBit_lt_two_pow (Nat.lt_of_lt_of_le hM (Nat.pow_le_pow_right (n := 2) (by omega) hj))
  unfold rev32
  rw [hm]
  simp only [Nat.testBit_or, Nat.testBit_shiftRight, Nat.testBit_mod_two_pow, Nat.testBit_shiftLeft]
  have e : ¬ i < 32 := by omega
  simp only [e, decide_false, Bool.false_and, Bool.or_false]
  by_cases h48 : i < 48 - 16
  · omega
  · rw [stg_bit]
    by_cases h8 : 40 ≤ 16 + i
    · rw [hb 16711935 (by omega) (16 + i) (by omega)]
      rw [hb 16711935 (by omega) (16 + i - 8) (by omega)]
      simp
    · omega
theorem ix_ofN (v : Int) (n : Nat) {i : Nat} (hi : i < n) : ix (ofN v n) i = v / 2 ^ i % 2 := by
  induction n generalizing v i with
  | zero => omega
  | succ n ih =>
    cases i with
    | zero => simp [ofN, ix]
    | succ i =>
      have : ix (ofN v (n + 1)) (i + 1) = ix (ofN (v / 2) n) i := by simp [ofN, ix]
      rw [this, ih (v / 2) (by omega), Int.pow_succ, Int.mul_comm, Int.ediv_ediv_of_nonneg (by omega)]
def revN (v : Int) (n : Nat) : Int := numI (ofN v n).reverse
theorem bit_div (x i : Nat) : ((x : Int) / 2 ^ i % 2) = if x.testBit i then 1 else 0 := by
  have : ((x : Int) / 2 ^ i % 2) = ((x / 2 ^ i % 2 : Nat) : Int) := by rw [← cast_pow2]; simp
  rw [this, Nat.testBit_eq_decide_div_mod_eq]
  have := Nat.mod_two_eq_zero_or_one (x / 2 ^ i)
  rcases this with h | h <;> simp [h]
theorem ext_ix {a b : List Int} (hl : a.length = b.length) (h : ∀ i, i < a.length → ix a i = ix b i) : a = b := by
  apply List.ext_getElem hl
  intro i h1 h2
  have := h i h1
  simpa [ix, h1, h2] using this
theorem rev_is (x n : Nat) (hx : x < 4294967296) (hn : n ≤ 32) : revN x n = ((rev32 x / 2 ^ (32 - n) : Nat) : Int) := by
  have hr := rev32_lt x hx
  have hlt : rev32 x / 2 ^ (32 - n) < 2 ^ n := by
    rw [Nat.div_lt_iff_lt_mul (Nat.two_pow_pos _), ← Nat.pow_add, show n + (32 - n) = 32 by omega]
    exact hr
  have e : (ofN x n).reverse = ofN ((rev32 x / 2 ^ (32 - n) : Nat) : Int) n := by
    refine ext_ix (by simp [ofN_length]) fun i hi => ?_
    have hin : i < n := by simpa [ofN_length] using hi
    rw [ix_ofN _ _ hin, bit_div]
    have h1 : ix (ofN x n).reverse i = ix (ofN x n) (n - 1 - i) := by
      have hk : n - 1 - i < (ofN x n).length := by rw [ofN_length]; omega
      simp [ix, ofN_length, hin]
      rw [List.getElem?_eq_getElem hk]; rfl
    rw [h1, ix_ofN _ _ (by omega), bit_div, ← Nat.shiftRight_eq_div_pow, Nat.testBit_shiftRight, rev32_bit x hx (by omega), show 31 - (32 - n + i) = n - 1 - i by omega]
  unfold revN
  rw [e, numI_ofN]
  obtain ⟨y, hy⟩ : ∃ y, rev32 x / 2 ^ (32 - n) = y := ⟨_, rfl⟩
  rw [hy] at hlt ⊢
  rw [← cast_pow2, Int.emod_eq_of_lt (by omega) (by omega)]
end Go.Proofs.Ytlgkiookobedcaa
namespace Go.Proofs.Ytlgkiookobedcaa
set_option linter.unusedVariables false
def symBits (l : List Int) (s : Nat) : List Int := ofN (revN (codeAt l s) (ix l s).toNat) (ix l s).toNat
theorem revN_bd' (V : Int) (N : Nat) : 0 ≤ revN V N ∧ revN V N < 2 ^ N := by
  have h : Bit (ofN V N).reverse := fun x hx => Bit.ofN V N x (List.mem_reverse.1 hx)
  have := numI_bd h
  rwa [List.length_reverse, ofN_length] at this
end Go.Proofs.Ytlgkiookobedcaa
