/-
  Plain law: the bits of a checksum: a step, a byte, many bytes.
-/
import Derived.Test.YtkmpohgbbfhciaaGreatBase
namespace Go.Proofs.YtkmpohgbbfhciaaGreat

def poly : Nat := 3988292384
def stp (x : Nat) : Nat := if x % 2 = 1 then (x / 2) ^^^ poly else x / 2
def stpN : Nat → Nat → Nat
  | 0, x => x
  | k + 1, x => stp (stpN k x)
theorem stp_xor (a b : Nat) : stp (a ^^^ b) = stp a ^^^ stp b := by
  unfold stp
  rw [Nat.xor_div_two]
  have hx : (a ^^^ b) % 2 = 1 ↔ ¬ (a % 2 = 1 ↔ b % 2 = 1) := Nat.xor_mod_two_eq_one
  by_cases ha : a % 2 = 1 <;> by_cases hb : b % 2 = 1
  · rw [if_neg (by rw [hx]; simp [ha, hb]), if_pos ha, if_pos hb]
    apply Nat.eq_of_testBit_eq
    intro i
    simp only [Nat.testBit_xor]
    cases (a / 2).testBit i <;> cases (b / 2).testBit i <;> cases poly.testBit i <;> rfl
  · rw [if_pos (by rw [hx]; simp [ha, hb]), if_pos ha, if_neg hb]
    apply Nat.eq_of_testBit_eq
    intro i
    simp only [Nat.testBit_xor]
    cases (a / 2).testBit i <;> cases (b / 2).testBit i <;> cases poly.testBit i <;> rfl
  · rw [if_pos (by rw [hx]; simp [ha, hb]), if_neg ha, if_pos hb]
    apply Nat.eq_of_testBit_eq
    intro i
    simp only [Nat.testBit_xor]
    cases (a / 2).testBit i <;> cases (b / 2).testBit i <;> cases poly.testBit i <;> rfl
  · rw [if_neg (by rw [hx]; simp [ha, hb]), if_neg ha, if_neg hb]
theorem stpN_xor (k a b : Nat) : stpN k (a ^^^ b) = stpN k a ^^^ stpN k b := by
  induction k with
  | zero => rfl
  | succ k ih => simp only [stpN, ih, stp_xor]
theorem stpN_add (j k x : Nat) : stpN (j + k) x = stpN j (stpN k x) := by
  induction j with
  | zero => simp [stpN]
  | succ j ih => rw [Nat.add_right_comm]; simp only [stpN, ih]
theorem stp_even (q : Nat) : stp (2 * q) = q := by unfold stp; rw [if_neg (by omega)]; omega
theorem stpN_even (k q : Nat) : stpN k (2 ^ k * q) = q := by
  induction k generalizing q with
  | zero => simp [stpN]
  | succ k ih =>
    have e : 2 ^ (k + 1) * q = 2 ^ k * (2 * q) := by rw [Nat.pow_succ, Nat.mul_assoc]
    simp only [stpN]
    rw [e, ih, stp_even]
theorem stp_lt {x : Nat} (h : x < 4294967296) : stp x < 4294967296 := by
  unfold stp
  split
  · exact Nat.xor_lt_two_pow (n := 32) (by omega) (by unfold poly; omega)
  · omega
theorem stpN_lt {x : Nat} (h : x < 4294967296) (k : Nat) : stpN k x < 4294967296 := by
  induction k with
  | zero => exact h
  | succ k ih => exact stp_lt ih
/-- the byte step by a table -/
theorem low_high (x c : Nat) (hc : c < 256) : x ^^^ c = ((x % 256) ^^^ c) ^^^ (256 * (x / 256)) := by
  apply Nat.eq_of_testBit_eq
  intro i
  simp only [Nat.testBit_xor]
  have h1 : (x % 256).testBit i = (decide (i < 8) && x.testBit i) := Nat.testBit_mod_two_pow x 8 i
  have h2 : (256 * (x / 256)).testBit i = (decide (8 ≤ i) && x.testBit i) := by
    have : (2 ^ 8 * (x / 256)).testBit i = (decide (i ≥ 8) && (x / 256).testBit (i - 8)) := Nat.testBit_two_pow_mul
    rw [show (2 : Nat) ^ 8 = 256 from rfl] at this
    rw [this]
    by_cases h : 8 ≤ i
    · have e : (x / 256).testBit (i - 8) = x.testBit i := by
        have : (x / 2 ^ 8).testBit (i - 8) = x.testBit (8 + (i - 8)) := by rw [Nat.testBit_div_two_pow, Nat.add_comm]
        rw [show (2 : Nat) ^ 8 = 256 from rfl] at this
        rw [this]; congr 1; omega
      rw [e]
    · simp [h]
  rw [h1, h2]
  by_cases h : i < 8
  · have h' : ¬ 8 ≤ i := by omega
    simp [h, h']
  · have h' : 8 ≤ i := by omega
    have hci : c.testBit i = false := Nat.testBit_lt_two_pow (Nat.lt_of_lt_of_le hc (Nat.pow_le_pow_right (n := 2) (by omega) h'))
    simp [h, h', hci]
theorem byte_step (x c : Nat) (hc : c < 256) : stpN 8 ((x % 256) ^^^ c) ^^^ (x / 256) = stpN 8 (x ^^^ c) := by
  rw [low_high x c hc, stpN_xor 8 ((x % 256) ^^^ c), show 256 * (x / 256) = 2 ^ 8 * (x / 256) from rfl, stpN_even]

/-- the same at the model's integers, closed to the walk -/
def stpI (x : Int) : Int := (stp x.toNat : Nat)
def stpKI (k : Nat) (x : Int) : Int := (stpN k x.toNat : Nat)
def xorI (a b : Int) : Int := (a.toNat ^^^ b.toNat : Nat)
def crStep (x c : Int) : Int := stpKI 8 (xorI x c)
def crTo (x : Int) (l : List Int) : Nat → Int
  | 0 => x
  | k + 1 => crStep (crTo x l k) (ix l k)
theorem stpKI_zero {x : Int} (h : 0 ≤ x) : stpKI 0 x = x := by unfold stpKI stpN; omega
theorem stpKI_succ (k : Nat) (x : Int) : stpKI (k + 1) x = stpI (stpKI k x) := by unfold stpI stpKI; simp [stpN]
theorem stpKI_bd (k : Nat) {x : Int} (h : 0 ≤ x ∧ x < 4294967296) : 0 ≤ stpKI k x ∧ stpKI k x < 4294967296 := by
  unfold stpKI
  have := stpN_lt (x := x.toNat) (by omega) k
  omega
theorem stpI_bd {x : Int} (h : 0 ≤ x ∧ x < 4294967296) : 0 ≤ stpI x ∧ stpI x < 4294967296 := by
  unfold stpI
  have := stp_lt (x := x.toNat) (by omega)
  omega
theorem xorI_bd {a b : Int} (h : 0 ≤ a ∧ a < 4294967296) (h' : 0 ≤ b ∧ b < 4294967296) : 0 ≤ xorI a b ∧ xorI a b < 4294967296 := by
  unfold xorI
  have := Nat.xor_lt_two_pow (x := a.toNat) (y := b.toNat) (n := 32) (by omega) (by omega)
  omega
theorem xorI_bd8 {a b : Int} (h : 0 ≤ a ∧ a < 256) (h' : 0 ≤ b ∧ b < 256) : 0 ≤ xorI a b ∧ xorI a b < 256 := by
  unfold xorI
  have := Nat.xor_lt_two_pow (x := a.toNat) (y := b.toNat) (n := 8) (by omega) (by omega)
  omega
theorem crStep_bd {x c : Int} (h : 0 ≤ x ∧ x < 4294967296) (h' : 0 ≤ c ∧ c < 256) : 0 ≤ crStep x c ∧ crStep x c < 4294967296 :=
  stpKI_bd 8 (xorI_bd h (by omega))
theorem crTo_bd {x : Int} {l : List Int} (h : 0 ≤ x ∧ x < 4294967296) (hl : ∀ i, 0 ≤ ix l i ∧ ix l i < 256) (k : Nat) : 0 ≤ crTo x l k ∧ crTo x l k < 4294967296 := by
  induction k with
  | zero => exact h
  | succ k ih => exact crStep_bd ih (hl k)
theorem table_step {x c : Int} (h : 0 ≤ x ∧ x < 4294967296) (h' : 0 ≤ c ∧ c < 256) : xorI (stpKI 8 (xorI (x % 256) c)) (x / 256) = crStep x c := by
  unfold crStep xorI stpKI
  simp only [Int.toNat_natCast]
  have e1 : (x % 256).toNat = x.toNat % 256 := by omega
  have e2 : (x / 256).toNat = x.toNat / 256 := by omega
  rw [e1, e2, byte_step _ _ (by omega)]
/-- the checksums of Adler -/
def adX (x : Int) (l : List Int) : Nat → Int
  | 0 => x
  | k + 1 => (adX x l k + ix l k) % 65521
def adY (x y : Int) (l : List Int) : Nat → Int
  | 0 => y
  | k + 1 => (adY x y l k + adX x l (k + 1)) % 65521
theorem adX_bd {x : Int} {l : List Int} (h : 0 ≤ x ∧ x < 65521) (k : Nat) : 0 ≤ adX x l k ∧ adX x l k < 65521 := by
  cases k with
  | zero => exact h
  | succ k => simp only [adX]; omega
theorem adY_bd {x y : Int} {l : List Int} (h : 0 ≤ y ∧ y < 65521) (k : Nat) : 0 ≤ adY x y l k ∧ adY x y l k < 65521 := by
  cases k with
  | zero => exact h
  | succ k => simp only [adY]; omega
end Go.Proofs.YtkmpohgbbfhciaaGreat
