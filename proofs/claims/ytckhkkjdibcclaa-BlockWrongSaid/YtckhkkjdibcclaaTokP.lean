/-
  Plain law: the codes of lengths and distances.
-/
import Derived.Test.YtckhkkjdibcclaaBase
namespace Go.Proofs.Ytckhkkjdibcclaa
set_option linter.unusedVariables false

/-- first length and extra bits of code 257 + j -/
def lB (j : Nat) : Nat := if j = 28 then 258 else if j < 8 then 3 + j else 3 + (4 + j % 4) * 2 ^ (j / 4 - 1)
def lE (j : Nat) : Nat := if j = 28 then 0 else if j < 8 then 0 else j / 4 - 1
/-- first distance and extra bits of code j -/
def dB (j : Nat) : Nat := if j < 4 then 1 + j else 1 + (2 + j % 2) * 2 ^ (j / 2 - 1)
def dE (j : Nat) : Nat := if j < 4 then 0 else j / 2 - 1
/-- the sums of the reference -/
def lR (j : Nat) : Nat := if j = 28 then 259 else lB j
theorem lR_zero : lR 0 = 3 := by decide
theorem lR_next : ∀ j, j < 28 → lR (j + 1) = lR j + 2 ^ lE j := by decide +kernel
theorem dB_next : ∀ j, j < 30 → dB (j + 1) = dB j + 2 ^ dE j := by decide +kernel
theorem lB_next : ∀ j, j < 28 → lB (j + 1) ≤ lB j + 2 ^ lE j := by decide +kernel
theorem lB_bd : ∀ j, j < 29 → 3 ≤ lB j ∧ lB j ≤ 258 ∧ lE j ≤ 5 := by decide +kernel
theorem dB_bd : ∀ j, j < 31 → 1 ≤ dB j ∧ dB j ≤ 32769 ∧ dE j ≤ 14 := by decide +kernel
theorem dB_bd' : ∀ j, j < 30 → 1 ≤ dB j ∧ dB j ≤ 24577 ∧ dE j ≤ 13 := by decide +kernel

/-- j is the last of 0 .. top whose first one is not above n -/
def Last_ (B : Nat → Nat) (top : Nat) (n : Int) (j : Nat) : Prop := j ≤ top ∧ ((B j : Nat) : Int) ≤ n ∧ ∀ i, j < i → i ≤ top → n < ((B i : Nat) : Int)
theorem Last_.uniq {B : Nat → Nat} {top : Nat} {n : Int} {j k : Nat} (h : Last_ B top n j) (h' : Last_ B top n k) : j = k := by
  rcases Nat.lt_trichotomy j k with hl | hl | hl
  · have := h.2.2 k hl h'.1
    have := h'.2.1
    omega
  · exact hl
  · have := h'.2.2 j hl h.1
    have := h.2.1
    omega
theorem Last_.val_l {n : Int} {j : Nat} (h : Last_ lB 28 n j) (hn : n ≤ 258) : n - ((lB j : Nat) : Int) < ((2 ^ lE j : Nat) : Int) := by
  obtain ⟨h1, h2, h3⟩ := h
  by_cases hj : j = 28
  · subst hj
    have : lB 28 = 258 := by decide
    have : 2 ^ lE 28 = 1 := by decide
    omega
  · have h4 := h3 (j + 1) (by omega) (by omega)
    have h5 := lB_next j (by omega)
    omega
theorem Last_.val_d {n : Int} {j : Nat} (h : Last_ dB 29 n j) (hn : n ≤ 32768) : n - ((dB j : Nat) : Int) < ((2 ^ dE j : Nat) : Int) := by
  obtain ⟨h1, h2, h3⟩ := h
  have h5 := dB_next j (by omega)
  by_cases hj : j = 29
  · subst hj
    have : dB (29 + 1) = 32769 := by decide
    omega
  · have h4 := h3 (j + 1) (by omega) (by omega)
    omega

/-- what the answer about a number is -/
def CodeIs (B E : Nat → Nat) (lo hi off : Int) (top : Nat) (n : Int) (v : Value) : Prop :=
  ((n < lo ∨ hi < n) ∧ v = .tuple #[.int .i64 0, .int .i64 0, .int .i64 0]) ∨
  ((lo ≤ n ∧ n ≤ hi) ∧ ∃ j, Last_ B top n j ∧ v = .tuple #[.int .i64 (off + (j : Int)), .int .i64 ((E j : Nat) : Int), .int .i64 (n - ((B j : Nat) : Int))])
theorem CodeIs.uniq {B E : Nat → Nat} {lo hi off : Int} {top : Nat} {n : Int} {u v : Value} (h : CodeIs B E lo hi off top n u) (h' : CodeIs B E lo hi off top n v) : u = v := by
  rcases h with ⟨h1, rfl⟩ | ⟨h1, j, hj, rfl⟩ <;> rcases h' with ⟨h2, rfl⟩ | ⟨h2, k, hk, rfl⟩
  · rfl
  · omega
  · omega
  · rw [hj.uniq hk]
end Go.Proofs.Ytckhkkjdibcclaa
