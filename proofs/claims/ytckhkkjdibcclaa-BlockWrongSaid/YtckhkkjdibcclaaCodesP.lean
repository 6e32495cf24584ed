/-
  Plain law: the codes of lengths: how many symbols have a length, the first code of a length, each symbol's code; their bounds.
-/
import Derived.Test.YtckhkkjdibcclaaBase
namespace Go.Proofs.Ytckhkkjdibcclaa

/-- how many of the first k lengths are v -/
def cnt (l : List Int) : Nat → Nat → Nat
  | 0, _ => 0
  | k + 1, v => cnt l k v + if ix l k = (v : Int) then 1 else 0
/-- the first code of length v -/
def nxt (l : List Int) : Nat → Nat
  | 0 => 0
  | 1 => 0
  | v + 2 => 2 * (nxt l (v + 1) + cnt l l.length (v + 1))
def isLen (x : Int) : Bool := decide (1 ≤ x ∧ x ≤ 15)
/-- symbol i's code -/
def codeAt (l : List Int) (i : Nat) : Nat := if isLen (ix l i) then nxt l (ix l i).toNat + cnt l i (ix l i).toNat else 0
def codesOf (l : List Int) : List Int := if l.length ≤ 288 then (List.range l.length).map fun i => (codeAt l i : Int) else []

theorem cnt_le (l : List Int) (k v : Nat) : cnt l k v ≤ k := by
  induction k with
  | zero => simp [cnt]
  | succ k ih => simp only [cnt]; split <;> omega
theorem cnt_mono (l : List Int) (v : Nat) {j k : Nat} (h : j ≤ k) : cnt l j v ≤ cnt l k v := by
  induction k with
  | zero => have : j = 0 := by omega
            subst this; omega
  | succ k ih =>
    by_cases e : j = k + 1
    · subst e; omega
    · have := ih (by omega); simp only [cnt]; split <;> omega
theorem nxt_le (l : List Int) (hl : l.length ≤ 288) (v : Nat) : nxt l v + 576 ≤ 576 * 2 ^ v := by
  induction v with
  | zero => simp [nxt]
  | succ v ih =>
    cases v with
    | zero => simp [nxt]
    | succ v =>
      have := cnt_le l l.length (v + 1)
      simp only [nxt, Nat.pow_succ] at ih ⊢
      omega
theorem nxt_bd (l : List Int) (hl : l.length ≤ 288) {v : Nat} (hv : v ≤ 15) : nxt l v ≤ 18874368 := by
  have h := nxt_le l hl v
  have h2 : 2 ^ v ≤ 2 ^ 15 := Nat.pow_le_pow_right (by omega) hv
  omega
theorem codesOf_length (l : List Int) (h : l.length ≤ 288) : (codesOf l).length = l.length := by simp [codesOf, h]
theorem ix_codesOf (l : List Int) (h : l.length ≤ 288) {i : Nat} (hi : i < l.length) : ix (codesOf l) i = (codeAt l i : Int) := by
  simp [ix, codesOf, h, hi]
end Go.Proofs.Ytckhkkjdibcclaa
