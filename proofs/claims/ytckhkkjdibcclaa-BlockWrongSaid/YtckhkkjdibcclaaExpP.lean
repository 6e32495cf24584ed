/-
  Plain law: what tokens stand for.
-/
import Derived.Test.YtckhkkjdibcclaaWinP
namespace Go.Proofs.Ytckhkkjdibcclaa
set_option linter.unusedVariables false

structure Tok where
  lit : Int
  len : Int
  dist : Int
def soundT (t : Tok) : Prop := if t.len = 0 then t.dist = 0 else t.lit = 0 ∧ 3 ≤ t.len ∧ t.len ≤ 258 ∧ 1 ≤ t.dist ∧ t.dist ≤ 32768
instance (t : Tok) : Decidable (soundT t) := by unfold soundT; infer_instance
/-- the bytes that come again -/
def again (l : List Int) (D N : Nat) : List Int := (List.range N).map fun i => ix l (l.length - D + i % D)
theorem again_length (l : List Int) (D N : Nat) : (again l D N).length = N := by simp [again]
theorem ix_again (l : List Int) (D N : Nat) {i : Nat} (h : i < N) : ix (again l D N) i = ix l (l.length - D + i % D) := by simp [ix, again, h]
theorem again_zero (l : List Int) (D : Nat) : again l D 0 = [] := rfl
theorem again_succ (l : List Int) (D N : Nat) (hD : 1 ≤ D) (hl : D ≤ l.length) : again l D (N + 1) = again l D N ++ [ix (l ++ again l D N) (l.length + N - D)] := by
  have h1 : again l D (N + 1) = again l D N ++ [ix l (l.length - D + N % D)] := by unfold again; rw [List.range_succ, List.map_append]; rfl
  rw [h1]
  congr 2
  by_cases h : N < D
  · rw [Nat.mod_eq_of_lt h, ix_append, if_pos (by omega)]
    congr 1
    omega
  · rw [ix_append, if_neg (by omega), ix_again _ _ _ (by omega), show l.length + N - D - l.length = N - D by omega, ← Nat.mod_eq_sub_mod (by omega)]
/-- one token's bytes behind those that were, or why there are none -/
def step (out : List Int) (t : Tok) : Int × List Int :=
  if ¬ soundT t then (1, [])
  else if 16777216 < (out.length : Int) + max t.len 1 then (6, [])
  else if t.len = 0 then (0, out ++ [t.lit])
  else if (out.length : Int) < t.dist then (3, [])
  else (0, out ++ again out t.dist.toNat t.len.toNat)
/-- all tokens' -/
def expand (out : List Int) : List Tok → Int × List Int
  | [] => (0, out)
  | t :: l => if (step out t).1 = 0 then expand (step out t).2 l else step out t
theorem expand_cons (out : List Int) (t : Tok) (l : List Tok) : expand out (t :: l) = if (step out t).1 = 0 then expand (step out t).2 l else step out t := rfl
theorem step_len {out : List Int} {t : Tok} (h : (step out t).1 = 0) : (step out t).2.length ≤ 16777216 ∧ out.length ≤ (step out t).2.length := by
  unfold step at h ⊢
  by_cases h1 : soundT t
  · rw [if_neg (by simpa using h1)] at h ⊢
    by_cases h2 : 16777216 < (out.length : Int) + max t.len 1
    · rw [if_pos h2] at h; simp at h
    · rw [if_neg h2] at h ⊢
      by_cases h3 : t.len = 0
      · rw [if_pos h3]; simp; omega
      · rw [if_neg h3] at h ⊢
        by_cases h4 : (out.length : Int) < t.dist
        · rw [if_pos h4] at h; simp at h
        · rw [if_neg h4]; simp [again_length]; omega
  · rw [if_pos (by simpa using h1)] at h; simp at h
end Go.Proofs.Ytckhkkjdibcclaa
