/-
  Plain law: codes in making.
-/
import Derived.Test.YtckhkkjdibcclaaProg
import Derived.Test.YtckhkkjdibcclaaBase
import Derived.Test.YtckhkkjdibcclaaCodesP
import Derived.Test.YtckhkkjdibcclaaCodes
namespace Go.Proofs.Ytckhkkjdibcclaa
open Go.RowKit
set_option linter.unusedVariables false

def preC (l : List Int) (v : Nat) : Nat := if v ≤ 1 then 0 else nxt l (v - 1) + cnt l l.length (v - 1)
theorem preC_one (l : List Int) : preC l 1 = 0 := by simp [preC]
theorem preC_nxt (l : List Int) {v : Nat} (h : 1 ≤ v) : nxt l v = 2 * preC l v := by
  unfold preC
  rcases v with _ | _ | v
  · omega
  · simp [nxt]
  · simp [nxt]
theorem preC_succ (l : List Int) {v : Nat} (h : 1 ≤ v) : preC l (v + 1) = nxt l v + cnt l l.length v := by
  unfold preC; rw [if_neg (by omega)]; simp
def doneV (l : List Int) (v k j : Nat) : Value := .int .u32 (if ix l j < v ∨ (ix l j = v ∧ j < k) then codeAt l j else 0 : Nat)
theorem codeAt_no {l : List Int} {j : Nat} (h : ¬ (1 ≤ ix l j ∧ ix l j ≤ 15)) : codeAt l j = 0 := by
  unfold codeAt isLen; rw [if_neg (by simpa using h)]
theorem codeAt_yes {l : List Int} {j v : Nat} (h1 : 1 ≤ v) (h2 : v ≤ 15) (e : ix l j = v) : codeAt l j = nxt l v + cnt l j v := by
  unfold codeAt isLen; rw [e, if_pos (by simp; omega)]; simp
theorem doneV_start (l : List Int) (j : Nat) : Value.int .u32 0 = doneV l 1 0 j := by
  unfold doneV
  congr 1
  split
  · rename_i h
    rw [codeAt_no (by omega)]; rfl
  · rfl
theorem doneV_next (l : List Int) (v j : Nat) (hj : j < l.length) : doneV l v l.length j = doneV l (v + 1) 0 j := by
  unfold doneV
  congr 2
  by_cases h : ix l j < (v : Int) + 1
  · rw [if_pos (by omega), if_pos (by omega)]
  · rw [if_neg (by omega), if_neg (by omega)]
theorem doneV_end (l : List Int) (j : Nat) : doneV l 16 0 j = .int .u32 (codeAt l j : Nat) := by
  unfold doneV
  congr 2
  split
  · rfl
  · rename_i h
    rw [codeAt_no (by omega)]
theorem doneV_hit {l : List Int} {v k : Nat} (h1 : 1 ≤ v) (h2 : v ≤ 15) (e : ix l k = v) (j : Nat) : upd (doneV l v k) k (.int .u32 ((nxt l v + cnt l k v : Nat) : Int)) j = doneV l v (k + 1) j := by
  by_cases hj : j = k
  · subst hj
    rw [upd_same]; unfold doneV; rw [if_pos (.inr ⟨e, by omega⟩), codeAt_yes h1 h2 e]
  · rw [upd_other _ _ hj]; unfold doneV; congr 2
    by_cases h : ix l j < (v : Int) ∨ (ix l j = v ∧ j < k)
    · rw [if_pos h, if_pos (by omega)]
    · rw [if_neg h, if_neg (by omega)]
theorem doneV_miss {l : List Int} {v k : Nat} (e : ¬ ix l k = v) (j : Nat) : doneV l v k j = doneV l v (k + 1) j := by
  unfold doneV; congr 2
  by_cases h : ix l j < (v : Int) ∨ (ix l j = v ∧ j < k)
  · rw [if_pos h, if_pos (by omega)]
  · by_cases hj : j = k
    · subst hj; rw [if_neg h, if_neg (by omega)]
    · rw [if_neg h, if_neg (by omega)]

end Go.Proofs.Ytckhkkjdibcclaa
