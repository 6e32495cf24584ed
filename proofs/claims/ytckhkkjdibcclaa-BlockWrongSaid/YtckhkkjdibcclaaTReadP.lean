/-
  Plain law: the greatest length; what more bits behind do to the next symbol.
-/
import Derived.Test.YtckhkkjdibcclaaTabP
import Derived.Test.YtckhkkjdibcclaaTree
namespace Go.Proofs.Ytckhkkjdibcclaa
open Go Go.RowKit
set_option linter.unusedVariables false

def mxI (l : List Int) : Nat → Int
  | 0 => 0
  | k + 1 => if mxI l k < ix l k then ix l k else mxI l k
theorem mxI_nn (l : List Int) (k : Nat) : 0 ≤ mxI l k := by
  induction k with
  | zero => exact Int.le_refl _
  | succ k ih => rw [mxI]; split <;> omega
theorem mxI_ge (l : List Int) {i k : Nat} (h : i < k) : ix l i ≤ mxI l k := by
  induction k with
  | zero => omega
  | succ k ih =>
    rw [mxI]
    by_cases e : i = k
    · subst e; split <;> omega
    · have := ih (by omega); split <;> omega
theorem mxI_is (l : List Int) (k : Nat) : mxI l k = 0 ∨ ∃ i, i < k ∧ ix l i = mxI l k := by
  induction k with
  | zero => exact .inl rfl
  | succ k ih =>
    rw [mxI]
    by_cases e : mxI l k < ix l k
    · rw [if_pos e]; exact .inr ⟨k, by omega, rfl⟩
    · rw [if_neg e]
      rcases ih with h | ⟨i, h, h2⟩
      · exact .inl h
      · exact .inr ⟨i, by omega, h2⟩
theorem cnt_pos {l : List Int} {i k v : Nat} (h : i < k) (e : ix l i = (v : Int)) : 0 < cnt l k v := by
  have := cnt_strict h e; omega
theorem cnt_is {l : List Int} {k v : Nat} (h : 0 < cnt l k v) : ∃ i, i < k ∧ ix l i = (v : Int) := by
  induction k with
  | zero => simp [cnt] at h
  | succ k ih =>
    by_cases e : ix l k = (v : Int)
    · exact ⟨k, by omega, e⟩
    · simp only [cnt, if_neg e] at h
      obtain ⟨i, h1, h2⟩ := ih h
      exact ⟨i, by omega, h2⟩
theorem lgT_is (l : List Int) (n : Nat) : lgT l n = 0 ∨ 0 < cnt l l.length (lgT l n) := by
  induction n with
  | zero => exact .inl rfl
  | succ n ih => rw [lgT]; split
                 · exact ih
                 · exact .inr (by omega)
theorem lgT_above (l : List Int) {n m : Nat} (h : lgT l n < m) (h2 : m ≤ n) : cnt l l.length m = 0 := by
  induction n with
  | zero => omega
  | succ n ih =>
    rw [lgT] at h
    by_cases e : cnt l l.length (n + 1) = 0
    · rw [if_pos e] at h
      by_cases e2 : m = n + 1
      · subst e2; exact e
      · exact ih h (by omega)
    · rw [if_neg e] at h; omega
theorem mxI_lgT {l : List Int} (h : ∀ i, i < l.length → ix l i ≤ 15) : mxI l l.length = (lgT l 15 : Int) := by
  have a := lgT_is l 15
  have b := mxI_is l l.length
  have c := mxI_nn l l.length
  have d : (lgT l 15 : Int) ≤ mxI l l.length := by
    rcases a with a | a
    · omega
    · obtain ⟨i, h1, h2⟩ := cnt_is a
      have := mxI_ge l h1
      omega
  rcases b with b | ⟨i, h1, h2⟩
  · omega
  · have h3 := h i h1
    obtain ⟨M, hM⟩ := Int.eq_ofNat_of_zero_le c
    rw [hM] at h2 ⊢
    have h4 := cnt_pos h1 h2
    by_cases hh : lgT l 15 < M
    · have := lgT_above l hh (by omega); omega
    · omega
/-- only the first bits count -/
theorem hv_app (x y : List Int) {m : Nat} (h : m ≤ x.length) : hv (x ++ y) m = hv x m := by
  induction m with
  | zero => rfl
  | succ m ih => rw [hv, hv, ih (by omega), ix_app_left (by omega)]
theorem fh_app (l x y : List Int) {m : Nat} (h : m ≤ x.length) : fh l (x ++ y) m = fh l x m := by
  induction m with
  | zero => rfl
  | succ m ih => rw [fh, fh, ih (by omega)]; unfold hitB; rw [hv_app x y h]
def nextB (l x : List Int) (lg m len : Nat) : Int × Nat × Int :=
  if fh l x m ≠ 0 then (selS l (fh l x m) (hv x (fh l x m) - nxt l (fh l x m)).toNat, fh l x m, 0)
  else if m < lg then (0, 0, 5)
  else if lg = 0 ∧ len = 0 then (0, 0, 5)
  else (0, 0, 3)
theorem nextOf_eq (l x : List Int) : nextOf l x = nextB l x (lgT l 15) (min x.length (lgT l 15)) x.length := rfl
theorem nextOf_app (l x y : List Int) (h : (nextOf l x).2.2 ≠ 5) : nextOf l (x ++ y) = nextOf l x := by
  rw [nextOf_eq] at h
  rw [nextOf_eq, nextOf_eq]
  obtain ⟨lg, hlg⟩ : ∃ lg, lgT l 15 = lg := ⟨_, rfl⟩
  rw [hlg] at h ⊢
  rw [List.length_append]
  by_cases hx : lg ≤ x.length
  · rw [Nat.min_eq_right hx] at h ⊢
    rw [Nat.min_eq_right (by omega)]
    unfold nextB at h ⊢
    rw [fh_app l x y hx]
    by_cases hf : fh l x lg = 0
    · have hn : ¬ fh l x lg ≠ 0 := by omega
      have hm : ¬ lg < lg := by omega
      simp only [if_neg hn, if_neg hm] at h ⊢
      by_cases h0 : lg = 0 ∧ x.length = 0
      · rw [if_pos h0] at h; simp at h
      · rw [if_neg h0, if_neg (by omega)]
    · rw [if_pos hf, if_pos hf, hv_app x y (Nat.le_trans (fh_le l x lg) hx)]
  · rw [Nat.min_eq_left (show x.length ≤ lg by omega)] at h ⊢
    unfold nextB at h ⊢
    by_cases hf : fh l x x.length = 0
    · have hn : ¬ fh l x x.length ≠ 0 := by omega
      rw [if_neg hn, if_pos (by omega)] at h
      simp at h
    · have hm : x.length ≤ min (x.length + y.length) lg := by omega
      have e : fh l (x ++ y) (min (x.length + y.length) lg) = fh l x x.length := by
        rw [fh_keep (m := x.length) (by rw [fh_app l x y (Nat.le_refl _)]; exact hf) hm, fh_app l x y (Nat.le_refl _)]
      rw [e, if_pos hf, if_pos hf, hv_app x y (fh_le l x _)]
/-- a hit has bits, and they are there -/
theorem nextOf_pos {l x : List Int} (h : (nextOf l x).2.2 = 0) : 1 ≤ (nextOf l x).2.1 ∧ (nextOf l x).2.1 ≤ x.length ∧ (nextOf l x).2.1 ≤ 15 := by
  unfold nextOf at *
  simp only at *
  by_cases hf : fh l x (min x.length (lgT l 15)) = 0
  · rw [if_neg (by simp [hf])] at h
    split at h
    · simp at h
    · split at h <;> simp at h
  · rw [if_pos hf]
    have := fh_le l x (min x.length (lgT l 15))
    have := lgT_le l 15
    refine ⟨?_, ?_, ?_⟩ <;> simp only <;> omega
theorem nextOf_none {l x : List Int} (h : (nextOf l x).2.2 ≠ 0) : (nextOf l x).1 = 0 ∧ (nextOf l x).2.1 = 0 := by
  unfold nextOf at *
  simp only at *
  split
  · rename_i hf; rw [if_pos hf] at h; simp at h
  · split
    · exact ⟨rfl, rfl⟩
    · split <;> exact ⟨rfl, rfl⟩
theorem nextOf_err (l x : List Int) : (nextOf l x).2.2 = 0 ∨ (nextOf l x).2.2 = 3 ∨ (nextOf l x).2.2 = 5 := by
  unfold nextOf
  simp only
  split
  · exact .inl rfl
  · split
    · exact .inr (.inr rfl)
    · split
      · exact .inr (.inr rfl)
      · exact .inr (.inl rfl)
end Go.Proofs.Ytckhkkjdibcclaa
