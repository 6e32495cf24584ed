/-
  Plain law: symbols by their codes, and what bits stand for.
-/
import Derived.Test.YtckhkkjdibcclaaCodesP
import Derived.Test.YtckhkkjdibcclaaRdrP
import Derived.Test.YtckhkkjdibcclaaOwn
namespace Go.Proofs.Ytckhkkjdibcclaa
open Go Go.RowKit
set_option linter.unusedVariables false

/-- the places below k whose length is n -/
def idxs (l : List Int) (n : Nat) : Nat → List Int
  | 0 => []
  | k + 1 => idxs l n k ++ (if ix l k = (n : Int) then [(k : Int)] else [])
theorem idxs_succ (l : List Int) (n k : Nat) : idxs l n (k + 1) = idxs l n k ++ (if ix l k = (n : Int) then [(k : Int)] else []) := rfl
theorem idxs_length (l : List Int) (n k : Nat) : (idxs l n k).length = cnt l k n := by
  induction k with
  | zero => rfl
  | succ k ih =>
    unfold idxs cnt
    rw [List.length_append, ih]
    split <;> simp_all
theorem ix_app_left {a b : List Int} {i : Nat} (h : i < a.length) : ix (a ++ b) i = ix a i := by rw [ix_append, if_pos h]
theorem ix_app_right {a b : List Int} {i : Nat} : ix (a ++ b) (a.length + i) = ix b i := by rw [ix_append, if_neg (by omega), Nat.add_sub_cancel_left]
/-- the place i stands at the number of such places ahead -/
theorem idxs_at (l : List Int) {n i k : Nat} (hi : i < k) (he : ix l i = (n : Int)) : ix (idxs l n k) (cnt l i n) = (i : Int) := by
  induction k with
  | zero => omega
  | succ k ih =>
    unfold idxs
    by_cases h : i < k
    · have hlt : cnt l i n < cnt l k n := by
        have h1 : cnt l (i + 1) n = cnt l i n + 1 := by simp [cnt, he]
        have h2 := cnt_mono l n (show i + 1 ≤ k from h)
        omega
      rw [ix_app_left (by rw [idxs_length]; exact hlt), ih h]
    · obtain rfl : i = k := by omega
      rw [if_pos he]
      have e := ix_app_right (a := idxs l n i) (b := [(i : Int)]) (i := 0)
      rw [idxs_length, Nat.add_zero] at e
      rw [e]; rfl
/-- the j-th place of a length, back -/
theorem idxs_back (l : List Int) {n j k : Nat} (hj : j < cnt l k n) : ∃ i, i < k ∧ ix l i = (n : Int) ∧ cnt l i n = j ∧ ix (idxs l n k) j = (i : Int) := by
  induction k with
  | zero => simp [cnt] at hj
  | succ k ih =>
    by_cases h : j < cnt l k n
    · obtain ⟨i, h1, h2, h3, h4⟩ := ih h
      exact ⟨i, by omega, h2, h3, by rw [← h3]; exact idxs_at l (by omega) h2⟩
    · have hk : ix l k = (n : Int) := by
        by_cases e : ix l k = (n : Int)
        · exact e
        · unfold cnt at hj; rw [if_neg e] at hj; omega
      have hjk : cnt l k n = j := by unfold cnt at hj; rw [if_pos hk] at hj; omega
      exact ⟨k, by omega, hk, hjk, by rw [← hjk]; exact idxs_at l (by omega) hk⟩
/-- all symbols with at most n bits, by their codes -/
def srt (l : List Int) : Nat → List Int
  | 0 => []
  | n + 1 => srt l n ++ idxs l (n + 1) l.length
def below (l : List Int) : Nat → Nat
  | 0 => 0
  | n + 1 => below l n + cnt l l.length (n + 1)
theorem srt_length (l : List Int) (n : Nat) : (srt l n).length = below l n := by
  induction n with
  | zero => rfl
  | succ n ih => rw [srt, List.length_append, ih, idxs_length, below]
theorem srt_pre (l : List Int) {m n : Nat} (h : m ≤ n) {i : Nat} (hi : i < below l m) : ix (srt l n) i = ix (srt l m) i := by
  induction n with
  | zero => obtain rfl : m = 0 := by omega
            rfl
  | succ n ih =>
    by_cases e : m = n + 1
    · subst e; rfl
    · have hm : ∀ a b, a ≤ b → below l a ≤ below l b := by
        intro a b hab
        induction b with
        | zero => obtain rfl : a = 0 := by omega
                  exact Nat.le_refl _
        | succ b ih2 =>
          by_cases e2 : a = b + 1
          · subst e2; exact Nat.le_refl _
          · exact Nat.le_trans (ih2 (by omega)) (by rw [below]; omega)
      rw [srt, ix_app_left (by rw [srt_length]; exact Nat.lt_of_lt_of_le hi (hm m n (by omega))), ih (by omega)]
theorem below_le (l : List Int) (n : Nat) : below l n ≤ n * l.length := by
  induction n with
  | zero => simp [below]
  | succ n ih => rw [below, Nat.succ_mul]; have := cnt_le l l.length (n + 1); omega
/-- the symbol of the j-th code with n bits -/
def selS (l : List Int) (n j : Nat) : Int := ix (idxs l n l.length) j
theorem srt_at (l : List Int) {n m j : Nat} (hn : n + 1 ≤ m) (hj : j < cnt l l.length (n + 1)) : ix (srt l m) (below l n + j) = selS l (n + 1) j := by
  rw [srt_pre l hn (by rw [below]; omega), srt]
  have := ix_app_right (a := srt l n) (b := idxs l (n + 1) l.length) (i := j)
  rw [srt_length] at this
  rw [this]; rfl
/-- the first n bits as a number, the highest first -/
def hv (x : List Int) : Nat → Int
  | 0 => 0
  | n + 1 => 2 * hv x n + ix x n
def hitB (l x : List Int) (n : Nat) : Bool := decide (hv x n < nxt l n + cnt l l.length n)
/-- the first number of bits, up to m, that are a code; 0: none -/
def fh (l x : List Int) : Nat → Nat
  | 0 => 0
  | m + 1 => if fh l x m = 0 then (if hitB l x (m + 1) then m + 1 else 0) else fh l x m
theorem fh_zero_succ {l x : List Int} {m : Nat} (h : fh l x m = 0) : fh l x (m + 1) = if hitB l x (m + 1) then m + 1 else 0 := by rw [fh, if_pos h]
theorem fh_keep {l x : List Int} {m k : Nat} (h : fh l x m ≠ 0) (hk : m ≤ k) : fh l x k = fh l x m := by
  induction k with
  | zero => obtain rfl : m = 0 := by omega
            rfl
  | succ k ih =>
    by_cases e : m = k + 1
    · subst e; rfl
    · have := ih (by omega)
      rw [fh, if_neg (by rw [this]; exact h), this]
theorem fh_le (l x : List Int) (m : Nat) : fh l x m ≤ m := by
  induction m with
  | zero => exact Nat.le_refl _
  | succ m ih => rw [fh]; split
                 · split <;> omega
                 · omega
theorem fh_all {l x : List Int} {k : Nat} (h : fh l x k = 0) : ∀ m, m ≤ k → fh l x m = 0 := fun m hm => by
  by_cases e : fh l x m = 0
  · exact e
  · have := fh_keep e hm; omega
theorem hv_bd {x : List Int} (hx : Bit x) (n : Nat) : 0 ≤ hv x n ∧ hv x n < 2 ^ n := by
  have bit : ∀ i, 0 ≤ ix x i ∧ ix x i ≤ 1 := fun i => by
    unfold ix; rw [List.getD_eq_getElem?_getD]
    cases e : x[i]? with
    | none => simp
    | some v => have := hx v (List.mem_of_getElem? e); simp; omega
  induction n with
  | zero => simp [hv]
  | succ n ih => have := bit n; rw [hv, Int.pow_succ]; omega
/-- the greatest length up to n -/
def lgT (l : List Int) : Nat → Nat
  | 0 => 0
  | n + 1 => if cnt l l.length (n + 1) = 0 then lgT l n else n + 1
/-- the next symbol of the bits x, how many bits it has, and the error -/
def nextOf (l : List Int) (x : List Int) : Int × Nat × Int :=
  let m := min x.length (lgT l 15)
  if fh l x m ≠ 0 then (selS l (fh l x m) (hv x (fh l x m) - nxt l (fh l x m)).toNat, fh l x m, 0)
  else if m < lgT l 15 then (0, 0, 5)
  else if lgT l 15 = 0 ∧ x.length = 0 then (0, 0, 5)
  else (0, 0, 3)
theorem lgT_le (l : List Int) (n : Nat) : lgT l n ≤ n := by
  induction n with
  | zero => exact Nat.le_refl _
  | succ n ih => rw [lgT]; split <;> omega
theorem below_mono (l : List Int) {a b : Nat} (h : a ≤ b) : below l a ≤ below l b := by
  induction b with
  | zero => obtain rfl : a = 0 := by omega
            exact Nat.le_refl _
  | succ b ih =>
    by_cases e : a = b + 1
    · subst e; exact Nat.le_refl _
    · exact Nat.le_trans (ih (by omega)) (by rw [below]; omega)
/-- what the walk keeps: v is not below the first code -/
theorem hv_ge {l x : List Int} (hx : Bit x) {n : Nat} (h : ∀ m, m ≤ n → fh l x m = 0) : (nxt l (n + 1) : Int) ≤ hv x (n + 1) := by
  have bit : ∀ i, 0 ≤ ix x i := fun i => by
    unfold ix; rw [List.getD_eq_getElem?_getD]
    cases e : x[i]? with
    | none => simp
    | some v => have := hx v (List.mem_of_getElem? e); simp; omega
  induction n with
  | zero => simp [hv, nxt]; exact bit 0
  | succ n ih =>
    have h1 := ih fun m hm => h m (by omega)
    have h2 := h (n + 1) (Nat.le_refl _)
    have h3 : fh l x n = 0 := h n (by omega)
    rw [fh_zero_succ h3] at h2
    have h4 : ¬ hv x (n + 1) < nxt l (n + 1) + cnt l l.length (n + 1) := by
      intro hc
      rw [if_pos (by simpa [hitB] using hc)] at h2
      omega
    have hb := bit (n + 1)
    show (nxt l (n + 2) : Int) ≤ 2 * hv x (n + 1) + ix x (n + 1)
    have e : nxt l (n + 2) = 2 * (nxt l (n + 1) + cnt l l.length (n + 1)) := by simp [nxt]
    rw [e]
    omega
end Go.Proofs.Ytckhkkjdibcclaa
