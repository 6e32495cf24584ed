/-
  Several texts in one (written by pack2.py): TabP, TReadP, InfP.
-/
import Derived.Test.YtlgkiookobedcaaPk1
import Derived.Test.YtlgkiookobedcaaPk5
import Derived.Test.YtlgkiookobedcaaPk3
namespace Go.Proofs.Ytlgkiookobedcaa
open Go Go.RowKit
set_option linter.unusedVariables false
def idxs (l : List Int) (n : Nat) : Nat → List Int
  | 0 => []
  | k + 1 => idxs l n k ++ (if ix l k = (n : Int) then [(k : Int)] else [])
theorem idxs_succ (l : List Int) (n k : Nat) : idxs l n (k + 1) = idxs l n k ++ (if ix l k = (n : Int) then [(k : Int)] else []) := rfl
theorem idxs_length (l : List Int) (n k : Nat) : (idxs l n k).length = cnt l k n := by
  induction k with
  | zero => rfl
  | succ k ih =>
    unfold idxs cnt
    rw [List.length_append, ih]
    split <;> simp_all
theorem ix_app_left {a b : List Int} {i : Nat} (h : i < a.length) : ix (a ++ b) i = ix a i := by rw [ix_append, if_pos h]
theorem ix_app_right {a b : List Int} {i : Nat} : ix (a ++ b) (a.length + i) = ix b i := by rw [ix_append, if_neg (by omega), Nat.add_sub_cancel_left]
theorem idxs_at (l : List Int) {n i k : Nat} (hi : i < k) (he : ix l i = (n : Int)) : ix (idxs l n k) (cnt l i n) = (i : Int) := by
  induction k with
  | zero => omega
  | succ k ih =>
    unfold idxs
    by_cases h : i < k
    · have hlt : cnt l i n < cnt l k n := by
        have h1 : cnt l (i + 1) n = cnt l i n + 1 := by simp [cnt, he]
        have h2 := cnt_mono l n (show i + 1 ≤ k from h)
        omega
      rw [ix_app_left (by rw [idxs_length]; exact hlt), ih h]
    · obtain rfl : i = k := by omega
      rw [if_pos he]
      have e := ix_app_right (a := idxs l n i) (b := [(i : Int)]) (i := 0)
      rw [idxs_length, Nat.add_zero] at e
      rw [e]; rfl
theorem idxs_back (l : List Int) {n j k : Nat} (hj : j < cnt l k n) : ∃ i, i < k ∧ ix l i = (n : Int) ∧ cnt l i n = j ∧ ix (idxs l n k) j = (i : Int) := by
  induction k with
  | zero => simp [cnt] at hj
  | succ k ih =>
    by_cases h : j < cnt l k n
    · obtain ⟨i, h1, h2, h3, h4⟩ := ih h
      exact ⟨i, by omega, h2, h3, by rw [← h3]; exact idxs_at l (by omega) h2⟩
    · have hk : ix l k = (n : Int) := by
        by_cases e : ix l k = (n : Int)
        · exact e
        · unfold cnt at hj; rw [if_neg e] at hj; omega
      have hjk : cnt l k n = j := by unfold cnt at hj; rw [if_pos hk] at hj; omega
      exact ⟨k, by omega, hk, hjk, by rw [← hjk]; exact idxs_at l (by omega) hk⟩
def srt (l : List Int) : Nat → List Int
  | 0 => []
  | n + 1 => srt l n ++ idxs l (n + 1) l.length
def below (l : List Int) : Nat → Nat
  | 0 => 0
  | n + 1 => below l n + cnt l l.length (n + 1)
theorem srt_length (l : List Int) (n : Nat) : (srt l n).length = below l n := by
  induction n with
  | zero => rfl
  | succ n ih => rw [srt, List.length_append, ih, idxs_length, below]
theorem below_le (l : List Int) (n : Nat) : below l n ≤ n * l.length := by
  induction n with
  | zero => simp [below]
  | succ n ih => rw [below, Nat.succ_mul]; have := cnt_le l l.length (n + 1); omega
def selS (l : List Int) (n j : Nat) : Int := ix (idxs l n l.length) j
def hv (x : List Int) : Nat → Int
  | 0 => 0
  | n + 1 => 2 * hv x n + ix x n
def hitB (l x : List Int) (n : Nat) : Bool := decide (hv x n < nxt l n + cnt l l.length n)
def fh (l x : List Int) : Nat → Nat
  | 0 => 0
  | m + 1 => if fh l x m = 0 then (if hitB l x (m + 1) then m + 1 else 0) else fh l x m
theorem fh_zero_succ {l x : List Int} {m : Nat} (h : fh l x m = 0) : fh l x (m + 1) = if hitB l x (m + 1) then m + 1 else 0 := by rw [fh, if_pos h]
theorem fh_keep {l x : List Int} {m k : Nat} (h : fh l x m ≠ 0) (hk : m ≤ k) : fh l x k = fh l x m := by
  induction k with
  | zero => obtain rfl : m = 0 := by omega
            rfl
  | succ k ih =>
    by_cases e : m = k + 1
    · subst e; rfl
    · have := ih (by omega)
      rw [fh, if_neg (by rw [this]; exact h), this]
theorem fh_le (l x : List Int) (m : Nat) : fh l x m ≤ m := by
  induction m with
  | zero => exact Nat.le_refl _
  | succ m ih => rw [fh]; split
                 · split <;> omega
                 · omega
theorem fh_all {l x : List Int} {k : Nat} (h : fh l x k = 0) : ∀ m, m ≤ k → fh l x m = 0 := fun m hm => by
  by_cases e : fh l x m = 0
  · exact e
  · have := fh_keep e hm; omega
theorem hv_bd {x : List Int} (hx : Bit x) (n : Nat) : 0 ≤ hv x n ∧ hv x n < 2 ^ n := by
  have bit : ∀ i, 0 ≤ ix x i ∧ ix x i ≤ 1 := fun i => by
    unfold ix; rw [List.getD_eq_getElem?_getD]
    cases e : x[i]? with
    | none => simp
    | some v => have := hx v (List.mem_of_getElem? e); simp; omega
  induction n with
  | zero => simp [hv]
  | succ n ih => have := bit n; rw [hv, Int.pow_succ]; omega
def lgT (l : List Int) : Nat → Nat
  | 0 => 0
  | n + 1 => if cnt l l.length (n + 1) = 0 then lgT l n else n + 1
def nextOf (l : List Int) (x : List Int) : Int × Nat × Int :=
  let m := min x.length (lgT l 15)
  if fh l x m ≠ 0 then (selS l (fh l x m) (hv x (fh l x m) - nxt l (fh l x m)).toNat, fh l x m, 0)
  else if m < lgT l 15 then (0, 0, 5)
  else if lgT l 15 = 0 ∧ x.length = 0 then (0, 0, 5)
  else (0, 0, 3)
theorem lgT_le (l : List Int) (n : Nat) : lgT l n ≤ n := by
  induction n with
  | zero => exact Nat.le_refl _
  | succ n ih => rw [lgT]; split <;> omega
theorem hv_ge {l x : List Int} (hx : Bit x) {n : Nat} (h : ∀ m, m ≤ n → fh l x m = 0) : (nxt l (n + 1) : Int) ≤ hv x (n + 1) := by
  have bit : ∀ i, 0 ≤ ix x i := fun i => by
    unfold ix; rw [List.getD_eq_getElem?_getD]
    cases e : x[i]? with
    | none => simp
    | some v => have := hx v (List.mem_of_getElem? e); simp; omega
  induction n with
  | zero => simp [hv, nxt]; exact bit 0
  | succ n ih =>
    have h1 := ih fun m hm => h m (by omega)
    have h2 := h (n + 1) (Nat.le_refl _)
    have h3 : fh l x n = 0 := h n (by omega)
    rw [fh_zero_succ h3] at h2
    have h4 : ¬ hv x (n + 1) < nxt l (n + 1) + cnt l l.length (n + 1) := by
      intro hc
      rw [if_pos (by simpa [hitB] using hc)] at h2
      omega
    have hb := bit (n + 1)
    show (nxt l (n + 2) : Int) ≤ 2 * hv x (n + 1) + ix x (n + 1)
    have e : nxt l (n + 2) = 2 * (nxt l (n + 1) + cnt l l.length (n + 1)) := by simp [nxt]
    rw [e]
    omega
end Go.Proofs.Ytlgkiookobedcaa
namespace Go.Proofs.Ytlgkiookobedcaa
open Go Go.RowKit
set_option linter.unusedVariables false
def mxI (l : List Int) : Nat → Int
  | 0 => 0
  | k + 1 => if mxI l k < ix l k then ix l k else mxI l k
theorem mxI_nn (l : List Int) (k : Nat) : 0 ≤ mxI l k := by
  induction k with
  | zero => exact Int.le_refl _
  | succ k ih => rw [mxI]; split <;> omega
theorem mxI_ge (l : List Int) {i k : Nat} (h : i < k) : ix l i ≤ mxI l k := by
  induction k with
  | zero => omega
  | succ k ih =>
    rw [mxI]
    by_cases e : i = k
    · subst e; split <;> omega
    · have := ih (by omega); split <;> omega
theorem mxI_is (l : List Int) (k : Nat) : mxI l k = 0 ∨ ∃ i, i < k ∧ ix l i = mxI l k := by
  induction k with
  | zero => exact .inl rfl
  | succ k ih =>
    rw [mxI]
    by_cases e : mxI l k < ix l k
    · rw [if_pos e]; exact .inr ⟨k, by omega, rfl⟩
    · rw [if_neg e]
      rcases ih with h | ⟨i, h, h2⟩
      · exact .inl h
      · exact .inr ⟨i, by omega, h2⟩
theorem cnt_pos {l : List Int} {i k v : Nat} (h : i < k) (e : ix l i = (v : Int)) : 0 < cnt l k v := by
  have := cnt_strict h e; omega
theorem cnt_is {l : List Int} {k v : Nat} (h : 0 < cnt l k v) : ∃ i, i < k ∧ ix l i = (v : Int) := by
  induction k with
  | zero => simp [cnt] at h
  | succ k ih =>
    by_cases e : ix l k = (v : Int)
    · exact ⟨k, by omega, e⟩
    · simp only [cnt, if_neg e] at h
      obtain ⟨i, h1, h2⟩ := ih h
      exact ⟨i, by omega, h2⟩
theorem lgT_is (l : List Int) (n : Nat) : lgT l n = 0 ∨ 0 < cnt l l.length (lgT l n) := by
  induction n with
  | zero => exact .inl rfl
  | succ n ih => rw [lgT]; split
                 · exact ih
                 · exact .inr (by omega)
theorem lgT_above (l : List Int) {n m : Nat} (h : lgT l n < m) (h2 : m ≤ n) : cnt l l.length m = 0 := by
  induction n with
  | zero => omega
  | succ n ih =>
    rw [lgT] at h
    by_cases e : cnt l l.length (n + 1) = 0
    · rw [if_pos e] at h
      by_cases e2 : m = n + 1
      · subst e2; exact e
      · exact ih h (by omega)
    · rw [if_neg e] at h; omega
theorem mxI_lgT {l : List Int} (h : ∀ i, i < l.length → ix l i ≤ 15) : mxI l l.length = (lgT l 15 : Int) := by
  have a := lgT_is l 15
  have b := mxI_is l l.length
  have c := mxI_nn l l.length
  have d : (lgT l 15 : Int) ≤ mxI l l.length := by
    rcases a with a | a
    · omega
    · obtain ⟨i, h1, h2⟩ := cnt_is a
      have := mxI_ge l h1
      omega
  rcases b with b | ⟨i, h1, h2⟩
  · omega
  · have h3 := h i h1
    obtain ⟨M, hM⟩ := Int.eq_ofNat_of_zero_le c
    rw [hM] at h2 ⊢
    have h4 := cnt_pos h1 h2
    by_cases hh : lgT l 15 < M
    · have := lgT_above l hh (by omega); omega
    · omega
theorem hv_app (x y : List Int) {m : Nat} (h : m ≤ x.length) : hv (x ++ y) m = hv x m := by
  induction m with
  | zero => rfl
  | succ m ih => rw [hv, hv, ih (by omega), ix_app_left (by omega)]
theorem fh_app (l x y : List Int) {m : Nat} (h : m ≤ x.length) : fh l (x ++ y) m = fh l x m := by
  induction m with
  | zero => rfl
  | succ m ih => rw [fh, fh, ih (by omega)]; unfold hitB; rw [hv_app x y h]
def nextB (l x : List Int) (lg m len : Nat) : Int × Nat × Int :=
  if fh l x m ≠ 0 then (selS l (fh l x m) (hv x (fh l x m) - nxt l (fh l x m)).toNat, fh l x m, 0)
  else if m < lg then (0, 0, 5)
  else if lg = 0 ∧ len = 0 then (0, 0, 5)
  else (0, 0, 3)
theorem nextOf_eq (l x : List Int) : nextOf l x = nextB l x (lgT l 15) (min x.length (lgT l 15)) x.length := rfl
theorem nextOf_app (l x y : List Int) (h : (nextOf l x).2.2 ≠ 5) : nextOf l (x ++ y) = nextOf l x := by
  rw [nextOf_eq] at h
  rw [nextOf_eq, nextOf_eq]
  obtain ⟨lg, hlg⟩ : ∃ lg, lgT l 15 = lg := ⟨_, rfl⟩
  rw [hlg] at h ⊢
  rw [List.length_append]
  by_cases hx : lg ≤ x.length
  · rw [Nat.min_eq_right hx] at h ⊢
    rw [Nat.min_eq_right (by omega)]
    unfold nextB at h ⊢
    rw [fh_app l x y hx]
    by_cases hf : fh l x lg = 0
    · have hn : ¬ fh l x lg ≠ 0 := by omega
      have hm : ¬ lg < lg := by omega
      simp only [if_neg hn, if_neg hm] at h ⊢
      by_cases h0 : lg = 0 ∧ x.length = 0
      · rw [if_pos h0] at h; simp at h
      · rw [if_neg h0, if_neg (by omega)]
    · rw [if_pos hf, if_pos hf, hv_app x y (Nat.le_trans (fh_le l x lg) hx)]
  · rw [Nat.min_eq_left (show x.length ≤ lg by omega)] at h ⊢
    unfold nextB at h ⊢
    by_cases hf : fh l x x.length = 0
    · have hn : ¬ fh l x x.length ≠ 0 := by omega
      rw [if_neg hn, if_pos (by omega)] at h
      simp at h
    · have hm : x.length ≤ min (x.length + y.length) lg := by omega
      have e : fh l (x ++ y) (min (x.length + y.length) lg) = fh l x x.length := by
        rw [fh_keep (m := x.length) (by rw [fh_app l x y (Nat.le_refl _)]; exact hf) hm, fh_app l x y (Nat.le_refl _)]
      rw [e, if_pos hf, if_pos hf, hv_app x y (fh_le l x _)]
theorem nextOf_pos {l x : List Int} (h : (nextOf l x).2.2 = 0) : 1 ≤ (nextOf l x).2.1 ∧ (nextOf l x).2.1 ≤ x.length ∧ (nextOf l x).2.1 ≤ 15 := by
  unfold nextOf at *
  simp only at *
  by_cases hf : fh l x (min x.length (lgT l 15)) = 0
  · rw [if_neg (by simp [hf])] at h
    split at h
    · simp at h
    · split at h <;> simp at h
  · rw [if_pos hf]
    have := fh_le l x (min x.length (lgT l 15))
    have := lgT_le l 15
    refine ⟨?_, ?_, ?_⟩ <;> simp only <;> omega
theorem nextOf_err (l x : List Int) : (nextOf l x).2.2 = 0 ∨ (nextOf l x).2.2 = 3 ∨ (nextOf l x).2.2 = 5 := by
  unfold nextOf
  simp only
  split
  · exact .inl rfl
  · split
    · exact .inr (.inr rfl)
    · split
      · exact .inr (.inr rfl)
      · exact .inr (.inl rfl)
end Go.Proofs.Ytlgkiookobedcaa
namespace Go.Proofs.Ytlgkiookobedcaa
set_option linter.unusedVariables false
structure IS where
  x : List Int
  st : Nat
  last : Bool
  left : Nat
  c0 : Nat
  c1 : Nat
  c2 : Nat
  lens : List Int
  hd : List Int
  lt : List Int
  ds : List Int
  len : Nat
  all : List Int
  rem : Nat
  kinds : List Int
  stops : List Int
  toks : List Tok
def algn (x : List Int) : List Int := x.drop (x.length % 8)
def num (x : List Int) (n : Nat) : Nat := (numI (x.take n)).toNat
def fixL : List Int := List.replicate 144 8 ++ List.replicate 112 9 ++ List.replicate 24 7 ++ List.replicate 8 8
def fixD : List Int := List.replicate 32 5
def hOrd : List Nat := [16, 17, 18, 0, 8, 7, 9, 6, 10, 5, 11, 4, 12, 3, 13, 2, 14, 1, 15]
def hAll (l : List Int) : List Int := (List.range 19).map fun s => ix l (hOrd.idxOf s)
def noneB (l : List Int) : Bool := l.all fun v => v == 0
namespace IS
def over (s : IS) : IS :=
  if s.last then { s with x := algn s.x, st := 8, stops := s.stops ++ [(s.all.length : Int)] } else { s with st := 0, stops := s.stops ++ [(s.all.length : Int)] }
def emit (s : IS) (b : List Int) : IS × Int := ({ s with all := s.all ++ b.take s.rem, rem := s.rem - b.length }, if s.rem < b.length then 6 else 0)
def block (s : IS) : IS × Int :=
  if s.x.length < 3 then (s, 5)
  else if num s.x 3 / 2 = 0 then ({ s with last := decide (num s.x 3 % 2 = 1), kinds := s.kinds ++ [((num s.x 3 / 2 : Nat) : Int)], x := algn (s.x.drop 3), st := 1 }, 0)
  else if num s.x 3 / 2 = 1 then ({ s with last := decide (num s.x 3 % 2 = 1), kinds := s.kinds ++ [((num s.x 3 / 2 : Nat) : Int)], x := s.x.drop 3, lt := fixL, ds := fixD, st := 6 }, 0)
  else if num s.x 3 / 2 = 2 then ({ s with last := decide (num s.x 3 % 2 = 1), kinds := s.kinds ++ [((num s.x 3 / 2 : Nat) : Int)], x := s.x.drop 3, st := 3 }, 0)
  else ({ s with last := decide (num s.x 3 % 2 = 1), kinds := s.kinds ++ [((num s.x 3 / 2 : Nat) : Int)], x := s.x.drop 3 }, 2)
def size (s : IS) : IS × Int :=
  if s.x.length < 32 then (s, 5)
  else if num s.x 32 % 65536 + num s.x 32 / 65536 = 65535 then ({ s with x := s.x.drop 32, left := num s.x 32 % 65536, st := 2 }, 0)
  else ({ s with x := s.x.drop 32 }, 2)
def stored (s : IS) : IS × Int :=
  if s.left = 0 then (s.over, 0)
  else if s.x.length < 8 then (s, 5)
  else { s with x := s.x.drop 8, left := s.left - 1 }.emit [(num s.x 8 : Int)]
def sizes (s : IS) : IS × Int :=
  if s.x.length < 14 then (s, 5)
  else if 286 < num s.x 14 % 32 + 257 ∨ 30 < num s.x 14 / 32 % 32 + 1 then ({ s with x := s.x.drop 14 }, 2)
  else ({ s with x := s.x.drop 14, c0 := num s.x 14 % 32 + 257, c1 := num s.x 14 / 32 % 32 + 1, c2 := num s.x 14 / 1024 + 4, lens := [], st := 4 }, 0)
def heads (s : IS) : IS × Int :=
  if s.lens.length < s.c2 then
    if s.x.length < 3 then (s, 5) else ({ s with x := s.x.drop 3, lens := s.lens ++ [(num s.x 3 : Int)] }, 0)
  else if checkOf (hAll s.lens) 7 ≠ 0 ∨ noneB s.lens = true then (s, 3)
  else ({ s with hd := hAll s.lens, lens := [], st := 5 }, 0)
def rW (k : Int) : Nat := if k = 17 then 3 else if k = 18 then 7 else 2
def rB (k : Int) : Nat := if k = 18 then 11 else 3
def repeat_ (s : IS) (k : Int) (x1 : List Int) : IS × Int :=
  if s.c0 + s.c1 < s.lens.length + (rB k + num x1 (rW k)) then ({ s with x := x1.drop (rW k) }, 2)
  else ({ s with x := x1.drop (rW k), lens := s.lens ++ List.replicate (rB k + num x1 (rW k)) (if k = 16 then ix s.lens (s.lens.length - 1) else 0) }, 0)
def length (s : IS) : IS × Int :=
  if (nextOf s.hd s.x).2.2 ≠ 0 then (s, (nextOf s.hd s.x).2.2)
  else if (nextOf s.hd s.x).1 < 16 then ({ s with x := s.x.drop (nextOf s.hd s.x).2.1, lens := s.lens ++ [(nextOf s.hd s.x).1] }, 0)
  else if (nextOf s.hd s.x).1 = 16 ∧ s.lens.length = 0 then (s, 2)
  else if (s.x.drop (nextOf s.hd s.x).2.1).length < rW (nextOf s.hd s.x).1 then (s, 5)
  else s.repeat_ (nextOf s.hd s.x).1 (s.x.drop (nextOf s.hd s.x).2.1)
def lengths (s : IS) : IS × Int :=
  if s.lens.length < s.c0 + s.c1 then s.length
  else if checkOf (s.lens.take s.c0) 15 ≠ 0 ∨ checkOf (s.lens.drop s.c0) 15 ≠ 0 ∨ ix s.lens 256 = 0 then (s, 3)
  else ({ s with lt := s.lens.take s.c0, ds := s.lens.drop s.c0, st := 6 }, 0)
def token (s : IS) : IS × Int :=
  if (nextOf s.lt s.x).2.2 ≠ 0 then (s, (nextOf s.lt s.x).2.2)
  else if (nextOf s.lt s.x).1 < 256 then { s with x := s.x.drop (nextOf s.lt s.x).2.1, toks := s.toks ++ [Tok.mk (nextOf s.lt s.x).1 0 0] }.emit [(nextOf s.lt s.x).1]
  else if (nextOf s.lt s.x).1 = 256 then ({ s with x := s.x.drop (nextOf s.lt s.x).2.1 }.over, 0)
  else if 285 < (nextOf s.lt s.x).1 then (s, 3)
  else if (s.x.drop (nextOf s.lt s.x).2.1).length < lE ((nextOf s.lt s.x).1 - 257).toNat then (s, 5)
  else ({ s with x := (s.x.drop (nextOf s.lt s.x).2.1).drop (lE ((nextOf s.lt s.x).1 - 257).toNat), len := lB ((nextOf s.lt s.x).1 - 257).toNat + num (s.x.drop (nextOf s.lt s.x).2.1) (lE ((nextOf s.lt s.x).1 - 257).toNat), st := 7 }, 0)
def text (s : IS) (x1 : List Int) (D : Nat) : IS × Int :=
  if s.all.length < D then (s, 3)
  else { s with x := x1, st := 6, toks := s.toks ++ [Tok.mk 0 s.len D] }.emit (again s.all D s.len)
def dist (s : IS) : IS × Int :=
  if (nextOf s.ds s.x).2.2 ≠ 0 then (s, (nextOf s.ds s.x).2.2)
  else if 29 < (nextOf s.ds s.x).1 then (s, 3)
  else if (s.x.drop (nextOf s.ds s.x).2.1).length < dE (nextOf s.ds s.x).1.toNat then (s, 5)
  else s.text ((s.x.drop (nextOf s.ds s.x).2.1).drop (dE (nextOf s.ds s.x).1.toNat)) (dB (nextOf s.ds s.x).1.toNat + num (s.x.drop (nextOf s.ds s.x).2.1) (dE (nextOf s.ds s.x).1.toNat))
def step (s : IS) : IS × Int :=
  if s.st = 0 then s.block
  else if s.st = 1 then s.size
  else if s.st = 2 then s.stored
  else if s.st = 3 then s.sizes
  else if s.st = 4 then s.heads
  else if s.st = 5 then s.lengths
  else if s.st = 6 then s.token
  else if s.st = 7 then s.dist
  else (s, 8)
inductive Steps : IS → IS → Prop
  | refl (s : IS) : Steps s s
  | tail {s t : IS} : Steps s t → t.step.2 = 0 → Steps s t.step.1
theorem Steps.trans {a b c : IS} (h : Steps a b) (h' : Steps b c) : Steps a c := by
  induction h' with
  | refl => exact h
  | tail _ h2 ih => exact .tail ih h2
theorem Steps.one {s : IS} (h : s.step.2 = 0) : Steps s s.step.1 := .tail (.refl s) h
def run : Nat → IS → IS × Int
  | 0, s => s.step
  | n + 1, s => if s.step.2 = 0 then run n s.step.1 else s.step
def app (s : IS) (y : List Int) : IS := { s with x := s.x ++ y }
def mu (s : IS) : Nat := 3 * s.x.length + (if s.st = 4 then 2 else if s.st = 5 ∨ s.st = 2 then 1 else 0)
def fin (s : IS) : IS × Int := run s.mu s
end IS
def start (x : List Int) (most : Nat) : IS := ⟨x, 0, false, 0, 0, 0, 0, [], [], [], [], 0, [], most, [], [], []⟩
section
variable {s t : IS} {x y b : List Int} {n m : Nat}
theorem num_app (h : n ≤ x.length) : num (x ++ y) n = num x n := by unfold num; rw [List.take_append_of_le_length h]
theorem drop_app' (h : n ≤ x.length) : (x ++ y).drop n = x.drop n ++ y := List.drop_append_of_le_length h
theorem algn_app (h : y.length % 8 = 0) : algn (x ++ y) = algn x ++ y := by
  unfold algn
  rw [List.length_append, show (x.length + y.length) % 8 = x.length % 8 by omega, drop_app' (Nat.mod_le _ _)]
theorem algn_length (x : List Int) : (algn x).length = x.length / 8 * 8 := by unfold algn; rw [List.length_drop]; omega
theorem IS.mu_step (h : s.step.2 = 0) : s.step.1.mu < s.mu := by
  have hov : ∀ s : IS, s.over.x.length ≤ s.x.length ∧ (s.over.st = 0 ∨ s.over.st = 8) := fun s => by
    unfold IS.over; split
    · exact ⟨by show (algn s.x).length ≤ _; rw [algn_length]; omega, .inr rfl⟩
    · exact ⟨Nat.le_refl _, .inl rfl⟩
  have hmu : ∀ s : IS, (s.st = 0 ∨ s.st = 8 ∨ s.st = 1 ∨ s.st = 3 ∨ s.st = 6 ∨ s.st = 7) → s.mu = 3 * s.x.length := fun s h => by
    unfold IS.mu; rw [if_neg (by omega), if_neg (by omega)]; rfl
  have hmu2 : ∀ s : IS, s.mu ≤ 3 * s.x.length + 2 ∧ 3 * s.x.length ≤ s.mu := fun s => by
    unfold IS.mu; constructor <;> (split; omega; split <;> omega)
  unfold IS.step at h ⊢
  by_cases h0 : s.st = 0
  · rw [if_pos h0] at h ⊢
    unfold IS.block at h ⊢
    by_cases hx : s.x.length < 3
    · rw [if_pos hx] at h; simp at h
    rw [if_neg hx] at h ⊢
    have hs := hmu s (.inl h0)
    have hal := algn_length (s.x.drop 3)
    have hdl : (s.x.drop 3).length = s.x.length - 3 := List.length_drop
    split at h <;> rename_i h1
    · rw [if_pos h1, hmu _ (by simp)]; simp only [hs]; omega
    rw [if_neg h1]
    split at h <;> rename_i h2
    · rw [if_pos h2, hmu _ (by simp)]; simp only [hs]; omega
    rw [if_neg h2]
    split at h <;> rename_i h3
    · rw [if_pos h3, hmu _ (by simp)]; simp only [hs]; omega
    · simp at h
  rw [if_neg h0] at h ⊢
  by_cases h1 : s.st = 1
  · rw [if_pos h1] at h ⊢
    unfold IS.size at h ⊢
    by_cases hx : s.x.length < 32
    · rw [if_pos hx] at h; simp at h
    rw [if_neg hx] at h ⊢
    split at h <;> rename_i h2
    · rw [if_pos h2]
      have a2 := (hmu2 s).2
      have hdl : (s.x.drop 32).length = s.x.length - 32 := List.length_drop
      refine Nat.lt_of_le_of_lt (hmu2 _).1 ?_
      show 3 * (s.x.drop 32).length + 2 < _
      omega
    · simp at h
  rw [if_neg h1] at h ⊢
  by_cases h2 : s.st = 2
  · rw [if_pos h2] at h ⊢
    unfold IS.stored at h ⊢
    by_cases hl : s.left = 0
    · rw [if_pos hl]
      have a1 := hov s
      have a2 : s.over.mu = _ := hmu s.over (by omega)
      have a3 : s.mu = 3 * s.x.length + 1 := by unfold IS.mu; rw [if_neg (by omega), if_pos (by omega)]
      show s.over.mu < s.mu
      omega
    rw [if_neg hl] at h ⊢
    by_cases hx : s.x.length < 8
    · rw [if_pos hx] at h; simp at h
    rw [if_neg hx]
    unfold IS.emit
    have a1 := (hmu2 { { s with x := s.x.drop 8, left := s.left - 1 } with all := s.all ++ [(num s.x 8 : Int)].take s.rem, rem := s.rem - [(num s.x 8 : Int)].length }).1
    have a2 := (hmu2 s).2
    have hdl : (s.x.drop 8).length = s.x.length - 8 := List.length_drop
    simp only at a1 ⊢
    omega
  rw [if_neg h2] at h ⊢
  by_cases h3 : s.st = 3
  · rw [if_pos h3] at h ⊢
    unfold IS.sizes at h ⊢
    by_cases hx : s.x.length < 14
    · rw [if_pos hx] at h; simp at h
    rw [if_neg hx] at h ⊢
    split at h <;> rename_i h4
    · simp at h
    rw [if_neg h4]
    have a1 := (hmu2 { s with x := s.x.drop 14, c0 := num s.x 14 % 32 + 257, c1 := num s.x 14 / 32 % 32 + 1, c2 := num s.x 14 / 1024 + 4, lens := [], st := 4 }).1
    have a2 := (hmu2 s).2
    have hdl : (s.x.drop 14).length = s.x.length - 14 := List.length_drop
    simp only at a1 ⊢
    omega
  rw [if_neg h3] at h ⊢
  by_cases h4 : s.st = 4
  · rw [if_pos h4] at h ⊢
    unfold IS.heads at h ⊢
    have a3 : s.mu = 3 * s.x.length + 2 := by unfold IS.mu; rw [if_pos h4]
    by_cases hc : s.lens.length < s.c2
    · rw [if_pos hc] at h ⊢
      by_cases hx : s.x.length < 3
      · rw [if_pos hx] at h; simp at h
      rw [if_neg hx]
      have a1 := (hmu2 { s with x := s.x.drop 3, lens := s.lens ++ [(num s.x 3 : Int)] }).1
      have hdl : (s.x.drop 3).length = s.x.length - 3 := List.length_drop
      simp only at a1 ⊢
      omega
    rw [if_neg hc] at h ⊢
    split at h <;> rename_i h5
    · simp at h
    rw [if_neg h5]
    have : IS.mu { s with hd := hAll s.lens, lens := [], st := 5 } = 3 * s.x.length + 1 := by unfold IS.mu; rw [if_neg (by simp), if_pos (by simp)]
    simp only [this]
    omega
  rw [if_neg h4] at h ⊢
  by_cases h5 : s.st = 5
  · rw [if_pos h5] at h ⊢
    unfold IS.lengths at h ⊢
    have a2 := hmu2 s
    by_cases hc : s.lens.length < s.c0 + s.c1
    · rw [if_pos hc] at h ⊢
      unfold IS.length at h ⊢
      by_cases e : (nextOf s.hd s.x).2.2 ≠ 0
      · rw [if_pos e] at h; exact absurd h e
      have hp := nextOf_pos (Decidable.not_not.1 e)
      rw [if_neg e] at h ⊢
      have hdl : (s.x.drop (nextOf s.hd s.x).2.1).length = s.x.length - (nextOf s.hd s.x).2.1 := List.length_drop
      split at h <;> rename_i h6
      · rw [if_pos h6]
        have a1 := (hmu2 { s with x := s.x.drop (nextOf s.hd s.x).2.1, lens := s.lens ++ [(nextOf s.hd s.x).1] }).1
        simp only at a1 ⊢
        have a3 : s.mu = 3 * s.x.length + 1 := by unfold IS.mu; rw [if_neg (by omega), if_pos (by omega)]
        omega
      rw [if_neg h6]
      split at h <;> rename_i h7
      · simp at h
      rw [if_neg h7]
      split at h <;> rename_i h8
      · simp at h
      rw [if_neg h8]
      unfold IS.repeat_ at h ⊢
      split at h <;> rename_i h9
      · simp at h
      rw [if_neg h9]
      have hd2 : ((s.x.drop (nextOf s.hd s.x).2.1).drop (IS.rW (nextOf s.hd s.x).1)).length ≤ (s.x.drop (nextOf s.hd s.x).2.1).length := by rw [List.length_drop]; omega
      have a1 := (hmu2 { s with x := (s.x.drop (nextOf s.hd s.x).2.1).drop (IS.rW (nextOf s.hd s.x).1), lens := s.lens ++ List.replicate (IS.rB (nextOf s.hd s.x).1 + num (s.x.drop (nextOf s.hd s.x).2.1) (IS.rW (nextOf s.hd s.x).1)) (if (nextOf s.hd s.x).1 = 16 then ix s.lens (s.lens.length - 1) else 0) }).1
      simp only at a1 ⊢
      have a3 : s.mu = 3 * s.x.length + 1 := by unfold IS.mu; rw [if_neg (by omega), if_pos (by omega)]
      omega
    rw [if_neg hc] at h ⊢
    split at h <;> rename_i h6
    · simp at h
    rw [if_neg h6]
    have a1 : IS.mu { s with lt := s.lens.take s.c0, ds := s.lens.drop s.c0, st := 6 } = 3 * s.x.length := hmu _ (by simp)
    have a3 : s.mu = 3 * s.x.length + 1 := by unfold IS.mu; rw [if_neg (by omega), if_pos (by omega)]
    simp only [a1]
    omega
  rw [if_neg h5] at h ⊢
  by_cases h6 : s.st = 6
  · rw [if_pos h6] at h ⊢
    unfold IS.token at h ⊢
    have a2 : s.mu = 3 * s.x.length := hmu s (by omega)
    by_cases e : (nextOf s.lt s.x).2.2 ≠ 0
    · rw [if_pos e] at h; exact absurd h e
    have hp := nextOf_pos (Decidable.not_not.1 e)
    rw [if_neg e] at h ⊢
    have hdl : (s.x.drop (nextOf s.lt s.x).2.1).length = s.x.length - (nextOf s.lt s.x).2.1 := List.length_drop
    split at h <;> rename_i h7
    · rw [if_pos h7]
      unfold IS.emit
      rw [hmu _ (by simp [h6])]
      simp only
      omega
    rw [if_neg h7]
    split at h <;> rename_i h8
    · rw [if_pos h8]
      have a1 := hov { s with x := s.x.drop (nextOf s.lt s.x).2.1 }
      refine Nat.lt_of_le_of_lt (Nat.le_of_eq (hmu _ ?_)) ?_
      · exact a1.2.elim .inl (fun h => .inr (.inl h))
      · have a3 : (IS.over { s with x := s.x.drop (nextOf s.lt s.x).2.1 }).x.length ≤ (s.x.drop (nextOf s.lt s.x).2.1).length := a1.1
        simp only
        omega
    rw [if_neg h8]
    split at h <;> rename_i h9
    · simp at h
    rw [if_neg h9]
    split at h <;> rename_i h10
    · simp at h
    rw [if_neg h10]
    have hd2 : ((s.x.drop (nextOf s.lt s.x).2.1).drop (lE ((nextOf s.lt s.x).1 - 257).toNat)).length ≤ (s.x.drop (nextOf s.lt s.x).2.1).length := by rw [List.length_drop]; omega
    rw [hmu _ (by simp)]
    simp only
    omega
  rw [if_neg h6] at h ⊢
  by_cases h7 : s.st = 7
  · rw [if_pos h7] at h ⊢
    unfold IS.dist at h ⊢
    have a2 : s.mu = 3 * s.x.length := hmu s (by omega)
    by_cases e : (nextOf s.ds s.x).2.2 ≠ 0
    · rw [if_pos e] at h; exact absurd h e
    have hp := nextOf_pos (Decidable.not_not.1 e)
    rw [if_neg e] at h ⊢
    have hdl : (s.x.drop (nextOf s.ds s.x).2.1).length = s.x.length - (nextOf s.ds s.x).2.1 := List.length_drop
    split at h <;> rename_i h8
    · simp at h
    rw [if_neg h8]
    split at h <;> rename_i h9
    · simp at h
    rw [if_neg h9]
    unfold IS.text at h ⊢
    split at h <;> rename_i h10
    · simp at h
    rw [if_neg h10]
    have hd2 : ((s.x.drop (nextOf s.ds s.x).2.1).drop (dE (nextOf s.ds s.x).1.toNat)).length ≤ (s.x.drop (nextOf s.ds s.x).2.1).length := by rw [List.length_drop]; omega
    unfold IS.emit
    rw [hmu _ (by simp)]
    simp only
    omega
  · rw [if_neg h7] at h; simp at h
theorem IS.run_mono (h : (IS.run n s).2 ≠ 0) : IS.run (n + 1) s = IS.run n s := by
  induction n generalizing s with
  | zero =>
    show (if s.step.2 = 0 then s.step.1.step else s.step) = s.step
    exact if_neg h
  | succ n ih =>
    rw [IS.run] at h ⊢
    by_cases e : s.step.2 = 0
    · rw [if_pos e] at h ⊢; rw [ih h]; conv => rhs; rw [IS.run, if_pos e]
    · rw [if_neg e] at h ⊢; conv => rhs; rw [IS.run, if_neg e]
theorem IS.run_le (h : (IS.run n s).2 ≠ 0) (hm : n ≤ m) : IS.run m s = IS.run n s := by
  induction m with
  | zero => obtain rfl : n = 0 := by omega
            rfl
  | succ m ih =>
    by_cases e : n = m + 1
    · subst e; rfl
    · have := ih (by omega)
      rw [IS.run_mono (by rw [this]; exact h), this]
theorem IS.run_end (h : s.mu ≤ n) : (IS.run n s).2 ≠ 0 := by
  induction n generalizing s with
  | zero =>
    intro e
    have := IS.mu_step (s := s) e
    omega
  | succ n ih =>
    rw [IS.run]
    by_cases e : s.step.2 = 0
    · rw [if_pos e]; exact ih (by have := IS.mu_step e; omega)
    · rw [if_neg e]; exact e
theorem IS.fin_ne (s : IS) : s.fin.2 ≠ 0 := IS.run_end (Nat.le_refl _)
theorem IS.fin_run (h : (IS.run n s).2 ≠ 0) : IS.run n s = s.fin := by
  rcases Nat.le_total n s.mu with h2 | h2
  · exact (IS.run_le h h2).symm
  · exact IS.run_le (IS.fin_ne s) h2
theorem IS.fin_stop (h : s.step.2 ≠ 0) : s.fin = s.step := (IS.fin_run (n := 0) h).symm
theorem IS.fin_step (h : s.step.2 = 0) : s.step.1.fin = s.fin := by
  have e : IS.run (s.step.1.mu + 1) s = s.step.1.fin := by rw [IS.run, if_pos h]; rfl
  rw [← e]
  exact IS.fin_run (by rw [e]; exact IS.fin_ne _)
theorem IS.Steps.fin_eq (h : IS.Steps s t) : t.fin = s.fin := by
  induction h with
  | refl => rfl
  | tail _ h2 ih => rw [IS.fin_step h2, ih]
theorem IS.fin_steps (s : IS) : ∃ t, IS.Steps s t ∧ t.step = s.fin := by
  have : ∀ n s, s.mu ≤ n → ∃ t, IS.Steps s t ∧ t.step = s.fin := by
    intro n
    induction n with
    | zero =>
      intro s h
      refine ⟨s, .refl s, (IS.fin_stop ?_).symm⟩
      intro e
      have := IS.mu_step (s := s) e
      omega
    | succ n ih =>
      intro s h
      by_cases e : s.step.2 = 0
      · obtain ⟨t, h1, h2⟩ := ih s.step.1 (by have := IS.mu_step e; omega)
        exact ⟨t, (IS.Steps.one e).trans h1, by rw [h2, IS.fin_step e]⟩
      · exact ⟨s, .refl s, (IS.fin_stop e).symm⟩
  exact this _ s (Nat.le_refl _)
end
end Go.Proofs.Ytlgkiookobedcaa
