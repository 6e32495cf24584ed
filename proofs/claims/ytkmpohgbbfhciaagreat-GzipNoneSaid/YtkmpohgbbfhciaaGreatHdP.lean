/-
  Plain law: the header of a gzip member, as numbers.
-/
import Derived.Test.YtkmpohgbbfhciaaGreatBase
namespace Go.Proofs.YtkmpohgbbfhciaaGreat
set_option linter.unusedVariables false

/-- a number of bytes, the lowest first -/
def leI : List Int → Int
  | [] => 0
  | b :: l => b + 256 * leI l
theorem leI_app (l : List Int) (x : Int) : leI (l ++ [x]) = leI l + 256 ^ l.length * x := by
  induction l with
  | nil => simp [leI]
  | cons b l ih =>
    show b + 256 * leI (l ++ [x]) = b + 256 * leI l + 256 ^ (l.length + 1) * x
    rw [ih, Int.mul_add, Int.pow_succ, Int.mul_comm (256 ^ l.length) 256, Int.mul_assoc]; omega
theorem leI_bd {l : List Int} (h : ∀ x ∈ l, 0 ≤ x ∧ x < 256) : 0 ≤ leI l ∧ leI l < 256 ^ l.length := by
  induction l with
  | nil => simp [leI]
  | cons b l ih =>
    have h1 := ih fun y hy => h y (List.mem_cons_of_mem _ hy)
    have h2 := h b (List.mem_cons_self ..)
    simp only [leI, List.length_cons, Int.pow_succ]
    omega
theorem ix_mem_bd {l : List Int} (h : ∀ x ∈ l, 0 ≤ x ∧ x < 256) (i : Nat) : 0 ≤ ix l i ∧ ix l i < 256 := by
  unfold ix
  rw [List.getD_eq_getElem?_getD]
  cases hi : l[i]? with
  | none => simp
  | some v => exact h v (List.mem_of_getElem? hi)
theorem take_succ_ix {l : List Int} {k : Nat} (h : k < l.length) : l.take (k + 1) = l.take k ++ [ix l k] := by
  rw [List.take_add_one]; simp [ix, h]

/-- how many numbers stand ahead of the first 0 -/
def nz (l : List Int) : Nat := (l.takeWhile (· ≠ 0)).length
theorem nz_cons (x : Int) (l : List Int) : nz (x :: l) = if x = 0 then 0 else nz l + 1 := by
  unfold nz
  by_cases h : x = 0 <;> simp [h]
theorem nz_le (l : List Int) : nz l ≤ l.length := by
  induction l with
  | nil => simp [nz]
  | cons x l ih => rw [nz_cons]; split <;> simp; omega
theorem nz_nz {l : List Int} {i : Nat} (h : i < nz l) : ix l i ≠ 0 := by
  induction l generalizing i with
  | nil => simp [nz] at h
  | cons x l ih =>
    rw [nz_cons] at h
    split at h
    · omega
    · cases i with
      | zero => simpa [ix]
      | succ i => exact ih (by omega)
theorem nz_at {l : List Int} (h : nz l < l.length) : ix l (nz l) = 0 := by
  induction l with
  | nil => simp [nz] at h
  | cons x l ih =>
    rw [nz_cons] at h ⊢
    split
    · simpa [ix]
    · rename_i hx
      rw [if_neg hx] at h
      exact ih (by simpa using h)
theorem nz_ge {l : List Int} {k : Nat} (hk : k ≤ l.length) (h : ∀ i, i < k → ix l i ≠ 0) : k ≤ nz l := by
  rcases Nat.lt_or_ge (nz l) k with h1 | h1
  · exact absurd (nz_at (by omega)) (h _ h1)
  · exact h1

/-- what 'take(m)' gives where the bytes l are read, a of them taken, e the fault -/
def tkF (l : List Int) (a : Nat) (e : Int) (m : Nat) : Int := if e = 0 ∧ l.length - a < m then 5 else e
def tkA (l : List Int) (a : Nat) (e : Int) (m : Nat) : Nat := if tkF l a e m = 0 then a + m else a
def tkL (l : List Int) (a : Nat) (e : Int) (m : Nat) : List Int := if tkF l a e m = 0 then (l.drop a).take m else []
/-- one byte -/
def onB (l : List Int) (a : Nat) (e : Int) : Int := if tkF l a e 1 = 0 then ix l a else 0
/-- one byte that has to be c -/
def wtE (l : List Int) (a : Nat) (e c : Int) : Int := if tkF l a e 1 = 0 ∧ ix l a ≠ c then 2 else tkF l a e 1
/-- a text -/
def txR (r : List Int) : List Int × Nat × Int :=
  if nz r < r.length ∧ nz r ≤ 4096 then (r.take (nz r), nz r + 1, 0) else if 4096 < r.length then ([], 0, 2) else ([], 0, 5)
def txF (l : List Int) (a : Nat) (e : Int) : Int := if e = 0 then (txR (l.drop a)).2.2 else e
def txA (l : List Int) (a : Nat) (e : Int) : Nat := if e = 0 then a + (txR (l.drop a)).2.1 else a
def txL (l : List Int) (a : Nat) (e : Int) : List Int := if e = 0 then (txR (l.drop a)).1 else []
/-- the flags' fault -/
def gtE (e f : Int) : Int := if e = 0 ∧ 31 < f then 2 else e
/-- ParseHeader's steps: where it stands (b), the fault (q) -/
def b1 (l : List Int) : Nat := tkA l 0 0 1
def q1 (l : List Int) : Int := wtE l 0 0 31
def b2 (l : List Int) : Nat := tkA l (b1 l) (q1 l) 1
def q2 (l : List Int) : Int := wtE l (b1 l) (q1 l) 139
def b3 (l : List Int) : Nat := tkA l (b2 l) (q2 l) 1
def q3 (l : List Int) : Int := wtE l (b2 l) (q2 l) 8
def fB (l : List Int) : Int := onB l (b3 l) (q3 l)
def b4 (l : List Int) : Nat := tkA l (b3 l) (q3 l) 1
def q4 (l : List Int) : Int := gtE (tkF l (b3 l) (q3 l) 1) (fB l)
def tmV (l : List Int) : Int := leI (tkL l (b4 l) (q4 l) 4)
def b5 (l : List Int) : Nat := tkA l (b4 l) (q4 l) 4
def q5 (l : List Int) : Int := tkF l (b4 l) (q4 l) 4
def flV (l : List Int) : Int := onB l (b5 l) (q5 l)
def b6 (l : List Int) : Nat := tkA l (b5 l) (q5 l) 1
def q6 (l : List Int) : Int := tkF l (b5 l) (q5 l) 1
def syV (l : List Int) : Int := onB l (b6 l) (q6 l)
def b7 (l : List Int) : Nat := tkA l (b6 l) (q6 l) 1
def q7 (l : List Int) : Int := tkF l (b6 l) (q6 l) 1
/-- the extra field -/
def xnV (l : List Int) : Int := leI (tkL l (b7 l) (q7 l) 2)
def b8 (l : List Int) : Nat := tkA l (b7 l) (q7 l) 2
def q8 (l : List Int) : Int := tkF l (b7 l) (q7 l) 2
def bit (f k : Int) : Bool := decide (f / k % 2 = 1)
def exL (l : List Int) : List Int := if bit (fB l) 4 then tkL l (b8 l) (q8 l) (xnV l).toNat else []
def b9 (l : List Int) : Nat := if bit (fB l) 4 then tkA l (b8 l) (q8 l) (xnV l).toNat else b7 l
def q9 (l : List Int) : Int := if bit (fB l) 4 then tkF l (b8 l) (q8 l) (xnV l).toNat else q7 l
def nmL (l : List Int) : List Int := if bit (fB l) 8 then txL l (b9 l) (q9 l) else []
def b10 (l : List Int) : Nat := if bit (fB l) 8 then txA l (b9 l) (q9 l) else b9 l
def q10 (l : List Int) : Int := if bit (fB l) 8 then txF l (b9 l) (q9 l) else q9 l
def cmL (l : List Int) : List Int := if bit (fB l) 16 then txL l (b10 l) (q10 l) else []
def b11 (l : List Int) : Nat := if bit (fB l) 16 then txA l (b10 l) (q10 l) else b10 l
def q11 (l : List Int) : Int := if bit (fB l) 16 then txF l (b10 l) (q10 l) else q10 l
theorem onB_bd {l : List Int} (h : ∀ x ∈ l, 0 ≤ x ∧ x < 256) (a : Nat) (e : Int) : 0 ≤ onB l a e ∧ onB l a e < 256 := by
  unfold onB
  split
  · exact ix_mem_bd h a
  · omega
theorem tkL_bd {l : List Int} (h : ∀ x ∈ l, 0 ≤ x ∧ x < 256) (a : Nat) (e : Int) (m : Nat) : ∀ x ∈ tkL l a e m, 0 ≤ x ∧ x < 256 := by
  unfold tkL
  split
  · exact fun x hx => h x (List.mem_of_mem_drop (List.mem_of_mem_take hx))
  · exact fun x hx => by cases hx
theorem tkL_le (l : List Int) (a : Nat) (e : Int) (m : Nat) : (tkL l a e m).length ≤ m := by
  unfold tkL
  split
  · rw [List.length_take]; omega
  · simp
theorem tkF_zero {l : List Int} {a : Nat} {e : Int} {m : Nat} (h : tkF l a e m = 0) : e = 0 ∧ (m ≤ l.length - a) := by
  unfold tkF at h
  split at h
  · omega
  · rename_i h1
    exact ⟨h, by omega⟩
theorem wtE_zero {l : List Int} {a : Nat} {e c : Int} (h : wtE l a e c = 0) : e = 0 ∧ 1 ≤ l.length - a ∧ ix l a = c := by
  unfold wtE at h
  split at h
  · omega
  · rename_i h1
    have := tkF_zero h
    refine ⟨this.1, this.2, ?_⟩
    by_cases h2 : ix l a = c
    · exact h2
    · exact absurd ⟨h, h2⟩ h1
theorem txF_zero {l : List Int} {a : Nat} {e : Int} (h : txF l a e = 0) : e = 0 := by
  unfold txF at h
  split at h
  · assumption
  · exact h
theorem q7_len {l : List Int} (h : q7 l = 0) : 0 < l.length := by
  have h6 := (tkF_zero h).1
  have h5 := (tkF_zero (show tkF l (b5 l) (q5 l) 1 = 0 from h6)).1
  have h4 : q4 l = 0 := (tkF_zero (show tkF l (b4 l) (q4 l) 4 = 0 from h5)).1
  have h3 : tkF l (b3 l) (q3 l) 1 = 0 := by
    unfold q4 gtE at h4
    split at h4
    · omega
    · exact h4
  have := (tkF_zero h3).2
  omega
theorem q9_len {l : List Int} (h : q9 l = 0) : 0 < l.length := by
  unfold q9 at h
  split at h
  · exact q7_len (tkF_zero (show tkF l (b7 l) (q7 l) 2 = 0 from (tkF_zero h).1)).1
  · exact q7_len h
theorem q10_len {l : List Int} (h : q10 l = 0) : 0 < l.length := by
  unfold q10 at h
  split at h
  · exact q9_len (txF_zero h)
  · exact q9_len h
end Go.Proofs.YtkmpohgbbfhciaaGreat
