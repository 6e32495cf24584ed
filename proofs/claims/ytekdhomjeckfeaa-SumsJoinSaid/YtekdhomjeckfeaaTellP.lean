/-
  Plain law: two texts that differ in a burst of at most 32 bits have other checksums.
-/
import Derived.Test.YtekdhomjeckfeaaSumP
namespace Go.Proofs.Ytekdhomjeckfeaa

def crN (x : Nat) (f : Nat → Nat) : Nat → Nat
  | 0 => x
  | k + 1 => stpN 8 (crN x f k ^^^ f k)
theorem crTo_N {x : Int} (hx : 0 ≤ x) (l : List Int) (k : Nat) : crTo x l k = (crN x.toNat (fun i => (ix l i).toNat) k : Nat) := by
  induction k with
  | zero => simp only [crTo, crN]; omega
  | succ k ih =>
    simp only [crTo, crN, ih]
    unfold crStep stpKI xorI
    simp
theorem stp_zero {x : Nat} (hx : x < 4294967296) (h : stp x = 0) : x = 0 := by
  unfold stp at h
  split at h
  · have : x / 2 = poly := by
      have h2 : (x / 2 ^^^ poly) ^^^ poly = 0 ^^^ poly := by rw [h]
      rwa [Nat.xor_assoc, Nat.xor_self, Nat.xor_zero, Nat.zero_xor] at h2
    unfold poly at this; omega
  · omega
theorem stpN_zero {k x : Nat} (hx : x < 4294967296) (h : stpN k x = 0) : x = 0 := by
  induction k with
  | zero => exact h
  | succ k ih => exact ih (stp_zero (stpN_lt hx k) h)
theorem xor_cat {a b i : Nat} (h : a < 2 ^ i) : a + 2 ^ i * b = a ^^^ (2 ^ i * b) := by
  apply Nat.eq_of_testBit_eq
  intro j
  rw [Nat.add_comm, Nat.testBit_two_pow_mul_add _ h, Nat.testBit_xor, Nat.testBit_two_pow_mul]
  by_cases hj : j < i
  · have : ¬ i ≤ j := by omega
    simp [hj, this]
  · have h1 : a.testBit j = false := Nat.testBit_lt_two_pow (Nat.lt_of_lt_of_le h (Nat.pow_le_pow_right (n := 2) (by omega) (by omega)))
    have : i ≤ j := by omega
    simp [hj, h1, this]
theorem burst {f f' : Nat → Nat} {X k : Nat} (hd : ∀ m, m < 5 → f (k + m) ^^^ f' (k + m) = X / 2 ^ (8 * m) % 256) (ho : ∀ m, m < k → f m = f' m) (x : Nat) (j : Nat) (hj : j ≤ 5) :
    crN x f (k + j) ^^^ crN x f' (k + j) = stpN (8 * j) (X % 2 ^ (8 * j)) := by
  induction j with
  | zero =>
    have : ∀ m, m ≤ k → crN x f m = crN x f' m := by
      intro m
      induction m with
      | zero => intro _; rfl
      | succ m ih => intro hm; simp only [crN]; rw [ih (by omega), ho m (by omega)]
    rw [Nat.add_zero, this k (Nat.le_refl _), Nat.xor_self]
    simp [stpN, Nat.mod_one]
  | succ j ih =>
    have h1 := ih (by omega)
    have h2 := hd j (by omega)
    show stpN 8 (crN x f (k + j) ^^^ f (k + j)) ^^^ stpN 8 (crN x f' (k + j) ^^^ f' (k + j)) = _
    rw [← stpN_xor]
    have e : (crN x f (k + j) ^^^ f (k + j)) ^^^ (crN x f' (k + j) ^^^ f' (k + j)) = (crN x f (k + j) ^^^ crN x f' (k + j)) ^^^ (f (k + j) ^^^ f' (k + j)) := by
      apply Nat.eq_of_testBit_eq
      intro i
      simp only [Nat.testBit_xor]
      cases (crN x f (k + j)).testBit i <;> cases (crN x f' (k + j)).testBit i <;> cases (f (k + j)).testBit i <;> cases (f' (k + j)).testBit i <;> rfl
    rw [e, h1, h2]
    have e2 : X % 2 ^ (8 * (j + 1)) = X % 2 ^ (8 * j) + 2 ^ (8 * j) * (X / 2 ^ (8 * j) % 256) := by
      rw [show 8 * (j + 1) = 8 * j + 8 by omega, Nat.pow_add, Nat.mod_mul]
    rw [e2, xor_cat (Nat.mod_lt _ (Nat.two_pow_pos _)), show 8 * (j + 1) = 8 + 8 * j by omega, stpN_add, stpN_xor (8 * j), stpN_even]
theorem tell {f f' : Nat → Nat} {B s k n x : Nat} (hB0 : B ≠ 0) (hB : B < 4294967296) (hs : s < 8) (hx : x < 4294967296) (hf : ∀ m, f m < 256) (hf' : ∀ m, f' m < 256)
    (hd : ∀ m, m < 5 → f (k + m) ^^^ f' (k + m) = (2 ^ s * B) / 2 ^ (8 * m) % 256) (ho : ∀ m, m < k → f m = f' m) (hp : ∀ m, k + 5 ≤ m → f m = f' m) (hn : k + 5 ≤ n) : crN x f n ≠ crN x f' n := by
  have hlt : ∀ g : Nat → Nat, (∀ m, g m < 256) → ∀ m, crN x g m < 4294967296 := by
    intro g hg m
    induction m with
    | zero => exact hx
    | succ m ih => exact stpN_lt (Nat.xor_lt_two_pow (n := 32) ih (by have := hg m; omega)) 8
  have h5 := burst hd ho x 5 (Nat.le_refl _)
  have hX : 2 ^ s * B < 2 ^ 40 := by
    have : 2 ^ s ≤ 2 ^ 7 := Nat.pow_le_pow_right (by omega) (by omega)
    calc 2 ^ s * B ≤ 2 ^ 7 * B := Nat.mul_le_mul_right _ this
      _ < 2 ^ 40 := by omega
  rw [show 8 * 5 = 40 from rfl, Nat.mod_eq_of_lt hX, show 40 = (40 - s) + s by omega, stpN_add, stpN_even] at h5
  have h0 : crN x f (k + 5) ^^^ crN x f' (k + 5) ≠ 0 := by rw [h5]; exact fun h => hB0 (stpN_zero hB h)
  have : ∀ j, crN x f (k + 5 + j) ^^^ crN x f' (k + 5 + j) ≠ 0 := by
    intro j
    induction j with
    | zero => exact h0
    | succ j ih =>
      intro h
      apply ih
      have e : crN x f (k + 5 + (j + 1)) ^^^ crN x f' (k + 5 + (j + 1)) = stpN 8 (crN x f (k + 5 + j) ^^^ crN x f' (k + 5 + j)) := by
        show stpN 8 (crN x f (k + 5 + j) ^^^ f (k + 5 + j)) ^^^ stpN 8 (crN x f' (k + 5 + j) ^^^ f' (k + 5 + j)) = _
        rw [← stpN_xor, hp (k + 5 + j) (by omega)]
        congr 1
        apply Nat.eq_of_testBit_eq
        intro i
        simp only [Nat.testBit_xor]
        cases (crN x f (k + 5 + j)).testBit i <;> cases (crN x f' (k + 5 + j)).testBit i <;> cases (f' (k + 5 + j)).testBit i <;> rfl
      rw [e] at h
      exact stpN_zero (Nat.xor_lt_two_pow (n := 32) (hlt f hf _) (hlt f' hf' _)) h
  intro h
  have h2 := this (n - (k + 5))
  rw [show k + 5 + (n - (k + 5)) = n by omega, h, Nat.xor_self] at h2
  exact h2 rfl

/-- the text with the first j of the five bytes bent -/
def teL (l : List Int) (k : Nat) (X : Int) : Nat → List Int
  | 0 => l
  | j + 1 => (teL l k X j).set (k + j) (xorI (ix l (k + j)) (X / 2 ^ (8 * j) % 256))
theorem teL_length (l : List Int) (k : Nat) (X : Int) (j : Nat) : (teL l k X j).length = l.length := by
  induction j with
  | zero => rfl
  | succ j ih => simp [teL, ih]
theorem ix_set' (l : List Int) {k : Nat} (hk : k < l.length) (a : Int) (j : Nat) : ix (l.set k a) j = if j = k then a else ix l j := by
  unfold ix
  simp only [List.getD_eq_getElem?_getD, List.getElem?_set]
  by_cases h : k = j
  · subst h; simp [hk]
  · rw [if_neg h, if_neg (fun e => h e.symm)]
theorem ix_teL (l : List Int) (k : Nat) (X : Int) (j : Nat) (hj : k + j ≤ l.length) (m : Nat) : ix (teL l k X j) m = if k ≤ m ∧ m < k + j then xorI (ix l m) (X / 2 ^ (8 * (m - k)) % 256) else ix l m := by
  induction j with
  | zero => rw [if_neg (by omega)]; rfl
  | succ j ih =>
    simp only [teL]
    rw [ix_set' _ (by rw [teL_length]; omega), ih (by omega)]
    by_cases e : m = k + j
    · subst e
      rw [if_pos rfl, if_pos (by omega), show k + j - k = j by omega]
    · rw [if_neg e]
      by_cases h : k ≤ m ∧ m < k + j
      · rw [if_pos h, if_pos (by omega)]
      · rw [if_neg h, if_neg (by omega)]
theorem teL_bd {l : List Int} {k : Nat} {X : Int} (hl : ∀ i, 0 ≤ ix l i ∧ ix l i < 256) (j : Nat) (hj : k + j ≤ l.length) (m : Nat) : 0 ≤ ix (teL l k X j) m ∧ ix (teL l k X j) m < 256 := by
  rw [ix_teL l k X j hj]
  split
  · exact xorI_bd8 (hl m) ⟨Int.emod_nonneg _ (by omega), Int.emod_lt_of_pos _ (by omega)⟩
  · exact hl m
theorem tell_crc {l : List Int} {k : Nat} {B s x : Int} (hl : ∀ i, 0 ≤ ix l i ∧ ix l i < 256) (hB0 : B ≠ 0) (hB : 0 ≤ B ∧ B < 4294967296) (hs : 0 ≤ s ∧ s < 8) (hx : 0 ≤ x ∧ x < 4294967296) (hk : k + 5 ≤ l.length) :
    crTo x l l.length ≠ crTo x (teL l k (B * 2 ^ s.toNat) 5) l.length := by
  rw [crTo_N hx.1, crTo_N hx.1]
  intro h
  refine tell (f := fun i => (ix l i).toNat) (f' := fun i => (ix (teL l k (B * 2 ^ s.toNat) 5) i).toNat) (B := B.toNat) (s := s.toNat) (k := k) (n := l.length) (x := x.toNat) (by omega) (by omega) (by omega) (by omega)
    (fun m => by have := hl m; show (ix l m).toNat < 256; omega) (fun m => by have := teL_bd (X := B * 2 ^ s.toNat) hl 5 hk m; show (ix (teL l k (B * 2 ^ s.toNat) 5) m).toNat < 256; omega) ?_ ?_ ?_ hk (Int.ofNat.inj h)
  · intro m hm
    show (ix l (k + m)).toNat ^^^ (ix (teL l k (B * 2 ^ s.toNat) 5) (k + m)).toNat = _
    rw [ix_teL l k _ 5 hk, if_pos (by omega)]
    unfold xorI
    rw [Int.toNat_natCast, ← Nat.xor_assoc, Nat.xor_self, Nat.zero_xor, show k + m - k = m by omega]
    have e1 : B * 2 ^ s.toNat = ((2 ^ s.toNat * B.toNat : Nat) : Int) := by
      rw [Int.natCast_mul, Int.toNat_of_nonneg hB.1, Int.mul_comm]; simp
    rw [e1]
    have e2 : ((2 ^ s.toNat * B.toNat : Nat) : Int) / 2 ^ (8 * m) % 256 = (((2 ^ s.toNat * B.toNat) / 2 ^ (8 * m) % 256 : Nat) : Int) := by
      rw [Int.natCast_emod, Int.natCast_ediv]; simp
    rw [e2, Int.toNat_natCast]
  · intro m hm
    show (ix l m).toNat = (ix (teL l k (B * 2 ^ s.toNat) 5) m).toNat
    rw [ix_teL l k _ 5 hk, if_neg (by omega)]
  · intro m hm
    show (ix l m).toNat = (ix (teL l k (B * 2 ^ s.toNat) 5) m).toNat
    rw [ix_teL l k _ 5 hk, if_neg (by omega)]
end Go.Proofs.Ytekdhomjeckfeaa
