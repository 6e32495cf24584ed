/-
  Plain law: the checksums of two texts behind each other.
-/
import Derived.Test.YtekdhomjeckfeaaTellP
import Derived.Test.YtekdhomjeckfeaaOwn
namespace Go.Proofs.Ytekdhomjeckfeaa
set_option linter.unusedVariables false

theorem crN_lin (x y : Nat) (f : Nat → Nat) (k : Nat) : crN (x ^^^ y) f k = stpN (8 * k) x ^^^ crN y f k := by
  induction k with
  | zero => rfl
  | succ k ih =>
    simp only [crN, ih]
    rw [Nat.xor_assoc, stpN_xor, ← stpN_add, show 8 + 8 * k = 8 * (k + 1) by omega]
theorem stpN_zero_arg (k : Nat) : stpN k 0 = 0 := by
  have := stpN_even k 0
  rwa [Nat.mul_zero] at this
theorem crTo_append (x : Int) (a b : List Int) (k : Nat) : crTo x (a ++ b) (a.length + k) = crTo (crTo x a a.length) b k := by
  have h0 : ∀ m, m ≤ a.length → crTo x (a ++ b) m = crTo x a m := by
    intro m
    induction m with
    | zero => intro _; rfl
    | succ m ih => intro hm; simp only [crTo]; rw [ih (by omega), ix_append, if_pos (by omega)]
  induction k with
  | zero => rw [Nat.add_zero, h0 _ (Nat.le_refl _)]; rfl
  | succ k ih =>
    rw [← Nat.add_assoc]
    simp only [crTo]
    rw [ih, ix_append, if_neg (by omega), show a.length + k - a.length = k by omega]
theorem adX_append (x : Int) (a b : List Int) (k : Nat) : adX x (a ++ b) (a.length + k) = adX (adX x a a.length) b k := by
  have h0 : ∀ m, m ≤ a.length → adX x (a ++ b) m = adX x a m := by
    intro m
    induction m with
    | zero => intro _; rfl
    | succ m ih => intro hm; simp only [adX]; rw [ih (by omega), ix_append, if_pos (by omega)]
  induction k with
  | zero => rw [Nat.add_zero, h0 _ (Nat.le_refl _)]; rfl
  | succ k ih =>
    rw [← Nat.add_assoc]
    simp only [adX]
    rw [ih, ix_append, if_neg (by omega), show a.length + k - a.length = k by omega]
theorem adX_pre (x : Int) (a b : List Int) (m : Nat) : m ≤ a.length → adX x (a ++ b) m = adX x a m := by
  induction m with
  | zero => intro _; rfl
  | succ m ih => intro hm; simp only [adX]; rw [ih (by omega), ix_append, if_pos (by omega)]
theorem adY_append (x y : Int) (a b : List Int) (k : Nat) : adY x y (a ++ b) (a.length + k) = adY (adX x a a.length) (adY x y a a.length) b k := by
  have h0 : ∀ m, m ≤ a.length → adY x y (a ++ b) m = adY x y a m := by
    intro m
    induction m with
    | zero => intro _; rfl
    | succ m ih => intro hm; simp only [adY]; rw [ih (by omega), adX_pre x a b (m + 1) hm]
  induction k with
  | zero => rw [Nat.add_zero, h0 _ (Nat.le_refl _)]; rfl
  | succ k ih =>
    rw [← Nat.add_assoc]
    simp only [adY]
    rw [ih, Nat.add_assoc, adX_append]
/-- the join of two checksums (CRC) -/
def joinC (a b : Int) (n : Nat) : Int := xorI (stpKI (8 * n) a) b
theorem joinC_eq {la lb : List Int} {n : Nat} (hla : ∀ i, 0 ≤ ix la i ∧ ix la i < 256) (F M : Int) (hF : 0 ≤ F) (hM : 0 ≤ M ∧ M < 4294967296) :
    joinC (xorI F (crTo M la la.length)) (xorI F (crTo F lb n)) n = xorI F (crTo (crTo M la la.length) lb n) := by
  have hA := crTo_bd hM hla la.length
  obtain ⟨A, hAe⟩ : ∃ A : Nat, crTo M la la.length = A := ⟨(crTo M la la.length).toNat, by omega⟩
  rw [hAe, crTo_N hF, crTo_N (x := (A : Int)) (by omega)]
  unfold joinC xorI stpKI
  simp only [Int.toNat_natCast]
  congr 1
  obtain ⟨G, hG⟩ : ∃ G, F.toNat = G := ⟨_, rfl⟩
  rw [hG, stpN_xor]
  have h1 := crN_lin G 0 (fun i => (ix lb i).toNat) n
  have h2 := crN_lin A 0 (fun i => (ix lb i).toNat) n
  rw [Nat.xor_zero] at h1 h2
  rw [h1, h2]
  apply Nat.eq_of_testBit_eq
  intro i
  simp only [Nat.testBit_xor]
  cases (stpN (8 * n) G).testBit i <;> cases (stpN (8 * n) A).testBit i <;> cases (G.testBit i) <;> cases (crN 0 (fun i => (ix lb i).toNat) n).testBit i <;> rfl
/-- the join of two checksums (Adler) -/
theorem adX_lin {x : Int} (hx : 0 ≤ x ∧ x < 65521) (l : List Int) (k : Nat) : adX x l k = (x + adX 1 l k + 65520) % 65521 := by
  induction k with
  | zero => simp only [adX]; omega
  | succ k ih => simp only [adX]; rw [ih]; omega
theorem adY_lin {x y : Int} (hx : 0 ≤ x ∧ x < 65521) (hy : 0 ≤ y ∧ y < 65521) (l : List Int) (k : Nat) : adY x y l k = (y + adY 1 0 l k + (k : Int) * (x + 65520)) % 65521 := by
  induction k with
  | zero => simp only [adY]; omega
  | succ k ih =>
    have h1 := adX_lin hx l (k + 1)
    have h2 := adX_bd (x := 1) (l := l) (by omega) (k + 1)
    have h3 := adY_bd (x := 1) (y := 0) (l := l) (by omega) k
    have e : ((k + 1 : Nat) : Int) * (x + 65520) = (k : Int) * (x + 65520) + (x + 65520) := by
      rw [show ((k + 1 : Nat) : Int) = (k : Int) + 1 by omega, Int.add_mul, Int.one_mul]
    simp only [adY] at h1 ⊢
    rw [ih, h1, e]
    obtain ⟨T, hT⟩ : ∃ T : Int, (k : Int) * (x + 65520) = T := ⟨_, rfl⟩
    rw [hT]
    omega
def lowH' (s : Int) : Int := s % 65536 % 65521
def highH' (s : Int) : Int := s / 65536 % 65521
theorem ad_half {x y : Int} (hx : 0 ≤ x ∧ x < 65521) (hy : 0 ≤ y ∧ y < 65521) : lowH' (y * 65536 + x) = x ∧ highH' (y * 65536 + x) = y := by
  unfold lowH' highH'; omega
end Go.Proofs.Ytekdhomjeckfeaa
