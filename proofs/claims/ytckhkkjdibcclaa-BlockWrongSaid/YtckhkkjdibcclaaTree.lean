/-
  Plain law: the codes of lengths lie behind each other: no code begins another one, each fits its length, the order, and (where the lengths fill everything) any 15 bits begin with just one.
-/
import Derived.Test.YtckhkkjdibcclaaCodeP
namespace Go.Proofs.Ytckhkkjdibcclaa

/-- what the lengths 1 .. m of the first k symbols take -/
def tot (l : List Int) (k : Nat) : Nat → Nat
  | 0 => 0
  | m + 1 => tot l k m + cnt l k (m + 1) * p15 (m + 1)
theorem tot_step (l : List Int) (k m : Nat) : tot l (k + 1) m = tot l k m + if 1 ≤ ix l k ∧ ix l k ≤ m then p15 (ix l k).toNat else 0 := by
  induction m with
  | zero => simp [tot]; omega
  | succ m ih =>
    simp only [tot, cnt, ih]
    by_cases h : ix l k = ((m + 1 : Nat) : Int)
    · rw [if_pos h, if_neg (by omega), if_pos (by omega), h, Int.toNat_natCast, Nat.add_mul]
      omega
    · simp only [if_neg h, Nat.add_zero]
      by_cases h2 : 1 ≤ ix l k ∧ ix l k ≤ m
      · have h3 : 1 ≤ ix l k ∧ ix l k ≤ ((m + 1 : Nat) : Int) := by omega
        simp only [if_pos h2, if_pos h3]; omega
      · have h3 : ¬ (1 ≤ ix l k ∧ ix l k ≤ ((m + 1 : Nat) : Int)) := by omega
        simp only [if_neg h2, if_neg h3]; omega
theorem tot_sum (l : List Int) (k : Nat) : tot l k 15 = sumTo l k := by
  induction k with
  | zero => simp [tot, cnt, sumTo]
  | succ k ih =>
    rw [tot_step, ih]
    show _ = sumTo l k + share (ix l k)
    congr 1
    unfold share isLen
    by_cases h : 1 ≤ ix l k ∧ ix l k ≤ 15
    · rw [if_pos (by simpa using h), if_pos (by simpa using h)]
    · rw [if_neg (by simpa using h), if_neg (by simpa using h)]
theorem tot_mono (l : List Int) (k : Nat) {m m' : Nat} (h : m ≤ m') : tot l k m ≤ tot l k m' := by
  induction m' with
  | zero => have : m = 0 := by omega
            subst this; omega
  | succ q ih =>
    by_cases e : m = q + 1
    · subst e; omega
    · have := ih (by omega); simp only [tot]; omega
theorem nxt_tot (l : List Int) (v : Nat) (h1 : 1 ≤ v) (h2 : v ≤ 15) : nxt l v * p15 v = tot l l.length (v - 1) := by
  induction v with
  | zero => omega
  | succ v ih =>
    rcases v with _ | v
    · simp [nxt, tot]
    · have hi := ih (by omega) (by omega)
      have hp := p15_half (v := v + 1) (by omega)
      simp only [Nat.add_sub_cancel] at hi ⊢
      show 2 * (nxt l (v + 1) + cnt l l.length (v + 1)) * p15 (v + 1 + 1) = tot l l.length v + cnt l l.length (v + 1) * p15 (v + 1)
      rw [← hi, hp, ← Nat.add_mul, Nat.mul_comm 2 (nxt l (v + 1) + cnt l l.length (v + 1)), Nat.mul_assoc]
/-- where symbol i's code begins among the 32768 -/
def placeOf (l : List Int) (i : Nat) : Nat := codeAt l i * p15 (ix l i).toNat
theorem placeOf_eq {l : List Int} {i v : Nat} (h1 : 1 ≤ v) (h2 : v ≤ 15) (e : ix l i = v) : placeOf l i = tot l l.length (v - 1) + cnt l i v * p15 v := by
  unfold placeOf codeAt isLen
  rw [e, if_pos (by simp; omega), Int.toNat_natCast, Nat.add_mul, nxt_tot l v h1 h2]
theorem cnt_strict {l : List Int} {i k v : Nat} (h : i < k) (e : ix l i = v) : cnt l i v + 1 ≤ cnt l k v := by
  have h1 : cnt l (i + 1) v = cnt l i v + 1 := by simp [cnt, e]
  have h2 := cnt_mono l v (show i + 1 ≤ k by omega)
  omega
theorem place_end {l : List Int} {i v : Nat} (h1 : 1 ≤ v) (h2 : v ≤ 15) (e : ix l i = v) (hi : i < l.length) : placeOf l i + p15 v ≤ tot l l.length v := by
  rw [placeOf_eq h1 h2 e]
  obtain ⟨u, rfl⟩ : ∃ u, v = u + 1 := ⟨v - 1, by omega⟩
  have hc := cnt_strict hi e
  have : (cnt l i (u + 1) + 1) * p15 (u + 1) ≤ cnt l l.length (u + 1) * p15 (u + 1) := Nat.mul_le_mul_right _ hc
  rw [Nat.add_mul] at this
  simp only [tot, Nat.add_sub_cancel]
  omega
theorem p15_mul {u v : Nat} (h : u ≤ v) (hv : v ≤ 15) : p15 u = 2 ^ (v - u) * p15 v := by
  unfold p15
  rw [← Nat.pow_add]; congr 1; omega
/-- of two symbols of one length -/
theorem place_same {l : List Int} {i k v : Nat} (h1 : 1 ≤ v) (h2 : v ≤ 15) (ei : ix l i = v) (ek : ix l k = v) (h : i < k) : codeAt l i < codeAt l k := by
  rw [codeAt, codeAt, ei, ek, if_pos (by simp [isLen]; omega), if_pos (by simp [isLen]; omega), Int.toNat_natCast]
  have := cnt_strict h ei
  omega
/-- of a shorter and a longer one -/
theorem place_less {l : List Int} {i k u v : Nat} (h1 : 1 ≤ u) (huv : u < v) (h2 : v ≤ 15) (ei : ix l i = u) (ek : ix l k = v) (hi : i < l.length) : (codeAt l i + 1) * 2 ^ (v - u) ≤ codeAt l k := by
  have a := place_end h1 (by omega) ei hi
  have b : tot l l.length u ≤ placeOf l k := by
    rw [placeOf_eq (by omega) h2 ek]
    have := tot_mono l l.length (show u ≤ v - 1 by omega)
    omega
  unfold placeOf at a b
  rw [ei, Int.toNat_natCast, p15_mul (Nat.le_of_lt huv) h2] at a
  rw [ek, Int.toNat_natCast] at b
  have c : (codeAt l i + 1) * 2 ^ (v - u) * p15 v ≤ codeAt l k * p15 v := by
    rw [Nat.add_mul, Nat.add_mul, Nat.one_mul, Nat.mul_assoc]
    omega
  exact Nat.le_of_mul_le_mul_right c (p15_bd v).1
theorem code_fits {l : List Int} {i v : Nat} (h1 : 1 ≤ v) (h2 : v ≤ 15) (e : ix l i = v) (hi : i < l.length) (hS : sumTo l l.length ≤ 32768) : codeAt l i < 2 ^ v := by
  have a := place_end h1 h2 e hi
  have b := tot_mono l l.length h2
  rw [tot_sum] at b
  unfold placeOf at a
  rw [e, Int.toNat_natCast] at a
  have c : (codeAt l i + 1) * p15 v ≤ 2 ^ v * p15 v := by
    have := p15_mul (Nat.zero_le v) h2
    rw [p15_zero, Nat.sub_zero] at this
    rw [Nat.add_mul]; omega
  have := Nat.le_of_mul_le_mul_right c (p15_bd v).1
  omega
theorem no_prefix {l : List Int} {i k u v : Nat} (h1 : 1 ≤ u) (huv : u ≤ v) (h2 : v ≤ 15) (ei : ix l i = u) (ek : ix l k = v) (hi : i < l.length) (hne : k ≠ i) : codeAt l k / 2 ^ (v - u) ≠ codeAt l i := by
  intro h
  by_cases e : u = v
  · subst e
    rw [Nat.sub_self, Nat.pow_zero, Nat.div_one] at h
    rcases Nat.lt_or_ge i k with h' | h'
    · have := place_same h1 h2 ei ek h'; omega
    · have := place_same h1 h2 ek ei (by omega); omega
  · have a := place_less h1 (by omega) h2 ei ek hi
    have : codeAt l i + 1 ≤ codeAt l k / 2 ^ (v - u) := (Nat.le_div_iff_mul_le (Nat.two_pow_pos _)).2 a
    omega

/-- do the 15 bits x begin with symbol i's code? -/
def hits (l : List Int) (x i : Nat) : Bool := isLen (ix l i) && decide (x / p15 (ix l i).toNat = codeAt l i)
def hitsTo (l : List Int) (x : Nat) : Nat → Nat
  | 0 => 0
  | k + 1 => hitsTo l x k + if hits l x k then 1 else 0
theorem hits_iff {l : List Int} {x i v : Nat} (h1 : 1 ≤ v) (h2 : v ≤ 15) (e : ix l i = v) : hits l x i = true ↔ placeOf l i ≤ x ∧ x < placeOf l i + p15 v := by
  unfold hits isLen placeOf
  rw [e, Int.toNat_natCast]
  have hp := (p15_bd v).1
  simp only [Bool.and_eq_true, decide_eq_true_eq]
  rw [Nat.div_eq_iff (by omega)]
  rw [show codeAt l i * p15 v + p15 v = codeAt l i * p15 v + p15 v from rfl]
  omega
theorem hits_len {l : List Int} {x i : Nat} (h : hits l x i = true) : ∃ v : Nat, 1 ≤ v ∧ v ≤ 15 ∧ ix l i = v := by
  unfold hits isLen at h
  simp only [Bool.and_eq_true, decide_eq_true_eq] at h
  exact ⟨(ix l i).toNat, by omega, by omega, by omega⟩
theorem hits_one {l : List Int} {x i k : Nat} (hi : i < l.length) (hk : k < l.length) (h : hits l x i = true) (h' : hits l x k = true) : i = k := by
  obtain ⟨u, u1, u2, eu⟩ := hits_len h
  obtain ⟨v, v1, v2, ev⟩ := hits_len h'
  have a := (hits_iff u1 u2 eu).1 h
  have b := (hits_iff v1 v2 ev).1 h'
  have key : ∀ {i k u v : Nat}, 1 ≤ u → u < v → v ≤ 15 → ix l i = (u : Int) → ix l k = (v : Int) → i < l.length → placeOf l i + p15 u ≤ placeOf l k := by
    intro i k u v h1 huv h2 ei ek hi
    have a := place_end h1 (by omega) ei hi
    have := tot_mono l l.length (show u ≤ v - 1 by omega)
    rw [placeOf_eq (by omega) h2 ek]
    omega
  have key2 : ∀ {i k v : Nat}, 1 ≤ v → v ≤ 15 → ix l i = (v : Int) → ix l k = (v : Int) → i < k → placeOf l i + p15 v ≤ placeOf l k := by
    intro i k v h1 h2 ei ek h
    rw [placeOf_eq h1 h2 ei, placeOf_eq h1 h2 ek]
    have : (cnt l i v + 1) * p15 v ≤ cnt l k v * p15 v := Nat.mul_le_mul_right _ (cnt_strict h ei)
    rw [Nat.add_mul] at this
    omega
  rcases Nat.lt_trichotomy u v with huv | huv | huv
  · have := key u1 huv v2 eu ev hi; omega
  · subst huv
    rcases Nat.lt_trichotomy i k with h3 | h3 | h3
    · have := key2 u1 u2 eu ev h3; omega
    · exact h3
    · have := key2 u1 u2 ev eu h3; omega
  · have := key v1 huv u2 ev eu hk; omega
theorem cnt_ivt (l : List Int) (v q : Nat) : ∀ k, q < cnt l k v → ∃ i, i < k ∧ ix l i = v ∧ cnt l i v = q := by
  intro k
  induction k with
  | zero => intro h; simp [cnt] at h
  | succ k ih =>
    intro h
    by_cases h' : q < cnt l k v
    · obtain ⟨i, a, b⟩ := ih h'
      exact ⟨i, by omega, b⟩
    · by_cases e : ix l k = v
      · refine ⟨k, by omega, e, ?_⟩
        simp [cnt, e] at h; omega
      · simp [cnt, e] at h; omega
theorem hits_some {l : List Int} {x : Nat} (hS : sumTo l l.length = 32768) (hx : x < 32768) : ∃ i, i < l.length ∧ hits l x i = true := by
  have : ∀ m, m ≤ 15 → x < tot l l.length m → ∃ v : Nat, 1 ≤ v ∧ v ≤ m ∧ tot l l.length (v - 1) ≤ x ∧ x < tot l l.length v := by
    intro m
    induction m with
    | zero => intro _ h; simp [tot] at h
    | succ m ih =>
      intro hm h
      by_cases h' : x < tot l l.length m
      · obtain ⟨v, a, b, c⟩ := ih (by omega) h'
        exact ⟨v, a, by omega, c⟩
      · exact ⟨m + 1, by omega, by omega, by simpa using h', h⟩
  obtain ⟨v, v1, v2, a, b⟩ := this 15 (by omega) (by rw [tot_sum, hS]; exact hx)
  obtain ⟨u, rfl⟩ : ∃ u, v = u + 1 := ⟨v - 1, by omega⟩
  simp only [Nat.add_sub_cancel] at a
  simp only [tot] at b
  have hp := (p15_bd (u + 1)).1
  have hq : (x - tot l l.length u) / p15 (u + 1) < cnt l l.length (u + 1) := by
    rw [Nat.div_lt_iff_lt_mul (by omega)]; omega
  obtain ⟨i, hi, e, hc⟩ := cnt_ivt l (u + 1) _ _ hq
  refine ⟨i, hi, (hits_iff v1 v2 e).2 ?_⟩
  rw [placeOf_eq v1 v2 e, hc]
  simp only [Nat.add_sub_cancel]
  have h1 := Nat.div_mul_le_self (x - tot l l.length u) (p15 (u + 1))
  have h2 := Nat.lt_div_mul_add (a := x - tot l l.length u) (b := p15 (u + 1)) (by omega)
  omega
theorem hitsTo_bd (l : List Int) (x k : Nat) : hitsTo l x k ≤ k := by
  induction k with
  | zero => simp [hitsTo]
  | succ k ih => simp only [hitsTo]; split <;> omega
theorem hitsTo_one {l : List Int} {x : Nat} (hS : sumTo l l.length = 32768) (hx : x < 32768) : hitsTo l x l.length = 1 := by
  obtain ⟨i, hi, hh⟩ := hits_some hS hx
  have : ∀ k, k ≤ l.length → hitsTo l x k = if i < k then 1 else 0 := by
    intro k
    induction k with
    | zero => intro _; simp [hitsTo]
    | succ k ih =>
      intro hk
      simp only [hitsTo, ih (by omega)]
      by_cases e : i = k
      · subst e; rw [hh]; simp
      · have : hits l x k = false := by
          rw [← Bool.not_eq_true]
          intro h'
          exact e (hits_one hi (by omega) hh h')
        rw [this]
        by_cases h3 : i < k
        · have h4 : i < k + 1 := by omega
          simp [h3, h4]
        · have h4 : ¬ i < k + 1 := by omega
          simp [h3, h4]
  rw [this _ (Nat.le_refl _), if_pos hi]
/-- what Check at 15 says of lengths -/
theorem check_ok {l : List Int} (h : checkOf l 15 = 0) : l.length ≤ 288 ∧ (∀ i, i < l.length → 0 ≤ ix l i ∧ ix l i ≤ 15) ∧ sumTo l l.length ≤ 32768 ∧ (sumTo l l.length = 32768 ∨ aloneB l l.length = true) := by
  unfold checkOf at h
  split at h
  · simp at h
  · split at h
    · simp at h
    · split at h
      · simp at h
      · rename_i h1 h2 h3
        refine ⟨by omega, ?_, by omega, ?_⟩
        · have : inTo l 15 l.length = true := by simpa using h2
          simpa [inTo] using this
        · rcases Nat.lt_or_ge (sumTo l l.length) 32768 with h4 | h4
          · right
            cases ha : aloneB l l.length
            · exact absurd (Or.inr ⟨h4, ha⟩) h3
            · rfl
          · left; omega
theorem alone_count {l : List Int} (h : aloneB l l.length = true) : posTo l l.length ≤ 1 := by
  unfold aloneB at h
  simp only [Bool.and_eq_true, decide_eq_true_eq] at h
  exact h.2
end Go.Proofs.Ytckhkkjdibcclaa
