/-
  Plain law: equal weights have equal lengths; a weight above all others together has one bit.
-/
import Derived.Test.YtbllgifmidnkhaaLimT
namespace Go.Proofs.Ytbllgifmidnkhaa
open Go.RowKit
set_option linter.unusedVariables false
theorem sum_lt {α : Type} (l : List α) (g h : α → Nat) (H : ∀ x ∈ l, g x ≤ h x) (H2 : ∃ x ∈ l, g x < h x) : (l.map g).sum < (l.map h).sum := by
  induction l with
  | nil => obtain ⟨x, hx, _⟩ := H2; simp at hx
  | cons a l ih =>
    have hle : ∀ l : List α, (∀ x ∈ l, g x ≤ h x) → (l.map g).sum ≤ (l.map h).sum := fun l => by
      induction l with
      | nil => intro _; exact Nat.le_refl _
      | cons b l ih2 =>
        intro H
        simp only [List.map_cons, List.sum_cons]
        exact Nat.add_le_add (H b List.mem_cons_self) (ih2 fun x hx => H x (List.mem_cons_of_mem _ hx))
    have h1 := H a List.mem_cons_self
    have h2 : ∀ x ∈ l, g x ≤ h x := fun x hx => H x (List.mem_cons_of_mem _ hx)
    have h3 := hle l h2
    simp only [List.map_cons, List.sum_cons]
    obtain ⟨x, hx, hlt⟩ := H2
    rcases List.mem_cons.1 hx with rfl | hx
    · omega
    · have := ih h2 ⟨x, hx, hlt⟩
      omega
theorem sum_const {α : Type} (l : List α) (c : Nat) : (l.map fun _ => c).sum = l.length * c := by
  induction l with
  | nil => simp
  | cons a l ih => simp only [List.map_cons, List.sum_cons, ih, List.length_cons, Nat.succ_mul]; omega
theorem sum_mulN {α : Type} (l : List α) (c : Nat) (g : α → Nat) : (l.map fun x => c * g x).sum = c * (l.map g).sum := by
  induction l with
  | nil => simp
  | cons a l ih => simp only [List.map_cons, List.sum_cons, ih, Nat.mul_add]
theorem sum_mulI {α : Type} (l : List α) (a : Int) (g : α → Nat) : (l.map fun x => a * (g x : Int)).sum = a * (((l.map g).sum : Nat) : Int) := by
  induction l with
  | nil => simp
  | cons b l ih => simp only [List.map_cons, List.sum_cons, ih, Int.natCast_add, Int.mul_add]
/-- one symbol against the flat choice -/
theorem flat_one {m k g : Nat} (hk : k ≤ m) (hg : g ≤ m) : 2 ^ (m - k) * (1 + k) ≤ 2 ^ (m - g) + 2 ^ (m - k) * g ∧ (k < g → 2 ^ (m - k) * (1 + k) < 2 ^ (m - g) + 2 ^ (m - k) * g) := by
  have hp := Nat.two_pow_pos (m - k)
  have hq := Nat.two_pow_pos (m - g)
  by_cases h : k < g
  · have h1 : 2 ^ (m - k) * (1 + k) ≤ 2 ^ (m - k) * g := Nat.mul_le_mul_left _ (by omega)
    exact ⟨by omega, fun _ => by omega⟩
  · refine ⟨?_, fun h' => absurd h' h⟩
    have e : m - g = (m - k) + (k - g) := by omega
    rw [e, Nat.pow_add, ← Nat.mul_add]
    refine Nat.mul_le_mul_left _ ?_
    have := Nat.lt_two_pow_self (n := k - g)
    omega
theorem pos_full {f : List Int} : ∀ k : Nat, (∀ i, i < k → 0 < ix f i) → (posI f k).length = k
  | 0, _ => rfl
  | k + 1, h => by rw [posI, List.length_append, pos_full k fun i hi => h i (by omega), if_pos (h k (by omega))]; rfl
theorem ix_repl {n i : Nat} (a : Int) (hi : i < n) : ix (List.replicate n a) i = a := by simp [ix, hi]
theorem flat_may {k m : Nat} {a : Int} (ha : 0 < a) (ha2 : a ≤ 1048576) (hk8 : k ≤ 8) (hk1 : 1 ≤ k) (hkm : k ≤ m) (hm : m ≤ 15) : mayV (List.replicate (2 ^ k) a) (m : Int) = 0 := by
  have h2 : 2 ^ k ≤ 2 ^ 8 := Nat.pow_le_pow_right (by omega) hk8
  have h3 : 2 ^ k ≤ 2 ^ m := Nat.pow_le_pow_right (by omega) hkm
  unfold mayV
  rw [List.length_replicate, if_neg (by omega), bad_not (fun j hj => by
    rw [List.length_replicate] at hj
    rw [ix_repl a hj]; omega), if_neg (by decide), if_neg (by
      have := pos_len (List.replicate (2 ^ k) a) (2 ^ k)
      rw [Int.toNat_natCast]; omega)]
/-- as many equal weights as there are codes of k bits have k bits each -/
theorem LenRes.flat {k m : Nat} {a : Int} {L : List Int} (ha : 0 < a) (ha2 : a ≤ 1048576) (hk8 : k ≤ 8) (hk1 : 1 ≤ k) (hkm : k ≤ m) (hm : m ≤ 15) (hR : LenRes (List.replicate (2 ^ k) a) m L) : ∀ i, i < 2 ^ k → ix L i = k := by
  have hmv := flat_may ha ha2 hk8 hk1 hkm hm
  have hlen : (List.replicate (2 ^ k) a).length = 2 ^ k := List.length_replicate
  have hPl : (posI (List.replicate (2 ^ k) a) (List.replicate (2 ^ k) a).length).length = 2 ^ k := by
    rw [hlen]; exact pos_full _ fun i hi => by rw [ix_repl a hi]; exact ha
  have h2 : 2 ≤ 2 ^ k := by have := Nat.pow_le_pow_right (show 0 < 2 by omega) hk1; omega
  obtain ⟨h1, hkr, hco, -, hle⟩ := hR.three hmv (by rw [hPl]; exact h2)
  have hle := hle (fun _ => k) (fun _ _ => hkm) (by
    unfold krP
    rw [sum_const, hPl, ← Nat.pow_add, show k + (m - k) = m by omega]
    exact Nat.le_refl _)
  rw [hco] at hle
  unfold cstP at hle
  unfold krP at hkr
  have hmemP : ∀ s, s ∈ posI (List.replicate (2 ^ k) a) (List.replicate (2 ^ k) a).length ↔ ∃ i : Nat, i < 2 ^ k ∧ s = (i : Int) := fun s => by
    rw [pos_gt, hlen]
    constructor
    · rintro ⟨i, hi, e, _⟩; exact ⟨i, hi, e⟩
    · rintro ⟨i, hi, e⟩; exact ⟨i, hi, e, by rw [ix_repl a hi]; exact ha⟩
  generalize hP : posI (List.replicate (2 ^ k) a) (List.replicate (2 ^ k) a).length = P at *
  have hfq : ∀ s ∈ P, fqI (List.replicate (2 ^ k) a) s = a := fun s hs => by
    obtain ⟨i, hi, rfl⟩ := (hmemP s).1 hs
    rw [fqI_nat, ix_repl a hi]
  have e1 : (P.map fun s => fqI (List.replicate (2 ^ k) a) s * ix L s.toNat).sum = a * (((P.map fun s => (ix L s.toNat).toNat).sum : Nat) : Int) := by
    rw [← sum_mulI]
    congr 1
    refine List.map_congr_left fun s hs => ?_
    rw [hfq s hs]
    have := (h1 s hs).1
    congr 1
    omega
  have e2 : (P.map fun s => fqI (List.replicate (2 ^ k) a) s * ((k : Nat) : Int)).sum = a * (((P.map fun _ => k).sum : Nat) : Int) := by
    rw [← sum_mulI]
    congr 1
    exact List.map_congr_left fun s hs => by rw [hfq s hs]
  rw [e1, e2] at hle
  have hle : (P.map fun s => (ix L s.toNat).toNat).sum ≤ (P.map fun _ => k).sum := by
    have := Int.le_of_mul_le_mul_left hle ha
    omega
  rw [sum_const, hPl] at hle
  have hb : ∀ s ∈ P, (ix L s.toNat).toNat ≤ m := fun s hs => by have := h1 s hs; omega
  have hsum : (P.map fun s => 2 ^ (m - (ix L s.toNat).toNat) + 2 ^ (m - k) * (ix L s.toNat).toNat).sum = 2 ^ m + 2 ^ (m - k) * (P.map fun s => (ix L s.toNat).toNat).sum := by
    rw [sum_add, hkr, sum_mulN]
  have hW : 2 ^ m = 2 ^ (m - k) * 2 ^ k := by rw [← Nat.pow_add, show m - k + k = m by omega]
  have hsc : (P.map fun _ => 2 ^ (m - k) * (1 + k)).sum = 2 ^ m + 2 ^ (m - k) * (2 ^ k * k) := by
    rw [sum_const, hPl, hW, ← Nat.mul_add]
    rw [Nat.mul_left_comm]
    congr 1
    rw [Nat.mul_add, Nat.mul_one]
  have hup : 2 ^ (m - k) * (P.map fun s => (ix L s.toNat).toNat).sum ≤ 2 ^ (m - k) * (2 ^ k * k) := Nat.mul_le_mul_left _ hle
  have hnot : ∀ s ∈ P, (ix L s.toNat).toNat ≤ k := fun s hs => by
    apply Nat.le_of_not_lt
    intro hlt
    have := sum_lt P (fun _ => 2 ^ (m - k) * (1 + k)) (fun s => 2 ^ (m - (ix L s.toNat).toNat) + 2 ^ (m - k) * (ix L s.toNat).toNat) (fun s hs => (flat_one hkm (hb s hs)).1) ⟨s, hs, (flat_one hkm (hb s hs)).2 hlt⟩
    rw [hsum, hsc] at this
    omega
  intro i hi
  have hiP : (i : Int) ∈ P := (hmemP _).2 ⟨i, hi, rfl⟩
  have h3 := hnot _ hiP
  have h4 := h1 _ hiP
  rw [Int.toNat_natCast] at h3 h4
  by_cases e : (ix L i).toNat = k
  · omega
  exfalso
  have hlt := sum_lt P (fun s => (ix L s.toNat).toNat) (fun _ => k) hnot ⟨_, hiP, by rw [Int.toNat_natCast]; omega⟩
  rw [sum_const, hPl] at hlt
  have hge : (P.map fun _ => 2 ^ (m - k) * (1 + k)).sum ≤ (P.map fun s => 2 ^ (m - (ix L s.toNat).toNat) + 2 ^ (m - k) * (ix L s.toNat).toNat).sum := by
    apply Nat.le_of_not_lt
    intro hh
    by_cases hex : ∃ s ∈ P, 2 ^ (m - k) * (1 + k) < 2 ^ (m - (ix L s.toNat).toNat) + 2 ^ (m - k) * (ix L s.toNat).toNat
    · have := sum_lt P (fun _ => 2 ^ (m - k) * (1 + k)) (fun s => 2 ^ (m - (ix L s.toNat).toNat) + 2 ^ (m - k) * (ix L s.toNat).toNat) (fun s hs => (flat_one hkm (hb s hs)).1) hex
      omega
    · have he : (P.map fun _ => 2 ^ (m - k) * (1 + k)) = (P.map fun s => 2 ^ (m - (ix L s.toNat).toNat) + 2 ^ (m - k) * (ix L s.toNat).toNat) := List.map_congr_left fun s hs => by
        have h5 := (flat_one hkm (hb s hs)).1
        have h6 : ¬ _ := fun h => hex ⟨s, hs, h⟩
        omega
      rw [he] at hh
      omega
  rw [hsum, hsc] at hge
  have := Nat.le_of_mul_le_mul_left (Nat.le_of_add_le_add_left hge) (Nat.two_pow_pos _)
  omega
theorem big_may {m : Nat} {a : Int} (ha : 0 < a) (ha2 : a ≤ 1048576) (hm : 3 ≤ m) (hm2 : m ≤ 15) : mayV [1, 2, a, 1] (m : Int) = 0 := by
  have h3 : 2 ^ 3 ≤ 2 ^ m := Nat.pow_le_pow_right (by omega) hm
  unfold mayV
  rw [if_neg (by show ¬ ((288 : Nat) < 4 ∨ _); omega), bad_not (fun j hj => by
    have hj : j < 4 := hj
    obtain rfl | rfl | rfl | rfl : j = 0 ∨ j = 1 ∨ j = 2 ∨ j = 3 := by omega
    · show (0 : Int) ≤ 1 ∧ (1 : Int) ≤ _; omega
    · show (0 : Int) ≤ 2 ∧ (2 : Int) ≤ _; omega
    · show (0 : Int) ≤ a ∧ a ≤ _; omega
    · show (0 : Int) ≤ 1 ∧ (1 : Int) ≤ _; omega), if_neg (by decide), if_neg (by
      have := pos_len [1, 2, a, 1] 4
      rw [Int.toNat_natCast]
      show ¬ 2 ^ m < (posI [1, 2, a, 1] 4).length
      omega)]
theorem LenRes.big {m : Nat} {a : Int} {L : List Int} (ha : 4 ≤ a) (ha2 : a ≤ 1048576) (hm : 3 ≤ m) (hm2 : m ≤ 15) (hR : LenRes [1, 2, a, 1] m L) : ix L 2 = 1 := by
  have hmv := big_may (by omega) ha2 hm hm2
  have hP : posI [1, 2, a, 1] [1, 2, a, 1].length = [0, 1, 2, 3] := by
    have h0 : ix [1, 2, a, 1] 0 = 1 := rfl
    have h1 : ix [1, 2, a, 1] 1 = 2 := rfl
    have h2 : ix [1, 2, a, 1] 2 = a := rfl
    have h3 : ix [1, 2, a, 1] 3 = 1 := rfl
    show posI [1, 2, a, 1] 4 = _
    rw [posI, posI, posI, posI, posI, h0, h1, h2, h3, if_pos (by decide), if_pos (by decide), if_pos (by omega), if_pos (by decide)]
    rfl
  obtain ⟨h1, hkr, hco, -, hle⟩ := hR.three hmv (by rw [hP]; decide)
  have hle := hle (fun s => if s = 0 then 3 else if s = 1 then 2 else if s = 2 then 1 else 3)
  rw [hco] at hle
  unfold cstP krP at hle
  unfold krP at hkr
  rw [hP] at h1 hkr hle
  have b0 := h1 0 (by simp)
  have b1 := h1 1 (by simp)
  have b2 := h1 2 (by simp)
  have b3 := h1 3 (by simp)
  simp only [List.map_cons, List.map_nil, List.sum_cons, List.sum_nil] at hkr hle
  have f0 : fqI [1, 2, a, 1] 0 = 1 := rfl
  have f1 : fqI [1, 2, a, 1] 1 = 2 := rfl
  have f2 : fqI [1, 2, a, 1] 2 = a := rfl
  have f3 : fqI [1, 2, a, 1] 3 = 1 := rfl
  have t0 : Int.toNat 0 = 0 := rfl
  have t1 : Int.toNat 1 = 1 := rfl
  have t2 : Int.toNat 2 = 2 := rfl
  have t3 : Int.toNat 3 = 3 := rfl
  rw [f0, f1, f2, f3, t0, t1, t2, t3] at hle
  rw [t0, t1, t2, t3] at hkr
  rw [t0] at b0
  rw [t1] at b1
  rw [t2] at b2
  rw [t3] at b3
  obtain ⟨Q, hQ⟩ : ∃ Q, 2 ^ (m - 3) = Q := ⟨_, rfl⟩
  have hQ0 : 0 < Q := by rw [← hQ]; exact Nat.two_pow_pos _
  have q2 : 2 ^ (m - 2) = 2 * Q := by rw [← hQ, show m - 2 = m - 3 + 1 by omega, Nat.pow_succ]; omega
  have q1 : 2 ^ (m - 1) = 4 * Q := by rw [← hQ, show m - 1 = m - 3 + 1 + 1 by omega, Nat.pow_succ, Nat.pow_succ]; omega
  have q0 : 2 ^ m = 8 * Q := by rw [← hQ, show m = m - 3 + 1 + 1 + 1 by omega, Nat.pow_succ, Nat.pow_succ, Nat.pow_succ, show m - 3 + 1 + 1 + 1 - 3 = m - 3 by omega]; omega
  have hle := hle (fun s hs => by
    simp only [List.mem_cons, List.not_mem_nil, or_false] at hs
    rcases hs with rfl | rfl | rfl | rfl <;> simp <;> omega) (by
    simp
    rw [hQ, q2, q1, q0]; omega)
  simp at hle
  generalize ix L 0 = x0 at *
  generalize ix L 1 = x1 at *
  generalize ix L 2 = x2 at *
  generalize ix L 3 = x3 at *
  by_cases hx : x2 = 1
  · exact hx
  exfalso
  have hax : a * 2 ≤ a * x2 := Int.mul_le_mul_of_nonneg_left (by omega) (by omega)
  have hs : x0 + 2 * x1 + x3 ≤ 6 := by omega
  have p2 := Nat.two_pow_pos (m - x2.toNat)
  have hp : ∀ x : Int, 1 ≤ x → (x = 1 → 2 ^ (m - x.toNat) = 4 * Q) ∧ (x = 2 → 2 ^ (m - x.toNat) = 2 * Q) ∧ 0 < 2 ^ (m - x.toNat) := fun x _ => ⟨fun h => by rw [h]; exact q1, fun h => by rw [h]; exact q2, Nat.two_pow_pos _⟩
  have p0 := hp x0 (by omega)
  have p1 := hp x1 (by omega)
  have p3 := hp x3 (by omega)
  rw [q0] at hkr
  generalize 2 ^ (m - x0.toNat) = y0 at *
  generalize 2 ^ (m - x1.toNat) = y1 at *
  generalize 2 ^ (m - x2.toNat) = y2 at *
  generalize 2 ^ (m - x3.toNat) = y3 at *
  omega
end Go.Proofs.Ytbllgifmidnkhaa
