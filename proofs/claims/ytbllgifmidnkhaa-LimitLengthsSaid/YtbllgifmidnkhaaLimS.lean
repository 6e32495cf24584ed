/-
  Plain law: what the limit's lengths cost, and that no other set costs less.
-/
import Derived.Test.YtbllgifmidnkhaaLimO
import Derived.Test.YtbllgifmidnkhaaLimR
import Derived.Test.YtbllgifmidnkhaaCostP
import Derived.Test.YtbllgifmidnkhaaCodeP
namespace Go.Proofs.Ytbllgifmidnkhaa
open Go.RowKit
set_option linter.unusedVariables false
theorem chk_ok {l : List Int} {most : Int} (h : checkOf l most = 0) : l.length ≤ 288 ∧ (∀ i, i < l.length → 0 ≤ ix l i ∧ ix l i ≤ 15) ∧ sumTo l l.length ≤ 32768 := by
  unfold checkOf at h
  split at h
  · simp at h
  · split at h
    · simp at h
    · split at h
      · simp at h
      · rename_i h1 h2 h3
        refine ⟨by omega, ?_, by omega⟩
        have : inTo l most l.length = true := by simpa using h2
        have h4 : ∀ i, i < l.length → 0 ≤ ix l i ∧ ix l i ≤ most := by simpa [inTo] using this
        exact fun i hi => ⟨(h4 i hi).1, by have := (h4 i hi).2; omega⟩
theorem fqI_nat (f : List Int) (k : Nat) : fqI f (k : Int) = ix f k := by unfold fqI; rw [Int.toNat_natCast]
theorem pos_gt {f : List Int} : ∀ k : Nat, ∀ s, s ∈ posI f k ↔ ∃ i : Nat, i < k ∧ s = (i : Int) ∧ 0 < ix f i
  | 0, s => ⟨fun h => by simp [posI] at h, fun ⟨i, h, _⟩ => absurd h (by omega)⟩
  | k + 1, s => by
    rw [posI, List.mem_append, pos_gt k s]
    constructor
    · rintro (⟨i, h1, h2, h3⟩ | h)
      · exact ⟨i, by omega, h2, h3⟩
      · split at h
        · exact ⟨k, by omega, by simpa using h, ‹_›⟩
        · simp at h
    · rintro ⟨i, h1, rfl, h3⟩
      by_cases e : i = k
      · subst e; right; rw [if_pos h3]; simp
      · exact .inl ⟨i, by omega, rfl, h3⟩
theorem cost_pos (l f : List Int) : ∀ k : Nat, (∀ i, i < k → 0 < ix f i → ix f i ≤ 1048576 ∧ 0 ≤ ix l i ∧ ix l i ≤ 1048576) → costTo l f k = ((posI f k).map fun s => fqI f s * ix l s.toNat).sum
  | 0, _ => rfl
  | k + 1, h => by
    have ih := cost_pos l f k fun i hi => h i (by omega)
    rw [costTo, posI, List.map_append, List.sum_append, ih]
    congr 1
    by_cases hp : 0 < ix f k
    · obtain ⟨h1, h2, h3⟩ := h k (by omega) hp
      rw [if_pos hp]
      show _ = (List.map _ [(k : Int)]).sum
      rw [List.map_cons, List.map_nil, List.sum_cons, List.sum_nil, fqI_nat, Int.toNat_natCast]
      by_cases h0 : 0 < ix l k
      · rw [costOf_yes h0 hp h1 h3, Int.mul_comm]; omega
      · have : ix l k = 0 := by omega
        rw [costOf_no (by omega), this]; omega
    · rw [if_neg hp, costOf_no (by omega)]; rfl
theorem kraft_pos (l f : List Int) (m : Nat) (hm : m ≤ 15) : ∀ k : Nat, (∀ i, i < k → 0 < ix f i → 1 ≤ ix l i ∧ ix l i ≤ m) → ((posI f k).map fun s => 2 ^ (m - (ix l s.toNat).toNat)).sum * 2 ^ (15 - m) ≤ sumTo l k
  | 0, _ => by simp [posI, sumTo]
  | k + 1, h => by
    have ih := kraft_pos l f m hm k fun i hi => h i (by omega)
    rw [sumTo, posI, List.map_append, List.sum_append, Nat.add_mul]
    refine Nat.add_le_add ih ?_
    by_cases hp : 0 < ix f k
    · obtain ⟨h1, h2⟩ := h k (by omega) hp
      rw [if_pos hp]
      show (List.map _ [(k : Int)]).sum * _ ≤ _
      rw [List.map_cons, List.map_nil, List.sum_cons, List.sum_nil, Int.toNat_natCast, Nat.add_zero]
      obtain ⟨v, hv⟩ := Int.eq_ofNat_of_zero_le (show 0 ≤ ix l k by omega)
      have hv : ix l k = (v : Int) := hv
      rw [hv] at h1 h2 ⊢
      rw [share_yes (by omega) (by omega), Int.toNat_natCast, p15, ← Nat.pow_add, show m - v + (15 - m) = 15 - v by omega]
      exact Nat.le_refl _
    · rw [if_neg hp]; simp
/-- what is told of a set of lengths that holds a share for every symbol that comes -/
theorem LenRes.least {f L o : List Int} {m : Nat} (hR : LenRes f m L) (hmv : mayV f (m : Int) = 0) (hc : checkOf o (m : Int) = 0) (hlen : o.length = f.length) (hall : ∀ i, i < f.length → 0 < ix f i → ix o i ≠ 0) (h2 : 2 ≤ (posI f f.length).length) : costTo L f f.length ≤ costTo o f f.length := by
  obtain ⟨m1, m2, m3, m4, m5⟩ := may_ok hmv
  rw [Int.toNat_natCast] at m5
  obtain ⟨c1, c2, c3⟩ := chk_ok hc
  have c4 : ∀ i, i < f.length → 0 ≤ ix o i ∧ ix o i ≤ m := by
    unfold checkOf at hc
    split at hc
    · simp at hc
    · split at hc
      · simp at hc
      · rename_i hh1 hh2
        have : inTo o m o.length = true := by simpa using hh2
        intro i hi
        exact of_decide_eq_true this i (by omega)
  obtain ⟨-, hR⟩ := hR
  rcases hR with ⟨h, _⟩ | ⟨s, h, _⟩ | ⟨S, hp, hs, hS2, hL⟩
  · rw [h] at h2; simp at h2
  · rw [h] at h2; simp at h2
  · have hmem : ∀ s ∈ S, ∃ i : Nat, i < f.length ∧ s = (i : Int) ∧ 0 < ix f i := fun s hs => (pos_gt _ s).1 (hp.mem_iff.1 hs)
    have hlaw := limit_law (f := fqI f) (S := S) (m := m) (hp.nodup_iff.2 (pos_nodup f f.length)) hs (fun s hs => by
      obtain ⟨i, hi, rfl, _⟩ := hmem s hs
      rw [fqI_nat]; exact (m4 i hi).1) hS2 (by omega) (by rw [hp.length_eq]; exact m5)
    have hbd : ∀ i, i < f.length → 0 < ix f i → ix f i ≤ 1048576 ∧ 0 ≤ ix L i ∧ ix L i ≤ 1048576 := fun i hi h0 => by
      have := hL i hi
      have hm2 : (i : Int) ∈ S := hp.mem_iff.2 ((pos_gt _ _).2 ⟨i, hi, rfl, h0⟩)
      have := (hlaw.bd _ hm2).2
      have := (m4 i hi).2
      omega
    rw [cost_pos L f f.length hbd, cost_pos o f f.length fun i hi h0 => by have := c4 i hi; have := (m4 i hi).2; omega]
    have hk := kraft_pos o f m (by omega) f.length fun i hi h0 => by have := c4 i hi; have := hall i hi h0; omega
    have hkr : (S.map fun s => 2 ^ (m - (ix o s.toNat).toNat)).sum ≤ 2 ^ m := by
      rw [sum_perm (hp.map _)]
      rw [hlen] at c3
      have h15 : (32768 : Nat) = 2 ^ m * 2 ^ (15 - m) := by rw [← Nat.pow_add, show m + (15 - m) = 15 by omega]
      exact Nat.le_of_mul_le_mul_right (by omega : _ * 2 ^ (15 - m) ≤ 2 ^ m * 2 ^ (15 - m)) (Nat.two_pow_pos _)
    have hle := hlaw.least (fun s => (ix o s.toNat).toNat) (fun s hs => by
      obtain ⟨i, hi, rfl, _⟩ := hmem s hs
      rw [Int.toNat_natCast]; have := c4 i hi; omega) hkr
    have e1 : ((posI f f.length).map fun s => fqI f s * ix L s.toNat).sum = (S.map fun s => fqI f s * ((lenP (fqI f) S m s : Nat) : Int)).sum := by
      rw [← sumI_perm (hp.map _)]
      congr 1
      refine List.map_congr_left fun s hs => ?_
      obtain ⟨i, hi, rfl, _⟩ := hmem s hs
      rw [Int.toNat_natCast, hL i hi]
    have e2 : ((posI f f.length).map fun s => fqI f s * ix o s.toNat).sum = (S.map fun s => fqI f s * (((ix o s.toNat).toNat : Nat) : Int)).sum := by
      rw [← sumI_perm (hp.map _)]
      congr 1
      refine List.map_congr_left fun s hs => ?_
      obtain ⟨i, hi, rfl, _⟩ := hmem s hs
      rw [Int.toNat_natCast]
      have := (c4 i hi).1
      congr 1; omega
    rw [e1, e2]; exact hle
end Go.Proofs.Ytbllgifmidnkhaa
