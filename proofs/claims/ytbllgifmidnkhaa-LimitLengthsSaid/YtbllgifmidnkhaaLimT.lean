/-
  Plain law: the cost of the limit's lengths against any other choice; greater limits; the order of the symbols.
-/
import Derived.Test.YtbllgifmidnkhaaLimS
namespace Go.Proofs.Ytbllgifmidnkhaa
open Go.RowKit
set_option linter.unusedVariables false
/-- the cost and the share of a choice h over the symbols that come -/
def cstP (f : List Int) (h : Int → Int) : Int := ((posI f f.length).map fun s => fqI f s * h s).sum
def krP (f : List Int) (m : Nat) (h : Int → Nat) : Nat := ((posI f f.length).map fun s => 2 ^ (m - h s)).sum
/-- of two symbols or more: the lengths are a choice within the limit, their share is whole, and no other choice costs less -/
theorem LenRes.three {f L : List Int} {m : Nat} (hR : LenRes f m L) (hmv : mayV f (m : Int) = 0) (h2 : 2 ≤ (posI f f.length).length) :
    (∀ s ∈ posI f f.length, 1 ≤ ix L s.toNat ∧ ix L s.toNat ≤ m) ∧ krP f m (fun s => (ix L s.toNat).toNat) = 2 ^ m ∧ costTo L f f.length = cstP f (fun s => ix L s.toNat) ∧
    (∀ s ∈ posI f f.length, ∀ t ∈ posI f f.length, fqI f s < fqI f t → ix L t.toNat ≤ ix L s.toNat) ∧
    ∀ h : Int → Nat, (∀ s ∈ posI f f.length, h s ≤ m) → krP f m h ≤ 2 ^ m → costTo L f f.length ≤ cstP f (fun s => h s) := by
  obtain ⟨m1, m2, m3, m4, m5⟩ := may_ok hmv
  rw [Int.toNat_natCast] at m5
  obtain ⟨-, hR⟩ := hR
  rcases hR with ⟨h, _⟩ | ⟨s, h, _⟩ | ⟨S, hp, hs, hS2, hL⟩
  · rw [h] at h2; simp at h2
  · rw [h] at h2; simp at h2
  · have hmem : ∀ s ∈ S, ∃ i : Nat, i < f.length ∧ s = (i : Int) ∧ 0 < ix f i := fun s hs => (pos_gt _ s).1 (hp.mem_iff.1 hs)
    have hlaw := limit_law (f := fqI f) (S := S) (m := m) (hp.nodup_iff.2 (pos_nodup f f.length)) hs (fun s hs => by
      obtain ⟨i, hi, rfl, _⟩ := hmem s hs
      rw [fqI_nat]; exact (m4 i hi).1) hS2 (by omega) (by rw [hp.length_eq]; exact m5)
    have hv : ∀ s ∈ S, ix L s.toNat = ((lenP (fqI f) S m s : Nat) : Int) := fun s hs => by
      obtain ⟨i, hi, rfl, _⟩ := hmem s hs
      rw [Int.toNat_natCast, hL i hi]
    have hbd : ∀ i, i < f.length → 0 < ix f i → ix f i ≤ 1048576 ∧ 0 ≤ ix L i ∧ ix L i ≤ 1048576 := fun i hi h0 => by
      have := hL i hi
      have hm2 : (i : Int) ∈ S := hp.mem_iff.2 ((pos_gt _ _).2 ⟨i, hi, rfl, h0⟩)
      have := (hlaw.bd _ hm2).2
      have := (m4 i hi).2
      omega
    have e1 : costTo L f f.length = cstP f (fun s => ix L s.toNat) := cost_pos L f f.length hbd
    have e3 : cstP f (fun s => ix L s.toNat) = (S.map fun s => fqI f s * ((lenP (fqI f) S m s : Nat) : Int)).sum := by
      unfold cstP
      rw [← sumI_perm (hp.map _)]
      congr 1
      exact List.map_congr_left fun s hs => by show _ * ix L s.toNat = _; rw [hv s hs]
    refine ⟨fun s hs => ?_, ?_, e1, fun s hs t ht hst => ?_, fun h hh hk => ?_⟩
    · have hs := hp.mem_iff.2 hs
      rw [hv s hs]
      have := hlaw.bd s hs
      omega
    · unfold krP
      rw [← sum_perm (hp.map _), ← hlaw.whole]
      congr 1
      exact List.map_congr_left fun s hs => by show 2 ^ (m - (ix L s.toNat).toNat) = _; rw [hv s hs, Int.toNat_natCast]
    · have hs := hp.mem_iff.2 hs
      have ht := hp.mem_iff.2 ht
      rw [hv s hs, hv t ht]
      have := hlaw.order s hs t ht hst
      omega
    · rw [e1, e3]
      have := hlaw.least h (fun s hs => hh s (hp.mem_iff.1 hs)) (by rw [sum_perm (hp.map _)]; exact hk)
      unfold cstP
      rw [← sumI_perm (hp.map _)]
      exact this
/-- of fewer than two symbols every limit gives the same lengths -/
theorem LenRes.few {f L L' : List Int} {m m' : Nat} (hR : LenRes f m L) (hR' : LenRes f m' L') (h2 : (posI f f.length).length < 2) : ∀ i, i < f.length → ix L i = ix L' i := by
  obtain ⟨-, hR⟩ := hR
  obtain ⟨-, hR'⟩ := hR'
  rcases hR with ⟨h, h1⟩ | ⟨s, h, h1⟩ | ⟨S, hp, hs, hS2, hL⟩
  · rcases hR' with ⟨h', h1'⟩ | ⟨s', h', h1'⟩ | ⟨S', hp', hs', hS2', hL'⟩
    · intro i hi; rw [h1 i hi, h1' i hi]
    · rw [h] at h'; simp at h'
    · rw [hp'.length_eq] at hS2'; omega
  · rcases hR' with ⟨h', h1'⟩ | ⟨s', h', h1'⟩ | ⟨S', hp', hs', hS2', hL'⟩
    · rw [h] at h'; simp at h'
    · rw [h] at h'
      obtain rfl : s = s' := by simpa using h'
      intro i hi; rw [h1 i hi, h1' i hi]
    · rw [hp'.length_eq] at hS2'; omega
  · rw [hp.length_eq] at hS2; omega
theorem costTo_congr {l l' f : List Int} : ∀ k : Nat, (∀ i, i < k → ix l i = ix l' i) → costTo l f k = costTo l' f k
  | 0, _ => rfl
  | k + 1, h => by rw [costTo, costTo, costTo_congr k fun i hi => h i (by omega), h k (by omega)]
/-- a greater limit never costs more -/
theorem LenRes.grow {f L L' : List Int} {m : Nat} (hR : LenRes f m L) (hR' : LenRes f (m + 1) L') (hmv : mayV f (m : Int) = 0) (hmv' : mayV f ((m + 1 : Nat) : Int) = 0) : costTo L' f f.length ≤ costTo L f f.length := by
  by_cases h2 : 2 ≤ (posI f f.length).length
  · obtain ⟨a1, a2, a3, -, -⟩ := hR.three hmv h2
    obtain ⟨-, -, -, -, b5⟩ := hR'.three hmv' h2
    have hk : krP f (m + 1) (fun s => (ix L s.toNat).toNat) = 2 ^ (m + 1) := by
      rw [Nat.pow_succ, ← a2]
      unfold krP
      generalize hP : posI f f.length = P at a1
      clear b5 a2 a3 h2 hP
      induction P with
      | nil => rfl
      | cons s P ih =>
        have := ih fun t ht => a1 t (by simp [ht])
        have := a1 s (by simp)
        rw [List.map_cons, List.map_cons, List.sum_cons, List.sum_cons, Nat.add_mul, ‹(P.map _).sum = _›, ← Nat.pow_succ]
        congr 2
        show m + 1 - (ix L s.toNat).toNat = m - (ix L s.toNat).toNat + 1
        omega
    have := b5 (fun s => (ix L s.toNat).toNat) (fun s hs => by have := a1 s hs; omega) (by rw [hk]; exact Nat.le_refl _)
    rw [a3]
    refine Int.le_trans this (Int.le_of_eq ?_)
    unfold cstP
    congr 1
    exact List.map_congr_left fun s hs => by have := (a1 s hs).1; show _ * (((ix L s.toNat).toNat : Nat) : Int) = _ * ix L s.toNat; congr 1; omega
  · rw [costTo_congr f.length (LenRes.few hR hR' (by omega))]
    exact Int.le_refl _
/-- a more frequent symbol has no longer code -/
theorem LenRes.order {f L : List Int} {m : Nat} (hR : LenRes f m L) (hmv : mayV f (m : Int) = 0) {i j : Nat} (hi : i < f.length) (hj : j < f.length) (hij : ix f j < ix f i) (h0 : 0 < ix f j) : ix L i ≤ ix L j := by
  have hpi : (i : Int) ∈ posI f f.length := (pos_gt _ _).2 ⟨i, hi, rfl, by omega⟩
  have hpj : (j : Int) ∈ posI f f.length := (pos_gt _ _).2 ⟨j, hj, rfl, h0⟩
  have h2 : 2 ≤ (posI f f.length).length := by
    rcases hP : posI f f.length with _ | ⟨a, _ | ⟨b, P⟩⟩
    · rw [hP] at hpi; simp at hpi
    · rw [hP] at hpi hpj
      simp at hpi hpj
      have : i = j := by omega
      subst this; omega
    · simp
  obtain ⟨-, -, -, a4, -⟩ := hR.three hmv h2
  have := a4 j hpj i hpi (by rw [fqI_nat, fqI_nat]; exact hij)
  simpa using this
end Go.Proofs.Ytbllgifmidnkhaa
