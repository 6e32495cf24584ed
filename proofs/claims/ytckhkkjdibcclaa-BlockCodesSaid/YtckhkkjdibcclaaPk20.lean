/-
  Several texts in one (written by pack2.py): LimT, LimW.
-/
import Derived.Test.YtckhkkjdibcclaaPk19
/-
  Plain law: the cost of the limit's lengths against any other choice; greater limits; the order of the symbols.
-/
namespace Go.Proofs.Ytckhkkjdibcclaa
open Go.RowKit
set_option linter.unusedVariables false
/-- the cost and the share of a choice h over the symbols that come -/
def cstP (f : List Int) (h : Int → Int) : Int := ((posI f f.length).map fun s => fqI f s * h s).sum
def krP (f : List Int) (m : Nat) (h : Int → Nat) : Nat := ((posI f f.length).map fun s => 2 ^ (m - h s)).sum
/-- of two symbols or more: the lengths are a choice within the limit, their share is whole, and no other choice costs less -/
theorem LenRes.three {f L : List Int} {m : Nat} (hR : LenRes f m L) (hmv : mayV f (m : Int) = 0) (h2 : 2 ≤ (posI f f.length).length) :
    (∀ s ∈ posI f f.length, 1 ≤ ix L s.toNat ∧ ix L s.toNat ≤ m) ∧ krP f m (fun s => (ix L s.toNat).toNat) = 2 ^ m ∧ costTo L f f.length = cstP f (fun s => ix L s.toNat) ∧
    (∀ s ∈ posI f f.length, ∀ t ∈ posI f f.length, fqI f s < fqI f t → ix L t.toNat ≤ ix L s.toNat) ∧
    ∀ h : Int → Nat, (∀ s ∈ posI f f.length, h s ≤ m) → krP f m h ≤ 2 ^ m → costTo L f f.length ≤ cstP f (fun s => h s) := by
  obtain ⟨m1, m2, m3, m4, m5⟩ := may_ok hmv
  rw [Int.toNat_natCast] at m5
  obtain ⟨-, hR⟩ := hR
  rcases hR with ⟨h, _⟩ | ⟨s, h, _⟩ | ⟨S, hp, hs, hS2, hL⟩
  · rw [h] at h2; simp at h2
  · rw [h] at h2; simp at h2
  · have hmem : ∀ s ∈ S, ∃ i : Nat, i < f.length ∧ s = (i : Int) ∧ 0 < ix f i := fun s hs => (pos_gt _ s).1 (hp.mem_iff.1 hs)
    have hlaw := limit_law (f := fqI f) (S := S) (m := m) (hp.nodup_iff.2 (pos_nodup f f.length)) hs.le (fun s hs => by
      obtain ⟨i, hi, rfl, _⟩ := hmem s hs
      rw [fqI_nat]; exact (m4 i hi).1) hS2 (by omega) (by rw [hp.length_eq]; exact m5)
    have hv : ∀ s ∈ S, ix L s.toNat = ((lenP (fqI f) S m s : Nat) : Int) := fun s hs => by
      obtain ⟨i, hi, rfl, _⟩ := hmem s hs
      rw [Int.toNat_natCast, hL i hi]
    have hbd : ∀ i, i < f.length → 0 < ix f i → ix f i ≤ 1048576 ∧ 0 ≤ ix L i ∧ ix L i ≤ 1048576 := fun i hi h0 => by
      have := hL i hi
      have hm2 : (i : Int) ∈ S := hp.mem_iff.2 ((pos_gt _ _).2 ⟨i, hi, rfl, h0⟩)
      have := (hlaw.bd _ hm2).2
      have := (m4 i hi).2
      omega
    have e1 : costTo L f f.length = cstP f (fun s => ix L s.toNat) := cost_pos L f f.length hbd
    have e3 : cstP f (fun s => ix L s.toNat) = (S.map fun s => fqI f s * ((lenP (fqI f) S m s : Nat) : Int)).sum := by
      unfold cstP
      rw [← sumI_perm (hp.map _)]
      congr 1
      exact List.map_congr_left fun s hs => by show _ * ix L s.toNat = _; rw [hv s hs]
    refine ⟨fun s hs => ?_, ?_, e1, fun s hs t ht hst => ?_, fun h hh hk => ?_⟩
    · have hs := hp.mem_iff.2 hs
      rw [hv s hs]
      have := hlaw.bd s hs
      omega
    · unfold krP
      rw [← sum_perm (hp.map _), ← hlaw.whole]
      congr 1
      exact List.map_congr_left fun s hs => by show 2 ^ (m - (ix L s.toNat).toNat) = _; rw [hv s hs, Int.toNat_natCast]
    · have hs := hp.mem_iff.2 hs
      have ht := hp.mem_iff.2 ht
      rw [hv s hs, hv t ht]
      have := hlaw.order s hs t ht hst
      omega
    · rw [e1, e3]
      have := hlaw.least h (fun s hs => hh s (hp.mem_iff.1 hs)) (by rw [sum_perm (hp.map _)]; exact hk)
      unfold cstP
      rw [← sumI_perm (hp.map _)]
      exact this
/-- of fewer than two symbols every limit gives the same lengths -/
theorem LenRes.few {f L L' : List Int} {m m' : Nat} (hR : LenRes f m L) (hR' : LenRes f m' L') (h2 : (posI f f.length).length < 2) : ∀ i, i < f.length → ix L i = ix L' i := by
  obtain ⟨-, hR⟩ := hR
  obtain ⟨-, hR'⟩ := hR'
  rcases hR with ⟨h, h1⟩ | ⟨s, h, h1⟩ | ⟨S, hp, hs, hS2, hL⟩
  · rcases hR' with ⟨h', h1'⟩ | ⟨s', h', h1'⟩ | ⟨S', hp', hs', hS2', hL'⟩
    · intro i hi; rw [h1 i hi, h1' i hi]
    · rw [h] at h'; simp at h'
    · rw [hp'.length_eq] at hS2'; omega
  · rcases hR' with ⟨h', h1'⟩ | ⟨s', h', h1'⟩ | ⟨S', hp', hs', hS2', hL'⟩
    · rw [h] at h'; simp at h'
    · rw [h] at h'
      obtain rfl : s = s' := by simpa using h'
      intro i hi; rw [h1 i hi, h1' i hi]
    · rw [hp'.length_eq] at hS2'; omega
  · rw [hp.length_eq] at hS2; omega
theorem costTo_congr {l l' f : List Int} : ∀ k : Nat, (∀ i, i < k → ix l i = ix l' i) → costTo l f k = costTo l' f k
  | 0, _ => rfl
  | k + 1, h => by rw [costTo, costTo, costTo_congr k fun i hi => h i (by omega), h k (by omega)]
/-- a greater limit never costs more -/
theorem LenRes.grow {f L L' : List Int} {m : Nat} (hR : LenRes f m L) (hR' : LenRes f (m + 1) L') (hmv : mayV f (m : Int) = 0) (hmv' : mayV f ((m + 1 : Nat) : Int) = 0) : costTo L' f f.length ≤ costTo L f f.length := by
  by_cases h2 : 2 ≤ (posI f f.length).length
  · obtain ⟨a1, a2, a3, -, -⟩ := hR.three hmv h2
    obtain ⟨-, -, -, -, b5⟩ := hR'.three hmv' h2
    have hk : krP f (m + 1) (fun s => (ix L s.toNat).toNat) = 2 ^ (m + 1) := by
      rw [Nat.pow_succ, ← a2]
      unfold krP
      generalize hP : posI f f.length = P at a1
      clear b5 a2 a3 h2 hP
      induction P with
      | nil => rfl
      | cons s P ih =>
        have := ih fun t ht => a1 t (by simp [ht])
        have := a1 s (by simp)
        rw [List.map_cons, List.map_cons, List.sum_cons, List.sum_cons, Nat.add_mul, ‹(P.map _).sum = _›, ← Nat.pow_succ]
        congr 2
        show m + 1 - (ix L s.toNat).toNat = m - (ix L s.toNat).toNat + 1
        omega
    have := b5 (fun s => (ix L s.toNat).toNat) (fun s hs => by have := a1 s hs; omega) (by rw [hk]; exact Nat.le_refl _)
    rw [a3]
    refine Int.le_trans this (Int.le_of_eq ?_)
    unfold cstP
    congr 1
    exact List.map_congr_left fun s hs => by have := (a1 s hs).1; show _ * (((ix L s.toNat).toNat : Nat) : Int) = _ * ix L s.toNat; congr 1; omega
  · rw [costTo_congr f.length (LenRes.few hR hR' (by omega))]
    exact Int.le_refl _
/-- a more frequent symbol has no longer code -/
theorem LenRes.order {f L : List Int} {m : Nat} (hR : LenRes f m L) (hmv : mayV f (m : Int) = 0) {i j : Nat} (hi : i < f.length) (hj : j < f.length) (hij : ix f j < ix f i) (h0 : 0 < ix f j) : ix L i ≤ ix L j := by
  have hpi : (i : Int) ∈ posI f f.length := (pos_gt _ _).2 ⟨i, hi, rfl, by omega⟩
  have hpj : (j : Int) ∈ posI f f.length := (pos_gt _ _).2 ⟨j, hj, rfl, h0⟩
  have h2 : 2 ≤ (posI f f.length).length := by
    rcases hP : posI f f.length with _ | ⟨a, _ | ⟨b, P⟩⟩
    · rw [hP] at hpi; simp at hpi
    · rw [hP] at hpi hpj
      simp at hpi hpj
      have : i = j := by omega
      subst this; omega
    · simp
  obtain ⟨-, -, -, a4, -⟩ := hR.three hmv h2
  have := a4 j hpj i hpi (by rw [fqI_nat, fqI_nat]; exact hij)
  simpa using this
end Go.Proofs.Ytckhkkjdibcclaa

/-
  Plain law: what the limit's lengths are, symbol by symbol, and their sum.
-/
namespace Go.Proofs.Ytckhkkjdibcclaa
open Go.RowKit
set_option linter.unusedVariables false
theorem kraft_eq (l f : List Int) (m : Nat) (hm : m ≤ 15) : ∀ k : Nat, (∀ i, i < k → if 0 < ix f i then 1 ≤ ix l i ∧ ix l i ≤ m else ix l i = 0) → ((posI f k).map fun s => 2 ^ (m - (ix l s.toNat).toNat)).sum * 2 ^ (15 - m) = sumTo l k
  | 0, _ => by simp [posI, sumTo]
  | k + 1, h => by
    have ih := kraft_eq l f m hm k fun i hi => h i (by omega)
    rw [sumTo, posI, List.map_append, List.sum_append, Nat.add_mul, ih]
    congr 1
    have hk := h k (by omega)
    by_cases hp : 0 < ix f k
    · rw [if_pos hp] at hk
      obtain ⟨h1, h2⟩ := hk
      rw [if_pos hp]
      show (List.map _ [(k : Int)]).sum * _ = _
      rw [List.map_cons, List.map_nil, List.sum_cons, List.sum_nil, Int.toNat_natCast, Nat.add_zero]
      obtain ⟨v, hv⟩ := Int.eq_ofNat_of_zero_le (show 0 ≤ ix l k by omega)
      have hv : ix l k = (v : Int) := hv
      rw [hv] at h1 h2 ⊢
      rw [share_yes (by omega) (by omega), Int.toNat_natCast, p15, ← Nat.pow_add, show m - v + (15 - m) = 15 - v by omega]
    · rw [if_neg hp] at hk
      rw [if_neg hp, hk, share_no (by omega)]
      simp
/-- what 'sound' asks -/
structure SndF (l f : List Int) (n : Nat) (m : Int) : Prop where
  len : l.length = n
  each : ∀ i, i < n → (0 < ix l i ↔ 0 < ix f i) ∧ 0 ≤ ix l i ∧ ix l i ≤ m
  few : (posI f n).length < 2 → (sumTo l n : Int) = 16384 * ((posI f n).length : Int)
  many : 2 ≤ (posI f n).length → sumTo l n = 32768
theorem sum_zero {l : List Int} : ∀ k : Nat, (∀ i, i < k → ix l i = 0) → sumTo l k = 0
  | 0, _ => rfl
  | k + 1, h => by rw [sumTo, sum_zero k fun i hi => h i (by omega), h k (by omega), share_no (by omega)]
theorem LenRes.snd {f L : List Int} {m : Nat} (hR : LenRes f m L) (hmv : mayV f (m : Int) = 0) : SndF L f f.length m := by
  obtain ⟨m1, m2, m3, m4, m5⟩ := may_ok hmv
  by_cases h2 : 2 ≤ (posI f f.length).length
  · obtain ⟨h1, hk, -, -, -⟩ := hR.three hmv h2
    have hzero : ∀ i, i < f.length → ¬ 0 < ix f i → ix L i = 0 := fun i hi h0 => by
      obtain ⟨-, hR⟩ := hR
      rcases hR with ⟨h, h'⟩ | ⟨s, h, h'⟩ | ⟨S, hp, hs, hS2, hL⟩
      · exact h' i hi
      · rw [h' i hi, if_neg fun e => ?_]
        have : (i : Int) ∈ posI f f.length := by rw [h, e]; simp
        obtain ⟨j, _, e2, h3⟩ := (pos_gt _ _).1 this
        have : i = j := by omega
        subst this; exact h0 h3
      · rw [hL i hi]
        have hni : (i : Int) ∉ S := fun hm => by
          obtain ⟨j, _, e2, h3⟩ := (pos_gt _ _).1 (hp.mem_iff.1 hm)
          have : i = j := by omega
          subst this; exact h0 h3
        have hmem : ∀ s ∈ S, ∃ i : Nat, i < f.length ∧ s = (i : Int) ∧ 0 < ix f i := fun s hs => (pos_gt _ s).1 (hp.mem_iff.1 hs)
        have hlaw := limit_law (f := fqI f) (S := S) (m := m) (hp.nodup_iff.2 (pos_nodup f f.length)) hs.le (fun s hs => by
          obtain ⟨i, hi, rfl, _⟩ := hmem s hs
          rw [fqI_nat]; exact (m4 i hi).1) hS2 (by omega) (by rw [hp.length_eq]; rw [Int.toNat_natCast] at m5; exact m5)
        rw [hlaw.out _ hni]; rfl
    have hall : ∀ i, i < f.length → 0 < ix f i → 1 ≤ ix L i ∧ ix L i ≤ m := fun i hi h0 => by
      have := h1 (i : Int) ((pos_gt _ _).2 ⟨i, hi, rfl, h0⟩)
      rw [Int.toNat_natCast] at this
      exact this
    refine ⟨hR.1, fun i hi => ?_, fun h => by omega, fun _ => ?_⟩
    · by_cases h0 : 0 < ix f i
      · have := hall i hi h0; omega
      · have := hzero i hi h0; omega
    · have he := kraft_eq L f m (by omega) f.length fun i hi => by
        by_cases h0 : 0 < ix f i
        · rw [if_pos h0]; exact hall i hi h0
        · rw [if_neg h0]; exact hzero i hi h0
      unfold krP at hk
      rw [← he, hk, ← Nat.pow_add, show m + (15 - m) = 15 by omega]
  · obtain ⟨hlen, hR⟩ := hR
    rcases hR with ⟨h, h'⟩ | ⟨s, h, h'⟩ | ⟨S, hp, hs, hS2, hL⟩
    · refine ⟨hlen, fun i hi => ?_, fun _ => ?_, fun h3 => absurd h3 h2⟩
      · have hn : ¬ 0 < ix f i := fun h0 => by
          have := (pos_gt f.length (i : Int)).2 ⟨i, hi, rfl, h0⟩
          rw [h] at this; simp at this
        have := h' i hi; omega
      · rw [sum_zero _ h', h]; rfl
    · obtain ⟨j, hj, rfl, hj0⟩ := (pos_gt f.length s).1 (by rw [h]; simp)
      have hiff : ∀ i, i < f.length → (0 < ix f i ↔ i = j) := fun i hi => by
        constructor
        · intro h0
          have := (pos_gt f.length (i : Int)).2 ⟨i, hi, rfl, h0⟩
          rw [h] at this
          have := List.mem_singleton.1 this
          omega
        · rintro rfl; exact hj0
      have hv : ∀ i, i < f.length → ix L i = if i = j then 1 else 0 := fun i hi => by
        rw [h' i hi]
        by_cases e : i = j
        · rw [if_pos e, if_pos (by omega)]
        · rw [if_neg e, if_neg (by omega)]
      have hsum : ∀ k, k ≤ f.length → sumTo L k = if j < k then 16384 else 0 := fun k => by
        induction k with
        | zero => intro _; rfl
        | succ k ih =>
          intro hk
          rw [sumTo, ih (by omega), hv k (by omega)]
          by_cases e : k = j
          · subst e
            rw [if_neg (by omega), if_pos rfl, if_pos (by omega)]
            have := share_yes (v := 1) (by omega) (by omega)
            have e1 : share 1 = p15 1 := this
            rw [e1]; rfl
          · rw [if_neg e, share_no (by omega)]
            by_cases e2 : j < k
            · rw [if_pos e2, if_pos (by omega)]
            · rw [if_neg e2, if_neg (by omega)]
      refine ⟨hlen, fun i hi => ?_, fun _ => ?_, fun h3 => absurd h3 h2⟩
      · have h5 := hv i hi
        have h6 := hiff i hi
        by_cases e : i = j
        · rw [if_pos e] at h5; have := h6.2 e; omega
        · rw [if_neg e] at h5
          have : ¬ 0 < ix f i := fun h => e (h6.1 h)
          omega
      · rw [hsum _ (Nat.le_refl _), if_pos hj, h]; rfl
    · rw [hp.length_eq] at hS2; exact absurd hS2 h2
end Go.Proofs.Ytckhkkjdibcclaa
