/-
  Plain law: a code's place split into two, taken away, one more added.
-/
import Derived.Test.YtllndcngccjooaaTree
import Derived.Test.YtllndcngccjooaaOwn
namespace Go.Proofs.Ytllndcngccjooaa

theorem ix_set (l : List Int) {k : Nat} (hk : k < l.length) (a : Int) (j : Nat) : ix (l.set k a) j = if j = k then a else ix l j := by
  unfold ix
  simp only [List.getD_eq_getElem?_getD, List.getElem?_set]
  by_cases h : k = j
  · subst h; simp [hk]
  · rw [if_neg h, if_neg (fun e => h e.symm)]
theorem sumTo_congr {l l' : List Int} {k : Nat} (h : ∀ i, i < k → ix l i = ix l' i) : sumTo l k = sumTo l' k := by
  induction k with
  | zero => rfl
  | succ k ih => simp only [sumTo]; rw [ih fun i hi => h i (by omega), h k (by omega)]
theorem posTo_congr {l l' : List Int} {k : Nat} (h : ∀ i, i < k → ix l i = ix l' i) : posTo l k = posTo l' k := by
  induction k with
  | zero => rfl
  | succ k ih => simp only [posTo]; rw [ih fun i hi => h i (by omega), h k (by omega)]
theorem sumTo_set (l : List Int) {k : Nat} (hk : k < l.length) (a : Int) (m : Nat) : k < m → sumTo (l.set k a) m + share (ix l k) = sumTo l m + share a := by
  induction m with
  | zero => intro h; omega
  | succ m ih =>
    intro h
    simp only [sumTo, ix_set l hk]
    by_cases e : m = k
    · subst e
      have : sumTo (l.set m a) m = sumTo l m := sumTo_congr fun i hi => by rw [ix_set l hk, if_neg (by omega)]
      rw [this, if_pos rfl]; omega
    · have := ih (by omega)
      rw [if_neg e]; omega
theorem posTo_set (l : List Int) {k : Nat} (hk : k < l.length) (hp : 0 < ix l k) (m : Nat) : k < m → posTo (l.set k 0) m + 1 = posTo l m := by
  induction m with
  | zero => intro h; omega
  | succ m ih =>
    intro h
    simp only [posTo, ix_set l hk]
    by_cases e : m = k
    · subst e
      have : posTo (l.set m 0) m = posTo l m := posTo_congr fun i hi => by rw [ix_set l hk, if_neg (by omega)]
      rw [this, if_pos rfl, if_pos hp]; simp
    · have := ih (by omega)
      rw [if_neg e]; omega
theorem share_half (x : Int) (h : x ≤ 15) : share x ≤ 16384 ∧ (x ≤ 0 → share x = 0) := by
  by_cases h' : 1 ≤ x
  · obtain ⟨v, rfl⟩ : ∃ v : Nat, x = v := ⟨x.toNat, by omega⟩
    rw [share_yes (by omega) (by omega)]
    refine ⟨?_, fun h => by omega⟩
    obtain ⟨u, rfl⟩ : ∃ u, v = u + 1 := ⟨v - 1, by omega⟩
    have := p15_half (v := u) (by omega)
    have := (p15_bd u).2
    omega
  · rw [share_no (by omega)]; exact ⟨by omega, fun _ => rfl⟩
theorem sum_pos (l : List Int) (m : Nat) : (∀ i, i < m → ix l i ≤ 15) → sumTo l m ≤ 16384 * posTo l m := by
  induction m with
  | zero => intro _; simp [sumTo]
  | succ m ih =>
    intro h
    have h1 := ih fun i hi => h i (by omega)
    have h2 := share_half (ix l m) (h m (by omega))
    simp only [sumTo, posTo]
    split
    · omega
    · have := h2.2 (by omega); omega
theorem alone_false {l : List Int} {n : Nat} (h : 2 ≤ posTo l n) : aloneB l n = false := by
  unfold aloneB
  rw [Bool.and_eq_false_iff]
  right
  simp; omega
theorem sumTo_snoc (l : List Int) (a : Int) : sumTo (l ++ [a]) (l.length + 1) = sumTo l l.length + share a := by
  show sumTo (l ++ [a]) l.length + share (ix (l ++ [a]) l.length) = _
  congr 1
  · exact sumTo_congr fun i hi => by rw [ix_append, if_pos hi]
  · rw [ix_append, if_neg (by omega), Nat.sub_self]; rfl
theorem split_x {l : List Int} {k v : Nat} (hk : k < l.length) (hl : l.length ≤ 280) (hin : ∀ i, i < l.length → 0 ≤ ix l i ∧ ix l i ≤ 15) (hS : sumTo l l.length = 32768) (e : ix l k = v) (h1 : 1 ≤ v) (h2 : v ≤ 14) :
    checkOf (l.set k ((v : Int) + 1) ++ [(v : Int) + 1]) 15 = 0 ∧ sumTo (l.set k ((v : Int) + 1) ++ [(v : Int) + 1]) (l.length + 1) = 32768 := by
  have hlen : (l.set k ((v : Int) + 1)).length = l.length := by simp
  have h3 := sumTo_set l hk ((v : Int) + 1) l.length hk
  have h4 := sumTo_snoc (l.set k ((v : Int) + 1)) ((v : Int) + 1)
  rw [hlen] at h4
  have e1 : ((v : Int) + 1) = ((v + 1 : Nat) : Int) := by omega
  have h5 : share ((v : Int) + 1) = p15 (v + 1) := by rw [e1, share_yes (by omega) (by omega)]
  rw [e, share_yes h1 (by omega), h5] at h3
  rw [h5] at h4
  have h6 := p15_half (v := v) (by omega)
  have hs : sumTo (l.set k ((v : Int) + 1) ++ [(v : Int) + 1]) (l.length + 1) = 32768 := by omega
  refine ⟨?_, hs⟩
  have hl2 : (l.set k ((v : Int) + 1) ++ [(v : Int) + 1]).length = l.length + 1 := by simp
  unfold checkOf
  rw [hl2, if_neg (by omega), if_neg, hs, if_neg (by simp)]
  rw [inTo_of]
  · simp
  · intro i hi
    rw [ix_append, hlen]
    by_cases h : i < l.length
    · rw [if_pos h, ix_set l hk]
      by_cases h' : i = k
      · rw [if_pos h']; omega
      · rw [if_neg h']; exact hin i h
    · rw [if_neg h, show i - l.length = 0 by omega]
      show 0 ≤ (v : Int) + 1 ∧ (v : Int) + 1 ≤ 15
      omega
theorem split_y {l : List Int} {k v : Nat} (hk : k < l.length) (hl : l.length ≤ 280) (hin : ∀ i, i < l.length → 0 ≤ ix l i ∧ ix l i ≤ 15) (hS : sumTo l l.length = 32768) (e : ix l k = v) (h1 : 1 ≤ v) (h2 : v ≤ 15) (hp : posTo l l.length ≠ 2) :
    checkOf (l.set k 0) 15 = 3 := by
  have hlen : (l.set k (0 : Int)).length = l.length := by simp
  have h3 := sumTo_set l hk 0 l.length hk
  have h4 := posTo_set l hk (by omega) l.length hk
  rw [e, share_yes h1 h2, share_no (x := 0) (by omega)] at h3
  have h5 := sum_pos l l.length fun i hi => (hin i hi).2
  have h6 := (p15_bd v).1
  unfold checkOf
  rw [hlen, if_neg (by omega), if_neg, if_pos]
  · right
    exact ⟨by omega, alone_false (by omega)⟩
  · rw [inTo_of]
    · simp
    · intro i hi
      rw [ix_set l hk]
      by_cases h' : i = k
      · rw [if_pos h']; omega
      · rw [if_neg h']; exact hin i hi
theorem split_z {l : List Int} (hl : l.length ≤ 280) (hin : ∀ i, i < l.length → 0 ≤ ix l i ∧ ix l i ≤ 15) (hS : sumTo l l.length = 32768) : checkOf (l ++ [15]) 15 = 3 := by
  have hl2 : (l ++ [(15 : Int)]).length = l.length + 1 := by simp
  have h4 := sumTo_snoc l 15
  have h5 : share 15 = 1 := by decide
  unfold checkOf
  rw [hl2, if_neg (by omega), if_neg, if_pos (by left; omega)]
  rw [inTo_of]
  · simp
  · intro i hi
    rw [ix_append]
    by_cases h : i < l.length
    · rw [if_pos h]; exact hin i h
    · rw [if_neg h, show i - l.length = 0 by omega]
      show 0 ≤ (15 : Int) ∧ (15 : Int) ≤ 15
      omega
end Go.Proofs.Ytllndcngccjooaa
