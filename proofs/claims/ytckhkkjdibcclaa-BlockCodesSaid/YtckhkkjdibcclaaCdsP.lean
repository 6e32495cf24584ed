/-
  Plain law: no lengths make a dynamic block's tokens shorter; how many kinds of codes come.
-/
import Derived.Test.YtckhkkjdibcclaaPk27
import Derived.Test.YtckhkkjdibcclaaLeaP
namespace Go.Proofs.Ytckhkkjdibcclaa
open Go.RowKit
set_option linter.unusedVariables false
theorem pos_bump {f : List Int} {s : Nat} (hs : s < f.length) (h0 : 0 ≤ ix f s) : ∀ n, (posI (bump f s) n).length = (posI f n).length + if s < n ∧ ix f s = 0 then 1 else 0
  | 0 => by simp [posI]
  | n + 1 => by
    have ih := pos_bump hs h0 n
    have e0 : ∀ g : List Int, (posI g (n + 1)).length = (posI g n).length + if 0 < ix g n then 1 else 0 := fun g => by
      rw [show posI g (n + 1) = posI g n ++ (if 0 < ix g n then [(n : Int)] else []) from rfl, List.length_append]
      by_cases h : 0 < ix g n
      · rw [if_pos h, if_pos h]; rfl
      · rw [if_neg h, if_neg h]; rfl
    rw [e0, e0, ih]
    have hb := ix_bump f s n
    by_cases hn : s = n
    · subst hn
      rw [if_pos ⟨rfl, hs⟩] at hb
      rw [hb, if_neg (show ¬ (s < s ∧ ix f s = 0) by omega)]
      by_cases hz : ix f s = 0
      · rw [if_pos (by omega), if_neg (show ¬ 0 < ix f s by omega), if_pos (show s < s + 1 ∧ ix f s = 0 from ⟨by omega, hz⟩)]
      · rw [if_pos (by omega), if_pos (show 0 < ix f s by omega), if_neg (show ¬ (s < s + 1 ∧ ix f s = 0) by omega)]
    · rw [if_neg (fun h => hn h.1)] at hb
      rw [hb]
      by_cases hlt : s < n ∧ ix f s = 0
      · rw [if_pos hlt, if_pos (show s < n + 1 ∧ ix f s = 0 from ⟨by omega, hlt.2⟩)]; omega
      · rw [if_neg hlt, if_neg (show ¬ (s < n + 1 ∧ ix f s = 0) by omega)]; omega
theorem trim_cost {l f : List Int} {n few : Nat} (hl : ∀ i, 0 ≤ ix l i ∧ ix l i ≤ 15) (hf : ∀ i, 0 ≤ ix f i ∧ ix f i ≤ 1048576) : costTo (l.take (trimQ l few n)) f (trimQ l few n) = costTo l f n := by
  have hle := trimQ_le l few n
  have hk : ∀ (l : List Int) (k : Nat) (l' : List Int), (∀ i, i < k → ix l i = ix l' i) → costTo l f k = costTo l' f k := fun l k l' => by
    induction k with
    | zero => intro _; rfl
    | succ k ih =>
      intro h
      rw [costTo, costTo, ih fun i hi => h i (by omega), h k (by omega)]
  rw [hk _ _ l fun i hi => ix_takeB hi]
  have hz : ∀ k, trimQ l few n ≤ k → k ≤ n → costTo l f k = costTo l f (trimQ l few n) := fun k => by
    induction k with
    | zero => intro h1 _; rw [show trimQ l few n = 0 by omega]
    | succ k ih =>
      intro h1 h2
      by_cases h3 : trimQ l few n ≤ k
      · rw [costTo, ih h3 (by omega), costOf_no (by rw [trimQ_zero l few n k h3 (by omega)]; omega)]; omega
      · rw [show k + 1 = trimQ l few n by omega]
  exact (hz n hle (Nat.le_refl _)).symm
/-- what the dynamic block costs is more than its best codes cost -/
theorem head_gt {t : List Tok} (ht : t.length < 1048576) : costTo (litL t) (fqT t).1 286 + costTo (dstL t) (fqT t).2 30 < costD t := by
  obtain ⟨f1, f2⟩ := fq_in ht
  obtain ⟨l1, l2⟩ := fq_len t
  obtain ⟨v1, v2⟩ := fq_mv ht
  have hb : ∀ (L : List Int), checkOf L 15 = 0 → ∀ i, 0 ≤ ix L i ∧ ix L i ≤ 15 := fun L h => ix_in (by omega) (chk_in h)
  have hL : ∀ i, 0 ≤ ix (litL t) i ∧ ix (litL t) i ≤ 15 := by
    have h := lenF_check (f := (fqT t).1) (m := 15) (n := (fqT t).1.length) v1 (Nat.le_refl _) (fun i h1 h2 => by omega)
    have e : (lenF (fqT t).1 15).take (fqT t).1.length = litL t := List.take_of_length_le (by rw [(lenF_res _ _).1]; exact Nat.le_refl _)
    rw [e] at h
    exact hb _ h
  have hD : ∀ i, 0 ≤ ix (dstL t) i ∧ ix (dstL t) i ≤ 15 := by
    have h := lenF_check (f := (fqT t).2) (m := 15) (n := (fqT t).2.length) v2 (Nat.le_refl _) (fun i h1 h2 => by omega)
    have e : (lenF (fqT t).2 15).take (fqT t).2.length = dstL t := List.take_of_length_le (by rw [(lenF_res _ _).1]; exact Nat.le_refl _)
    rw [e] at h
    exact hb _ h
  have h1 : costTo (plLit t) (fqT t).1 (litN t) = costTo (litL t) (fqT t).1 286 := trim_cost hL f1
  have h2 : costTo (dstL t) (fqT t).2 30 ≤ costTo (plDist t) (fqT t).2 (dstN t) := by
    have h3 : costTo ((dstL t).take (dstN t)) (fqT t).2 (dstN t) = costTo (dstL t) (fqT t).2 30 := trim_cost hD f2
    rw [← h3]
    unfold plDist
    split
    · rename_i h
      rw [h.1]
      have e : costTo ((dstL t).take 1) (fqT t).2 1 = 0 := by
        show 0 + costOf (ix ((dstL t).take 1) 0) _ = 0
        rw [costOf_no (by rw [ix_takeB (by omega), h.2]; omega)]; rfl
      rw [e]
      exact (costTo_bd _ _ _ (by omega)).1
    · exact Int.le_refl _
  have h4 := rnsCost_bd (head_in t) (plRuns t) (plRuns_ok ht)
  have h5 : costD t = 3 + szP t + costTo (plLit t) (fqT t).1 (litN t) + costTo (plDist t) (fqT t).2 (dstN t) + ((exs t : Nat) : Int) := rfl
  have h6 : szP t = 14 + 3 * ((plN t : Nat) : Int) + rnsCost (plHead t) (plRuns t) := rfl
  omega
theorem fixed_ge {t : List Tok} (ht : t.length < 1048576) : 10 ≤ costF t := by
  have h1 : costF t = 3 + costTo fixL (fqT t).1 286 + costTo fixD (fqT t).2 30 + ((exs t : Nat) : Int) := rfl
  have h2 := (costTo_bd fixD (fqT t).2 30 (by omega)).1
  have hm : ∀ k, costTo fixL (fqT t).1 257 ≤ costTo fixL (fqT t).1 (257 + k) := fun k => by
    induction k with
    | zero => exact Int.le_refl _
    | succ k ih =>
      have h := (costOf_bd (ix fixL (257 + k)) (ix (fqT t).1 (257 + k))).1
      have e : costTo fixL (fqT t).1 (257 + (k + 1)) = costTo fixL (fqT t).1 (257 + k) + costOf (ix fixL (257 + k)) (ix (fqT t).1 (257 + k)) := rfl
      omega
  have h3 := hm 29
  have h4 : costTo fixL (fqT t).1 257 = costTo fixL (fqT t).1 256 + costOf (ix fixL 256) (ix (fqT t).1 256) := rfl
  have h5 := (costTo_bd fixL (fqT t).1 256 (by omega)).1
  have h6 := fq_end t
  have h7 := (fq_in ht).1 256
  have h8 : ix fixL 256 = 7 := by decide +kernel
  rw [h8, costOf_yes (by omega) (by omega) h7.2 (by omega)] at h4
  have h9 : costTo fixL (fqT t).1 (257 + 29) = costTo fixL (fqT t).1 286 := rfl
  omega
/-- the reference's least is what our own lengths cost -/
theorem least_is {f l : List Int} {n : Nat} (hn : f.length = n) (hmv : mayV f 15 = 0) (h2 : 2 ≤ (posI f n).length) (hl : l.Perm ((posI f n).map (fqI f))) (hs : l.Pairwise (fun x y => y ≤ x)) {V : Int}
    (hG : V = 1152921504606846976 ∨ GoodD l 15 l.length 0 V) (hLe : ∀ v, Rch l l.length 15 l.length 0 v → V ≤ v) : V = costTo (lenF f 15) f n := by
  subst hn
  exact least_same (m := 15) (lenF_res f 15) hmv h2 hl hs hG hLe
end Go.Proofs.Ytckhkkjdibcclaa
