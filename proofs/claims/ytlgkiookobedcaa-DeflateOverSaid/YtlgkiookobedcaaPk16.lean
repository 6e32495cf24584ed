/-
  Several texts in one (written by pack2.py): PlnP, PlnQ, BkY.
-/
import Derived.Test.YtlgkiookobedcaaPk15
import Derived.Test.YtlgkiookobedcaaPk3
import Derived.Test.YtlgkiookobedcaaPk10
namespace Go.Proofs.Ytlgkiookobedcaa
open Go.RowKit
set_option linter.unusedVariables false
theorem perm_uniq {R : Int → Int → Prop} (hanti : ∀ a b, R a b → R b a → a = b) : ∀ {l l' : List Int}, l.Perm l' → l.Pairwise R → l'.Pairwise R → l = l'
  | [], l', hp, _, _ => (List.Perm.nil_eq hp)
  | a :: l, [], hp, _, _ => absurd hp.length_eq (by simp)
  | a :: l, b :: l', hp, h, h' => by
    obtain ⟨h1, h2⟩ := List.pairwise_cons.1 h
    obtain ⟨h3, h4⟩ := List.pairwise_cons.1 h'
    have e : a = b := by
      rcases List.mem_cons.1 (hp.mem_iff.1 List.mem_cons_self) with e | ha
      · exact e
      · rcases List.mem_cons.1 (hp.mem_iff.2 (List.mem_cons_self (a := b))) with e | hb
        · exact e.symm
        · exact hanti a b (h1 b hb) (h3 a ha)
    subst e
    rw [perm_uniq hanti (List.perm_cons a |>.1 hp) h2 h4]
theorem pln_ext {l l' : List Int} (hl : l.length = l'.length) (h : ∀ i, i < l.length → ix l i = ix l' i) : l = l' := by
  refine List.ext_getElem hl fun i h1 h2 => ?_
  have := h i h1
  simpa [ix, h1, h2] using this
theorem LenRes.uniq {f L L' : List Int} {m : Nat} (h : LenRes f m L) (h' : LenRes f m L') : L = L' := by
  obtain ⟨hl, h⟩ := h
  obtain ⟨hl', h'⟩ := h'
  refine pln_ext (hl.trans hl'.symm) fun i hi => ?_
  rw [hl] at hi
  rcases h with ⟨h1, h2⟩ | ⟨s, h1, h2⟩ | ⟨S, h1, h2, h3, h4⟩ <;> rcases h' with ⟨g1, g2⟩ | ⟨t, g1, g2⟩ | ⟨T, g1, g2, g3, g4⟩
  · rw [h2 i hi, g2 i hi]
  · rw [h1] at g1; simp at g1
  · rw [h1] at g1; have := g1.length_eq; simp at this; rw [this] at g3; simp at g3
  · rw [h1] at g1; simp at g1
  · rw [h1] at g1; have e : s = t := by simpa using g1
    subst e; rw [h2 i hi, g2 i hi]
  · rw [h1] at g1; have := g1.length_eq; simp at this; omega
  · rw [g1] at h1; have := h1.length_eq; simp at this; rw [this] at h3; simp at h3
  · rw [g1] at h1; have := h1.length_eq; simp at this; omega
  · have e : S = T := perm_uniq (R := fun s t => fqI f s < fqI f t ∨ (fqI f s = fqI f t ∧ s ≤ t)) (fun a b h h' => by omega) (h1.trans g1.symm) h2 g2
    subst e; rw [h4 i hi, g4 i hi]
def insS (f : Int → Int) (s : Int) : List Int → List Int
  | [] => [s]
  | t :: r => if f s ≤ f t then s :: t :: r else t :: insS f s r
def srtS (f : Int → Int) : List Int → List Int
  | [] => []
  | s :: r => insS f s (srtS f r)
theorem insS_perm (f : Int → Int) (s : Int) : ∀ r, (insS f s r).Perm (s :: r)
  | [] => List.Perm.refl _
  | t :: r => by
    unfold insS
    split
    · exact List.Perm.refl _
    · exact ((insS_perm f s r).cons t).trans (List.Perm.swap s t r)
theorem srtS_perm (f : Int → Int) : ∀ r, (srtS f r).Perm r
  | [] => List.Perm.refl _
  | s :: r => (insS_perm f s _).trans ((srtS_perm f r).cons s)
theorem insS_stab {f : List Int} {s : Int} : ∀ {r : List Int}, StabS f r → (∀ t ∈ r, s ≤ t) → StabS f (insS (fqI f) s r)
  | [], _, _ => List.pairwise_singleton _ _
  | t :: r, h, hs => by
    obtain ⟨h1, h2⟩ := List.pairwise_cons.1 h
    unfold insS
    split
    · rename_i hle
      refine List.pairwise_cons.2 ⟨fun u hu => ?_, h⟩
      have hsu := hs u hu
      rcases List.mem_cons.1 hu with rfl | hu
      · omega
      · have := h1 u hu; omega
    · rename_i hle
      refine List.pairwise_cons.2 ⟨fun u hu => ?_, insS_stab h2 fun t ht => hs t (List.mem_cons_of_mem _ ht)⟩
      rcases List.mem_cons.1 ((insS_perm _ _ _).mem_iff.1 hu) with rfl | hu
      · left; omega
      · exact h1 u hu
theorem srtS_stab {f : List Int} : ∀ {r : List Int}, r.Pairwise (· < ·) → StabS f (srtS (fqI f) r)
  | [], _ => List.Pairwise.nil
  | s :: r, h => by
    obtain ⟨h1, h2⟩ := List.pairwise_cons.1 h
    exact insS_stab (srtS_stab h2) fun t ht => Int.le_of_lt (h1 t ((srtS_perm _ _).mem_iff.1 ht))
def lenF (f : List Int) (m : Nat) : List Int :=
  match posI f f.length with
  | [] => List.replicate f.length 0
  | [s] => (List.range f.length).map fun (i : Nat) => if (i : Int) = s then 1 else 0
  | _ => (List.range f.length).map fun (i : Nat) => ((lenP (fqI f) (srtS (fqI f) (posI f f.length)) m (i : Int) : Nat) : Int)
theorem ix_map {n i : Nat} (g : Nat → Int) (hi : i < n) : ix ((List.range n).map g) i = g i := by simp [ix, hi]
theorem lenF_res (f : List Int) (m : Nat) : LenRes f m (lenF f m) := by
  unfold lenF
  split
  · rename_i h
    exact ⟨List.length_replicate, .inl ⟨h, fun i hi => by simp [ix, hi]⟩⟩
  · rename_i s h
    exact ⟨by simp, .inr (.inl ⟨s, h, fun i hi => ix_map _ hi⟩)⟩
  · rename_i h1 h2
    refine ⟨by simp, .inr (.inr ⟨srtS (fqI f) (posI f f.length), srtS_perm _ _, srtS_stab (pos_asc _), ?_, fun i hi => ix_map _ hi⟩)⟩
    rw [(srtS_perm _ _).length_eq]
    cases hp : posI f f.length with
    | nil => exact absurd hp h1
    | cons s l => cases l with
      | nil => exact absurd hp (h2 s)
      | cons t l => simp
theorem LenRes.eq {f L : List Int} {m : Nat} (h : LenRes f m L) : L = lenF f m := h.uniq (lenF_res f m)
theorem sum_split {l : List Int} {n : Nat} : ∀ k : Nat, (∀ i, n ≤ i → i < n + k → ix l i = 0) → sumTo l (n + k) = sumTo l n
  | 0, _ => rfl
  | k + 1, h => by
    rw [← Nat.add_assoc, sumTo, sum_split k fun i h1 h2 => h i h1 (by omega), h (n + k) (by omega) (by omega), share_no (by omega)]; rfl
theorem ix_takeB {l : List Int} {n i : Nat} (h : i < n) : ix (l.take n) i = ix l i := by
  unfold ix
  simp only [List.getD_eq_getElem?_getD, List.getElem?_take]
  rw [if_pos h]
theorem sum_take {l : List Int} {n : Nat} : ∀ k : Nat, k ≤ n → sumTo (l.take n) k = sumTo l k
  | 0, _ => rfl
  | k + 1, h => by rw [sumTo, sumTo, sum_take k (by omega), ix_takeB (by omega)]
theorem posTo_pos {l f : List Int} {n : Nat} (h : ∀ i, i < n → (0 < ix l i ↔ 0 < ix f i)) : ∀ k, k ≤ n → posTo l k = (posI f k).length
  | 0, _ => rfl
  | k + 1, hk => by
    rw [posTo, posTo_pos h k (by omega), posI, List.length_append]
    by_cases e : 0 < ix f k
    · rw [if_pos ((h k (by omega)).2 e), if_pos e]; rfl
    · rw [if_neg fun e2 => e ((h k (by omega)).1 e2), if_neg e]; rfl
theorem posTo_take {l : List Int} {n : Nat} : ∀ k : Nat, k ≤ n → posTo (l.take n) k = posTo l k
  | 0, _ => rfl
  | k + 1, h => by rw [posTo, posTo, posTo_take k (by omega), ix_takeB (by omega)]
theorem posTo_mono {l : List Int} {a : Nat} : ∀ b, a ≤ b → posTo l a ≤ posTo l b
  | 0, h => by rw [Nat.le_zero.1 h]; exact Nat.le_refl _
  | b + 1, h => by
    by_cases e : a = b + 1
    · rw [e]; exact Nat.le_refl _
    · rw [posTo]; have := posTo_mono (l := l) b (by omega : a ≤ b); omega
theorem one_len {l : List Int} {m : Nat} (hm : 1 ≤ m) : ∀ k : Nat, (∀ i, i < k → 0 ≤ ix l i ∧ ix l i ≤ 15) → (posTo l k = 0 → sumTo l k = 0) ∧ (posTo l k = 1 → sumTo l k = 16384 → ∀ i, i < k → ix l i ≤ 1)
  | 0, _ => ⟨fun _ => rfl, fun h => by simp [posTo] at h⟩
  | k + 1, h => by
    obtain ⟨h1, h2⟩ := one_len hm k fun i hi => h i (by omega)
    have hk := h k (by omega)
    constructor
    · intro h0
      rw [posTo] at h0
      rw [sumTo, h1 (by omega), share_no]
      split at h0 <;> omega
    · intro h0 hs i hi
      rw [posTo] at h0
      rw [sumTo] at hs
      by_cases e : 0 < ix l k
      · rw [if_pos e] at h0
        have h3 := h1 (by omega)
        obtain ⟨v, hv⟩ := Int.eq_ofNat_of_zero_le hk.1
        rw [hv] at hs e hk
        rw [h3, share_yes (by omega) (by omega)] at hs
        have hv1 : v = 1 := by
          rcases Nat.lt_or_ge 1 v with h5 | h5
          · exfalso
            have := p15_half (v := 1) (by omega)
            have h6 : p15 v ≤ p15 2 := by unfold p15; exact Nat.pow_le_pow_right (by omega) (by omega)
            have h7 : p15 2 = 8192 := rfl
            omega
          · omega
        by_cases e2 : i = k
        · rw [e2, hv, hv1]; exact Int.le_refl _
        · have h8 : ∀ j, j ≤ k → posTo l j = 0 → ∀ i, i < j → ix l i ≤ 0 := fun j => by
            induction j with
            | zero => intro _ _ i hi; omega
            | succ j ih =>
              intro hj hp i hi
              rw [posTo] at hp
              by_cases e3 : i = j
              · subst e3
                split at hp <;> omega
              · exact ih (by omega) (by omega) i (by omega)
          have := h8 k (Nat.le_refl _) (by omega) i (by omega)
          omega
      · rw [if_neg e] at h0
        by_cases e2 : i = k
        · rw [e2]; omega
        · rw [share_no (by omega)] at hs
          exact h2 (by omega) (by omega) i (by omega)
theorem lenF_check {f : List Int} {m n : Nat} (hmv : mayV f (m : Int) = 0) (hn : n ≤ f.length) (hz : ∀ i, n ≤ i → i < f.length → ix (lenF f m) i = 0) : checkOf ((lenF f m).take n) (m : Int) = 0 := by
  obtain ⟨m1, m2, m3, m4, m5⟩ := may_ok hmv
  obtain ⟨s1, s2, s3, s4⟩ := (lenF_res f m).snd hmv
  have hlen : ((lenF f m).take n).length = n := by rw [List.length_take, s1]; omega
  have hsum : sumTo ((lenF f m).take n) n = sumTo (lenF f m) f.length := by
    rw [sum_take n (Nat.le_refl _)]
    have := sum_split (l := lenF f m) (n := n) (f.length - n) fun i h1 h2 => hz i h1 (by omega)
    rw [show n + (f.length - n) = f.length by omega] at this
    exact this.symm
  have hin : ∀ i, i < n → 0 ≤ ix ((lenF f m).take n) i ∧ ix ((lenF f m).take n) i ≤ m := fun i hi => by
    rw [ix_takeB hi]; exact (s2 i (by omega)).2
  unfold checkOf
  rw [hlen, if_neg (by omega), inTo_of hin, if_neg (by decide), hsum]
  by_cases h2 : 2 ≤ (posI f f.length).length
  · rw [s4 h2, if_neg (by omega)]
  · have h3 := s3 (by omega)
    have hal : aloneB ((lenF f m).take n) n = true := by
      have hp1 : posTo (lenF f m) f.length = (posI f f.length).length := posTo_pos (fun i hi => (s2 i hi).1) _ (Nat.le_refl _)
      have hp2 : posTo ((lenF f m).take n) n ≤ posTo (lenF f m) f.length := by rw [posTo_take n (Nat.le_refl _)]; exact posTo_mono _ hn
      have hone := one_len (l := lenF f m) (m := 1) (Nat.le_refl _) f.length fun i hi => by have := (s2 i hi).2; omega
      unfold aloneB lowTo
      rw [Bool.and_eq_true]
      refine ⟨decide_eq_true fun i hi => ?_, decide_eq_true (by omega)⟩
      rw [ix_takeB hi]
      by_cases h1 : posTo (lenF f m) f.length = 1
      · exact hone.2 h1 (by omega) i (by omega)
      · by_cases h5 : 0 < ix (lenF f m) i
        · exfalso
          have h6 : 0 < posTo (lenF f m) (i + 1) := by rw [posTo, if_pos h5]; omega
          have h7 := posTo_mono (l := lenF f m) (a := i + 1) f.length (by omega)
          omega
        · omega
    rw [hal, if_neg]
    rintro (h | ⟨-, h⟩)
    · omega
    · exact absurd h (by decide)
end Go.Proofs.Ytlgkiookobedcaa
namespace Go.Proofs.Ytlgkiookobedcaa
open Go.RowKit
set_option linter.unusedVariables false
def trimQ (l : List Int) (few : Nat) : Nat → Nat
  | 0 => 0
  | n + 1 => if few < n + 1 ∧ ix l n = 0 then trimQ l few n else n + 1
theorem trimQ_le (l : List Int) (few : Nat) : ∀ n, trimQ l few n ≤ n
  | 0 => Nat.le_refl _
  | n + 1 => by
    unfold trimQ
    have := trimQ_le l few n
    split <;> omega
theorem trimQ_few {l : List Int} {few n : Nat} (h : n ≤ few) : trimQ l few n = n := by
  cases n with
  | zero => rfl
  | succ n => exact if_neg (by omega)
theorem trimQ_ge (l : List Int) (few : Nat) : ∀ n, few ≤ n → few ≤ trimQ l few n
  | 0, h => h
  | n + 1, h => by
    by_cases e : few = n + 1
    · rw [trimQ_few (by omega)]; exact h
    · unfold trimQ
      have := trimQ_ge l few n (by omega)
      split <;> omega
theorem trimQ_zero (l : List Int) (few : Nat) : ∀ n i, trimQ l few n ≤ i → i < n → ix l i = 0
  | 0, i, _, h => by omega
  | n + 1, i, h1, h2 => by
    unfold trimQ at h1
    split at h1
    · rename_i h
      by_cases e : i = n
      · rw [e]; exact h.2
      · exact trimQ_zero l few n i h1 (by omega)
    · omega
def litL (t : List Tok) : List Int := lenF (fqT t).1 15
def dstL (t : List Tok) : List Int := lenF (fqT t).2 15
def litN (t : List Tok) : Nat := trimQ (litL t) 257 286
def dstN (t : List Tok) : Nat := trimQ (dstL t) 1 30
def plLit (t : List Tok) : List Int := (litL t).take (litN t)
def plDist (t : List Tok) : List Int := if dstN t = 1 ∧ ix (dstL t) 0 = 0 then [1] else (dstL t).take (dstN t)
def plRuns (t : List Tok) : List Rn := runsP (plLit t ++ plDist t)
def hdF (rs : List Rn) : List Int := rs.foldl (fun l r => bump l r.c.toNat) (List.replicate 19 0)
def plHead (t : List Tok) : List Int := lenF (hdF (plRuns t)) 7
def ordQ : List Int := [16, 17, 18, 0, 8, 7, 9, 6, 10, 5, 11, 4, 12, 3, 13, 2, 14, 1, 15]
def plN (t : List Tok) : Nat := trimQ (ordQ.map fun k => ix (plHead t) k.toNat) 4 19
theorem mv_ok {f : List Int} {m : Nat} (hl : f.length ≤ 288) (hm : 1 ≤ m ∧ m ≤ 15) (hb : ∀ i, i < f.length → 0 ≤ ix f i ∧ ix f i ≤ 1048576) (h2 : f.length ≤ 2 ^ m) : mayV f (m : Int) = 0 := by
  unfold mayV
  rw [if_neg (by omega), bad_not hb, if_neg (by decide), if_neg]
  rw [Int.toNat_natCast]
  have := pos_len f f.length
  omega
theorem fq_mv {t : List Tok} (ht : t.length < 1048576) : mayV (fqT t).1 15 = 0 ∧ mayV (fqT t).2 15 = 0 := by
  obtain ⟨l1, l2⟩ := fq_len t
  have hb := fq_bd t
  constructor
  · exact mv_ok (m := 15) (by omega) (by omega) (fun i _ => by have := hb i; omega) (by rw [l1]; decide)
  · exact mv_ok (m := 15) (by omega) (by omega) (fun i _ => by have := hb i; omega) (by rw [l2]; decide)
theorem litL_len (t : List Tok) : (litL t).length = 286 := by rw [litL, (lenF_res _ _).1, (fq_len t).1]
theorem dstL_len (t : List Tok) : (dstL t).length = 30 := by rw [dstL, (lenF_res _ _).1, (fq_len t).2]
theorem litN_bd (t : List Tok) : 257 ≤ litN t ∧ litN t ≤ 286 := ⟨trimQ_ge _ _ _ (by omega), trimQ_le _ _ _⟩
theorem dstN_bd (t : List Tok) : 1 ≤ dstN t ∧ dstN t ≤ 30 := ⟨trimQ_ge _ _ _ (by omega), trimQ_le _ _ _⟩
theorem plLit_len (t : List Tok) : (plLit t).length = litN t := by rw [plLit, List.length_take, litL_len]; have := litN_bd t; omega
theorem plDist_len (t : List Tok) : (plDist t).length = dstN t := by
  unfold plDist
  split
  · rename_i h; rw [h.1]; rfl
  · rw [List.length_take, dstL_len]; have := dstN_bd t; omega
theorem plLit_check {t : List Tok} (ht : t.length < 1048576) : checkOf (plLit t) 15 = 0 :=
  lenF_check (m := 15) (fq_mv ht).1 (by rw [(fq_len t).1]; exact (litN_bd t).2) fun i h1 h2 => trimQ_zero _ 257 286 i h1 (by rw [(fq_len t).1] at h2; exact h2)
theorem plDist_check {t : List Tok} (ht : t.length < 1048576) : checkOf (plDist t) 15 = 0 := by
  unfold plDist
  split
  · decide +kernel
  · exact lenF_check (m := 15) (fq_mv ht).2 (by rw [(fq_len t).2]; exact (dstN_bd t).2) fun i h1 h2 => trimQ_zero _ 1 30 i h1 (by rw [(fq_len t).2] at h2; exact h2)
theorem chk_in {l : List Int} {m : Int} (h : checkOf l m = 0) : ∀ i, i < l.length → 0 ≤ ix l i ∧ ix l i ≤ m := by
  unfold checkOf at h
  split at h
  · simp at h
  · split at h
    · simp at h
    · rename_i h1 h2
      have h3 : inTo l m l.length = true := by simpa using h2
      simpa [inTo] using h3
theorem both_in {t : List Tok} (ht : t.length < 1048576) : ∀ i, i < (plLit t ++ plDist t).length → 0 ≤ ix (plLit t ++ plDist t) i ∧ ix (plLit t ++ plDist t) i ≤ 15 := fun i hi => by
  rw [ix_append]
  rw [List.length_append] at hi
  split
  · exact chk_in (plLit_check ht) i (by assumption)
  · exact chk_in (plDist_check ht) _ (by omega)
theorem plRuns_ok {t : List Tok} (ht : t.length < 1048576) : ∀ r ∈ plRuns t, RnOk r := runsP_ok _ (both_in ht)
theorem plRuns_len (t : List Tok) : (plRuns t).length ≤ 316 := by
  have := runsP_len (plLit t ++ plDist t)
  rw [List.length_append, plLit_len, plDist_len] at this
  have := litN_bd t
  have := dstN_bd t
  unfold plRuns
  omega
theorem hdF_snoc (rs : List Rn) (r : Rn) : hdF (rs ++ [r]) = bump (hdF rs) r.c.toNat := by simp [hdF]
theorem hdF_len (rs : List Rn) : (hdF rs).length = 19 := by
  refine fold_snoc (β := Nat) (motive := fun rs => (hdF rs).length = 19) ?_ ?_ rs
  · exact List.length_replicate
  · intro rs r h; rw [hdF_snoc, bump_len]; exact h
theorem hdF_bd (rs : List Rn) : ∀ i, 0 ≤ ix (hdF rs) i ∧ ix (hdF rs) i ≤ rs.length := by
  refine fold_snoc (β := Nat) (motive := fun rs => ∀ i, 0 ≤ ix (hdF rs) i ∧ ix (hdF rs) i ≤ rs.length) ?_ ?_ rs
  · intro i
    have : ix (hdF []) i = 0 := by
      unfold ix hdF
      rw [List.foldl_nil, List.getD_eq_getElem?_getD, List.getElem?_replicate]
      split <;> rfl
    rw [this]; simp
  · intro rs r h i
    rw [hdF_snoc, ix_bump, List.length_append, List.length_singleton]
    have := h i
    split <;> omega
theorem hd_mv (t : List Tok) : mayV (hdF (plRuns t)) 7 = 0 :=
  mv_ok (m := 7) (by rw [hdF_len]; omega) (by omega) (fun i _ => by have := hdF_bd (plRuns t) i; have := plRuns_len t; omega) (by rw [hdF_len]; decide)
theorem plHead_len (t : List Tok) : (plHead t).length = 19 := by rw [plHead, (lenF_res _ _).1, hdF_len]
theorem plHead_check (t : List Tok) : checkOf (plHead t) 7 = 0 := by
  have h := lenF_check (m := 7) (n := 19) (hd_mv t) (by rw [hdF_len]; omega) fun i h1 h2 => by rw [hdF_len] at h2; omega
  rw [List.take_of_length_le (by have := plHead_len t; unfold plHead at this; omega)] at h
  exact h
theorem plN_bd (t : List Tok) : 4 ≤ plN t ∧ plN t ≤ 19 := ⟨trimQ_ge _ _ _ (by omega), trimQ_le _ _ _⟩
end Go.Proofs.Ytlgkiookobedcaa
namespace Go.Proofs.Ytlgkiookobedcaa
open Go.RowKit
set_option linter.unusedVariables false
theorem next_bits7 {l : List Int} {m : Int} (hc : checkOf l m = 0) {s : Nat} (h : 1 ≤ ix l s) (z : List Int) : nextOf l (symBits l s ++ z) = ((s : Int), (ix l s).toNat, 0) ∧ (symBits l s ++ z).drop (ix l s).toNat = z := by
  obtain ⟨c1, c2, c3⟩ := chk_ok hc
  have hs := sym_pos h
  have h15 := c2 s hs
  have hlen := symBits_length l s
  refine ⟨sym_next (N := (ix l s).toNat) _ (by omega) (by omega) (by omega) hs c3 ?_ ?_, ?_⟩
  · rw [← hlen]; exact List.take_left
  · rw [List.length_append, hlen]; omega
  · rw [← hlen]; exact List.drop_left
def decR (acc : List Int) (r : Rn) : List Int :=
  if r.c < 16 then acc ++ [r.c] else acc ++ List.replicate (IS.rB r.c + r.v.toNat) (if r.c = 16 then ix acc (acc.length - 1) else 0)
def okR : List Int → List Rn → Prop
  | _, [] => True
  | acc, r :: rs => RnOk r ∧ (r.c = 16 → 0 < acc.length) ∧ okR (decR acc r) rs
theorem ix_repB {n i : Nat} (a : Int) (hi : i < n) : ix (List.replicate n a) i = a := by simp [ix, hi]
theorem last_app (acc : List Int) (n : Nat) (k : Int) (hn : 0 < n) : ix (acc ++ List.replicate n k) ((acc ++ List.replicate n k).length - 1) = k := by
  rw [ix_append, List.length_append, List.length_replicate, if_neg (by omega), ix_repB _ (by omega)]
theorem rep_dec {k : Int} (hk : 0 ≤ k ∧ k ≤ 15) (rest : List Rn) : ∀ (n : Nat) (acc : List Int), (0 < k → 0 < n → 3 ≤ n → 0 < acc.length ∧ ix acc (acc.length - 1) = k) →
    (repP k n ++ rest).foldl decR acc = rest.foldl decR (acc ++ List.replicate n k) ∧ (okR (acc ++ List.replicate n k) rest → okR acc (repP k n ++ rest)) := by
  intro n
  induction n using Nat.strongRecOn with
  | _ n ih =>
    intro acc hacc
    by_cases h0 : n = 0
    · subst h0; rw [repP_zero]; simp
    have key : ∀ (r : Rn) (q : Nat), 0 < q → q ≤ n → decR acc r = acc ++ List.replicate q k → repP k n = r :: repP k (n - q) → (r.c = 16 → 0 < acc.length) → RnOk r → ((0 < k → 0 < n - q → 3 ≤ n - q → 0 < (acc ++ List.replicate q k).length ∧ ix (acc ++ List.replicate q k) ((acc ++ List.replicate q k).length - 1) = k)) →
        (repP k n ++ rest).foldl decR acc = rest.foldl decR (acc ++ List.replicate n k) ∧ (okR (acc ++ List.replicate n k) rest → okR acc (repP k n ++ rest)) := fun r q hq hqn hd he h16 hok hnx => by
      obtain ⟨i1, i2⟩ := ih (n - q) (by omega) (acc ++ List.replicate q k) hnx
      have e : acc ++ List.replicate q k ++ List.replicate (n - q) k = acc ++ List.replicate n k := by rw [List.append_assoc, List.replicate_append_replicate, show q + (n - q) = n by omega]
      rw [e] at i1 i2
      rw [he, List.cons_append, List.foldl_cons, hd]
      exact ⟨i1, fun h => ⟨hok, h16, by rw [hd]; exact i2 h⟩⟩
    have hl : ∀ q, 0 < q → (0 < k → 0 < n - q → 3 ≤ n - q → 0 < (acc ++ List.replicate q k).length ∧ ix (acc ++ List.replicate q k) ((acc ++ List.replicate q k).length - 1) = k) := fun q hq _ _ _ => ⟨by rw [List.length_append, List.length_replicate]; omega, last_app acc q k hq⟩
    have hokr := repP_ok hk n
    by_cases hk0 : k = 0
    · subst hk0
      by_cases h11 : 11 ≤ n
      · have he := repP_long h11
        rw [he] at hokr
        refine key _ (min n 138) (by omega) (by omega) ?_ he (fun h => by simp at h) (hokr _ List.mem_cons_self) (hl _ (by omega))
        unfold decR IS.rB
        simp only
        rw [if_neg (by decide), if_pos trivial, if_neg (by decide), show 11 + (((min n 138 : Nat) : Int) - 11).toNat = min n 138 by omega]
      · by_cases h3 : 3 ≤ n
        · have he := repP_short h3 h11
          rw [he] at hokr
          have he' : repP 0 n = ⟨17, (n : Int) - 3, 3⟩ :: repP 0 (n - n) := by rw [he, Nat.sub_self, repP_zero]
          refine key _ n (by omega) (Nat.le_refl _) ?_ he' (fun h => by simp at h) (hokr _ List.mem_cons_self) (fun _ h => by omega)
          unfold decR IS.rB
          simp only
          rw [if_neg (by decide), if_neg (by decide), if_neg (by decide), show 3 + ((n : Int) - 3).toNat = n by omega]
        · have he := repP_one (k := 0) h0 (.inl (by omega))
          rw [he] at hokr
          refine key _ 1 (by omega) (by omega) ?_ he (fun h => by simp at h) (hokr _ List.mem_cons_self) (hl _ (by omega))
          unfold decR
          rw [if_pos (by decide)]; rfl
    · have hkp : 0 < k := by omega
      by_cases h3 : 3 ≤ n
      · have he := repP_again hkp h3
        rw [he] at hokr
        obtain ⟨a1, a2⟩ := hacc hkp (by omega) h3
        refine key _ (min n 6) (by omega) (by omega) ?_ he (fun _ => a1) (hokr _ List.mem_cons_self) (hl _ (by omega))
        unfold decR IS.rB
        simp only
        rw [if_neg (by decide), if_neg (by decide), if_pos trivial, a2, show 3 + (((min n 6 : Nat) : Int) - 3).toNat = min n 6 by omega]
      · have he := repP_one (k := k) h0 (.inl (by omega))
        rw [he] at hokr
        refine key _ 1 (by omega) (by omega) ?_ he (fun h => by have h9 : k = 16 := h; omega) (hokr _ List.mem_cons_self) (hl _ (by omega))
        unfold decR
        rw [if_pos (by show k < 16; omega)]; rfl
theorem runN_rep (k : Int) : ∀ r : List Int, r = List.replicate (runN k r) k ++ r.drop (runN k r)
  | [] => rfl
  | x :: r => by
    unfold runN
    by_cases h : x = k
    · rw [if_pos h, List.replicate_succ, List.cons_append, List.drop_succ_cons, ← runN_rep k r, h]
    · rw [if_neg h]; rfl
theorem runs_dec : ∀ (n : Nat) (l : List Int), l.length = n → (∀ i, i < l.length → 0 ≤ ix l i ∧ ix l i ≤ 15) → ∀ acc : List Int, (runsP l).foldl decR acc = acc ++ l ∧ okR acc (runsP l) := by
  intro n
  induction n using Nat.strongRecOn with
  | _ n ih =>
    intro l hn hin acc
    cases l with
    | nil => rw [runsP_nil]; exact ⟨by simp, trivial⟩
    | cons k r =>
      have hk : 0 ≤ k ∧ k ≤ 15 := by have := hin 0 (by simp); simpa [ix] using this
      have hr := runN_rep k r
      have hin' : ∀ i, i < (r.drop (runN k r)).length → 0 ≤ ix (r.drop (runN k r)) i ∧ ix (r.drop (runN k r)) i ≤ 15 := fun i hi => by
        rw [ix_drop]
        have := hin (runN k r + i + 1) (by rw [List.length_drop] at hi; simp; omega)
        simpa [ix] using this
      have hlt : (r.drop (runN k r)).length < n := by rw [← hn, List.length_drop, List.length_cons]; omega
      rw [runsP_cons]
      by_cases hkp : 0 < k
      · rw [if_pos hkp]
        obtain ⟨d1, d2⟩ := rep_dec hk (runsP (r.drop (runN k r))) (runN k r) (acc ++ [k]) (fun _ _ _ => ⟨by simp, last_app acc 1 k (by omega)⟩)
        obtain ⟨i1, i2⟩ := ih _ hlt _ rfl hin' (acc ++ [k] ++ List.replicate (runN k r) k)
        have hdk : decR acc ⟨k, 0, 0⟩ = acc ++ [k] := by unfold decR; rw [if_pos (by show k < 16; omega)]
        rw [List.cons_append, List.foldl_cons, hdk, d1, i1]
        refine ⟨?_, ⟨⟨by dsimp only; omega, by simp, by simp, by simp, by simp, by dsimp only; omega, by dsimp only; omega, by dsimp only; omega⟩, fun h => by have h9 : k = 16 := h; omega, by rw [hdk]; exact d2 i2⟩⟩
        rw [List.append_assoc, ← hr, List.append_assoc]; rfl
      · rw [if_neg hkp]
        obtain ⟨d1, d2⟩ := rep_dec hk (runsP (r.drop (runN k r))) (runN k r + 1) acc (fun h => absurd h hkp)
        obtain ⟨i1, i2⟩ := ih _ hlt _ rfl hin' (acc ++ List.replicate (runN k r + 1) k)
        rw [d1, i1]
        refine ⟨?_, d2 i2⟩
        rw [List.append_assoc, List.replicate_succ, List.cons_append, ← hr]
end Go.Proofs.Ytlgkiookobedcaa
