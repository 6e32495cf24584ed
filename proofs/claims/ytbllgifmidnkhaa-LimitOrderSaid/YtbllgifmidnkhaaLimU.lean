/-
  Plain law: the cost of the limit's lengths does not depend on the order of the symbols.
-/
import Derived.Test.YtbllgifmidnkhaaLimT
namespace Go.Proofs.Ytbllgifmidnkhaa
open Go.RowKit
set_option linter.unusedVariables false
def prP (f l : List Int) (s : Int) : Int × Int := (ix f s.toNat, ix l s.toNat)
theorem take_ix {l : List Int} {k : Nat} (h : k < l.length) : l.take (k + 1) = l.take k ++ [ix l k] := by
  rw [List.take_succ_eq_append_getElem h]; simp [ix, h]
theorem pos_zip {f l : List Int} (hl : l.length = f.length) : ∀ k : Nat, k ≤ f.length → (posI f k).map (prP f l) = ((f.take k).zip (l.take k)).filter fun p => decide (0 < p.1)
  | 0, _ => by simp [posI]
  | k + 1, h => by
    rw [posI, List.map_append, pos_zip hl k (by omega), take_ix (l := f) (by omega), take_ix (l := l) (by omega), List.zip_append (by rw [List.length_take, List.length_take]; omega), List.filter_append]
    congr 1
    by_cases hp : 0 < ix f k
    · simp [hp, prP]
    · simp [hp]
/-- the symbols in another order -/
def rotI (k : Nat) (f : List Int) : List Int := f.drop k ++ f.take k
theorem rot_length (k : Nat) (f : List Int) : (rotI k f).length = f.length := by
  unfold rotI; rw [List.length_append, List.length_drop, List.length_take]; omega
theorem rot_perm (k : Nat) (f : List Int) : (rotI k f).Perm f := by
  unfold rotI
  exact List.perm_append_comm.trans (by rw [List.take_append_drop])
theorem rot_back {k : Nat} {f : List Int} (h : k ≤ f.length) : rotI (f.length - k) (rotI k f) = f := by
  unfold rotI
  rw [List.drop_left' (by rw [List.length_drop]), List.take_left' (by rw [List.length_drop]), List.take_append_drop]
theorem rot_pos {f l : List Int} (hl : l.length = f.length) (k : Nat) : ((posI (rotI k f) f.length).map (prP (rotI k f) (rotI k l))).Perm ((posI f f.length).map (prP f l)) := by
  have h1 := pos_zip (f := rotI k f) (l := rotI k l) (by rw [rot_length, rot_length]; exact hl) f.length (by rw [rot_length]; exact Nat.le_refl _)
  rw [h1, pos_zip hl f.length (Nat.le_refl _), List.take_of_length_le (by rw [rot_length]; exact Nat.le_refl _), List.take_of_length_le (by rw [rot_length]; omega), List.take_of_length_le (Nat.le_refl _), List.take_of_length_le (by omega)]
  refine List.Perm.filter _ ?_
  have : (rotI k f).zip (rotI k l) = (f.zip l).drop k ++ (f.zip l).take k := by
    unfold rotI
    rw [List.zip_append (by rw [List.length_drop, List.length_drop]; omega), show (f.zip l).drop k = (f.drop k).zip (l.drop k) from List.drop_zipWith, show (f.zip l).take k = (f.take k).zip (l.take k) from List.take_zipWith]
  rw [this]
  exact List.perm_append_comm.trans (by rw [List.take_append_drop])
theorem rot_count (k : Nat) (f : List Int) : (posI (rotI k f) f.length).length = (posI f f.length).length := by
  have := (rot_pos (l := f) rfl k).length_eq
  simpa using this
theorem rot_may (k : Nat) (f : List Int) (m : Int) : mayV (rotI k f) m = mayV f m := by
  unfold mayV
  rw [rot_length, rot_count]
  have : badB (rotI k f) = badB f := by
    unfold badB
    exact Bool.eq_iff_iff.2 (by simp only [List.any_eq_true]; constructor <;> rintro ⟨x, h1, h2⟩ <;> exact ⟨x, by first | exact (rot_perm k f).mem_iff.1 h1 | exact (rot_perm k f).mem_iff.2 h1, h2⟩)
  rw [this]
theorem cst_pr (f l : List Int) (F : Int × Int → Int) : ((posI f f.length).map fun s => F (prP f l s)).sum = (((posI f f.length).map (prP f l)).map F).sum := by rw [List.map_map]; rfl
theorem LenRes.rot_le {f L L2 : List Int} {m k : Nat} (hR : LenRes f m L) (hR2 : LenRes (rotI k f) m L2) (hmv : mayV f (m : Int) = 0) (h2 : 2 ≤ (posI f f.length).length) : costTo L2 (rotI k f) f.length ≤ costTo L f f.length := by
  obtain ⟨a1, a2, a3, -, -⟩ := hR.three hmv h2
  obtain ⟨-, -, -, -, b5⟩ := hR2.three (by rw [rot_may]; exact hmv) (by rw [rot_length, rot_count]; exact h2)
  have hp := rot_pos (l := L) hR.1 k
  have hmem : ∀ s ∈ posI (rotI k f) f.length, ∃ t ∈ posI f f.length, prP f L t = prP (rotI k f) (rotI k L) s := fun s hs => by
    have := hp.mem_iff.1 (List.mem_map.2 ⟨s, hs, rfl⟩)
    obtain ⟨t, ht, e⟩ := List.mem_map.1 this
    exact ⟨t, ht, e⟩
  have hb := b5 (fun s => (ix (rotI k L) s.toNat).toNat) (fun s hs => by
    rw [rot_length] at hs
    obtain ⟨t, ht, e⟩ := hmem s hs
    have := a1 t ht
    have e2 : ix L t.toNat = ix (rotI k L) s.toNat := congrArg Prod.snd e
    rw [← e2]; omega) (by
    have e : krP (rotI k f) m (fun s => (ix (rotI k L) s.toNat).toNat) = krP f m (fun s => (ix L s.toNat).toNat) := by
      unfold krP
      rw [rot_length]
      have := sum_perm (hp.map fun p => 2 ^ (m - p.2.toNat))
      rw [List.map_map, List.map_map] at this
      exact this
    rw [e, a2]; exact Nat.le_refl _)
  rw [rot_length] at hb
  refine Int.le_trans hb (Int.le_of_eq ?_)
  rw [a3]
  unfold cstP
  rw [rot_length]
  have := sumI_perm (hp.map fun p => p.1 * ((p.2.toNat : Nat) : Int))
  rw [List.map_map, List.map_map] at this
  refine Eq.trans this ?_
  congr 1
  exact List.map_congr_left fun s hs => by have := (a1 s hs).1; show _ * (((ix L s.toNat).toNat : Nat) : Int) = _ * ix L s.toNat; congr 1; omega
theorem LenRes.few_cost {f L : List Int} {m : Nat} (hR : LenRes f m L) (hmv : mayV f (m : Int) = 0) (h2 : (posI f f.length).length < 2) : costTo L f f.length = ((posI f f.length).map (fqI f)).sum := by
  obtain ⟨m1, m2, m3, m4, m5⟩ := may_ok hmv
  obtain ⟨-, hR⟩ := hR
  have hx : ∀ i : Nat, i < f.length → 0 < ix f i → ix L i = 1 := fun i hi h0 => by
    have hpi : (i : Int) ∈ posI f f.length := (pos_gt _ _).2 ⟨i, hi, rfl, h0⟩
    rcases hR with ⟨h, h1⟩ | ⟨s, h, h1⟩ | ⟨S, hp, hs, hS2, hL⟩
    · rw [h] at hpi; simp at hpi
    · rw [h] at hpi; rw [h1 i hi, if_pos (by simpa using hpi)]
    · rw [hp.length_eq] at hS2; omega
  rw [cost_pos L f f.length fun i hi h0 => by have := hx i hi h0; have := (m4 i hi).2; omega]
  congr 1
  exact List.map_congr_left fun s hs => by
    obtain ⟨i, hi, rfl, h0⟩ := (pos_gt _ _).1 hs
    rw [Int.toNat_natCast, hx i hi h0, Int.mul_one]
/-- the cost does not depend on the order of the symbols -/
theorem LenRes.rot {f L L2 : List Int} {m k : Nat} (hk : k ≤ f.length) (hR : LenRes f m L) (hR2 : LenRes (rotI k f) m L2) (hmv : mayV f (m : Int) = 0) : costTo L2 (rotI k f) f.length = costTo L f f.length := by
  by_cases h2 : 2 ≤ (posI f f.length).length
  · refine Int.le_antisymm (hR.rot_le hR2 hmv h2) ?_
    have := hR2.rot_le (k := f.length - k) (L2 := L) (by rw [rot_back hk]; exact hR) (by rw [rot_may]; exact hmv) (by rw [rot_length, rot_count]; exact h2)
    rw [rot_back hk, rot_length] at this
    exact this
  · rw [hR.few_cost hmv (by omega)]
    have := hR2.few_cost (by rw [rot_may]; exact hmv) (by rw [rot_length, rot_count]; omega)
    rw [rot_length] at this
    rw [this]
    have h3 := sumI_perm ((rot_pos (l := f) rfl k).map fun p => p.1)
    rw [List.map_map, List.map_map] at h3
    exact h3
end Go.Proofs.Ytbllgifmidnkhaa
