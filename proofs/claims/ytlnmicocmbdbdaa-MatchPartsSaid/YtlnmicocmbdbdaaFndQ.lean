/-
  Plain law: the finder's tokens stand for the bytes; they are told alike however the bytes come; a byte that comes often has few.
-/
import Derived.Test.YtlnmicocmbdbdaaFndP
import Derived.Test.YtlnmicocmbdbdaaTokM
namespace Go.Proofs.Ytlnmicocmbdbdaa
open Go Go.RowKit
set_option linter.unusedVariables false

theorem ext_ix2 {a b : List Int} (hl : a.length = b.length) (h : ∀ i, i < a.length → ix a i = ix b i) : a = b := by
  apply List.ext_getElem hl
  intro i h1 h2
  have := h i h1
  simpa [ix, h1, h2] using this
theorem ix_take (l : List Int) {n i : Nat} (h : i < n) : ix (l.take n) i = ix l i := by
  unfold ix
  simp only [List.getD_eq_getElem?_getD, List.getElem?_take, if_pos h]
/-- bytes that stood there already, again -/
theorem again_is {D : List Int} {at_ N d : Nat} (h1 : 1 ≤ d) (h2 : d ≤ at_) (h3 : at_ + N ≤ D.length) (h : ∀ i, i < N → ix D (at_ - d + i) = ix D (at_ + i)) : D.take at_ ++ again (D.take at_) d N = D.take (at_ + N) := by
  have hla : (D.take at_).length = at_ := by simp; omega
  have key : ∀ i, i < N → ix D (at_ + i) = ix D (at_ - d + i % d) := by
    intro i
    induction i using Nat.strongRecOn with
    | _ i ih =>
      intro hi
      by_cases hd : i < d
      · rw [Nat.mod_eq_of_lt hd, h i hi]
      · have h4 := ih (i - d) (by omega) (by omega)
        have h5 := h i hi
        rw [show at_ - d + i = at_ + (i - d) by omega, h4, ← Nat.mod_eq_sub_mod (by omega)] at h5
        exact h5.symm
  apply ext_ix2
  · simp [again_length]; omega
  · intro i hi
    rw [List.length_append, again_length, hla] at hi
    rw [ix_append, hla]
    by_cases hlt : i < at_
    · rw [if_pos hlt, ix_take _ hlt, ix_take _ (by omega)]
    · rw [if_neg hlt, ix_again _ _ _ (by omega), hla, ix_take _ (by have := Nat.mod_lt (i - at_) (show 0 < d by omega); omega), ix_take _ (by omega)]
      have := key (i - at_) (by omega)
      rw [show at_ + (i - at_) = i by omega] at this
      exact this.symm
theorem take_one (D : List Int) {n : Nat} (h : n < D.length) : D.take n ++ [ix D n] = D.take (n + 1) := by
  rw [List.take_succ_eq_append_getElem h]
  simp [ix, h]
/-- one token's bytes -/
theorem next_step {e : Eff} {st : FSt} (h : st.Ok st.at_) (hlt : st.at_ < st.D.length) (hbig : st.D.length ≤ 16777216) : step (st.D.take st.at_) (nextF e st).1 = (0, st.D.take (nextF e st).2.at_) := by
  obtain ⟨N, h1, h2, h3, -, -, h6, -, h7⟩ := next_ok (e := e) h hlt
  have hla : (st.D.take st.at_).length = st.at_ := by simp; omega
  rw [h6]
  rcases h7 with ⟨ht, rfl⟩ | ⟨d, ht, hg, -, h8⟩
  · rw [ht]
    unfold step litAt
    have hs : soundT ⟨ix st.D st.at_, 0, 0⟩ := by unfold soundT; simp
    rw [if_neg (by simpa using hs), hla, if_neg (by simp only; omega), if_pos rfl]
    simp only
    rw [take_one _ hlt]
  · rw [ht]
    rcases hg with ⟨hz, -⟩ | ⟨g1, g2, g3, g4, g5, g6, g7⟩
    · simp only at hz; omega
    · simp only at g1 g2 g3 g4 g5 g6 g7
      unfold step
      have hs : soundT ⟨0, N, d⟩ := by unfold soundT; rw [if_neg (show ¬ (N : Int) = 0 by omega)]; exact ⟨rfl, show (3 : Int) ≤ N by omega, show (N : Int) ≤ 258 by omega, show (1 : Int) ≤ d by omega, show (d : Int) ≤ 32768 by omega⟩
      have e1 : ¬ (16777216 < ((st.at_ : Nat) : Int) + max (N : Int) 1) := by omega
      have e2 : ¬ ((N : Int) = 0) := by omega
      have e3 : ¬ (((st.at_ : Nat) : Int) < (d : Int)) := by omega
      rw [if_neg (by simpa using hs), hla]
      simp only [if_neg e1, if_neg e2, if_neg e3, Int.toNat_natCast]
      rw [again_is g4 g6 h3 g7]
theorem run_expand {e : Eff} {left : Nat} {st st' : FSt} {l : List Tok} (h : Run e left st l st') (hok : st.Ok st.at_) (hbig : st.D.length ≤ 16777216) (out : List Int) (pre : List Tok) (hp : expand [] pre = (0, st.D.take st.at_)) : expand [] (pre ++ l) = (0, st'.D.take st'.at_) := by
  induction h with
  | nil => rw [List.append_nil]; exact hp
  | snoc h1 h2 ih =>
    obtain ⟨i1, i2, i3, i4⟩ := run_ok h1 hok
    have hs := next_step (e := e) i1 (by omega) (by rw [i2]; exact hbig)
    obtain ⟨N, n1, -, -, n4, n5, n6, n7, -⟩ := next_ok (e := e) i1 (by omega)
    rw [← List.append_assoc, expand_append, ih]
    simp only [if_pos]
    rw [expand_cons, hs]
    simp only [if_pos]
    rw [n5]; rfl
end Go.Proofs.Ytlnmicocmbdbdaa
