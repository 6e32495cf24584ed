/-
  Plain law: a symbol's bits are read as it; what is read as a symbol is its bits; by a whole code all bits are symbols.
-/
import Derived.Test.YtckhkkjdibcclaaTReadP
import Derived.Test.YtckhkkjdibcclaaSymP
import Derived.Test.YtckhkkjdibcclaaDoneP
namespace Go.Proofs.Ytckhkkjdibcclaa
open Go Go.RowKit
set_option linter.unusedVariables false

theorem take_last (x : List Int) {n : Nat} (h : n < x.length) : x.take (n + 1) = x.take n ++ [ix x n] := by
  rw [List.take_succ_eq_append_getElem h]
  congr 2
  simp [ix, h]
theorem hv_num (x : List Int) {n : Nat} (h : n ≤ x.length) : hv x n = numI (x.take n).reverse := by
  induction n with
  | zero => rfl
  | succ n ih =>
    rw [take_last x (by omega), List.reverse_append, hv, ih (by omega)]
    show _ = ix x n + 2 * numI (x.take n).reverse
    omega
theorem Bit.rev {l : List Int} (h : Bit l) : Bit l.reverse := fun x hx => h x (List.mem_reverse.1 hx)
theorem symBits_eq (l : List Int) (s : Nat) : symBits l s = (ofN (codeAt l s) (ix l s).toNat).reverse := by
  have h := ofN_numI (Bit.rev (Bit.ofN (codeAt l s) (ix l s).toNat))
  rw [List.length_reverse, ofN_length] at h
  exact h
theorem symBits_length (l : List Int) (s : Nat) : (symBits l s).length = (ix l s).toNat := by unfold symBits; rw [ofN_length]
theorem Bit.sym (l : List Int) (s : Nat) : Bit (symBits l s) := Bit.ofN _ _
/-- what Check at most says of lengths -/
theorem check_ok' {l : List Int} {most : Int} (h : checkOf l most = 0) : l.length ≤ 288 ∧ (∀ i, i < l.length → 0 ≤ ix l i ∧ ix l i ≤ 15) ∧ sumTo l l.length ≤ 32768 := by
  unfold checkOf at h
  split at h
  · simp at h
  · split at h
    · simp at h
    · split at h
      · simp at h
      · rename_i h1 h2 h3
        refine ⟨by omega, ?_, by omega⟩
        have : inTo l most l.length = true := by simpa using h2
        have h4 : ∀ i, i < l.length → 0 ≤ ix l i ∧ ix l i ≤ most := by simpa [inTo] using this
        exact fun i hi => ⟨(h4 i hi).1, by have := (h4 i hi).2; omega⟩
theorem tot_end {l : List Int} {m : Nat} (h1 : 1 ≤ m) (h2 : m ≤ 15) : (nxt l m + cnt l l.length m) * p15 m = tot l l.length m := by
  obtain ⟨u, rfl⟩ : ∃ u, m = u + 1 := ⟨m - 1, by omega⟩
  rw [Nat.add_mul, nxt_tot l (u + 1) h1 h2]
  rfl
theorem sym_hv {l : List Int} {s N m : Nat} (x : List Int) (e : ix l s = N) (h1 : 1 ≤ N) (h15 : N ≤ 15) (hs : s < l.length) (hS : sumTo l l.length ≤ 32768) (hx : x.take N = symBits l s) (hm : m ≤ N) (hl : N ≤ x.length) : hv x m = ((codeAt l s / 2 ^ (N - m) : Nat) : Int) := by
  have hf := code_fits h1 h15 e hs hS
  rw [hv_num x (by omega)]
  have : x.take m = (symBits l s).take m := by rw [← hx, List.take_take, Nat.min_eq_left hm]
  rw [this, symBits_eq, e, Int.toNat_natCast, List.reverse_take, List.reverse_reverse, List.length_reverse, ofN_length, numI_drop (Bit.ofN _ _), numI_ofN]
  rw [Int.emod_eq_of_lt (by omega) (by rw [← cast_pow2]; omega)]
  rw [Int.natCast_ediv, cast_pow2]
theorem sym_next {l : List Int} {s N : Nat} (x : List Int) (e : ix l s = N) (h1 : 1 ≤ N) (h15 : N ≤ 15) (hs : s < l.length) (hS : sumTo l l.length ≤ 32768) (hx : x.take N = symBits l s) (hl : N ≤ x.length) : nextOf l x = ((s : Int), N, 0) := by
  have hc := codeAt_yes h1 h15 e
  have hcs := cnt_strict hs e
  have hno : ∀ m, m < N → fh l x m = 0 := by
    intro m
    induction m with
    | zero => intro _; rfl
    | succ m ih =>
      intro hm
      rw [fh_zero_succ (ih (by omega)), if_neg]
      unfold hitB
      rw [sym_hv x e h1 h15 hs hS hx (Nat.le_of_lt hm) hl]
      have a := tot_end (l := l) (show 1 ≤ m + 1 by omega) (by omega)
      have b : tot l l.length (m + 1) ≤ placeOf l s := by
        rw [placeOf_eq h1 h15 e]
        have := tot_mono l l.length (show m + 1 ≤ N - 1 by omega)
        omega
      unfold placeOf at b
      rw [e, Int.toNat_natCast, ← a, p15_mul (Nat.le_of_lt hm) h15, ← Nat.mul_assoc] at b
      have c := Nat.le_of_mul_le_mul_right b (p15_bd N).1
      have d := (Nat.le_div_iff_mul_le (Nat.two_pow_pos (N - (m + 1)))).2 c
      simp only [decide_eq_true_eq]
      omega
  have hfN : fh l x N = N := by
    obtain ⟨u, rfl⟩ : ∃ u, N = u + 1 := ⟨N - 1, by omega⟩
    rw [fh_zero_succ (hno u (by omega)), if_pos]
    unfold hitB
    rw [sym_hv x e h1 h15 hs hS hx (Nat.le_refl _) hl, Nat.sub_self, Nat.pow_zero, Nat.div_one, hc]
    simp only [decide_eq_true_eq]
    omega
  have hlg : N ≤ lgT l 15 := by
    rcases Nat.lt_or_ge (lgT l 15) N with h | h
    · have := lgT_above l h h15; omega
    · exact h
  have hF : fh l x (min x.length (lgT l 15)) = N := by rw [fh_keep (m := N) (by rw [hfN]; omega) (by omega), hfN]
  rw [nextOf_eq]
  unfold nextB
  rw [hF, if_pos (by omega), sym_hv x e h1 h15 hs hS hx (Nat.le_refl _) hl, Nat.sub_self, Nat.pow_zero, Nat.div_one, hc]
  have : (((nxt l N + cnt l s N : Nat) : Int) - (nxt l N : Int)).toNat = cnt l s N := by omega
  rw [this]
  unfold selS
  rw [idxs_at l hs e]
theorem next_sym {l x : List Int} (hb : Bit x) (h : (nextOf l x).2.2 = 0) : ∃ s N : Nat, nextOf l x = ((s : Int), N, 0) ∧ s < l.length ∧ ix l s = N ∧ 1 ≤ N ∧ N ≤ 15 ∧ N ≤ x.length ∧ x.take N = symBits l s := by
  have hp := nextOf_pos h
  rw [nextOf_eq] at h hp ⊢
  obtain ⟨F, hF⟩ : ∃ F, fh l x (min x.length (lgT l 15)) = F := ⟨_, rfl⟩
  unfold nextB at h hp ⊢
  rw [hF] at h hp ⊢
  by_cases hf : F = 0
  · rw [if_neg (by omega)] at h
    split at h
    · simp at h
    · split at h <;> simp at h
  · rw [if_pos hf] at hp ⊢
    simp only at hp
    have hit : hitB l x F = true ∧ ∀ m, m < F → fh l x m = 0 := by
      have key : ∀ M, fh l x M = F → hitB l x F = true ∧ ∀ m, m < F → fh l x m = 0 := by
        intro M
        induction M with
        | zero => intro h0; exact absurd h0.symm hf
        | succ M ih =>
          intro h0
          by_cases e : fh l x M = 0
          · rw [fh_zero_succ e] at h0
            split at h0
            · rename_i hh
              subst h0
              exact ⟨hh, fun m hm => fh_all e m (by omega)⟩
            · omega
          · exact ih ((fh_keep e (Nat.le_succ M)).symm.trans h0)
      exact key _ hF
    obtain ⟨p, rfl⟩ : ∃ p, F = p + 1 := ⟨F - 1, by omega⟩
    have hge := hv_ge hb (n := p) (fun m hm => hit.2 m (by omega))
    have hlt := hit.1
    unfold hitB at hlt
    simp only [decide_eq_true_eq] at hlt
    obtain ⟨J, hJ⟩ := Int.eq_ofNat_of_zero_le (show 0 ≤ hv x (p + 1) - (nxt l (p + 1) : Int) by omega)
    obtain ⟨s, hs1, hs2, hs3, hs4⟩ := idxs_back l (n := p + 1) (j := J) (k := l.length) (by omega)
    refine ⟨s, p + 1, ?_, hs1, hs2, by omega, hp.2.2, hp.2.1, ?_⟩
    · have : (hv x (p + 1) - (nxt l (p + 1) : Int)).toNat = J := by omega
      rw [this]; unfold selS; rw [hs4]
    · have hc := codeAt_yes (show 1 ≤ p + 1 by omega) hp.2.2 hs2
      rw [symBits_eq, hs2, Int.toNat_natCast, hc, hs3]
      have e1 : ((nxt l (p + 1) + J : Nat) : Int) = numI (x.take (p + 1)).reverse := by rw [← hv_num x hp.2.1]; omega
      have e2 := ofN_numI (Bit.rev (hb.take_ (p + 1)))
      rw [List.length_reverse, List.length_take, Nat.min_eq_left hp.2.1] at e2
      rw [e1, e2, List.reverse_reverse]
theorem whole_next {l x : List Int} (hb : Bit x) (hS : sumTo l l.length = 32768) : (nextOf l x).2.2 = 0 ∨ ((nextOf l x).2.2 = 5 ∧ x.length < 15) := by
  rw [nextOf_eq]
  unfold nextB
  have hlg := lgT_le l 15
  by_cases hf : fh l x (min x.length (lgT l 15)) = 0
  · rw [if_neg (by omega)]
    by_cases h1 : min x.length (lgT l 15) < lgT l 15
    · rw [if_pos h1]; exact .inr ⟨rfl, by omega⟩
    · exfalso
      have hm : min x.length (lgT l 15) = lgT l 15 := by omega
      rw [hm] at hf
      have ht : tot l l.length 15 = tot l l.length (lgT l 15) := by
        have : ∀ m, lgT l 15 ≤ m → m ≤ 15 → tot l l.length m = tot l l.length (lgT l 15) := by
          intro m
          induction m with
          | zero => intro h _; obtain e : lgT l 15 = 0 := by omega
                    rw [e]
          | succ m ih =>
            intro h h2
            by_cases e : lgT l 15 = m + 1
            · rw [e]
            · rw [tot, lgT_above l (show lgT l 15 < m + 1 by omega) h2, ih (by omega) (by omega)]; simp
        exact this 15 hlg (Nat.le_refl _)
      rw [tot_sum, hS] at ht
      rcases Nat.eq_zero_or_pos (lgT l 15) with h0 | h0
      · rw [h0] at ht; simp [tot] at ht
      · obtain ⟨u, hu⟩ : ∃ u, lgT l 15 = u + 1 := ⟨lgT l 15 - 1, by omega⟩
        rw [hu] at hf ht hlg
        have h2 := fh_all hf u (by omega)
        rw [fh_zero_succ h2] at hf
        have h3 : hitB l x (u + 1) = false := by
          cases hh : hitB l x (u + 1)
          · rfl
          · rw [hh] at hf; simp at hf
        unfold hitB at h3
        simp only [decide_eq_false_iff_not] at h3
        have h4 := (hv_bd hb (u + 1)).2
        have h5 := tot_end (l := l) (show 1 ≤ u + 1 by omega) hlg
        rw [← ht] at h5
        have h6 : nxt l (u + 1) + cnt l l.length (u + 1) < 2 ^ (u + 1) := by
          have : ((nxt l (u + 1) + cnt l l.length (u + 1) : Nat) : Int) < ((2 ^ (u + 1) : Nat) : Int) := by rw [cast_pow2]; omega
          omega
        have h7 := p15_mul (Nat.zero_le (u + 1)) hlg
        rw [p15_zero, Nat.sub_zero] at h7
        have h8 := Nat.mul_lt_mul_of_pos_right h6 (p15_bd (u + 1)).1
        omega
  · rw [if_pos hf]; exact .inl rfl
end Go.Proofs.Ytckhkkjdibcclaa
