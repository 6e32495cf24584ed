/-
  Several texts in one (written by pack2.py): TBackP, BkP, InfQ, InfO, InfR.
-/
import Derived.Test.YtlgkiookobedcaaPk6
import Derived.Test.YtlgkiookobedcaaPk5
import Derived.Test.YtlgkiookobedcaaPk7
import Derived.Test.YtlgkiookobedcaaPk1
import Derived.Test.YtlgkiookobedcaaPk4
namespace Go.Proofs.Ytlgkiookobedcaa
open Go Go.RowKit
set_option linter.unusedVariables false
theorem take_last (x : List Int) {n : Nat} (h : n < x.length) : x.take (n + 1) = x.take n ++ [ix x n] := by
  rw [List.take_succ_eq_append_getElem h]
  congr 2
  simp [ix, h]
theorem hv_num (x : List Int) {n : Nat} (h : n ≤ x.length) : hv x n = numI (x.take n).reverse := by
  induction n with
  | zero => rfl
  | succ n ih =>
    rw [take_last x (by omega), List.reverse_append, hv, ih (by omega)]
    show _ = ix x n + 2 * numI (x.take n).reverse
    omega
theorem Bit.rev {l : List Int} (h : Bit l) : Bit l.reverse := fun x hx => h x (List.mem_reverse.1 hx)
theorem symBits_eq (l : List Int) (s : Nat) : symBits l s = (ofN (codeAt l s) (ix l s).toNat).reverse := by
  have h := ofN_numI (Bit.rev (Bit.ofN (codeAt l s) (ix l s).toNat))
  rw [List.length_reverse, ofN_length] at h
  exact h
theorem symBits_length (l : List Int) (s : Nat) : (symBits l s).length = (ix l s).toNat := by unfold symBits; rw [ofN_length]
theorem Bit.sym (l : List Int) (s : Nat) : Bit (symBits l s) := Bit.ofN _ _
theorem check_ok' {l : List Int} {most : Int} (h : checkOf l most = 0) : l.length ≤ 288 ∧ (∀ i, i < l.length → 0 ≤ ix l i ∧ ix l i ≤ 15) ∧ sumTo l l.length ≤ 32768 := by
  unfold checkOf at h
  split at h
  · simp at h
  · split at h
    · simp at h
    · split at h
      · simp at h
      · rename_i h1 h2 h3
        refine ⟨by omega, ?_, by omega⟩
        have : inTo l most l.length = true := by simpa using h2
        have h4 : ∀ i, i < l.length → 0 ≤ ix l i ∧ ix l i ≤ most := by simpa [inTo] using this
        exact fun i hi => ⟨(h4 i hi).1, by have := (h4 i hi).2; omega⟩
theorem tot_end {l : List Int} {m : Nat} (h1 : 1 ≤ m) (h2 : m ≤ 15) : (nxt l m + cnt l l.length m) * p15 m = tot l l.length m := by
  obtain ⟨u, rfl⟩ : ∃ u, m = u + 1 := ⟨m - 1, by omega⟩
  rw [Nat.add_mul, nxt_tot l (u + 1) h1 h2]
  rfl
theorem sym_hv {l : List Int} {s N m : Nat} (x : List Int) (e : ix l s = N) (h1 : 1 ≤ N) (h15 : N ≤ 15) (hs : s < l.length) (hS : sumTo l l.length ≤ 32768) (hx : x.take N = symBits l s) (hm : m ≤ N) (hl : N ≤ x.length) : hv x m = ((codeAt l s / 2 ^ (N - m) : Nat) : Int) := by
  have hf := code_fits h1 h15 e hs hS
  rw [hv_num x (by omega)]
  have : x.take m = (symBits l s).take m := by rw [← hx, List.take_take, Nat.min_eq_left hm]
  rw [this, symBits_eq, e, Int.toNat_natCast, List.reverse_take, List.reverse_reverse, List.length_reverse, ofN_length, numI_drop (Bit.ofN _ _), numI_ofN]
  rw [Int.emod_eq_of_lt (by omega) (by rw [← cast_pow2]; omega)]
  rw [Int.natCast_ediv, cast_pow2]
theorem sym_next {l : List Int} {s N : Nat} (x : List Int) (e : ix l s = N) (h1 : 1 ≤ N) (h15 : N ≤ 15) (hs : s < l.length) (hS : sumTo l l.length ≤ 32768) (hx : x.take N = symBits l s) (hl : N ≤ x.length) : nextOf l x = ((s : Int), N, 0) := by
  have hc := codeAt_yes h1 h15 e
  have hcs := cnt_strict hs e
  have hno : ∀ m, m < N → fh l x m = 0 := by
    intro m
    induction m with
    | zero => intro _; rfl
    | succ m ih =>
      intro hm
      rw [fh_zero_succ (ih (by omega)), if_neg]
      unfold hitB
      rw [sym_hv x e h1 h15 hs hS hx (Nat.le_of_lt hm) hl]
      have a := tot_end (l := l) (show 1 ≤ m + 1 by omega) (by omega)
      have b : tot l l.length (m + 1) ≤ placeOf l s := by
        rw [placeOf_eq h1 h15 e]
        have := tot_mono l l.length (show m + 1 ≤ N - 1 by omega)
        omega
      unfold placeOf at b
      rw [e, Int.toNat_natCast, ← a, p15_mul (Nat.le_of_lt hm) h15, ← Nat.mul_assoc] at b
      have c := Nat.le_of_mul_le_mul_right b (p15_bd N).1
      have d := (Nat.le_div_iff_mul_le (Nat.two_pow_pos (N - (m + 1)))).2 c
      simp only [decide_eq_true_eq]
      omega
  have hfN : fh l x N = N := by
    obtain ⟨u, rfl⟩ : ∃ u, N = u + 1 := ⟨N - 1, by omega⟩
    rw [fh_zero_succ (hno u (by omega)), if_pos]
    unfold hitB
    rw [sym_hv x e h1 h15 hs hS hx (Nat.le_refl _) hl, Nat.sub_self, Nat.pow_zero, Nat.div_one, hc]
    simp only [decide_eq_true_eq]
    omega
  have hlg : N ≤ lgT l 15 := by
    rcases Nat.lt_or_ge (lgT l 15) N with h | h
    · have := lgT_above l h h15; omega
    · exact h
  have hF : fh l x (min x.length (lgT l 15)) = N := by rw [fh_keep (m := N) (by rw [hfN]; omega) (by omega), hfN]
  rw [nextOf_eq]
  unfold nextB
  rw [hF, if_pos (by omega), sym_hv x e h1 h15 hs hS hx (Nat.le_refl _) hl, Nat.sub_self, Nat.pow_zero, Nat.div_one, hc]
  have : (((nxt l N + cnt l s N : Nat) : Int) - (nxt l N : Int)).toNat = cnt l s N := by omega
  rw [this]
  unfold selS
  rw [idxs_at l hs e]
theorem next_sym {l x : List Int} (hb : Bit x) (h : (nextOf l x).2.2 = 0) : ∃ s N : Nat, nextOf l x = ((s : Int), N, 0) ∧ s < l.length ∧ ix l s = N ∧ 1 ≤ N ∧ N ≤ 15 ∧ N ≤ x.length ∧ x.take N = symBits l s := by
  have hp := nextOf_pos h
  rw [nextOf_eq] at h hp ⊢
  obtain ⟨F, hF⟩ : ∃ F, fh l x (min x.length (lgT l 15)) = F := ⟨_, rfl⟩
  unfold nextB at h hp ⊢
  rw [hF] at h hp ⊢
  by_cases hf : F = 0
  · rw [if_neg (by omega)] at h
    split at h
    · simp at h
    · split at h <;> simp at h
  · rw [if_pos hf] at hp ⊢
    simp only at hp
    have hit : hitB l x F = true ∧ ∀ m, m < F → fh l x m = 0 := by
      have key : ∀ M, fh l x M = F → hitB l x F = true ∧ ∀ m, m < F → fh l x m = 0 := by
        intro M
        induction M with
        | zero => intro h0; exact absurd h0.symm hf
        | succ M ih =>
          intro h0
          by_cases e : fh l x M = 0
          · rw [fh_zero_succ e] at h0
            split at h0
            · rename_i hh
              subst h0
              exact ⟨hh, fun m hm => fh_all e m (by omega)⟩
            · omega
          · exact ih ((fh_keep e (Nat.le_succ M)).symm.trans h0)
      exact key _ hF
    obtain ⟨p, rfl⟩ : ∃ p, F = p + 1 := ⟨F - 1, by omega⟩
    have hge := hv_ge hb (n := p) (fun m hm => hit.2 m (by omega))
    have hlt := hit.1
    unfold hitB at hlt
    simp only [decide_eq_true_eq] at hlt
    obtain ⟨J, hJ⟩ := Int.eq_ofNat_of_zero_le (show 0 ≤ hv x (p + 1) - (nxt l (p + 1) : Int) by omega)
    obtain ⟨s, hs1, hs2, hs3, hs4⟩ := idxs_back l (n := p + 1) (j := J) (k := l.length) (by omega)
    refine ⟨s, p + 1, ?_, hs1, hs2, by omega, hp.2.2, hp.2.1, ?_⟩
    · have : (hv x (p + 1) - (nxt l (p + 1) : Int)).toNat = J := by omega
      rw [this]; unfold selS; rw [hs4]
    · have hc := codeAt_yes (show 1 ≤ p + 1 by omega) hp.2.2 hs2
      rw [symBits_eq, hs2, Int.toNat_natCast, hc, hs3]
      have e1 : ((nxt l (p + 1) + J : Nat) : Int) = numI (x.take (p + 1)).reverse := by rw [← hv_num x hp.2.1]; omega
      have e2 := ofN_numI (Bit.rev (hb.take_ (p + 1)))
      rw [List.length_reverse, List.length_take, Nat.min_eq_left hp.2.1] at e2
      rw [e1, e2, List.reverse_reverse]
end Go.Proofs.Ytlgkiookobedcaa
namespace Go.Proofs.Ytlgkiookobedcaa
open Go.RowKit
set_option linter.unusedVariables false
def lastJ (B : Nat → Nat) (n : Int) : Nat → Nat
  | 0 => 0
  | t + 1 => if ((B (t + 1) : Nat) : Int) ≤ n then t + 1 else lastJ B n t
theorem lastJ_last {B : Nat → Nat} {n : Int} (h0 : ((B 0 : Nat) : Int) ≤ n) : ∀ top, Last_ B top n (lastJ B n top)
  | 0 => ⟨Nat.le_refl _, h0, fun i h1 h2 => by simp [lastJ] at h1; omega⟩
  | t + 1 => by
    unfold lastJ
    by_cases h : ((B (t + 1) : Nat) : Int) ≤ n
    · rw [if_pos h]; exact ⟨Nat.le_refl _, h, fun i h1 h2 => by omega⟩
    · rw [if_neg h]
      obtain ⟨h1, h2, h3⟩ := lastJ_last h0 t
      refine ⟨by omega, h2, fun i h4 h5 => ?_⟩
      by_cases e : i = t + 1
      · subst e; omega
      · exact h3 i h4 (by omega)
def lenJ (n : Int) : Nat := lastJ lB n 28
def distJ (n : Int) : Nat := lastJ dB n 29
theorem lenJ_last {n : Int} (h : 3 ≤ n) : Last_ lB 28 n (lenJ n) := lastJ_last (by show ((3 : Nat) : Int) ≤ n; omega) 28
theorem distJ_last {n : Int} (h : 1 ≤ n) : Last_ dB 29 n (distJ n) := lastJ_last (by show ((1 : Nat) : Int) ≤ n; omega) 29
theorem code_len {n : Int} {v : Value} (h : CodeIs lB lE 3 258 257 28 n v) (h3 : 3 ≤ n ∧ n ≤ 258) : v = .tuple #[.int .i64 (257 + ((lenJ n : Nat) : Int)), .int .i64 ((lE (lenJ n) : Nat) : Int), .int .i64 (n - ((lB (lenJ n) : Nat) : Int))] := by
  rcases h with ⟨h, _⟩ | ⟨_, j, hj, h⟩
  · omega
  · rw [h, hj.uniq (lenJ_last h3.1)]
theorem code_dist {n : Int} {v : Value} (h : CodeIs dB dE 1 32768 0 29 n v) (h3 : 1 ≤ n ∧ n ≤ 32768) : v = .tuple #[.int .i64 ((distJ n : Nat) : Int), .int .i64 ((dE (distJ n) : Nat) : Int), .int .i64 (n - ((dB (distJ n) : Nat) : Int))] := by
  rcases h with ⟨h, _⟩ | ⟨_, j, hj, h⟩
  · omega
  · rw [h, hj.uniq (distJ_last h3.1), Int.zero_add]
def tokB (lit dist : List Int) (t : Tok) : List Int :=
  if t.len = 0 then symBits lit t.lit.toNat
  else symBits lit (257 + lenJ t.len) ++ ofN (t.len - ((lB (lenJ t.len) : Nat) : Int)) (lE (lenJ t.len)) ++ symBits dist (distJ t.dist) ++ ofN (t.dist - ((dB (distJ t.dist) : Nat) : Int)) (dE (distJ t.dist))
def toksB (lit dist : List Int) (l : List Tok) : List Int := l.flatMap (tokB lit dist)
def blkB (lit dist : List Int) (l : List Tok) : List Int := toksB lit dist l ++ symBits lit 256
theorem toksB_app (lit dist : List Int) (a b : List Tok) : toksB lit dist (a ++ b) = toksB lit dist a ++ toksB lit dist b := by simp [toksB]
theorem toksB_one (lit dist : List Int) (t : Tok) : toksB lit dist [t] = tokB lit dist t := by simp [toksB]
theorem tok_take {l : List Tok} {k : Nat} (h : k < l.length) : l.take (k + 1) = l.take k ++ [tokAt l k] := by
  rw [List.take_succ_eq_append_getElem h]
  simp [tokAt, h]
theorem sym_le {l : List Int} (h : ∀ i, i < l.length → 0 ≤ ix l i ∧ ix l i ≤ 15) (s : Nat) : (symBits l s).length ≤ 15 := by
  rw [symBits_length]
  by_cases e : s < l.length
  · have := h s e; omega
  · have : ix l s = 0 := by unfold ix; rw [List.getD_eq_getElem?_getD, List.getElem?_eq_none (by omega)]; rfl
    rw [this]; exact Nat.zero_le _
theorem tok_bd {t : Tok} (h : soundT t) (h0 : t.len ≠ 0) : (3 ≤ t.len ∧ t.len ≤ 258) ∧ (1 ≤ t.dist ∧ t.dist ≤ 32768) ∧ lenJ t.len ≤ 28 ∧ distJ t.dist ≤ 29 := by
  unfold soundT at h
  rw [if_neg h0] at h
  exact ⟨⟨h.2.1, h.2.2.1⟩, ⟨h.2.2.2.1, h.2.2.2.2⟩, (lenJ_last h.2.1).1, (distJ_last h.2.2.2.1).1⟩
theorem tok_le {lit dist : List Int} (hl : ∀ i, i < lit.length → 0 ≤ ix lit i ∧ ix lit i ≤ 15) (hd : ∀ i, i < dist.length → 0 ≤ ix dist i ∧ ix dist i ≤ 15) {t : Tok} (h : soundT t) : (tokB lit dist t).length ≤ 48 := by
  unfold tokB
  by_cases h0 : t.len = 0
  · rw [if_pos h0]; have := sym_le hl t.lit.toNat; omega
  · rw [if_neg h0]
    obtain ⟨_, _, h3, h4⟩ := tok_bd h h0
    have h5 := (lB_bd (lenJ t.len) (by omega)).2.2
    have h6 := (dB_bd' (distJ t.dist) (by omega)).2.2
    have h7 := sym_le hl (257 + lenJ t.len)
    have h8 := sym_le hd (distJ t.dist)
    rw [List.length_append, List.length_append, List.length_append, ofN_length, ofN_length]
    omega
theorem toks_le {lit dist : List Int} (hl : ∀ i, i < lit.length → 0 ≤ ix lit i ∧ ix lit i ≤ 15) (hd : ∀ i, i < dist.length → 0 ≤ ix dist i ∧ ix dist i ≤ 15) : ∀ l : List Tok, (∀ t ∈ l, soundT t) → (toksB lit dist l).length ≤ 48 * l.length
  | [], _ => by simp [toksB]
  | t :: l, h => by
    have h1 := tok_le hl hd (h t List.mem_cons_self)
    have h2 := toks_le hl hd l fun u hu => h u (List.mem_cons_of_mem _ hu)
    show (tokB lit dist t ++ toksB lit dist l).length ≤ _
    rw [List.length_append, List.length_cons]; omega
end Go.Proofs.Ytlgkiookobedcaa
namespace Go.Proofs.Ytlgkiookobedcaa
set_option linter.unusedVariables false
section
variable {s t : IS} {x y b : List Int} {n m : Nat}
theorem IS.over_app (s : IS) (h : y.length % 8 = 0) : (s.app y).over = s.over.app y := by
  unfold IS.over
  have hl : (s.app y).last = s.last := rfl
  rw [hl]
  split
  · show IS.mk (algn (s.x ++ y)) _ _ _ _ _ _ _ _ _ _ _ _ _ _ _ _ = _
    rw [algn_app h]; rfl
  · rfl
set_option maxHeartbeats 1000000 in
theorem IS.step_app (he : s.step.2 ≠ 5) (hy : y.length % 8 = 0) : (s.app y).step = (s.step.1.app y, s.step.2) := by
  have hlen : ∀ x : List Int, (x ++ y).length = x.length + y.length := fun x => List.length_append
  have hst : (s.app y).st = s.st := rfl
  have hxx : (s.app y).x = s.x ++ y := rfl
  unfold IS.step at he ⊢
  rw [hst]
  by_cases h0 : s.st = 0
  · simp only [if_pos h0] at he ⊢
    unfold IS.block at he ⊢
    by_cases hx : s.x.length < 3
    · rw [if_pos hx] at he; simp at he
    rw [if_neg hx, if_neg (by rw [hxx, hlen]; omega), hxx, num_app (by omega), drop_app' (by omega), algn_app hy]
    split
    · rfl
    split
    · rfl
    split
    · rfl
    · rfl
  simp only [if_neg h0] at he ⊢
  by_cases h1 : s.st = 1
  · simp only [if_pos h1] at he ⊢
    unfold IS.size at he ⊢
    by_cases hx : s.x.length < 32
    · rw [if_pos hx] at he; simp at he
    rw [if_neg hx, if_neg (by rw [hxx, hlen]; omega), hxx, num_app (by omega), drop_app' (by omega)]
    split
    · rfl
    · rfl
  simp only [if_neg h1] at he ⊢
  by_cases h2 : s.st = 2
  · simp only [if_pos h2] at he ⊢
    unfold IS.stored at he ⊢
    have hl : (s.app y).left = s.left := rfl
    rw [hl]
    by_cases hl0 : s.left = 0
    · rw [if_pos hl0, if_pos hl0, IS.over_app s hy]
    rw [if_neg hl0] at he
    rw [if_neg hl0, if_neg hl0]
    by_cases hx : s.x.length < 8
    · rw [if_pos hx] at he; simp at he
    rw [if_neg hx, if_neg (by rw [hxx, hlen]; omega), hxx, num_app (by omega), drop_app' (by omega)]
    rfl
  simp only [if_neg h2] at he ⊢
  by_cases h3 : s.st = 3
  · simp only [if_pos h3] at he ⊢
    unfold IS.sizes at he ⊢
    by_cases hx : s.x.length < 14
    · rw [if_pos hx] at he; simp at he
    rw [if_neg hx, if_neg (by rw [hxx, hlen]; omega), hxx, num_app (by omega), drop_app' (by omega)]
    split
    · rfl
    · rfl
  simp only [if_neg h3] at he ⊢
  by_cases h4 : s.st = 4
  · simp only [if_pos h4] at he ⊢
    unfold IS.heads at he ⊢
    have hl : (s.app y).lens = s.lens := rfl
    have hc : (s.app y).c2 = s.c2 := rfl
    rw [hl, hc]
    by_cases hc : s.lens.length < s.c2
    · rw [if_pos hc] at he
      rw [if_pos hc, if_pos hc]
      by_cases hx : s.x.length < 3
      · rw [if_pos hx] at he; simp at he
      rw [if_neg hx, if_neg (by rw [hxx, hlen]; omega), hxx, num_app (by omega), drop_app' (by omega)]
      rfl
    rw [if_neg hc, if_neg hc]
    split
    · rfl
    · rfl
  simp only [if_neg h4] at he ⊢
  by_cases h5 : s.st = 5
  · simp only [if_pos h5] at he ⊢
    unfold IS.lengths at he ⊢
    have hl : (s.app y).lens = s.lens := rfl
    have hc0 : (s.app y).c0 = s.c0 := rfl
    have hc1 : (s.app y).c1 = s.c1 := rfl
    have hh : (s.app y).hd = s.hd := rfl
    rw [hl, hc0, hc1]
    by_cases hc : s.lens.length < s.c0 + s.c1
    · rw [if_pos hc] at he
      rw [if_pos hc, if_pos hc]
      unfold IS.length at he ⊢
      rw [hh, hxx, hl]
      have hn5 : (nextOf s.hd s.x).2.2 ≠ 5 := by
        intro e; rw [if_pos (by rw [e]; simp)] at he; exact he e
      rw [nextOf_app _ _ _ hn5]
      by_cases e : (nextOf s.hd s.x).2.2 ≠ 0
      · rw [if_pos e, if_pos e]
      have hp := nextOf_pos (Decidable.not_not.1 e)
      rw [if_neg e] at he
      rw [if_neg e, if_neg e, drop_app' (by omega)]
      by_cases h6 : (nextOf s.hd s.x).1 < 16
      · rw [if_pos h6, if_pos h6]; rfl
      rw [if_neg h6] at he
      rw [if_neg h6, if_neg h6]
      by_cases h7 : (nextOf s.hd s.x).1 = 16 ∧ s.lens.length = 0
      · rw [if_pos h7, if_pos h7]
      rw [if_neg h7] at he
      rw [if_neg h7, if_neg h7]
      by_cases h8 : (s.x.drop (nextOf s.hd s.x).2.1).length < IS.rW (nextOf s.hd s.x).1
      · rw [if_pos h8] at he; simp at he
      rw [if_neg h8, if_neg (by rw [hlen]; omega)]
      unfold IS.repeat_
      rw [num_app (by omega), drop_app' (by omega), hl, hc0, hc1]
      split
      · rfl
      · rfl
    rw [if_neg hc, if_neg hc]
    split
    · rfl
    · rfl
  simp only [if_neg h5] at he ⊢
  by_cases h6 : s.st = 6
  · simp only [if_pos h6] at he ⊢
    unfold IS.token at he ⊢
    have hh : (s.app y).lt = s.lt := rfl
    rw [hh, hxx]
    have hn5 : (nextOf s.lt s.x).2.2 ≠ 5 := by
      intro e; rw [if_pos (by rw [e]; simp)] at he; exact he e
    rw [nextOf_app _ _ _ hn5]
    by_cases e : (nextOf s.lt s.x).2.2 ≠ 0
    · rw [if_pos e, if_pos e]
    have hp := nextOf_pos (Decidable.not_not.1 e)
    rw [if_neg e] at he
    rw [if_neg e, if_neg e, drop_app' (by omega)]
    by_cases h7 : (nextOf s.lt s.x).1 < 256
    · rw [if_pos h7, if_pos h7]; rfl
    rw [if_neg h7] at he
    rw [if_neg h7, if_neg h7]
    by_cases h8 : (nextOf s.lt s.x).1 = 256
    · rw [if_pos h8, if_pos h8]
      have := IS.over_app { s with x := s.x.drop (nextOf s.lt s.x).2.1 } hy
      show (IS.over _, _) = _
      rw [← this]; rfl
    rw [if_neg h8] at he
    rw [if_neg h8, if_neg h8]
    by_cases h9 : 285 < (nextOf s.lt s.x).1
    · rw [if_pos h9, if_pos h9]
    rw [if_neg h9] at he
    rw [if_neg h9, if_neg h9]
    by_cases h10 : (s.x.drop (nextOf s.lt s.x).2.1).length < lE ((nextOf s.lt s.x).1 - 257).toNat
    · rw [if_pos h10] at he; simp at he
    rw [if_neg h10, if_neg (by rw [hlen]; omega), num_app (by omega), drop_app' (by omega)]
    rfl
  simp only [if_neg h6] at he ⊢
  by_cases h7 : s.st = 7
  · simp only [if_pos h7] at he ⊢
    unfold IS.dist at he ⊢
    have hh : (s.app y).ds = s.ds := rfl
    rw [hh, hxx]
    have hn5 : (nextOf s.ds s.x).2.2 ≠ 5 := by
      intro e; rw [if_pos (by rw [e]; simp)] at he; exact he e
    rw [nextOf_app _ _ _ hn5]
    by_cases e : (nextOf s.ds s.x).2.2 ≠ 0
    · rw [if_pos e, if_pos e]
    have hp := nextOf_pos (Decidable.not_not.1 e)
    rw [if_neg e] at he
    rw [if_neg e, if_neg e, drop_app' (by omega)]
    by_cases h8 : 29 < (nextOf s.ds s.x).1
    · rw [if_pos h8, if_pos h8]
    rw [if_neg h8] at he
    rw [if_neg h8, if_neg h8]
    by_cases h10 : (s.x.drop (nextOf s.ds s.x).2.1).length < dE (nextOf s.ds s.x).1.toNat
    · rw [if_pos h10] at he; simp at he
    rw [if_neg h10, if_neg (by rw [hlen]; omega), num_app (by omega), drop_app' (by omega)]
    unfold IS.text
    have ha : (s.app y).all = s.all := rfl
    rw [ha]
    split
    · rfl
    · rfl
  · simp only [if_neg h7]
theorem IS.Steps.app (h : IS.Steps s t) (hy : y.length % 8 = 0) : IS.Steps (s.app y) (t.app y) := by
  induction h with
  | refl => exact .refl _
  | @tail t h1 h2 ih =>
    have e := IS.step_app (s := t) (y := y) (by rw [h2]; decide) hy
    have h3 : (t.app y).step.2 = 0 := by rw [e]; exact h2
    have h4 := IS.Steps.tail ih h3
    rwa [e] at h4
def IS.cap (s : IS) (m : Nat) : IS := { s with rem := m }
theorem IS.emit_nil (s : IS) : s.emit [] = (s, 0) := by
  unfold IS.emit
  rw [List.take_nil, List.append_nil, if_neg (by simp)]
  rfl
set_option maxHeartbeats 1000000 in
theorem IS.step_act (s : IS) : ∃ (t : IS) (b : List Int) (e : Int), t.all = s.all ∧ e ≠ 6 ∧ ∀ m, (s.cap m).step = if e = 0 then (t.cap m).emit b else (t.cap m, e) := by
  unfold IS.step
  by_cases h0 : s.st = 0
  · have : ∀ m, (s.cap m).st = 0 := fun m => h0
    simp only [this, if_true]
    unfold IS.block
    by_cases hx : s.x.length < 3
    · exact ⟨s, [], 5, rfl, by decide, fun m => if_pos hx⟩
    have hc : ∀ m, (s.cap m).x = s.x := fun m => rfl
    simp only [hc, if_neg hx]
    by_cases h1 : num s.x 3 / 2 = 0
    · exact ⟨{ s with last := decide (num s.x 3 % 2 = 1), kinds := s.kinds ++ [((num s.x 3 / 2 : Nat) : Int)], x := algn (s.x.drop 3), st := 1 }, [], 0, rfl, by decide, fun m => by rw [if_pos h1, if_pos rfl, IS.emit_nil]; rfl⟩
    by_cases h2 : num s.x 3 / 2 = 1
    · exact ⟨{ s with last := decide (num s.x 3 % 2 = 1), kinds := s.kinds ++ [((num s.x 3 / 2 : Nat) : Int)], x := s.x.drop 3, lt := fixL, ds := fixD, st := 6 }, [], 0, rfl, by decide, fun m => by rw [if_neg h1, if_pos h2, if_pos rfl, IS.emit_nil]; rfl⟩
    by_cases h3 : num s.x 3 / 2 = 2
    · exact ⟨{ s with last := decide (num s.x 3 % 2 = 1), kinds := s.kinds ++ [((num s.x 3 / 2 : Nat) : Int)], x := s.x.drop 3, st := 3 }, [], 0, rfl, by decide, fun m => by rw [if_neg h1, if_neg h2, if_pos h3, if_pos rfl, IS.emit_nil]; rfl⟩
    · exact ⟨{ s with last := decide (num s.x 3 % 2 = 1), kinds := s.kinds ++ [((num s.x 3 / 2 : Nat) : Int)], x := s.x.drop 3 }, [], 2, rfl, by decide, fun m => by rw [if_neg h1, if_neg h2, if_neg h3, if_neg (by decide)]; rfl⟩
  have g0 : ∀ m, ¬ (s.cap m).st = 0 := fun m => h0
  simp only [if_neg (g0 _)]
  have hc : ∀ m, (s.cap m).x = s.x := fun m => rfl
  by_cases h1 : s.st = 1
  · have : ∀ m, (s.cap m).st = 1 := fun m => h1
    simp only [this, if_true]
    unfold IS.size
    simp only [hc]
    by_cases hx : s.x.length < 32
    · exact ⟨s, [], 5, rfl, by decide, fun m => if_pos hx⟩
    simp only [if_neg hx]
    by_cases h2 : num s.x 32 % 65536 + num s.x 32 / 65536 = 65535
    · exact ⟨{ s with x := s.x.drop 32, left := num s.x 32 % 65536, st := 2 }, [], 0, rfl, by decide, fun m => by rw [if_pos h2, if_pos rfl, IS.emit_nil]; rfl⟩
    · exact ⟨{ s with x := s.x.drop 32 }, [], 2, rfl, by decide, fun m => by rw [if_neg h2, if_neg (by decide)]; rfl⟩
  have g1 : ∀ m, ¬ (s.cap m).st = 1 := fun m => h1
  simp only [if_neg (g1 _)]
  have hov : ∀ s : IS, ∀ m, (s.cap m).over = s.over.cap m := fun s m => by
    unfold IS.over
    have : (s.cap m).last = s.last := rfl
    rw [this]; split <;> rfl
  have hova : ∀ s : IS, s.over.all = s.all := fun s => by unfold IS.over; split <;> rfl
  by_cases h2 : s.st = 2
  · have : ∀ m, (s.cap m).st = 2 := fun m => h2
    simp only [this, if_true]
    unfold IS.stored
    have hl : ∀ m, (s.cap m).left = s.left := fun m => rfl
    simp only [hc, hl]
    by_cases hl : s.left = 0
    · exact ⟨s.over, [], 0, hova s, by decide, fun m => by rw [if_pos hl, if_pos rfl, IS.emit_nil, hov]⟩
    simp only [if_neg hl]
    by_cases hx : s.x.length < 8
    · exact ⟨s, [], 5, rfl, by decide, fun m => if_pos hx⟩
    · exact ⟨{ s with x := s.x.drop 8, left := s.left - 1 }, [(num s.x 8 : Int)], 0, rfl, by decide, fun m => by rw [if_neg hx, if_pos rfl]; rfl⟩
  have g2 : ∀ m, ¬ (s.cap m).st = 2 := fun m => h2
  simp only [if_neg (g2 _)]
  by_cases h3 : s.st = 3
  · have : ∀ m, (s.cap m).st = 3 := fun m => h3
    simp only [this, if_true]
    unfold IS.sizes
    simp only [hc]
    by_cases hx : s.x.length < 14
    · exact ⟨s, [], 5, rfl, by decide, fun m => if_pos hx⟩
    simp only [if_neg hx]
    by_cases h4 : 286 < num s.x 14 % 32 + 257 ∨ 30 < num s.x 14 / 32 % 32 + 1
    · exact ⟨{ s with x := s.x.drop 14 }, [], 2, rfl, by decide, fun m => by rw [if_pos h4, if_neg (by decide)]; rfl⟩
    · exact ⟨{ s with x := s.x.drop 14, c0 := num s.x 14 % 32 + 257, c1 := num s.x 14 / 32 % 32 + 1, c2 := num s.x 14 / 1024 + 4, lens := [], st := 4 }, [], 0, rfl, by decide, fun m => by rw [if_neg h4, if_pos rfl, IS.emit_nil]; rfl⟩
  have g3 : ∀ m, ¬ (s.cap m).st = 3 := fun m => h3
  simp only [if_neg (g3 _)]
  have hln : ∀ m, (s.cap m).lens = s.lens := fun m => rfl
  by_cases h4 : s.st = 4
  · have : ∀ m, (s.cap m).st = 4 := fun m => h4
    simp only [this, if_true]
    unfold IS.heads
    have hc2 : ∀ m, (s.cap m).c2 = s.c2 := fun m => rfl
    simp only [hc, hln, hc2]
    by_cases hcc : s.lens.length < s.c2
    · simp only [if_pos hcc]
      by_cases hx : s.x.length < 3
      · exact ⟨s, [], 5, rfl, by decide, fun m => if_pos hx⟩
      · exact ⟨{ s with x := s.x.drop 3, lens := s.lens ++ [(num s.x 3 : Int)] }, [], 0, rfl, by decide, fun m => by rw [if_neg hx, if_pos rfl, IS.emit_nil]; rfl⟩
    simp only [if_neg hcc]
    by_cases h5 : checkOf (hAll s.lens) 7 ≠ 0 ∨ noneB s.lens = true
    · exact ⟨s, [], 3, rfl, by decide, fun m => if_pos h5⟩
    · exact ⟨{ s with hd := hAll s.lens, lens := [], st := 5 }, [], 0, rfl, by decide, fun m => by rw [if_neg h5, if_pos rfl, IS.emit_nil]; rfl⟩
  have g4 : ∀ m, ¬ (s.cap m).st = 4 := fun m => h4
  simp only [if_neg (g4 _)]
  by_cases h5 : s.st = 5
  · have : ∀ m, (s.cap m).st = 5 := fun m => h5
    simp only [this, if_true]
    unfold IS.lengths
    have hc0 : ∀ m, (s.cap m).c0 = s.c0 := fun m => rfl
    have hc1 : ∀ m, (s.cap m).c1 = s.c1 := fun m => rfl
    have hh : ∀ m, (s.cap m).hd = s.hd := fun m => rfl
    simp only [hln, hc0, hc1]
    by_cases hcc : s.lens.length < s.c0 + s.c1
    · simp only [if_pos hcc]
      unfold IS.length
      simp only [hh, hc, hln]
      by_cases e : (nextOf s.hd s.x).2.2 ≠ 0
      · refine ⟨s, [], (nextOf s.hd s.x).2.2, rfl, ?_, fun m => by rw [if_pos e, if_neg e]⟩
        rcases nextOf_err s.hd s.x with h | h | h <;> omega
      simp only [if_neg e]
      by_cases h6 : (nextOf s.hd s.x).1 < 16
      · exact ⟨{ s with x := s.x.drop (nextOf s.hd s.x).2.1, lens := s.lens ++ [(nextOf s.hd s.x).1] }, [], 0, rfl, by decide, fun m => by rw [if_pos h6, if_pos rfl, IS.emit_nil]; rfl⟩
      simp only [if_neg h6]
      by_cases h7 : (nextOf s.hd s.x).1 = 16 ∧ s.lens.length = 0
      · exact ⟨s, [], 2, rfl, by decide, fun m => if_pos h7⟩
      simp only [if_neg h7]
      by_cases h8 : (s.x.drop (nextOf s.hd s.x).2.1).length < IS.rW (nextOf s.hd s.x).1
      · exact ⟨s, [], 5, rfl, by decide, fun m => if_pos h8⟩
      simp only [if_neg h8]
      unfold IS.repeat_
      simp only [hln, hc0, hc1]
      by_cases h9 : s.c0 + s.c1 < s.lens.length + (IS.rB (nextOf s.hd s.x).1 + num (s.x.drop (nextOf s.hd s.x).2.1) (IS.rW (nextOf s.hd s.x).1))
      · exact ⟨{ s with x := (s.x.drop (nextOf s.hd s.x).2.1).drop (IS.rW (nextOf s.hd s.x).1) }, [], 2, rfl, by decide, fun m => by rw [if_pos h9, if_neg (by decide)]; rfl⟩
      · exact ⟨{ s with x := (s.x.drop (nextOf s.hd s.x).2.1).drop (IS.rW (nextOf s.hd s.x).1), lens := s.lens ++ List.replicate (IS.rB (nextOf s.hd s.x).1 + num (s.x.drop (nextOf s.hd s.x).2.1) (IS.rW (nextOf s.hd s.x).1)) (if (nextOf s.hd s.x).1 = 16 then ix s.lens (s.lens.length - 1) else 0) }, [], 0, rfl, by decide, fun m => by rw [if_neg h9, if_pos rfl, IS.emit_nil]; rfl⟩
    simp only [if_neg hcc]
    by_cases h6 : checkOf (s.lens.take s.c0) 15 ≠ 0 ∨ checkOf (s.lens.drop s.c0) 15 ≠ 0 ∨ ix s.lens 256 = 0
    · exact ⟨s, [], 3, rfl, by decide, fun m => if_pos h6⟩
    · exact ⟨{ s with lt := s.lens.take s.c0, ds := s.lens.drop s.c0, st := 6 }, [], 0, rfl, by decide, fun m => by rw [if_neg h6, if_pos rfl, IS.emit_nil]; rfl⟩
  have g5 : ∀ m, ¬ (s.cap m).st = 5 := fun m => h5
  simp only [if_neg (g5 _)]
  by_cases h6 : s.st = 6
  · have : ∀ m, (s.cap m).st = 6 := fun m => h6
    simp only [this, if_true]
    unfold IS.token
    have hh : ∀ m, (s.cap m).lt = s.lt := fun m => rfl
    simp only [hh, hc]
    by_cases e : (nextOf s.lt s.x).2.2 ≠ 0
    · refine ⟨s, [], (nextOf s.lt s.x).2.2, rfl, ?_, fun m => by rw [if_pos e, if_neg e]⟩
      rcases nextOf_err s.lt s.x with h | h | h <;> omega
    simp only [if_neg e]
    by_cases h7 : (nextOf s.lt s.x).1 < 256
    · exact ⟨{ s with x := s.x.drop (nextOf s.lt s.x).2.1, toks := s.toks ++ [Tok.mk (nextOf s.lt s.x).1 0 0] }, [(nextOf s.lt s.x).1], 0, rfl, by decide, fun m => by rw [if_pos h7, if_pos rfl]; rfl⟩
    simp only [if_neg h7]
    by_cases h8 : (nextOf s.lt s.x).1 = 256
    · exact ⟨({ s with x := s.x.drop (nextOf s.lt s.x).2.1 } : IS).over, [], 0, hova _, by decide, fun m => by rw [if_pos h8, if_pos rfl, IS.emit_nil, ← hov]; rfl⟩
    simp only [if_neg h8]
    by_cases h9 : 285 < (nextOf s.lt s.x).1
    · exact ⟨s, [], 3, rfl, by decide, fun m => if_pos h9⟩
    simp only [if_neg h9]
    by_cases h10 : (s.x.drop (nextOf s.lt s.x).2.1).length < lE ((nextOf s.lt s.x).1 - 257).toNat
    · exact ⟨s, [], 5, rfl, by decide, fun m => if_pos h10⟩
    · exact ⟨{ s with x := (s.x.drop (nextOf s.lt s.x).2.1).drop (lE ((nextOf s.lt s.x).1 - 257).toNat), len := lB ((nextOf s.lt s.x).1 - 257).toNat + num (s.x.drop (nextOf s.lt s.x).2.1) (lE ((nextOf s.lt s.x).1 - 257).toNat), st := 7 }, [], 0, rfl, by decide, fun m => by rw [if_neg h10, if_pos rfl, IS.emit_nil]; rfl⟩
  have g6 : ∀ m, ¬ (s.cap m).st = 6 := fun m => h6
  simp only [if_neg (g6 _)]
  by_cases h7 : s.st = 7
  · have : ∀ m, (s.cap m).st = 7 := fun m => h7
    simp only [this, if_true]
    unfold IS.dist
    have hh : ∀ m, (s.cap m).ds = s.ds := fun m => rfl
    simp only [hh, hc]
    by_cases e : (nextOf s.ds s.x).2.2 ≠ 0
    · refine ⟨s, [], (nextOf s.ds s.x).2.2, rfl, ?_, fun m => by rw [if_pos e, if_neg e]⟩
      rcases nextOf_err s.ds s.x with h | h | h <;> omega
    simp only [if_neg e]
    by_cases h8 : 29 < (nextOf s.ds s.x).1
    · exact ⟨s, [], 3, rfl, by decide, fun m => if_pos h8⟩
    simp only [if_neg h8]
    by_cases h10 : (s.x.drop (nextOf s.ds s.x).2.1).length < dE (nextOf s.ds s.x).1.toNat
    · exact ⟨s, [], 5, rfl, by decide, fun m => if_pos h10⟩
    simp only [if_neg h10]
    unfold IS.text
    have ha : ∀ m, (s.cap m).all = s.all := fun m => rfl
    simp only [ha]
    generalize (s.x.drop (nextOf s.ds s.x).2.1).drop (dE (nextOf s.ds s.x).1.toNat) = x1
    generalize dB (nextOf s.ds s.x).1.toNat + num (s.x.drop (nextOf s.ds s.x).2.1) (dE (nextOf s.ds s.x).1.toNat) = D
    by_cases h11 : s.all.length < D
    · exact ⟨s, [], 3, rfl, by decide, fun m => if_pos h11⟩
    · exact ⟨{ s with x := x1, st := 6, toks := s.toks ++ [Tok.mk 0 s.len D] }, again s.all D s.len, 0, rfl, by decide, fun m => by rw [if_neg h11, if_pos rfl]; rfl⟩
  · have g7 : ∀ m, ¬ (s.cap m).st = 7 := fun m => h7
    simp only [if_neg (g7 _)]
    exact ⟨s, [], 8, rfl, by decide, fun m => rfl⟩
theorem IS.step_out (s : IS) : ∃ b, s.step.1.all = s.all ++ b ∧ s.step.1.rem + b.length = s.rem := by
  obtain ⟨t, b, e, h1, h2, h3⟩ := IS.step_act s
  have h4 := h3 s.rem
  have h5 : s.cap s.rem = s := rfl
  rw [h5] at h4
  by_cases he : e = 0
  · rw [if_pos he] at h4
    rw [h4]
    refine ⟨b.take s.rem, ?_, ?_⟩
    · show t.all ++ _ = _
      rw [h1]; rfl
    · show s.rem - b.length + (b.take s.rem).length = s.rem
      rw [List.length_take]; omega
  · rw [if_neg he] at h4
    rw [h4]
    exact ⟨[], by rw [List.append_nil]; exact h1, rfl⟩
theorem IS.Steps.out (h : IS.Steps s t) : ∃ b, t.all = s.all ++ b ∧ t.rem + b.length = s.rem := by
  induction h with
  | refl => exact ⟨[], by simp, rfl⟩
  | @tail t h1 h2 ih =>
    obtain ⟨b, h3, h4⟩ := ih
    obtain ⟨c, h5, h6⟩ := IS.step_out t
    exact ⟨b ++ c, by rw [h5, h3, List.append_assoc], by rw [List.length_append]; omega⟩
theorem IS.step_cap (h : s.step.2 ≠ 6) (hb : s.step.1.all = s.all ++ b) :
    (b.length ≤ m → (s.cap m).step = (s.step.1.cap (m - b.length), s.step.2)) ∧ (m < b.length → (s.cap m).step.2 = 6 ∧ (s.cap m).step.1.all = s.all ++ b.take m) := by
  obtain ⟨t, b', e, h1, h2, h3⟩ := IS.step_act s
  have h4 := h3 s.rem
  have h5 : s.cap s.rem = s := rfl
  rw [h5] at h4
  rw [h3 m, h4]
  by_cases he : e = 0
  · subst he
    rw [if_pos rfl] at h4 ⊢
    rw [h4] at h hb
    have hle : ¬ s.rem < b'.length := by
      intro hlt
      apply h
      show (if s.rem < b'.length then (6 : Int) else 0) = 6
      rw [if_pos hlt]
    have hbb : b' = b := by
      have : t.all ++ b'.take s.rem = s.all ++ b := hb
      rw [h1, List.take_of_length_le (by omega)] at this
      exact List.append_cancel_left this
    subst hbb
    refine ⟨fun hl => ?_, fun hl => ⟨?_, ?_⟩⟩
    · rw [if_pos rfl]
      unfold IS.emit
      have e1 : (t.cap m).rem = m := rfl
      have e2 : (t.cap s.rem).rem = s.rem := rfl
      rw [e1, e2, if_neg (by omega), if_neg hle, List.take_of_length_le (by omega), List.take_of_length_le (by omega)]
      rfl
    · show (if m < b'.length then (6 : Int) else 0) = 6
      rw [if_pos hl]
    · show t.all ++ b'.take m = _
      rw [h1]
  · rw [if_neg he] at h4
    rw [if_neg he, if_neg he]
    rw [h4] at hb
    have hbn : b = [] := by
      have : t.all = s.all ++ b := hb
      rw [h1] at this
      have h6 : s.all.length = s.all.length + b.length := by conv => lhs; rw [this, List.length_append]
      exact List.length_eq_zero_iff.1 (by omega)
    subst hbn
    exact ⟨fun _ => rfl, fun hl => by simp at hl⟩
theorem IS.Steps.cap (h : IS.Steps s t) : ∀ b, t.all = s.all ++ b → ∀ m, (b.length ≤ m → IS.Steps (s.cap m) (t.cap (m - b.length))) ∧ (m < b.length → (s.cap m).fin.2 = 6 ∧ (s.cap m).fin.1.all = s.all ++ b.take m) := by
  induction h with
  | refl =>
    intro b hb m
    obtain rfl : b = [] := by
      have h6 := congrArg List.length hb
      rw [List.length_append] at h6
      exact List.length_eq_zero_iff.1 (by omega)
    exact ⟨fun _ => .refl _, fun hl => by simp at hl⟩
  | @tail t h1 h2 ih =>
    intro b hb m
    obtain ⟨c, h3, h4⟩ := h1.out
    obtain ⟨d, h5, h6⟩ := IS.step_out t
    have hbcd : b = c ++ d := by
      rw [h5, h3, List.append_assoc] at hb
      exact (List.append_cancel_left hb).symm
    subst hbcd
    rw [List.length_append]
    obtain ⟨a1, a2⟩ := ih c h3 m
    by_cases hc : c.length ≤ m
    · have s1 := a1 hc
      obtain ⟨b1, b2⟩ := IS.step_cap (s := t) (b := d) (m := m - c.length) (by rw [h2]; decide) h5
      refine ⟨fun hl => ?_, fun hl => ?_⟩
      · have e := b1 (by omega)
        have := IS.Steps.tail s1 (by rw [e]; exact h2)
        rwa [e, show m - c.length - d.length = m - (c.length + d.length) by omega] at this
      · obtain ⟨e1, e2⟩ := b2 (by omega)
        rw [← s1.fin_eq, IS.fin_stop (by rw [e1]; decide)]
        refine ⟨e1, ?_⟩
        rw [e2, h3, List.append_assoc, List.take_append, List.take_of_length_le hc]
    · refine ⟨fun hl => by omega, fun hl => ?_⟩
      obtain ⟨e1, e2⟩ := a2 (by omega)
      exact ⟨e1, by rw [e2, List.take_append_of_le_length (by omega)]⟩
end
end Go.Proofs.Ytlgkiookobedcaa
namespace Go.Proofs.Ytlgkiookobedcaa
set_option linter.unusedVariables false
structure IS.Ok (s : IS) : Prop where
  bit : Bit s.x
  even : s.st = 1 ∨ s.st = 2 ∨ s.st = 8 → s.x.length % 8 = 0
  cc : s.st = 4 ∨ s.st = 5 → 257 ≤ s.c0 ∧ s.c0 ≤ 286 ∧ 1 ≤ s.c1 ∧ s.c1 ≤ 30
  h4 : s.st = 4 → s.c2 ≤ 19 ∧ s.lens.length ≤ s.c2 ∧ ∀ v ∈ s.lens, 0 ≤ v ∧ v ≤ 7
  h5 : s.st = 5 → s.lens.length ≤ s.c0 + s.c1 ∧ (∀ v ∈ s.lens, 0 ≤ v ∧ v ≤ 15) ∧ checkOf s.hd 7 = 0 ∧ s.hd.length = 19
  h6 : s.st = 6 ∨ s.st = 7 → checkOf s.lt 15 = 0 ∧ checkOf s.ds 15 = 0
  h7 : s.st = 7 → 3 ≤ s.len ∧ s.len ≤ 258
  left : s.left ≤ 65535
  by_ : ∀ v ∈ s.all, 0 ≤ v ∧ v < 256
  st8 : s.st ≤ 8
section
variable {s t : IS} {x y b : List Int} {n m : Nat}
theorem IS.Ok.at0 (hst : s.st = 0 ∨ s.st = 3) (bit : Bit s.x) (left : s.left ≤ 65535) (by_ : ∀ v ∈ s.all, 0 ≤ v ∧ v < 256) : s.Ok :=
  ⟨bit, fun h => by omega, fun h => by omega, fun h => by omega, fun h => by omega, fun h => by omega, fun h => by omega, left, by_, by omega⟩
theorem IS.Ok.at1 (hst : s.st = 1 ∨ s.st = 2 ∨ s.st = 8) (bit : Bit s.x) (left : s.left ≤ 65535) (by_ : ∀ v ∈ s.all, 0 ≤ v ∧ v < 256) (even : s.x.length % 8 = 0) : s.Ok :=
  ⟨bit, fun h => even, fun h => by omega, fun h => by omega, fun h => by omega, fun h => by omega, fun h => by omega, left, by_, by omega⟩
theorem IS.Ok.at4 (hst : s.st = 4) (bit : Bit s.x) (left : s.left ≤ 65535) (by_ : ∀ v ∈ s.all, 0 ≤ v ∧ v < 256) (cc : 257 ≤ s.c0 ∧ s.c0 ≤ 286 ∧ 1 ≤ s.c1 ∧ s.c1 ≤ 30)
    (h4 : s.c2 ≤ 19 ∧ s.lens.length ≤ s.c2 ∧ ∀ v ∈ s.lens, 0 ≤ v ∧ v ≤ 7) : s.Ok :=
  ⟨bit, fun h => by omega, fun h => cc, fun h => h4, fun h => by omega, fun h => by omega, fun h => by omega, left, by_, by omega⟩
theorem IS.Ok.at5 (hst : s.st = 5) (bit : Bit s.x) (left : s.left ≤ 65535) (by_ : ∀ v ∈ s.all, 0 ≤ v ∧ v < 256) (cc : 257 ≤ s.c0 ∧ s.c0 ≤ 286 ∧ 1 ≤ s.c1 ∧ s.c1 ≤ 30)
    (h5 : s.lens.length ≤ s.c0 + s.c1 ∧ (∀ v ∈ s.lens, 0 ≤ v ∧ v ≤ 15) ∧ checkOf s.hd 7 = 0 ∧ s.hd.length = 19) : s.Ok :=
  ⟨bit, fun h => by omega, fun h => cc, fun h => by omega, fun h => h5, fun h => by omega, fun h => by omega, left, by_, by omega⟩
theorem IS.Ok.at6 (hst : s.st = 6 ∨ s.st = 7) (bit : Bit s.x) (left : s.left ≤ 65535) (by_ : ∀ v ∈ s.all, 0 ≤ v ∧ v < 256) (h6 : checkOf s.lt 15 = 0 ∧ checkOf s.ds 15 = 0)
    (h7 : s.st = 7 → 3 ≤ s.len ∧ s.len ≤ 258) : s.Ok :=
  ⟨bit, fun h => by omega, fun h => by omega, fun h => by omega, fun h => by omega, fun h => h6, h7, left, by_, by omega⟩
theorem num_lt {x : List Int} (h : Bit x) (n : Nat) : num x n < 2 ^ n := by
  have h1 := numI_bd (h.take_ n)
  have h2 := pow_mono2 (show (x.take n).length ≤ n by simp; omega)
  have h3 : ((2 ^ n : Nat) : Int) = 2 ^ n := by simp
  unfold num
  omega
theorem num_int {x : List Int} (h : Bit x) (n : Nat) : ((num x n : Nat) : Int) = numI (x.take n) := by
  have h1 := numI_bd (h.take_ n)
  unfold num
  omega
theorem Bit.algn {x : List Int} (h : Bit x) : Bit (algn x) := h.drop_ _
theorem hAll_length (l : List Int) : (hAll l).length = 19 := by simp [hAll]
theorem fix_ok : checkOf fixL 15 = 0 ∧ checkOf fixD 15 = 0 := by decide +kernel
theorem lB_sum {j v : Nat} (hj : j < 29) (hv : v < 2 ^ lE j) : 3 ≤ lB j + v ∧ lB j + v ≤ 258 := by
  have : ∀ j, j < 29 → 3 ≤ lB j ∧ lB j + 2 ^ lE j ≤ 259 := by decide +kernel
  have := this j hj
  omega
theorem dB_sum {j v : Nat} (hj : j < 30) (hv : v < 2 ^ dE j) : 1 ≤ dB j + v ∧ dB j + v ≤ 32768 := by
  have : ∀ j, j < 30 → 1 ≤ dB j ∧ dB j + 2 ^ dE j ≤ 32769 := by decide +kernel
  have := this j hj
  omega
theorem IS.Ok.over (h : s.Ok) : s.over.Ok := by
  unfold IS.over
  split
  · exact .at1 (.inr (.inr rfl)) h.bit.algn h.left h.by_ (by show (algn s.x).length % 8 = 0; rw [algn_length]; omega)
  · exact .at0 (.inl rfl) h.bit h.left h.by_
theorem IS.Ok.emit (h : s.Ok) {b : List Int} (hb : ∀ v ∈ b, 0 ≤ v ∧ v < 256) : (s.emit b).1.Ok :=
  ⟨h.bit, h.even, h.cc, h.h4, h.h5, h.h6, h.h7, h.left, fun v hv => by
    rcases List.mem_append.1 hv with h1 | h1
    · exact h.by_ v h1
    · exact hb v (List.mem_of_mem_take h1), h.st8⟩
theorem sym_read {l x : List Int} (hb : Bit x) (h : ¬ (nextOf l x).2.2 ≠ 0) : ∃ k n : Nat, nextOf l x = ((k : Int), n, 0) ∧ k < l.length ∧ 1 ≤ n ∧ n ≤ 15 ∧ n ≤ x.length := by
  obtain ⟨k, n, h1, h2, h3, h4, h5, h6, h7⟩ := next_sym hb (Decidable.not_not.1 h)
  exact ⟨k, n, h1, h2, h4, h5, h6⟩
theorem again_by {l : List Int} (h : ∀ v ∈ l, 0 ≤ v ∧ v < 256) (D N : Nat) : ∀ v ∈ again l D N, 0 ≤ v ∧ v < 256 := by
  intro v hv
  unfold again at hv
  obtain ⟨i, _, rfl⟩ := List.mem_map.1 hv
  exact ix_bd h _
set_option maxHeartbeats 1000000 in
theorem IS.Ok.step (h : s.Ok) (e : s.step.2 = 0 ∨ s.step.2 = 6) : s.step.1.Ok := by
  unfold IS.step at e ⊢
  by_cases h0 : s.st = 0
  · rw [if_pos h0] at e ⊢
    unfold IS.block at e ⊢
    by_cases hx : s.x.length < 3
    · rw [if_pos hx] at e; simp at e
    rw [if_neg hx] at e ⊢
    by_cases h1 : num s.x 3 / 2 = 0
    · rw [if_pos h1]
      exact .at1 (.inl rfl) (h.bit.drop_ 3).algn h.left h.by_ (by show (algn (s.x.drop 3)).length % 8 = 0; rw [algn_length]; omega)
    rw [if_neg h1] at e ⊢
    by_cases h2 : num s.x 3 / 2 = 1
    · rw [if_pos h2]
      exact .at6 (.inl rfl) (h.bit.drop_ 3) h.left h.by_ fix_ok (fun e => by simp at e)
    rw [if_neg h2] at e ⊢
    by_cases h3 : num s.x 3 / 2 = 2
    · rw [if_pos h3]
      exact .at0 (.inr rfl) (h.bit.drop_ 3) h.left h.by_
    · rw [if_neg h3] at e; simp at e
  rw [if_neg h0] at e ⊢
  by_cases h1 : s.st = 1
  · rw [if_pos h1] at e ⊢
    unfold IS.size at e ⊢
    by_cases hx : s.x.length < 32
    · rw [if_pos hx] at e; simp at e
    rw [if_neg hx] at e ⊢
    by_cases h2 : num s.x 32 % 65536 + num s.x 32 / 65536 = 65535
    · rw [if_pos h2]
      exact .at1 (.inr (.inl rfl)) (h.bit.drop_ 32) (by show num s.x 32 % 65536 ≤ 65535; omega) h.by_ (by have := h.even (.inl h1); show (s.x.drop 32).length % 8 = 0; rw [List.length_drop]; omega)
    · rw [if_neg h2] at e; simp at e
  rw [if_neg h1] at e ⊢
  by_cases h2 : s.st = 2
  · rw [if_pos h2] at e ⊢
    unfold IS.stored at e ⊢
    by_cases hl : s.left = 0
    · rw [if_pos hl]; exact h.over
    rw [if_neg hl] at e ⊢
    by_cases hx : s.x.length < 8
    · rw [if_pos hx] at e; simp at e
    rw [if_neg hx]
    refine IS.Ok.emit (s := { s with x := s.x.drop 8, left := s.left - 1 }) (.at1 (.inr (.inl h2)) (h.bit.drop_ 8) (by have := h.left; show s.left - 1 ≤ 65535; omega) h.by_ (by have := h.even (.inr (.inl h2)); show (s.x.drop 8).length % 8 = 0; rw [List.length_drop]; omega)) ?_
    intro v hv
    simp at hv
    subst hv
    have := num_lt h.bit 8
    omega
  rw [if_neg h2] at e ⊢
  by_cases h3 : s.st = 3
  · rw [if_pos h3] at e ⊢
    unfold IS.sizes at e ⊢
    by_cases hx : s.x.length < 14
    · rw [if_pos hx] at e; simp at e
    rw [if_neg hx] at e ⊢
    by_cases h4 : 286 < num s.x 14 % 32 + 257 ∨ 30 < num s.x 14 / 32 % 32 + 1
    · rw [if_pos h4] at e; simp at e
    rw [if_neg h4]
    have hn := num_lt h.bit 14
    refine .at4 rfl (h.bit.drop_ 14) h.left h.by_ ?_ ?_
    · show 257 ≤ num s.x 14 % 32 + 257 ∧ num s.x 14 % 32 + 257 ≤ 286 ∧ 1 ≤ num s.x 14 / 32 % 32 + 1 ∧ num s.x 14 / 32 % 32 + 1 ≤ 30
      omega
    · refine ⟨?_, Nat.zero_le _, fun v hv => by simp at hv⟩
      show num s.x 14 / 1024 + 4 ≤ 19
      omega
  rw [if_neg h3] at e ⊢
  by_cases h4 : s.st = 4
  · rw [if_pos h4] at e ⊢
    unfold IS.heads at e ⊢
    obtain ⟨q1, q2, q3⟩ := h.h4 h4
    have hcc := h.cc (.inl h4)
    by_cases hc : s.lens.length < s.c2
    · rw [if_pos hc] at e ⊢
      by_cases hx : s.x.length < 3
      · rw [if_pos hx] at e; simp at e
      rw [if_neg hx]
      refine .at4 h4 (h.bit.drop_ 3) h.left h.by_ hcc ⟨q1, ?_, ?_⟩
      · show (s.lens ++ [_]).length ≤ s.c2
        simp; omega
      · intro v hv
        rcases List.mem_append.1 hv with h1 | h1
        · exact q3 v h1
        · simp at h1; subst h1
          have := num_lt h.bit 3
          omega
    rw [if_neg hc] at e ⊢
    by_cases h5 : checkOf (hAll s.lens) 7 ≠ 0 ∨ noneB s.lens = true
    · rw [if_pos h5] at e; simp at e
    rw [if_neg h5]
    exact .at5 rfl h.bit h.left h.by_ hcc ⟨Nat.zero_le _, fun v hv => by simp at hv, Decidable.not_not.1 fun h6 => h5 (.inl h6), hAll_length _⟩
  rw [if_neg h4] at e ⊢
  by_cases h5 : s.st = 5
  · rw [if_pos h5] at e ⊢
    unfold IS.lengths at e ⊢
    obtain ⟨q1, q2, q3, q4⟩ := h.h5 h5
    have hcc := h.cc (.inr h5)
    by_cases hc : s.lens.length < s.c0 + s.c1
    · rw [if_pos hc] at e ⊢
      unfold IS.length at e ⊢
      by_cases e1 : (nextOf s.hd s.x).2.2 ≠ 0
      · rw [if_pos e1] at e
        rcases nextOf_err s.hd s.x with h6 | h6 | h6 <;> omega
      rw [if_neg e1] at e ⊢
      obtain ⟨k, n, hk, hk1, hn1, hn2, hn3⟩ := sym_read h.bit e1
      rw [hk] at e ⊢
      simp only at e ⊢
      by_cases h6 : (k : Int) < 16
      · rw [if_pos h6]
        refine .at5 h5 (h.bit.drop_ _) h.left h.by_ hcc ⟨?_, ?_, q3, q4⟩
        · show (s.lens ++ [_]).length ≤ s.c0 + s.c1
          simp; omega
        · intro v hv
          rcases List.mem_append.1 hv with h1 | h1
          · exact q2 v h1
          · simp at h1; subst h1; omega
      rw [if_neg h6] at e ⊢
      by_cases h7 : (k : Int) = 16 ∧ s.lens.length = 0
      · rw [if_pos h7] at e; simp at e
      rw [if_neg h7] at e ⊢
      by_cases h8 : (s.x.drop n).length < IS.rW k
      · rw [if_pos h8] at e; simp at e
      rw [if_neg h8] at e ⊢
      unfold IS.repeat_ at e ⊢
      by_cases h9 : s.c0 + s.c1 < s.lens.length + (IS.rB k + num (s.x.drop n) (IS.rW k))
      · rw [if_pos h9] at e; simp at e
      rw [if_neg h9]
      refine .at5 h5 ((h.bit.drop_ _).drop_ _) h.left h.by_ hcc ⟨?_, ?_, q3, q4⟩
      · show (s.lens ++ List.replicate _ _).length ≤ s.c0 + s.c1
        rw [List.length_append, List.length_replicate]; omega
      · intro v hv
        rcases List.mem_append.1 hv with h1 | h1
        · exact q2 v h1
        · rw [List.eq_of_mem_replicate h1]
          split
          · rename_i h10
            unfold ix
            have hp : s.lens.length ≠ 0 := fun e0 => h7 ⟨h10, e0⟩
            rw [List.getD_eq_getElem?_getD, List.getElem?_eq_getElem (show s.lens.length - 1 < s.lens.length by omega)]
            exact q2 _ (List.getElem_mem _)
          · omega
    rw [if_neg hc] at e ⊢
    by_cases h6 : checkOf (s.lens.take s.c0) 15 ≠ 0 ∨ checkOf (s.lens.drop s.c0) 15 ≠ 0 ∨ ix s.lens 256 = 0
    · rw [if_pos h6] at e; simp at e
    rw [if_neg h6]
    exact .at6 (.inl rfl) h.bit h.left h.by_ ⟨Decidable.not_not.1 fun h7 => h6 (.inl h7), Decidable.not_not.1 fun h7 => h6 (.inr (.inl h7))⟩ (fun e => by simp at e)
  rw [if_neg h5] at e ⊢
  by_cases h6 : s.st = 6
  · rw [if_pos h6] at e ⊢
    unfold IS.token at e ⊢
    have hh := h.h6 (.inl h6)
    by_cases e1 : (nextOf s.lt s.x).2.2 ≠ 0
    · rw [if_pos e1] at e
      rcases nextOf_err s.lt s.x with h6 | h6 | h6 <;> omega
    rw [if_neg e1] at e ⊢
    obtain ⟨k, n, hk, hk1, hn1, hn2, hn3⟩ := sym_read h.bit e1
    rw [hk] at e ⊢
    simp only at e ⊢
    by_cases h7 : (k : Int) < 256
    · rw [if_pos h7]
      refine IS.Ok.emit (s := { s with x := s.x.drop n, toks := s.toks ++ [Tok.mk (k : Int) 0 0] }) (.at6 (.inl h6) (h.bit.drop_ _) h.left h.by_ hh (fun e => by simp [h6] at e)) ?_
      intro v hv
      simp at hv; subst hv; omega
    rw [if_neg h7] at e ⊢
    by_cases h8 : (k : Int) = 256
    · rw [if_pos h8]
      exact IS.Ok.over (s := { s with x := s.x.drop n }) (.at6 (.inl h6) (h.bit.drop_ _) h.left h.by_ hh (fun e => by simp [h6] at e))
    rw [if_neg h8] at e ⊢
    by_cases h9 : 285 < (k : Int)
    · rw [if_pos h9] at e; simp at e
    rw [if_neg h9] at e ⊢
    obtain ⟨j, hj⟩ : ∃ j, ((k : Int) - 257).toNat = j := ⟨_, rfl⟩
    rw [hj] at e ⊢
    by_cases h10 : (s.x.drop n).length < lE j
    · rw [if_pos h10] at e; simp at e
    rw [if_neg h10]
    exact .at6 (.inr rfl) ((h.bit.drop_ _).drop_ _) h.left h.by_ hh (fun _ => lB_sum (by omega) (num_lt (h.bit.drop_ _) _))
  rw [if_neg h6] at e ⊢
  by_cases h7 : s.st = 7
  · rw [if_pos h7] at e ⊢
    unfold IS.dist at e ⊢
    have hh := h.h6 (.inr h7)
    by_cases e1 : (nextOf s.ds s.x).2.2 ≠ 0
    · rw [if_pos e1] at e
      rcases nextOf_err s.ds s.x with h6 | h6 | h6 <;> omega
    rw [if_neg e1] at e ⊢
    obtain ⟨k, n, hk, hk1, hn1, hn2, hn3⟩ := sym_read h.bit e1
    rw [hk] at e ⊢
    simp only at e ⊢
    by_cases h8 : 29 < (k : Int)
    · rw [if_pos h8] at e; simp at e
    rw [if_neg h8] at e ⊢
    by_cases h10 : (s.x.drop n).length < dE (k : Int).toNat
    · rw [if_pos h10] at e; simp at e
    rw [if_neg h10] at e ⊢
    unfold IS.text at e ⊢
    have hb2 : Bit ((s.x.drop n).drop (dE (k : Int).toNat)) := (h.bit.drop_ _).drop_ _
    generalize (s.x.drop n).drop (dE (k : Int).toNat) = x1 at e hb2 ⊢
    generalize dB (k : Int).toNat + num (s.x.drop n) (dE (k : Int).toNat) = D at e ⊢
    by_cases h11 : s.all.length < D
    · rw [if_pos h11] at e; simp at e
    rw [if_neg h11]
    exact IS.Ok.emit (s := { s with x := x1, st := 6, toks := s.toks ++ [Tok.mk 0 s.len D] }) (.at6 (.inl rfl) hb2 h.left h.by_ hh (fun e => by simp at e)) (again_by h.by_ _ _)
  · rw [if_neg h7] at e; simp at e
theorem IS.Ok.steps (h : s.Ok) (hs : IS.Steps s t) : t.Ok := by
  induction hs with
  | refl => exact h
  | tail _ h2 ih => exact ih.step (.inl h2)
theorem IS.Ok.start {x : List Int} (h : Bit x) (m : Nat) : (start x m).Ok := .at0 (.inl rfl) h (Nat.zero_le _) (fun v hv => by simp [Go.Proofs.Ytlgkiookobedcaa.start] at hv)
theorem IS.step_done (h : s.step.2 = 8) : s.step.1 = s ∧ s.st ≠ 0 ∧ s.st ≠ 1 ∧ s.st ≠ 2 ∧ s.st ≠ 3 ∧ s.st ≠ 4 ∧ s.st ≠ 5 ∧ s.st ≠ 6 ∧ s.st ≠ 7 := by
  unfold IS.step at h ⊢
  have hem : ∀ (s : IS) b, (s.emit b).2 ≠ 8 := fun s b => by unfold IS.emit; simp only; split <;> decide
  by_cases h0 : s.st = 0
  · rw [if_pos h0] at h; unfold IS.block at h; exfalso; revert h; repeat' split
    all_goals simp
  rw [if_neg h0] at h ⊢
  by_cases h1 : s.st = 1
  · rw [if_pos h1] at h; unfold IS.size at h; exfalso; revert h; repeat' split
    all_goals simp
  rw [if_neg h1] at h ⊢
  by_cases h2 : s.st = 2
  · rw [if_pos h2] at h; unfold IS.stored at h; exfalso; revert h; repeat' split
    · simp
    · simp
    · exact hem _ _
  rw [if_neg h2] at h ⊢
  by_cases h3 : s.st = 3
  · rw [if_pos h3] at h; unfold IS.sizes at h; exfalso; revert h; repeat' split
    all_goals simp
  rw [if_neg h3] at h ⊢
  by_cases h4 : s.st = 4
  · rw [if_pos h4] at h; unfold IS.heads at h; exfalso; revert h; repeat' split
    all_goals simp
  rw [if_neg h4] at h ⊢
  by_cases h5 : s.st = 5
  · rw [if_pos h5] at h; unfold IS.lengths IS.length IS.repeat_ at h; exfalso
    have := nextOf_err s.hd s.x
    revert h; repeat' split
    all_goals (intro h; simp at h <;> omega)
  rw [if_neg h5] at h ⊢
  by_cases h6 : s.st = 6
  · rw [if_pos h6] at h; unfold IS.token at h; exfalso
    have := nextOf_err s.lt s.x
    revert h; repeat' split
    all_goals first
      | exact hem _ _
      | (intro h; simp at h <;> omega)
  rw [if_neg h6] at h ⊢
  by_cases h7 : s.st = 7
  · rw [if_pos h7] at h; unfold IS.dist IS.text at h; exfalso
    have := nextOf_err s.ds s.x
    revert h; repeat' split
    all_goals first
      | exact hem _ _
      | (intro h; simp at h <;> omega)
  rw [if_neg h7]
  exact ⟨rfl, h0, h1, h2, h3, h4, h5, h6, h7⟩
end
end Go.Proofs.Ytlgkiookobedcaa
namespace Go.Proofs.Ytlgkiookobedcaa
set_option linter.unusedVariables false
section
variable {s : IS} {B : List Int} {j : Nat}
theorem num_byte (hB : ∀ x ∈ B, 0 ≤ x ∧ x < 256) (hj : j < B.length) : ((num (rb B (8 * j)) 8 : Nat) : Int) = ix B j := by
  rw [num_int (Bit.rb B _)]
  unfold rb
  rw [bts_byte B hj, numI_ofN]
  have := ix_bd hB j
  have h : (2 : Int) ^ 8 = 256 := rfl
  rw [h]
  omega
theorem take_more {l : List Int} {j K : Nat} (h : j + K < l.length) : (l.drop j).take (K + 1) = (l.drop j).take K ++ [ix l (j + K)] := by
  rw [List.take_succ_eq_append_getElem (by rw [List.length_drop]; omega)]
  congr 1
  simp [ix, List.getD_eq_getElem?_getD, List.getElem?_eq_getElem h]
theorem stored_one (hB : ∀ x ∈ B, 0 ≤ x ∧ x < 256) (hst : s.st = 2) (hx : s.x = rb B (8 * j)) (hj : j < B.length) (hl : s.left ≠ 0) :
    s.step = { s with x := rb B (8 * (j + 1)), left := s.left - 1 }.emit [ix B j] := by
  unfold IS.step
  rw [if_neg (by omega), if_neg (by omega), if_pos hst]
  unfold IS.stored
  rw [if_neg hl, if_neg (by rw [hx, rb_length]; omega), hx, num_byte hB hj, rb_drop, show 8 * j + 8 = 8 * (j + 1) by omega]
theorem stored_steps (hB : ∀ x ∈ B, 0 ≤ x ∧ x < 256) (hst : s.st = 2) (hx : s.x = rb B (8 * j)) (K : Nat) (hK : K ≤ s.left) (hj : j + K ≤ B.length) (hr : K ≤ s.rem) :
    IS.Steps s { s with x := rb B (8 * (j + K)), left := s.left - K, all := s.all ++ (B.drop j).take K, rem := s.rem - K } := by
  induction K with
  | zero =>
    have : ({ s with x := rb B (8 * (j + 0)), left := s.left - 0, all := s.all ++ (B.drop j).take 0, rem := s.rem - 0 } : IS) = s := by
      rw [Nat.add_zero, ← hx, List.take_zero, List.append_nil]
      rfl
    rw [this]
    exact .refl s
  | succ K ih =>
    have h1 := ih (by omega) (by omega) (by omega)
    have h2 := stored_one (s := { s with x := rb B (8 * (j + K)), left := s.left - K, all := s.all ++ (B.drop j).take K, rem := s.rem - K }) hB hst rfl (by omega) (by show s.left - K ≠ 0; omega)
    have h3 : IS.step { s with x := rb B (8 * (j + K)), left := s.left - K, all := s.all ++ (B.drop j).take K, rem := s.rem - K } = ({ s with x := rb B (8 * (j + (K + 1))), left := s.left - (K + 1), all := s.all ++ (B.drop j).take (K + 1), rem := s.rem - (K + 1) }, 0) := by
      rw [h2]
      unfold IS.emit
      simp only
      rw [if_neg (by simp; omega), List.take_of_length_le (l := [ix B (j + K)]) (by simp; omega), take_more (by omega), List.append_assoc, show s.left - K - 1 = s.left - (K + 1) by omega, show s.rem - K - [ix B (j + K)].length = s.rem - (K + 1) by simp; omega]
      rfl
    have h4 := IS.Steps.tail h1 (by rw [h3])
    rwa [h3] at h4
end
end Go.Proofs.Ytlgkiookobedcaa
