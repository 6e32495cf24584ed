/-
  Plain law: the bits of a block's tokens.
-/
import Derived.Test.YtckhkkjdibcclaaTokP
import Derived.Test.YtckhkkjdibcclaaTokM
import Derived.Test.YtckhkkjdibcclaaSymP
import Derived.Test.YtckhkkjdibcclaaTBackP
namespace Go.Proofs.Ytckhkkjdibcclaa
open Go.RowKit
set_option linter.unusedVariables false
/-- the last place whose base is not above n -/
def lastJ (B : Nat → Nat) (n : Int) : Nat → Nat
  | 0 => 0
  | t + 1 => if ((B (t + 1) : Nat) : Int) ≤ n then t + 1 else lastJ B n t
theorem lastJ_last {B : Nat → Nat} {n : Int} (h0 : ((B 0 : Nat) : Int) ≤ n) : ∀ top, Last_ B top n (lastJ B n top)
  | 0 => ⟨Nat.le_refl _, h0, fun i h1 h2 => by simp [lastJ] at h1; omega⟩
  | t + 1 => by
    unfold lastJ
    by_cases h : ((B (t + 1) : Nat) : Int) ≤ n
    · rw [if_pos h]; exact ⟨Nat.le_refl _, h, fun i h1 h2 => by omega⟩
    · rw [if_neg h]
      obtain ⟨h1, h2, h3⟩ := lastJ_last h0 t
      refine ⟨by omega, h2, fun i h4 h5 => ?_⟩
      by_cases e : i = t + 1
      · subst e; omega
      · exact h3 i h4 (by omega)
def lenJ (n : Int) : Nat := lastJ lB n 28
def distJ (n : Int) : Nat := lastJ dB n 29
theorem lenJ_last {n : Int} (h : 3 ≤ n) : Last_ lB 28 n (lenJ n) := lastJ_last (by show ((3 : Nat) : Int) ≤ n; omega) 28
theorem distJ_last {n : Int} (h : 1 ≤ n) : Last_ dB 29 n (distJ n) := lastJ_last (by show ((1 : Nat) : Int) ≤ n; omega) 29
theorem code_len {n : Int} {v : Value} (h : CodeIs lB lE 3 258 257 28 n v) (h3 : 3 ≤ n ∧ n ≤ 258) : v = .tuple #[.int .i64 (257 + ((lenJ n : Nat) : Int)), .int .i64 ((lE (lenJ n) : Nat) : Int), .int .i64 (n - ((lB (lenJ n) : Nat) : Int))] := by
  rcases h with ⟨h, _⟩ | ⟨_, j, hj, h⟩
  · omega
  · rw [h, hj.uniq (lenJ_last h3.1)]
theorem code_dist {n : Int} {v : Value} (h : CodeIs dB dE 1 32768 0 29 n v) (h3 : 1 ≤ n ∧ n ≤ 32768) : v = .tuple #[.int .i64 ((distJ n : Nat) : Int), .int .i64 ((dE (distJ n) : Nat) : Int), .int .i64 (n - ((dB (distJ n) : Nat) : Int))] := by
  rcases h with ⟨h, _⟩ | ⟨_, j, hj, h⟩
  · omega
  · rw [h, hj.uniq (distJ_last h3.1), Int.zero_add]
/-- a token's bits -/
def tokB (lit dist : List Int) (t : Tok) : List Int :=
  if t.len = 0 then symBits lit t.lit.toNat
  else symBits lit (257 + lenJ t.len) ++ ofN (t.len - ((lB (lenJ t.len) : Nat) : Int)) (lE (lenJ t.len)) ++ symBits dist (distJ t.dist) ++ ofN (t.dist - ((dB (distJ t.dist) : Nat) : Int)) (dE (distJ t.dist))
def toksB (lit dist : List Int) (l : List Tok) : List Int := l.flatMap (tokB lit dist)
def blkB (lit dist : List Int) (l : List Tok) : List Int := toksB lit dist l ++ symBits lit 256
theorem toksB_app (lit dist : List Int) (a b : List Tok) : toksB lit dist (a ++ b) = toksB lit dist a ++ toksB lit dist b := by simp [toksB]
theorem toksB_one (lit dist : List Int) (t : Tok) : toksB lit dist [t] = tokB lit dist t := by simp [toksB]
theorem tok_take {l : List Tok} {k : Nat} (h : k < l.length) : l.take (k + 1) = l.take k ++ [tokAt l k] := by
  rw [List.take_succ_eq_append_getElem h]
  simp [tokAt, h]
theorem sym_le {l : List Int} (h : ∀ i, i < l.length → 0 ≤ ix l i ∧ ix l i ≤ 15) (s : Nat) : (symBits l s).length ≤ 15 := by
  rw [symBits_length]
  by_cases e : s < l.length
  · have := h s e; omega
  · have : ix l s = 0 := by unfold ix; rw [List.getD_eq_getElem?_getD, List.getElem?_eq_none (by omega)]; rfl
    rw [this]; exact Nat.zero_le _
theorem tok_bd {t : Tok} (h : soundT t) (h0 : t.len ≠ 0) : (3 ≤ t.len ∧ t.len ≤ 258) ∧ (1 ≤ t.dist ∧ t.dist ≤ 32768) ∧ lenJ t.len ≤ 28 ∧ distJ t.dist ≤ 29 := by
  unfold soundT at h
  rw [if_neg h0] at h
  exact ⟨⟨h.2.1, h.2.2.1⟩, ⟨h.2.2.2.1, h.2.2.2.2⟩, (lenJ_last h.2.1).1, (distJ_last h.2.2.2.1).1⟩
theorem tok_le {lit dist : List Int} (hl : ∀ i, i < lit.length → 0 ≤ ix lit i ∧ ix lit i ≤ 15) (hd : ∀ i, i < dist.length → 0 ≤ ix dist i ∧ ix dist i ≤ 15) {t : Tok} (h : soundT t) : (tokB lit dist t).length ≤ 48 := by
  unfold tokB
  by_cases h0 : t.len = 0
  · rw [if_pos h0]; have := sym_le hl t.lit.toNat; omega
  · rw [if_neg h0]
    obtain ⟨_, _, h3, h4⟩ := tok_bd h h0
    have h5 := (lB_bd (lenJ t.len) (by omega)).2.2
    have h6 := (dB_bd' (distJ t.dist) (by omega)).2.2
    have h7 := sym_le hl (257 + lenJ t.len)
    have h8 := sym_le hd (distJ t.dist)
    rw [List.length_append, List.length_append, List.length_append, ofN_length, ofN_length]
    omega
theorem toks_le {lit dist : List Int} (hl : ∀ i, i < lit.length → 0 ≤ ix lit i ∧ ix lit i ≤ 15) (hd : ∀ i, i < dist.length → 0 ≤ ix dist i ∧ ix dist i ≤ 15) : ∀ l : List Tok, (∀ t ∈ l, soundT t) → (toksB lit dist l).length ≤ 48 * l.length
  | [], _ => by simp [toksB]
  | t :: l, h => by
    have h1 := tok_le hl hd (h t List.mem_cons_self)
    have h2 := toks_le hl hd l fun u hu => h u (List.mem_cons_of_mem _ hu)
    show (tokB lit dist t ++ toksB lit dist l).length ≤ _
    rw [List.length_append, List.length_cons]; omega
end Go.Proofs.Ytckhkkjdibcclaa
