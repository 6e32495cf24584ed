/-
  Words for lists of tokens in memory; what they stand for.
-/
import Derived.Test.YtckhkkjdibcclaaProg
import Derived.Test.YtckhkkjdibcclaaChg
import Derived.Test.YtckhkkjdibcclaaExpP
namespace Go.Proofs.Ytckhkkjdibcclaa
open Go.RowKit
set_option linter.unusedVariables false

theorem tmbyte_info : (Try.prog.info? 5).map (fun i => (i.zero, i.size, i.bytes)) = some (some (.int .u8 0), 1, 1) := by kernel_rfl
theorem addr_next (a : Addr) (m j : Nat) (hj : 0 < j) : a.add (m + j) = ⟨(a.add m).block, (a.add m).off + j, none⟩ := by
  unfold Addr.add
  rw [if_neg (by simp; omega)]
  by_cases hm : m = 0
  · subst hm; simp
  · simp [hm, Nat.add_assoc]
/-- the fields of the token at place i -/
def tokAt (l : List Tok) (i : Nat) : Tok := l.getD i ⟨0, 0, 0⟩
/-- A slice of tokens that reads as l. -/
def RdT (w : World) (B : Nat) (A : Option Addr) (n : Nat) (l : List Tok) : Prop :=
  n = l.length ∧ (0 < n → ∃ ad, A = some ad ∧ ad.block < B ∧ ∀ i, i < n → w.cell? (ad.add (i * 3)) = some (.int .u8 (tokAt l i).lit) ∧ w.cell? (ad.add (i * 3 + 1)) = some (.int .i64 (tokAt l i).len) ∧ w.cell? (ad.add (i * 3 + 2)) = some (.int .i64 (tokAt l i).dist))

theorem RdT.drop_ {l : List Tok} {n k : Nat} (hn : n = l.length) (hk : k < n) : l.drop k = tokAt l k :: l.drop (k + 1) := by
  rw [List.drop_eq_getElem_cons (by omega)]
  simp [tokAt, List.getD_eq_getElem?_getD, show k < l.length by omega]
def tf (L N D : Int) : Nat → Value
  | 0 => .int .u8 L
  | 1 => .int .i64 N
  | _ => .int .i64 D
theorem tf_new (w : World) (L N D : Int) (t : TypeId) : Ar (w.alloc (.cells #[.int .u8 L, .int .i64 N, .int .i64 D] t)) w.heap.size 3 (tf L N D) :=
  Ar.new w _ t rfl fun i hi => by
    obtain rfl | rfl | rfl : i = 0 ∨ i = 1 ∨ i = 2 := by omega
    · rfl
    · rfl
    · rfl
def soundB (L n d : Int) : Bool := if n = 0 then decide (d = 0) else decide (L = 0 ∧ 3 ≤ n ∧ n ≤ 258 ∧ 1 ≤ d ∧ d ≤ 32768)
theorem soundB_zero {L n d : Int} (h : n = 0) : soundB L n d = decide (d = 0) := by unfold soundB; rw [if_pos h]
theorem soundB_match {L n d : Int} (h : ¬ n = 0) : soundB L n d = decide (L = 0 ∧ 3 ≤ n ∧ n ≤ 258 ∧ 1 ≤ d ∧ d ≤ 32768) := by unfold soundB; rw [if_neg h]
def ExpPost (w : World) (l : List Tok) (e : Ending) (w' : World) : Prop :=
  ∃ A n c, e = .returned (.tuple #[.slice A n c, .int .i64 (expand [] l).1]) ∧ OwnI .u8 w' w.heap.size 5 A n c (expand [] l).2 ∧ Below w.heap.size w w'
theorem soundB_iff (L N D : Int) : soundB L N D = decide (soundT ⟨L, N, D⟩) := by
  unfold soundB soundT
  by_cases h : N = 0
  · simp [h]
  · simp [h]

theorem expand_append (out : List Int) (a b : List Tok) : expand out (a ++ b) = if (expand out a).1 = 0 then expand (expand out a).2 b else expand out a := by
  induction a generalizing out with
  | nil => rfl
  | cons t a ih =>
    rw [List.cons_append, expand_cons, expand_cons]
    by_cases h : (step out t).1 = 0
    · rw [if_pos h, if_pos h, ih]
    · rw [if_neg h, if_neg h, if_neg h]
theorem step_err {out : List Int} {t : Tok} (h : (step out t).1 ≠ 0) : (step out t).2 = [] := by
  unfold step at h ⊢
  split
  · rfl
  · rename_i h1
    rw [if_neg h1] at h
    split
    · rfl
    · rename_i h2
      rw [if_neg h2] at h
      split
      · rename_i h3; rw [if_pos h3] at h; exact absurd rfl h
      · rename_i h3
        rw [if_neg h3] at h
        split
        · rfl
        · rename_i h4; rw [if_neg h4] at h; exact absurd rfl h
theorem step_ok {out : List Int} {t : Tok} (h : (step out t).1 = 0) : ∃ z, (step out t).2 = out ++ z := by
  unfold step at h ⊢
  split
  · rename_i h1; rw [if_pos h1] at h; simp at h
  · rename_i h1
    rw [if_neg h1] at h
    split
    · rename_i h2; rw [if_pos h2] at h; simp at h
    · rename_i h2
      rw [if_neg h2] at h
      split
      · exact ⟨_, rfl⟩
      · rename_i h3
        rw [if_neg h3] at h
        split
        · rename_i h4; rw [if_pos h4] at h; simp at h
        · exact ⟨_, rfl⟩
theorem expand_err {out : List Int} {l : List Tok} (h : (expand out l).1 ≠ 0) : (expand out l).2 = [] := by
  induction l generalizing out with
  | nil => exact absurd rfl h
  | cons t l ih =>
    rw [expand_cons] at h ⊢
    by_cases hs : (step out t).1 = 0
    · rw [if_pos hs] at h ⊢; exact ih h
    · rw [if_neg hs] at h ⊢; exact step_err h
theorem expand_ok {out : List Int} {l : List Tok} (h : (expand out l).1 = 0) : ∃ z, (expand out l).2 = out ++ z := by
  induction l generalizing out with
  | nil => exact ⟨[], by simp [expand]⟩
  | cons t l ih =>
    rw [expand_cons] at h ⊢
    by_cases hs : (step out t).1 = 0
    · rw [if_pos hs] at h ⊢
      obtain ⟨z, hz⟩ := ih h
      obtain ⟨y, hy⟩ := step_ok hs
      exact ⟨y ++ z, by rw [hz, hy, List.append_assoc]⟩
    · rw [if_neg hs] at h; exact absurd h hs
theorem expand_le {out : List Int} {l : List Tok} (h : out.length ≤ 16777216) : (expand out l).2.length ≤ 16777216 := by
  induction l generalizing out with
  | nil => exact h
  | cons t l ih =>
    rw [expand_cons]
    by_cases hs : (step out t).1 = 0
    · rw [if_pos hs]; exact ih (step_len hs).1
    · rw [if_neg hs, step_err hs]; simp
theorem RdT.below {w w' : World} {B n : Nat} {A : Option Addr} {l : List Tok} (h : RdT w B A n l) (hb : Below B w w') : RdT w' B A n l := ⟨h.1, fun h0 => by
  obtain ⟨ad, e, hB, hc⟩ := h.2 h0
  exact ⟨ad, e, hB, fun i hi => by
    obtain ⟨c0, c1, c2⟩ := hc i hi
    exact ⟨(hb.cell (by rw [addr_block]; exact hB)).trans c0, (hb.cell (by rw [addr_block]; exact hB)).trans c1, (hb.cell (by rw [addr_block]; exact hB)).trans c2⟩⟩⟩
theorem RdT.more {w : World} {B B' n : Nat} {A : Option Addr} {l : List Tok} (h : RdT w B A n l) (hb : B ≤ B') : RdT w B' A n l := ⟨h.1, fun h0 => by
  obtain ⟨ad, e, hB, hc⟩ := h.2 h0
  exact ⟨ad, e, by omega, hc⟩⟩
end Go.Proofs.Ytckhkkjdibcclaa
