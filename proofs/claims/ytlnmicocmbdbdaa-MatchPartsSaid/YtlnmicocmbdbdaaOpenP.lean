/-
  What is told of a slice of slices of bytes, and of a slice of bools, that came in.
-/
import Derived.Test.YtlnmicocmbdbdaaOpenC
namespace Go.Proofs.Ytlnmicocmbdbdaa
open Go.RowKit Go.ChangeShapes Go.WideShapes Go.Deep
set_option linter.unusedVariables false

structure PartV where
  A : Option Addr
  m : Nat
  d : Nat
  b : List Int
instance : Inhabited PartV := ⟨⟨none, 0, 0, []⟩⟩
theorem exists_list {α : Type} [Inhabited α] {P : Nat → α → Prop} {n : Nat} (h : ∀ i, i < n → ∃ t, P i t) : ∃ l : List α, l.length = n ∧ ∀ i, i < n → P i (l.getD i default) := by
  induction n with
  | zero => exact ⟨[], rfl, fun i hi => by omega⟩
  | succ n ih =>
    obtain ⟨l, hl, hc⟩ := ih fun i hi => h i (by omega)
    obtain ⟨t, ht⟩ := h n (by omega)
    refine ⟨l ++ [t], by simp [hl], fun i hi => ?_⟩
    rw [List.getD_eq_getElem?_getD]
    by_cases hlt : i < n
    · rw [List.getElem?_append_left (by omega), ← List.getD_eq_getElem?_getD]; exact hc i hlt
    · obtain rfl : i = n := by omega
      rw [List.getElem?_append_right (by omega)]; simp [hl]; exact ht
theorem cell_lt {w : World} {p : Addr} {v : Value} (h : w.cell? p = some v) : p.block < w.heap.size := by
  rcases Nat.lt_or_ge p.block w.heap.size with h' | h'
  · exact h'
  · simp [World.cell?, Array.getElem?_eq_none h'] at h
/-- a slice of slices of bytes -/
def RdP (w : World) (a : Option Addr) (len : Nat) (l : List PartV) : Prop :=
  ∀ i, i < len → ∃ ad, a = some ad ∧ ad.block < w.heap.size ∧ w.cell? (ad.add i) = some (.slice (l.getD i default).A (l.getD i default).m (l.getD i default).d) ∧ InC .u8 w (l.getD i default).A (l.getD i default).m (l.getD i default).d (l.getD i default).b
theorem rdP_of {H : Type} {enc : TypeId × Value → H} {w : World} {fuel : Nat} {a : Option Addr} {len cap : Nat} {x : DataW H × List MemPlace}
    (h : DataW.trod enc Try.prog w 0 (fun _ => true) true fuel 34 [.slice a len cap] = some x) : ∃ l : List PartV, RdP w a len l ∧ len ≤ maxLen := by
  rcases open_slice1 Try.underlying34 (by kernel_rfl) h with ⟨hcs, _⟩ | ⟨ad, l, c, m, n, V, D, Pl, hcs, _, hl, hm, hmm, _, hi⟩
  · simp at hcs
    obtain ⟨rfl, rfl, rfl⟩ := hcs
    exact ⟨[], fun i hi => by omega, Nat.zero_le _⟩
  · simp at hcs hmm
    obtain ⟨rfl, rfl, rfl⟩ := hcs
    subst hmm
    have key : ∀ i, i < len → ∃ t : PartV, ∃ ad', some ad = some ad' ∧ ad'.block < w.heap.size ∧ w.cell? (ad'.add i) = some (.slice t.A t.m t.d) ∧ InC .u8 w t.A t.m t.d t.b := by
      intro i hil
      obtain ⟨hc, ht⟩ := hi i (by omega)
      have hb : ad.block < w.heap.size := by have := cell_lt hc; rwa [addr_block] at this
      rcases open_ints Try.underlying22 Try.underlying5 (by kernel_rfl) ht with ⟨hcs, _⟩ | ⟨x, l, c, zs, hcs, _, hl, hm, hz, _, hcell, hwz⟩
      · simp at hcs
        rw [hcs] at hc
        exact ⟨⟨none, 0, 0, []⟩, ad, rfl, hb, hc, ⟨rfl, Rd.nil_⟩, Nat.zero_le _, (fun x hx => by cases hx), Nat.le_refl _, Nat.zero_le _⟩
      · simp at hcs
        rw [hcs] at hc
        obtain ⟨r1, r2, r3⟩ := rd_of_row (k := .u8) (w := w) (a := some x) (len := l) (cap := c) (zs := zs) (.inr ⟨_, rfl, hl, hm, by simpa using hz, hcell, hwz⟩)
        exact ⟨⟨some x, l, c, _⟩, ad, rfl, hb, hc, r1, r2, r3, hl, hm⟩
    obtain ⟨l, hll, hc⟩ := exists_list key
    exact ⟨l, hc, by omega⟩
/-- a slice of bools -/
def RdB (w : World) (a : Option Addr) (len : Nat) (l : List Bool) : Prop :=
  ∀ i, i < len → ∃ ad, a = some ad ∧ ad.block < w.heap.size ∧ w.cell? (ad.add i) = some (.bool (l.getD i default))
theorem rdB_of {H : Type} {enc : TypeId × Value → H} {w : World} {fuel : Nat} {a : Option Addr} {len cap : Nat} {x : DataW H × List MemPlace}
    (h : DataW.trod enc Try.prog w 0 (fun _ => true) true fuel 35 [.slice a len cap] = some x) : ∃ l : List Bool, RdB w a len l ∧ len ≤ maxLen := by
  rcases open_slice1 Try.underlying35 (by kernel_rfl) h with ⟨hcs, _⟩ | ⟨ad, l, c, m, n, V, D, Pl, hcs, _, hl, hm, hmm, _, hi⟩
  · simp at hcs
    obtain ⟨rfl, rfl, rfl⟩ := hcs
    exact ⟨[], fun i hi => by omega, Nat.zero_le _⟩
  · simp at hcs hmm
    obtain ⟨rfl, rfl, rfl⟩ := hcs
    subst hmm
    have key : ∀ i, i < len → ∃ t : Bool, ∃ ad', some ad = some ad' ∧ ad'.block < w.heap.size ∧ w.cell? (ad'.add i) = some (.bool t) := by
      intro i hil
      obtain ⟨hc, ht⟩ := hi i (by omega)
      have hb : ad.block < w.heap.size := by have := cell_lt hc; rwa [addr_block] at this
      obtain ⟨t, e, _⟩ := DataW.trod_bool Try.underlying4 ht
      simp at e
      rw [e] at hc
      exact ⟨t, ad, rfl, hb, hc⟩
    obtain ⟨l, hll, hc⟩ := exists_list key
    exact ⟨l, hc, by omega⟩
end Go.Proofs.Ytlnmicocmbdbdaa
