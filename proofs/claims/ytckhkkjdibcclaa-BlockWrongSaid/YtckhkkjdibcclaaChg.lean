/-
  Words for memory, over any program: what a call may have changed: the blocks of a set, and what is new.
-/
import Derived.Test.YtckhkkjdibcclaaOwn
namespace Go.Proofs.Ytckhkkjdibcclaa
open Go.RowKit
set_option linter.unusedVariables false

theorem addr0 (g i : Nat) : (⟨g, 0, none⟩ : Addr).add i = ⟨g, i, none⟩ := by unfold Addr.add; split <;> simp_all
def foot (A : Option Addr) (g : Nat) (k : Nat) : Prop := k = g ∨ blkOf A = some k
/-- Of the blocks of w only those of S may have turned. -/
structure Chg (w w' : World) (S : Nat → Prop) : Prop where
  os : w'.os = w.os
  tape : w'.tape = w.tape
  output : w'.output = w.output
  size : w.heap.size ≤ w'.heap.size
  block : ∀ k, k < w.heap.size → ¬ S k → w'.heap[k]? = w.heap[k]?
section
variable {w w' w'' : World} {S S' : Nat → Prop}
theorem Chg.refl (w : World) (S : Nat → Prop) : Chg w w S := ⟨rfl, rfl, rfl, Nat.le_refl _, fun _ _ _ => rfl⟩
theorem Chg.trans (h : Chg w w' S) (h' : Chg w' w'' S') (hs : ∀ k, S' k → S k ∨ w.heap.size ≤ k) : Chg w w'' S :=
  ⟨h'.os.trans h.os, h'.tape.trans h.tape, h'.output.trans h.output, Nat.le_trans h.size h'.size, fun k hk hS =>
    (h'.block k (Nat.lt_of_lt_of_le hk h.size) (fun h2 => by rcases hs k h2 with h3 | h3; exact hS h3; omega)).trans (h.block k hk hS)⟩
theorem Chg.more (h : Chg w w' S) (hs : ∀ k, S k → S' k) : Chg w w' S' := ⟨h.os, h.tape, h.output, h.size, fun k hk hS => h.block k hk fun h2 => hS (hs k h2)⟩
theorem Chg.drew (h : Chg w w' S) : Chg w w'.drew S := ⟨h.os, h.tape, h.output, h.size, h.block⟩
theorem Chg.drewN (h : Chg w w' S) (n : Nat) : Chg w (w'.drewN n) S := ⟨h.os, h.tape, h.output, h.size, h.block⟩
theorem Chg.alloc (h : Chg w w' S) (o : Obj) : Chg w (w'.alloc o) S :=
  ⟨h.os, h.tape, h.output, Nat.le_trans h.size (by simp), fun k hk hS => (Below.heap_alloc w' o k (Nat.lt_of_lt_of_le hk h.size)).trans (h.block k hk hS)⟩
theorem Chg.setCell (h : Chg w w' S) {p : Addr} (hp : S p.block ∨ w.heap.size ≤ p.block) (u : Value) : Chg w (w'.setCell p u) S :=
  ⟨h.os, h.tape, h.output, by simpa [World.setCell] using h.size, fun k hk hS => (Below.heap_setCell w' p u k (by
    rintro rfl
    rcases hp with hp | hp
    · exact hS hp
    · omega)).trans (h.block k hk hS)⟩
theorem Chg.grown (h : Chg w w' S) {row : Option Nat} (hg : w'.grownBy w'' row) (hr : ∀ k, row = some k → S k ∨ w.heap.size ≤ k) : Chg w w'' S :=
  ⟨hg.os.trans h.os, hg.tape.trans h.tape, hg.output.trans h.output, Nat.le_trans h.size hg.size, fun k hk hS =>
    (hg.block k (Nat.lt_of_lt_of_le hk h.size) (fun e => by rcases hr k e.symm with h2 | h2; exact hS h2; omega)).trans (h.block k hk hS)⟩
theorem Chg.of_below (h : Below w.heap.size w w') : Chg w w' S := ⟨h.os, h.tape, h.output, h.size, fun k hk _ => h.block k hk⟩
theorem Chg.below {b0 : Nat} (h : Chg w w' S) (hs : ∀ k, S k → b0 ≤ k) (hb : b0 ≤ w.heap.size) : Below b0 w w' :=
  ⟨h.os, h.tape, h.output, h.size, fun k hk => h.block k (by omega) fun h2 => by have := hs k h2; omega⟩
theorem Chg.cell (h : Chg w w' S) {p : Addr} (hp : p.block < w.heap.size) (hS : ¬ S p.block) : w'.cell? p = w.cell? p := World.cell?_of_block (w := w) (h.block p.block hp hS)
theorem Chg.ar {g m : Nat} {f : Nat → Value} (h : Chg w w' S) (ha : Ar w g m f) (hS : ¬ S g) : Ar w' g m f := ha.same (h.block g ha.lt hS)
theorem Chg.own {b0 : Nat} {e : TypeId} {sz n c : Nat} {A : Option Addr} {f : Nat → Value} (h : Chg w w' S) (ha : Own w b0 e sz A n c f) (hS : ∀ g, blkOf A = some g → ¬ S g) : Own w' b0 e sz A n c f :=
  ha.keep fun g hg hlt => h.block g hlt (hS g hg)
theorem Chg.ownI {k : IntKind} {b0 : Nat} {e : TypeId} {n c : Nat} {A : Option Addr} {l : List Int} (h : Chg w w' S) (ha : OwnI k w b0 e A n c l) (hS : ∀ g, blkOf A = some g → ¬ S g) : OwnI k w' b0 e A n c l :=
  ⟨ha.1, h.own ha.2 hS⟩
theorem Chg.rdI {k : IntKind} {B n : Nat} {A : Option Addr} {l : List Int} (h : Chg w w' S) (ha : RdI k w B A n l) (hB : B ≤ w.heap.size) (hS : 0 < n → ∀ ad, A = some ad → ¬ S ad.block) : RdI k w' B A n l :=
  ⟨ha.1, fun hm => by
    obtain ⟨ad, e, hb, hc⟩ := ha.2 hm
    exact ⟨ad, e, hb, fun i hi => (h.cell (by rw [addr_block]; omega) (by rw [addr_block]; exact hS hm ad e)).trans (hc i hi)⟩⟩
end

/-- The bytes from place k on. -/
theorem ix_drop (l : List Int) (k i : Nat) : ix (l.drop k) i = ix l (k + i) := by
  unfold ix
  simp only [List.getD_eq_getElem?_getD, List.getElem?_drop]
theorem RdI.cut {k : IntKind} {w : World} {B n : Nat} {A : Option Addr} {l : List Int} (h : RdI k w B A n l) {j : Nat} (hj : j ≤ n) {A' : Option Addr} (hA : j < n → A' = A.map (·.add j)) : RdI k w B A' (n - j) (l.drop j) := by
  refine ⟨by rw [List.length_drop, h.1], fun hm => ?_⟩
  obtain ⟨ad, rfl, hb, hc⟩ := h.2 (by omega)
  refine ⟨ad.add j, hA (by omega), by rw [addr_block]; exact hb, fun i hi => ?_⟩
  rw [addr_add, hc (j + i) (by omega)]
  show some (Value.int k (ix l (j + i))) = some (Value.int k (ix (List.drop j l) i))
  rw [ix_drop]
end Go.Proofs.Ytckhkkjdibcclaa
