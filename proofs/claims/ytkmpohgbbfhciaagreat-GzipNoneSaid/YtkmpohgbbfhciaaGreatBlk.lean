/-
  Words for memory, over any program: an array that is known whole.
-/
import Derived.Test.YtkmpohgbbfhciaaGreatBase
namespace Go.Proofs.YtkmpohgbbfhciaaGreat
open Go.RowKit
set_option linter.unusedVariables false

def arrOf (m : Nat) (f : Nat → Value) : Array Value := ((List.range m).map f).toArray
theorem arrOf_size (m : Nat) (f : Nat → Value) : (arrOf m f).size = m := by simp [arrOf]
theorem arrOf_at {m i : Nat} (f : Nat → Value) (h : i < m) : (arrOf m f)[i]? = some (f i) := by simp [arrOf, h]
theorem arrOf_congr {m : Nat} {f f' : Nat → Value} (h : ∀ i, i < m → f i = f' i) : arrOf m f = arrOf m f' := by
  unfold arrOf
  congr 1
  apply List.map_congr_left
  intro i hi
  exact h i (by simpa using hi)
theorem arrOf_set (m : Nat) (f : Nat → Value) (i : Nat) (u : Value) : (arrOf m f).setIfInBounds i u = arrOf m (upd f i u) := by
  apply Array.ext
  · simp [arrOf]
  · intro j h1 h2
    have hj : j < m := by simpa [arrOf] using h2
    rw [Array.getElem_setIfInBounds (by simpa [arrOf] using hj)]
    by_cases e : i = j
    · subst e; simp [arrOf, upd]
    · rw [if_neg e]; simp [arrOf, upd]; intro h; exact absurd h.symm e
/-- Block g is just the array f 0 .. f (m-1) of element type t. -/
def Blk (w : World) (g : Nat) (t : TypeId) (m : Nat) (f : Nat → Value) : Prop := w.heap[g]? = some (.cells (arrOf m f) t (0, 0))
section
variable {w w' : World} {g m : Nat} {t : TypeId} {f : Nat → Value}
theorem Blk.ar (h : Blk w g t m f) : Ar w g m f := ⟨_, t, (0, 0), h, .inr rfl, by rw [arrOf_size]; exact Nat.le_refl _, fun i hi => arrOf_at f hi⟩
theorem Blk.lt (h : Blk w g t m f) : g < w.heap.size := lt_of_block h
theorem Blk.cell (h : Blk w g t m f) {i : Nat} (hi : i < m) : w.cell? ⟨g, i, none⟩ = some (f i) := h.ar.cell hi
theorem Blk.frozen (h : Blk w g t m f) (i : Nat) : w.frozen? ⟨g, i, none⟩ = false := by
  unfold Blk at h; simp [World.frozen?, h]
theorem Blk.same (h : Blk w g t m f) (hb : w'.heap[g]? = w.heap[g]?) : Blk w' g t m f := hb.trans h
theorem Blk.drewN (h : Blk w g t m f) (k : Nat) : Blk (w.drewN k) g t m f := h
theorem Blk.drew (h : Blk w g t m f) : Blk w.drew g t m f := h
theorem Blk.alloc (h : Blk w g t m f) (o : Obj) : Blk (w.alloc o) g t m f := h.same (Below.heap_alloc w o g h.lt)
theorem Blk.far (h : Blk w g t m f) {p : Addr} (hp : g ≠ p.block) (u : Value) : Blk (w.setCell p u) g t m f := h.same (Below.heap_setCell w p u g hp)
theorem Blk.below {B : Nat} (h : Blk w g t m f) (hb : Below B w w') (hg : g < B) : Blk w' g t m f := h.same (hb.block g hg)
theorem Blk.keeps (h : Blk w g t m f) (hb : Below w.heap.size w w') : Blk w' g t m f := h.below hb h.lt
theorem Blk.congr {f' : Nat → Value} (h : Blk w g t m f) (hf : ∀ i, i < m → f i = f' i) : Blk w g t m f' := by
  unfold Blk at *; rw [h, arrOf_congr hf]
theorem Blk.set_ (h : Blk w g t m f) (i : Nat) (u : Value) : Blk (w.setCell ⟨g, i, none⟩ u) g t m (upd f i u) := by
  unfold Blk at *
  rw [← arrOf_set]
  simp [World.setCell, Array.getElem?_modify, h]
theorem Blk.new {g : Nat} (hg : g = w.heap.size) (cs : Array Value) (t : TypeId) (h : cs = arrOf m f) : Blk (w.alloc (.cells cs t)) g t m f := by
  subst hg; subst h; exact heap_alloc_new w _
theorem Blk.row (h : Blk w g t m f) (m' : Nat) (f' : Nat → Value) : Blk (w.setRow g (arrOf m' f')) g t m' f' := setRow_heap w g _ _ t (0, 0) h
theorem below_setRow {B : Nat} {a : World} (h : Below B a w) (hg : B ≤ g) (cs : Array Value) : Below B a (w.setRow g cs) :=
  h.trans ⟨rfl, rfl, rfl, by simp, fun k hk => setRow_other w g k cs (by omega)⟩
end
theorem arrOf_one (m : Nat) (f : Nat → Value) (h : ∀ i, i < m → (f i).oneCell' = true) : (arrOf m f).all (·.oneCell') = true := by
  rw [Array.all_eq_true_iff_forall_mem]
  intro v hv
  simp [arrOf] at hv
  obtain ⟨i, hi, rfl⟩ := hv
  exact h i hi
end Go.Proofs.YtkmpohgbbfhciaaGreat
