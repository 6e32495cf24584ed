/-
  Words for memory, over any program: a slice that reads as a function of its places, a slice that reads as a list of numbers.
-/
import Derived.WalkKit
import Derived.WalkLawsBesides
import Derived.WalkSpells
import Derived.Below
import Derived.Laws.OwnMore
import Derived.Deep.AppendLies
import Derived.Deep.Draws
import Derived.Deep.QuietTactic
import Derived.BigQuiet
import Derived.BigGuardPart
import Derived.Lib.Hide
import Derived.LoopTactic
import Derived.Deep.LoopGhost
import Derived.RegionTactic
import Derived.Outline
import Derived.WalkSmall
import Derived.OneCell
namespace Go.Proofs.Ytckhkkjdibcclaa
open Go.RowKit
set_option linter.unusedVariables false

theorem addr_block (a : Addr) (n : Nat) : (a.add n).block = a.block := by unfold Addr.add; split <;> rfl
theorem addr_add (a : Addr) (i j : Nat) : (a.add i).add j = a.add (i + j) := by
  unfold Addr.add
  by_cases hi : i = 0 <;> by_cases hj : j = 0 <;> simp [hi, hj, Nat.add_assoc]

/-- The first m cells behind the address A hold f 0, f 1, ..; they lie in a block below B. -/
def Rd (w : World) (B : Nat) (A : Option Addr) (m : Nat) (f : Nat → Value) : Prop :=
  0 < m → ∃ ad, A = some ad ∧ ad.block < B ∧ ∀ i, i < m → w.cell? (ad.add i) = some (f i)

/-- The number at place i, 0 beyond the end; the walk does not unfold it. -/
def ix (l : List Int) (i : Nat) : Int := l.getD i 0

/-- A slice of numbers of kind k that reads as l. -/
def RdI (k : IntKind) (w : World) (B : Nat) (A : Option Addr) (n : Nat) (l : List Int) : Prop :=
  n = l.length ∧ Rd w B A n (fun i => .int k (ix l i))

section
variable {w w' : World} {B B' n m : Nat} {A : Option Addr} {f : Nat → Value}
theorem Rd.nil_ : Rd w B A 0 f := fun h => absurd h (by omega)
theorem Rd.keep (h : Rd w B A m f) (hk : ∀ p : Addr, p.block < B → w'.cell? p = w.cell? p) : Rd w' B A m f := fun hm => by
  obtain ⟨ad, e, hb, hc⟩ := h hm
  exact ⟨ad, e, hb, fun i hi => (hk _ (by rw [addr_block]; exact hb)).trans (hc i hi)⟩
theorem Rd.more (h : Rd w B A m f) (hB : B ≤ B') : Rd w B' A m f := fun hm => by
  obtain ⟨ad, e, hb, hc⟩ := h hm
  exact ⟨ad, e, by omega, hc⟩
theorem Rd.below (h : Rd w B A m f) (hb : Below B w w') : Rd w' B A m f := h.keep fun _ hp => hb.cell hp
theorem Rd.congr {g : Nat → Value} (h : Rd w B A m f) (hfg : ∀ i, i < m → f i = g i) : Rd w B A m g := fun hm => by
  obtain ⟨ad, e, hb, hc⟩ := h hm
  exact ⟨ad, e, hb, fun i hi => by rw [hc i hi, hfg i hi]⟩
end

section
variable {k : IntKind} {w w' : World} {B B' n : Nat} {A : Option Addr} {l : List Int}
theorem RdI.at_ (h : RdI k w B A n l) {i : Nat} (hi : i < n) : ∃ ad, A = some ad ∧ ad.block < B ∧ w.cell? (ad.add i) = some (.int k (ix l i)) := by
  obtain ⟨ad, e, hb, hc⟩ := h.2 (by omega)
  exact ⟨ad, e, hb, hc i hi⟩
theorem RdI.keep (h : RdI k w B A n l) (hk : ∀ p : Addr, p.block < B → w'.cell? p = w.cell? p) : RdI k w' B A n l := ⟨h.1, h.2.keep hk⟩
theorem RdI.more (h : RdI k w B A n l) (hB : B ≤ B') : RdI k w B' A n l := ⟨h.1, h.2.more hB⟩
theorem RdI.below (h : RdI k w B A n l) (hb : Below B w w') : RdI k w' B A n l := ⟨h.1, h.2.below hb⟩
theorem RdI.drewN (h : RdI k w B A n l) (j : Nat) : RdI k (w.drewN j) B A n l := h
end

theorem ret_int {k : IntKind} {a b : Int} (h : a = b) : Ending.returned (.int k a) = .returned (.int k b) := by rw [h]
theorem ret_bool {a b : Bool} (h : a = b) : Ending.returned (.bool a) = .returned (.bool b) := by rw [h]

/-- A block whose first m cells, none frozen, hold f 0, f 1, .. -/
def Ar (w : World) (g m : Nat) (f : Nat → Value) : Prop :=
  ∃ (cs : Array Value) (t : TypeId) (fr : Nat × Nat), w.heap[g]? = some (.cells cs t fr) ∧ (m ≤ fr.1 ∨ fr.2 = 0) ∧ m ≤ cs.size ∧ ∀ i, i < m → cs[i]? = some (f i)
/-- f, but v at place i. -/
def upd {α : Type} (f : Nat → α) (i : Nat) (v : α) : Nat → α := fun j => if j = i then v else f j
theorem upd_same {α : Type} (f : Nat → α) (i : Nat) (v : α) : upd f i v i = v := by simp [upd]
theorem upd_other {α : Type} (f : Nat → α) {i j : Nat} (v : α) (h : j ≠ i) : upd f i v j = f j := by simp [upd, h]

section
variable {w w' : World} {g m : Nat} {f : Nat → Value}
theorem Ar.lt (h : Ar w g m f) : g < w.heap.size := by
  obtain ⟨cs, t, fr, hh, _⟩ := h
  exact lt_of_block hh
theorem Ar.cell (h : Ar w g m f) {i : Nat} (hi : i < m) : w.cell? ⟨g, i, none⟩ = some (f i) := by
  obtain ⟨cs, t, fr, hh, _, _, hc⟩ := h
  rw [cell_of_row w g i cs t fr hh, hc i hi]
theorem Ar.frozen' (h : Ar w g m f) {i : Nat} (hi : i < m) : w.frozen? ⟨g, i, none⟩ = false := by
  obtain ⟨cs, t, ⟨lo, hi'⟩, hh, hf, _⟩ := h
  simp [World.frozen?, hh]
  simp at hf
  omega
theorem Ar.drewN (h : Ar w g m f) (k : Nat) : Ar (w.drewN k) g m f := h
theorem Ar.drew (h : Ar w g m f) : Ar w.drew g m f := h
theorem Ar.same (h : Ar w g m f) (hb : w'.heap[g]? = w.heap[g]?) : Ar w' g m f := by
  obtain ⟨cs, t, fr, hh, r⟩ := h
  exact ⟨cs, t, fr, hb.trans hh, r⟩
theorem Ar.alloc (h : Ar w g m f) (o : Obj) : Ar (w.alloc o) g m f := h.same (Below.heap_alloc w o g h.lt)
theorem Ar.far (h : Ar w g m f) {p : Addr} (hp : g ≠ p.block) (u : Value) : Ar (w.setCell p u) g m f := h.same (Below.heap_setCell w p u g hp)
theorem Ar.below {B : Nat} (h : Ar w g m f) (hb : Below B w w') (hg : g < B) : Ar w' g m f := h.same (hb.block g hg)
theorem Ar.keeps (h : Ar w g m f) (hb : Below w.heap.size w w') : Ar w' g m f := h.below hb h.lt
theorem Ar.grown {row : Option Nat} (h : Ar w g m f) (hb : w.grownBy w' row) (hg : some g ≠ row) : Ar w' g m f := h.same (hb.block g h.lt hg)
theorem Ar.set_ (h : Ar w g m f) {i : Nat} (hi : i < m) (u : Value) : Ar (w.setCell ⟨g, i, none⟩ u) g m (upd f i u) := by
  obtain ⟨cs, t, fr, hh, hf, hs, hc⟩ := h
  refine ⟨cs.setIfInBounds i u, t, fr, ?_, hf, by simpa using hs, fun j hj => ?_⟩
  · simp [World.setCell, Array.getElem?_modify, hh]
  · rw [Array.getElem?_setIfInBounds]
    by_cases he : i = j
    · subst he
      rw [if_pos rfl, if_pos (by omega), upd_same]
    · rw [if_neg he, hc j hj, upd_other _ _ (by omega)]
theorem Ar.congr {f' : Nat → Value} (h : Ar w g m f) (hf : ∀ i, i < m → f i = f' i) : Ar w g m f' := by
  obtain ⟨cs, t, fr, hh, hfr, hs, hc⟩ := h
  exact ⟨cs, t, fr, hh, hfr, hs, fun i hi => by rw [hc i hi, hf i hi]⟩
theorem Ar.new (w : World) (cs : Array Value) (t : TypeId) (hm : cs.size = m) (hf : ∀ i, i < m → cs[i]? = some (f i)) : Ar (w.alloc (.cells cs t)) w.heap.size m f :=
  ⟨cs, t, (0, 0), heap_alloc_new w _, .inr rfl, Nat.le_of_eq hm.symm, hf⟩
/-- A slice over the head of such a block. -/
theorem Ar.rd (h : Ar w g m f) {B n : Nat} (hB : g < B) (hn : n ≤ m) : Rd w B (some ⟨g, 0, none⟩) n f := fun _ => by
  refine ⟨_, rfl, hB, fun i hi => ?_⟩
  have : (⟨g, 0, none⟩ : Addr).add i = ⟨g, i, none⟩ := by unfold Addr.add; split <;> simp_all
  rw [this]
  exact h.cell (by omega)
end

/-- A slice over the head of a block. -/
theorem RdI.head {k : IntKind} {w : World} {B n g : Nat} {l : List Int} (h : RdI k w B (some ⟨g, 0, none⟩) n l) {i : Nat} (hi : i < n) : w.cell? ⟨g, i, none⟩ = some (.int k (ix l i)) := by
  obtain ⟨ad, e, _, hc⟩ := h.at_ hi
  cases e
  have : (⟨g, 0, none⟩ : Addr).add i = ⟨g, i, none⟩ := by unfold Addr.add; split <;> simp_all
  rwa [this] at hc
theorem rd_of_row {k : IntKind} {w : World} {a : Option Addr} {len cap : Nat} {zs : List Int}
    (h : (a = none ∧ len = 0 ∧ cap = 0 ∧ zs = []) ∨ ∃ x, a = some x ∧ len ≤ cap ∧ cap ≤ maxLen ∧ zs.length = cap ∧ (∀ i, i < zs.length → w.cell? (x.add i) = some (.int k (zs.getD i 0))) ∧ ∀ n ∈ zs, (Lit.int k n).wf = true) :
    RdI k w w.heap.size a len (zs.take len) ∧ len ≤ maxLen ∧ ∀ n ∈ zs.take len, (Lit.int k n).wf = true := by
  rcases h with ⟨rfl, rfl, rfl, rfl⟩ | ⟨x, rfl, hl, hm, hz, hc, hw⟩
  · exact ⟨⟨rfl, Rd.nil_⟩, Nat.zero_le _, fun n hn => by simp at hn⟩
  · refine ⟨⟨by simp; omega, fun h0 => ⟨x, rfl, ?_, fun i hi => ?_⟩⟩, by omega, fun n hn => hw n (List.mem_of_mem_take hn)⟩
    · have h1 := hc 0 (by omega)
      have hlt : (x.add 0).block < w.heap.size := by
        rcases Nat.lt_or_ge (x.add 0).block w.heap.size with h' | h'
        · exact h'
        · simp [World.cell?, Array.getElem?_eq_none h'] at h1
      rwa [addr_block] at hlt
    · rw [hc i (by omega)]
      congr 2
      simp [ix, hi]
theorem bounds_i64 {x : Int} (h : (Lit.int .i64 x).wf = true) : -9223372036854775808 ≤ x ∧ x ≤ 9223372036854775807 := by
  simpa [Lit.wf, IntKind.min, IntKind.max, IntKind.signed, IntKind.bits] using h
theorem bounds_u32 {x : Int} (h : (Lit.int .u32 x).wf = true) : 0 ≤ x ∧ x < 4294967296 := by
  have : 0 ≤ x ∧ x ≤ 4294967295 := by simpa [Lit.wf, IntKind.min, IntKind.max, IntKind.signed, IntKind.bits] using h
  omega
theorem bounds_u16 {x : Int} (h : (Lit.int .u16 x).wf = true) : 0 ≤ x ∧ x < 65536 := by
  have : 0 ≤ x ∧ x ≤ 65535 := by simpa [Lit.wf, IntKind.min, IntKind.max, IntKind.signed, IntKind.bits] using h
  omega
theorem bounds_u8 {x : Int} (h : (Lit.int .u8 x).wf = true) : 0 ≤ x ∧ x < 256 := by
  have : 0 ≤ x ∧ x ≤ 255 := by simpa [Lit.wf, IntKind.min, IntKind.max, IntKind.signed, IntKind.bits] using h
  omega
theorem ix_wf {k : IntKind} {l : List Int} (h : ∀ n ∈ l, (Lit.int k n).wf = true) (h0 : (Lit.int k 0).wf = true) (i : Nat) : (Lit.int k (ix l i)).wf = true := by
  unfold ix
  rw [List.getD_eq_getElem?_getD]
  cases hi : l[i]? with
  | none => simpa using h0
  | some v => exact h v (List.mem_of_getElem? hi)
/-- A new slice literal of numbers. -/
theorem RdI.lit (k : IntKind) (w : World) (l : List Int) (t : TypeId) : RdI k (w.alloc (.cells (l.map (Value.int k)).toArray t)) (w.heap.size + 1) (some ⟨w.heap.size, 0, none⟩) l.length l := by
  refine ⟨rfl, ?_⟩
  have h : Ar (w.alloc (.cells (l.map (Value.int k)).toArray t)) w.heap.size l.length (fun i => .int k (ix l i)) :=
    Ar.new w _ t (by simp) fun i hi => by simp [ix, hi]
  exact h.rd (by omega) (Nat.le_refl _)

theorem RdI.lit' (k : IntKind) {w : World} {g : Nat} (hg : g = w.heap.size) (l : List Int) (t : TypeId) : RdI k (w.alloc (.cells (l.map (Value.int k)).toArray t)) (g + 1) (some ⟨g, 0, none⟩) l.length l := by
  subst hg; exact RdI.lit k w l t
theorem RdI.alloc {k : IntKind} {w : World} {B n : Nat} {A : Option Addr} {l : List Int} (h : RdI k w B A n l) (hB : B ≤ w.heap.size) (o : Obj) : RdI k (w.alloc o) B A n l :=
  h.keep fun p hp => World.cell?_alloc_lt w o p (by omega)

/-- The heap's size, closed to the walk's rewriting. -/
def Sz (w : World) (n : Nat) : Prop := w.heap.size = n
theorem Sz.set_ {w : World} {n : Nat} (h : Sz w n) (p : Addr) (u : Value) : Sz (w.setCell p u) n := by unfold Sz at *; simpa [World.setCell] using h
theorem Sz.drew {w : World} {n : Nat} (h : Sz w n) : Sz w.drew n := h
theorem Sz.drewN {w : World} {n : Nat} (h : Sz w n) (k : Nat) : Sz (w.drewN k) n := h
theorem Sz.alloc {w : World} {n : Nat} (h : Sz w n) (o : Obj) : Sz (w.alloc o) (n + 1) := by unfold Sz at *; simp [h]

/-- n cells that all hold z; the walk does not unfold it. -/
def zrow (n : Nat) (z : Value) : Array Value := Array.replicate n z
theorem zrow_size (n : Nat) (z : Value) : (zrow n z).size = n := by simp [zrow]
theorem zrow_at {n i : Nat} (z : Value) (hi : i < n) : (zrow n z)[i]? = some z := by simp [zrow, hi]
theorem Ar.zeros (w : World) (n : Nat) (z : Value) (t : TypeId) : Ar (w.alloc (.cells (zrow n z) t)) w.heap.size n (fun _ => z) :=
  Ar.new w _ t (zrow_size n z) fun _ hi => zrow_at z hi

theorem Ar.zeros' {w : World} (n : Nat) (z : Value) (t : TypeId) {g : Nat} (hg : g = w.heap.size) : Ar (w.alloc (.cells (zrow n z) t)) g n (fun _ => z) := by
  subst hg; exact Ar.zeros w n z t

/-- 'make([]T, n)', T of one cell. -/
theorem run_make_zrow {P : Program} (t e : TypeId) (i : TypeInfo) (z : Value) (ht : P.underlying t = some (.slice e)) (hi : P.info? e = some i) (hz : i.zero = some z) (hs : i.size = 1) (hzc : z.cells = #[z])
    (kl kc : IntKind) (n : Nat) (hbytes : i.bytes * n ≤ 281474976710656) (h63 : n ≤ 9223372036854775807) (w : World) :
    (Instr.makeSlice t (.int kl (n : Int)) (.int kc (n : Int))).run P w = .ok (.slice (some ⟨w.heap.size, 0, none⟩) n n) (w.alloc (.cells (zrow n z) e)) := by
  have hb : (i.bytes : Int) * (n : Int) ≤ 281474976710656 := by
    have h : ((i.bytes * n : Nat) : Int) ≤ 281474976710656 := by omega
    rwa [Int.natCast_mul] at h
  have hr := run_make (P := P) w t e i z ht hi hz kl kc n n (by omega) (by omega) hb (by omega)
  simp only [Int.toNat_natCast, hs, Nat.mul_one] at hr
  rw [hr]
  have : madeCells z.cells n = zrow n z := by
    apply Array.ext
    · rw [size_madeCells, zrow_size]
    · intro j h1 h2
      have e : (#[z] : Array Value).size = 1 := rfl
      simp [madeCells, zrow, hzc, Nat.mod_one]
  rw [this]
/-- 'make([]T, n, c)', T of one cell. -/
theorem run_make_room {P : Program} (t e : TypeId) (i : TypeInfo) (z : Value) (ht : P.underlying t = some (.slice e)) (hi : P.info? e = some i) (hz : i.zero = some z) (hs : i.size = 1) (hzc : z.cells = #[z])
    (kl kc : IntKind) (n c : Nat) (hnc : n ≤ c) (hbytes : i.bytes * c ≤ 281474976710656) (h63 : c ≤ 9223372036854775807) (w : World) :
    (Instr.makeSlice t (.int kl (n : Int)) (.int kc (c : Int))).run P w = .ok (.slice (some ⟨w.heap.size, 0, none⟩) n c) (w.alloc (.cells (zrow c z) e)) := by
  have hb : (i.bytes : Int) * (c : Int) ≤ 281474976710656 := by
    have h : ((i.bytes * c : Nat) : Int) ≤ 281474976710656 := by omega
    rwa [Int.natCast_mul] at h
  have hr := run_make (P := P) w t e i z ht hi hz kl kc n c (by omega) (by omega) hb (by omega)
  simp only [Int.toNat_natCast, hs, Nat.mul_one] at hr
  rw [hr]
  have : madeCells z.cells c = zrow c z := by
    apply Array.ext
    · rw [size_madeCells, zrow_size]
    · intro j h1 h2
      have e : (#[z] : Array Value).size = 1 := rfl
      simp [madeCells, zrow, hzc, Nat.mod_one]
  rw [this]
end Go.Proofs.Ytckhkkjdibcclaa
