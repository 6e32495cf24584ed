/-
  Several texts in one (written by pack2.py): Base, TokP, CodesP, BitP, CodeP.
-/
import Derived.WalkKit
import Derived.WalkLawsBesides
import Derived.WalkSpells
import Derived.Below
import Derived.Laws.OwnMore
import Derived.Deep.AppendLies
import Derived.Deep.Draws
import Derived.Deep.QuietTactic
import Derived.BigQuiet
import Derived.BigGuardPart
import Derived.Lib.Hide
import Derived.LoopTactic
import Derived.Deep.LoopGhost
import Derived.RegionTactic
import Derived.Outline
import Derived.WalkSmall
import Derived.OneCell
/-
  Words for memory, over any program: a slice that reads as a function of its places, a slice that reads as a list of numbers.
-/
namespace Go.Proofs.Ytckhkkjdibcclaa
open Go.RowKit
set_option linter.unusedVariables false

theorem addr_block (a : Addr) (n : Nat) : (a.add n).block = a.block := by unfold Addr.add; split <;> rfl
theorem addr_add (a : Addr) (i j : Nat) : (a.add i).add j = a.add (i + j) := by
  unfold Addr.add
  by_cases hi : i = 0 <;> by_cases hj : j = 0 <;> simp [hi, hj, Nat.add_assoc]

/-- The first m cells behind the address A hold f 0, f 1, ..; they lie in a block below B. -/
def Rd (w : World) (B : Nat) (A : Option Addr) (m : Nat) (f : Nat → Value) : Prop :=
  0 < m → ∃ ad, A = some ad ∧ ad.block < B ∧ ∀ i, i < m → w.cell? (ad.add i) = some (f i)

/-- The number at place i, 0 beyond the end; the walk does not unfold it. -/
def ix (l : List Int) (i : Nat) : Int := l.getD i 0

/-- A slice of numbers of kind k that reads as l. -/
def RdI (k : IntKind) (w : World) (B : Nat) (A : Option Addr) (n : Nat) (l : List Int) : Prop :=
  n = l.length ∧ Rd w B A n (fun i => .int k (ix l i))

section
variable {w w' : World} {B B' n m : Nat} {A : Option Addr} {f : Nat → Value}
theorem Rd.nil_ : Rd w B A 0 f := fun h => absurd h (by omega)
theorem Rd.keep (h : Rd w B A m f) (hk : ∀ p : Addr, p.block < B → w'.cell? p = w.cell? p) : Rd w' B A m f := fun hm => by
  obtain ⟨ad, e, hb, hc⟩ := h hm
  exact ⟨ad, e, hb, fun i hi => (hk _ (by rw [addr_block]; exact hb)).trans (hc i hi)⟩
theorem Rd.more (h : Rd w B A m f) (hB : B ≤ B') : Rd w B' A m f := fun hm => by
  obtain ⟨ad, e, hb, hc⟩ := h hm
  exact ⟨ad, e, by omega, hc⟩
theorem Rd.below (h : Rd w B A m f) (hb : Below B w w') : Rd w' B A m f := h.keep fun _ hp => hb.cell hp
theorem Rd.congr {g : Nat → Value} (h : Rd w B A m f) (hfg : ∀ i, i < m → f i = g i) : Rd w B A m g := fun hm => by
  obtain ⟨ad, e, hb, hc⟩ := h hm
  exact ⟨ad, e, hb, fun i hi => by rw [hc i hi, hfg i hi]⟩
end

section
variable {k : IntKind} {w w' : World} {B B' n : Nat} {A : Option Addr} {l : List Int}
theorem RdI.at_ (h : RdI k w B A n l) {i : Nat} (hi : i < n) : ∃ ad, A = some ad ∧ ad.block < B ∧ w.cell? (ad.add i) = some (.int k (ix l i)) := by
  obtain ⟨ad, e, hb, hc⟩ := h.2 (by omega)
  exact ⟨ad, e, hb, hc i hi⟩
theorem RdI.keep (h : RdI k w B A n l) (hk : ∀ p : Addr, p.block < B → w'.cell? p = w.cell? p) : RdI k w' B A n l := ⟨h.1, h.2.keep hk⟩
theorem RdI.more (h : RdI k w B A n l) (hB : B ≤ B') : RdI k w B' A n l := ⟨h.1, h.2.more hB⟩
theorem RdI.below (h : RdI k w B A n l) (hb : Below B w w') : RdI k w' B A n l := ⟨h.1, h.2.below hb⟩
theorem RdI.drewN (h : RdI k w B A n l) (j : Nat) : RdI k (w.drewN j) B A n l := h
end

theorem ret_int {k : IntKind} {a b : Int} (h : a = b) : Ending.returned (.int k a) = .returned (.int k b) := by rw [h]
theorem ret_bool {a b : Bool} (h : a = b) : Ending.returned (.bool a) = .returned (.bool b) := by rw [h]

/-- A block whose first m cells, none frozen, hold f 0, f 1, .. -/
def Ar (w : World) (g m : Nat) (f : Nat → Value) : Prop :=
  ∃ (cs : Array Value) (t : TypeId) (fr : Nat × Nat), w.heap[g]? = some (.cells cs t fr) ∧ (m ≤ fr.1 ∨ fr.2 = 0) ∧ m ≤ cs.size ∧ ∀ i, i < m → cs[i]? = some (f i)
/-- f, but v at place i. -/
def upd {α : Type} (f : Nat → α) (i : Nat) (v : α) : Nat → α := fun j => if j = i then v else f j
theorem upd_same {α : Type} (f : Nat → α) (i : Nat) (v : α) : upd f i v i = v := by simp [upd]
theorem upd_other {α : Type} (f : Nat → α) {i j : Nat} (v : α) (h : j ≠ i) : upd f i v j = f j := by simp [upd, h]

section
variable {w w' : World} {g m : Nat} {f : Nat → Value}
theorem Ar.lt (h : Ar w g m f) : g < w.heap.size := by
  obtain ⟨cs, t, fr, hh, _⟩ := h
  exact lt_of_block hh
theorem Ar.cell (h : Ar w g m f) {i : Nat} (hi : i < m) : w.cell? ⟨g, i, none⟩ = some (f i) := by
  obtain ⟨cs, t, fr, hh, _, _, hc⟩ := h
  rw [cell_of_row w g i cs t fr hh, hc i hi]
theorem Ar.frozen' (h : Ar w g m f) {i : Nat} (hi : i < m) : w.frozen? ⟨g, i, none⟩ = false := by
  obtain ⟨cs, t, ⟨lo, hi'⟩, hh, hf, _⟩ := h
  simp [World.frozen?, hh]
  simp at hf
  omega
theorem Ar.drewN (h : Ar w g m f) (k : Nat) : Ar (w.drewN k) g m f := h
theorem Ar.drew (h : Ar w g m f) : Ar w.drew g m f := h
theorem Ar.same (h : Ar w g m f) (hb : w'.heap[g]? = w.heap[g]?) : Ar w' g m f := by
  obtain ⟨cs, t, fr, hh, r⟩ := h
  exact ⟨cs, t, fr, hb.trans hh, r⟩
theorem Ar.alloc (h : Ar w g m f) (o : Obj) : Ar (w.alloc o) g m f := h.same (Below.heap_alloc w o g h.lt)
theorem Ar.far (h : Ar w g m f) {p : Addr} (hp : g ≠ p.block) (u : Value) : Ar (w.setCell p u) g m f := h.same (Below.heap_setCell w p u g hp)
theorem Ar.below {B : Nat} (h : Ar w g m f) (hb : Below B w w') (hg : g < B) : Ar w' g m f := h.same (hb.block g hg)
theorem Ar.keeps (h : Ar w g m f) (hb : Below w.heap.size w w') : Ar w' g m f := h.below hb h.lt
theorem Ar.grown {row : Option Nat} (h : Ar w g m f) (hb : w.grownBy w' row) (hg : some g ≠ row) : Ar w' g m f := h.same (hb.block g h.lt hg)
theorem Ar.set_ (h : Ar w g m f) {i : Nat} (hi : i < m) (u : Value) : Ar (w.setCell ⟨g, i, none⟩ u) g m (upd f i u) := by
  obtain ⟨cs, t, fr, hh, hf, hs, hc⟩ := h
  refine ⟨cs.setIfInBounds i u, t, fr, ?_, hf, by simpa using hs, fun j hj => ?_⟩
  · simp [World.setCell, Array.getElem?_modify, hh]
  · rw [Array.getElem?_setIfInBounds]
    by_cases he : i = j
    · subst he
      rw [if_pos rfl, if_pos (by omega), upd_same]
    · rw [if_neg he, hc j hj, upd_other _ _ (by omega)]
theorem Ar.congr {f' : Nat → Value} (h : Ar w g m f) (hf : ∀ i, i < m → f i = f' i) : Ar w g m f' := by
  obtain ⟨cs, t, fr, hh, hfr, hs, hc⟩ := h
  exact ⟨cs, t, fr, hh, hfr, hs, fun i hi => by rw [hc i hi, hf i hi]⟩
theorem Ar.new (w : World) (cs : Array Value) (t : TypeId) (hm : cs.size = m) (hf : ∀ i, i < m → cs[i]? = some (f i)) : Ar (w.alloc (.cells cs t)) w.heap.size m f :=
  ⟨cs, t, (0, 0), heap_alloc_new w _, .inr rfl, Nat.le_of_eq hm.symm, hf⟩
/-- A slice over the head of such a block. -/
theorem Ar.rd (h : Ar w g m f) {B n : Nat} (hB : g < B) (hn : n ≤ m) : Rd w B (some ⟨g, 0, none⟩) n f := fun _ => by
  refine ⟨_, rfl, hB, fun i hi => ?_⟩
  have : (⟨g, 0, none⟩ : Addr).add i = ⟨g, i, none⟩ := by unfold Addr.add; split <;> simp_all
  rw [this]
  exact h.cell (by omega)
end

/-- A slice over the head of a block. -/
theorem RdI.head {k : IntKind} {w : World} {B n g : Nat} {l : List Int} (h : RdI k w B (some ⟨g, 0, none⟩) n l) {i : Nat} (hi : i < n) : w.cell? ⟨g, i, none⟩ = some (.int k (ix l i)) := by
  obtain ⟨ad, e, _, hc⟩ := h.at_ hi
  cases e
  have : (⟨g, 0, none⟩ : Addr).add i = ⟨g, i, none⟩ := by unfold Addr.add; split <;> simp_all
  rwa [this] at hc
theorem rd_of_row {k : IntKind} {w : World} {a : Option Addr} {len cap : Nat} {zs : List Int}
    (h : (a = none ∧ len = 0 ∧ cap = 0 ∧ zs = []) ∨ ∃ x, a = some x ∧ len ≤ cap ∧ cap ≤ maxLen ∧ zs.length = cap ∧ (∀ i, i < zs.length → w.cell? (x.add i) = some (.int k (zs.getD i 0))) ∧ ∀ n ∈ zs, (Lit.int k n).wf = true) :
    RdI k w w.heap.size a len (zs.take len) ∧ len ≤ maxLen ∧ ∀ n ∈ zs.take len, (Lit.int k n).wf = true := by
  rcases h with ⟨rfl, rfl, rfl, rfl⟩ | ⟨x, rfl, hl, hm, hz, hc, hw⟩
  · exact ⟨⟨rfl, Rd.nil_⟩, Nat.zero_le _, fun n hn => by simp at hn⟩
  · refine ⟨⟨by simp; omega, fun h0 => ⟨x, rfl, ?_, fun i hi => ?_⟩⟩, by omega, fun n hn => hw n (List.mem_of_mem_take hn)⟩
    · have h1 := hc 0 (by omega)
      have hlt : (x.add 0).block < w.heap.size := by
        rcases Nat.lt_or_ge (x.add 0).block w.heap.size with h' | h'
        · exact h'
        · simp [World.cell?, Array.getElem?_eq_none h'] at h1
      rwa [addr_block] at hlt
    · rw [hc i (by omega)]
      congr 2
      simp [ix, hi]
theorem bounds_i64 {x : Int} (h : (Lit.int .i64 x).wf = true) : -9223372036854775808 ≤ x ∧ x ≤ 9223372036854775807 := by
  simpa [Lit.wf, IntKind.min, IntKind.max, IntKind.signed, IntKind.bits] using h
theorem bounds_u32 {x : Int} (h : (Lit.int .u32 x).wf = true) : 0 ≤ x ∧ x < 4294967296 := by
  have : 0 ≤ x ∧ x ≤ 4294967295 := by simpa [Lit.wf, IntKind.min, IntKind.max, IntKind.signed, IntKind.bits] using h
  omega
theorem bounds_u16 {x : Int} (h : (Lit.int .u16 x).wf = true) : 0 ≤ x ∧ x < 65536 := by
  have : 0 ≤ x ∧ x ≤ 65535 := by simpa [Lit.wf, IntKind.min, IntKind.max, IntKind.signed, IntKind.bits] using h
  omega
theorem bounds_u8 {x : Int} (h : (Lit.int .u8 x).wf = true) : 0 ≤ x ∧ x < 256 := by
  have : 0 ≤ x ∧ x ≤ 255 := by simpa [Lit.wf, IntKind.min, IntKind.max, IntKind.signed, IntKind.bits] using h
  omega
theorem ix_wf {k : IntKind} {l : List Int} (h : ∀ n ∈ l, (Lit.int k n).wf = true) (h0 : (Lit.int k 0).wf = true) (i : Nat) : (Lit.int k (ix l i)).wf = true := by
  unfold ix
  rw [List.getD_eq_getElem?_getD]
  cases hi : l[i]? with
  | none => simpa using h0
  | some v => exact h v (List.mem_of_getElem? hi)
/-- A new slice literal of numbers. -/
theorem RdI.lit (k : IntKind) (w : World) (l : List Int) (t : TypeId) : RdI k (w.alloc (.cells (l.map (Value.int k)).toArray t)) (w.heap.size + 1) (some ⟨w.heap.size, 0, none⟩) l.length l := by
  refine ⟨rfl, ?_⟩
  have h : Ar (w.alloc (.cells (l.map (Value.int k)).toArray t)) w.heap.size l.length (fun i => .int k (ix l i)) :=
    Ar.new w _ t (by simp) fun i hi => by simp [ix, hi]
  exact h.rd (by omega) (Nat.le_refl _)

theorem RdI.lit' (k : IntKind) {w : World} {g : Nat} (hg : g = w.heap.size) (l : List Int) (t : TypeId) : RdI k (w.alloc (.cells (l.map (Value.int k)).toArray t)) (g + 1) (some ⟨g, 0, none⟩) l.length l := by
  subst hg; exact RdI.lit k w l t
theorem RdI.alloc {k : IntKind} {w : World} {B n : Nat} {A : Option Addr} {l : List Int} (h : RdI k w B A n l) (hB : B ≤ w.heap.size) (o : Obj) : RdI k (w.alloc o) B A n l :=
  h.keep fun p hp => World.cell?_alloc_lt w o p (by omega)

/-- The heap's size, closed to the walk's rewriting. -/
def Sz (w : World) (n : Nat) : Prop := w.heap.size = n
theorem Sz.set_ {w : World} {n : Nat} (h : Sz w n) (p : Addr) (u : Value) : Sz (w.setCell p u) n := by unfold Sz at *; simpa [World.setCell] using h
theorem Sz.drew {w : World} {n : Nat} (h : Sz w n) : Sz w.drew n := h
theorem Sz.drewN {w : World} {n : Nat} (h : Sz w n) (k : Nat) : Sz (w.drewN k) n := h
theorem Sz.alloc {w : World} {n : Nat} (h : Sz w n) (o : Obj) : Sz (w.alloc o) (n + 1) := by unfold Sz at *; simp [h]

/-- n cells that all hold z; the walk does not unfold it. -/
def zrow (n : Nat) (z : Value) : Array Value := Array.replicate n z
theorem zrow_size (n : Nat) (z : Value) : (zrow n z).size = n := by simp [zrow]
theorem zrow_at {n i : Nat} (z : Value) (hi : i < n) : (zrow n z)[i]? = some z := by simp [zrow, hi]
theorem Ar.zeros (w : World) (n : Nat) (z : Value) (t : TypeId) : Ar (w.alloc (.cells (zrow n z) t)) w.heap.size n (fun _ => z) :=
  Ar.new w _ t (zrow_size n z) fun _ hi => zrow_at z hi

theorem Ar.zeros' {w : World} (n : Nat) (z : Value) (t : TypeId) {g : Nat} (hg : g = w.heap.size) : Ar (w.alloc (.cells (zrow n z) t)) g n (fun _ => z) := by
  subst hg; exact Ar.zeros w n z t

/-- 'make([]T, n)', T of one cell. -/
theorem run_make_zrow {P : Program} (t e : TypeId) (i : TypeInfo) (z : Value) (ht : P.underlying t = some (.slice e)) (hi : P.info? e = some i) (hz : i.zero = some z) (hs : i.size = 1) (hzc : z.cells = #[z])
    (kl kc : IntKind) (n : Nat) (hbytes : i.bytes * n ≤ 281474976710656) (h63 : n ≤ 9223372036854775807) (w : World) :
    (Instr.makeSlice t (.int kl (n : Int)) (.int kc (n : Int))).run P w = .ok (.slice (some ⟨w.heap.size, 0, none⟩) n n) (w.alloc (.cells (zrow n z) e)) := by
  have hb : (i.bytes : Int) * (n : Int) ≤ 281474976710656 := by
    have h : ((i.bytes * n : Nat) : Int) ≤ 281474976710656 := by omega
    rwa [Int.natCast_mul] at h
  have hr := run_make (P := P) w t e i z ht hi hz kl kc n n (by omega) (by omega) hb (by omega)
  simp only [Int.toNat_natCast, hs, Nat.mul_one] at hr
  rw [hr]
  have : madeCells z.cells n = zrow n z := by
    apply Array.ext
    · rw [size_madeCells, zrow_size]
    · intro j h1 h2
      have e : (#[z] : Array Value).size = 1 := rfl
      simp [madeCells, zrow, hzc, Nat.mod_one]
  rw [this]
/-- 'make([]T, n, c)', T of one cell. -/
theorem run_make_room {P : Program} (t e : TypeId) (i : TypeInfo) (z : Value) (ht : P.underlying t = some (.slice e)) (hi : P.info? e = some i) (hz : i.zero = some z) (hs : i.size = 1) (hzc : z.cells = #[z])
    (kl kc : IntKind) (n c : Nat) (hnc : n ≤ c) (hbytes : i.bytes * c ≤ 281474976710656) (h63 : c ≤ 9223372036854775807) (w : World) :
    (Instr.makeSlice t (.int kl (n : Int)) (.int kc (c : Int))).run P w = .ok (.slice (some ⟨w.heap.size, 0, none⟩) n c) (w.alloc (.cells (zrow c z) e)) := by
  have hb : (i.bytes : Int) * (c : Int) ≤ 281474976710656 := by
    have h : ((i.bytes * c : Nat) : Int) ≤ 281474976710656 := by omega
    rwa [Int.natCast_mul] at h
  have hr := run_make (P := P) w t e i z ht hi hz kl kc n c (by omega) (by omega) hb (by omega)
  simp only [Int.toNat_natCast, hs, Nat.mul_one] at hr
  rw [hr]
  have : madeCells z.cells c = zrow c z := by
    apply Array.ext
    · rw [size_madeCells, zrow_size]
    · intro j h1 h2
      have e : (#[z] : Array Value).size = 1 := rfl
      simp [madeCells, zrow, hzc, Nat.mod_one]
  rw [this]
end Go.Proofs.Ytckhkkjdibcclaa

/-
  Plain law: the codes of lengths and distances.
-/
namespace Go.Proofs.Ytckhkkjdibcclaa
set_option linter.unusedVariables false

/-- first length and extra bits of code 257 + j -/
def lB (j : Nat) : Nat := if j = 28 then 258 else if j < 8 then 3 + j else 3 + (4 + j % 4) * 2 ^ (j / 4 - 1)
def lE (j : Nat) : Nat := if j = 28 then 0 else if j < 8 then 0 else j / 4 - 1
/-- first distance and extra bits of code j -/
def dB (j : Nat) : Nat := if j < 4 then 1 + j else 1 + (2 + j % 2) * 2 ^ (j / 2 - 1)
def dE (j : Nat) : Nat := if j < 4 then 0 else j / 2 - 1
/-- the sums of the reference -/
def lR (j : Nat) : Nat := if j = 28 then 259 else lB j
theorem lR_zero : lR 0 = 3 := by decide
theorem lR_next : ∀ j, j < 28 → lR (j + 1) = lR j + 2 ^ lE j := by decide +kernel
theorem dB_next : ∀ j, j < 30 → dB (j + 1) = dB j + 2 ^ dE j := by decide +kernel
theorem lB_next : ∀ j, j < 28 → lB (j + 1) ≤ lB j + 2 ^ lE j := by decide +kernel
theorem lB_bd : ∀ j, j < 29 → 3 ≤ lB j ∧ lB j ≤ 258 ∧ lE j ≤ 5 := by decide +kernel
theorem dB_bd : ∀ j, j < 31 → 1 ≤ dB j ∧ dB j ≤ 32769 ∧ dE j ≤ 14 := by decide +kernel
theorem dB_bd' : ∀ j, j < 30 → 1 ≤ dB j ∧ dB j ≤ 24577 ∧ dE j ≤ 13 := by decide +kernel

/-- j is the last of 0 .. top whose first one is not above n -/
def Last_ (B : Nat → Nat) (top : Nat) (n : Int) (j : Nat) : Prop := j ≤ top ∧ ((B j : Nat) : Int) ≤ n ∧ ∀ i, j < i → i ≤ top → n < ((B i : Nat) : Int)
theorem Last_.uniq {B : Nat → Nat} {top : Nat} {n : Int} {j k : Nat} (h : Last_ B top n j) (h' : Last_ B top n k) : j = k := by
  rcases Nat.lt_trichotomy j k with hl | hl | hl
  · have := h.2.2 k hl h'.1
    have := h'.2.1
    omega
  · exact hl
  · have := h'.2.2 j hl h.1
    have := h.2.1
    omega
theorem Last_.val_l {n : Int} {j : Nat} (h : Last_ lB 28 n j) (hn : n ≤ 258) : n - ((lB j : Nat) : Int) < ((2 ^ lE j : Nat) : Int) := by
  obtain ⟨h1, h2, h3⟩ := h
  by_cases hj : j = 28
  · subst hj
    have : lB 28 = 258 := by decide
    have : 2 ^ lE 28 = 1 := by decide
    omega
  · have h4 := h3 (j + 1) (by omega) (by omega)
    have h5 := lB_next j (by omega)
    omega
theorem Last_.val_d {n : Int} {j : Nat} (h : Last_ dB 29 n j) (hn : n ≤ 32768) : n - ((dB j : Nat) : Int) < ((2 ^ dE j : Nat) : Int) := by
  obtain ⟨h1, h2, h3⟩ := h
  have h5 := dB_next j (by omega)
  by_cases hj : j = 29
  · subst hj
    have : dB (29 + 1) = 32769 := by decide
    omega
  · have h4 := h3 (j + 1) (by omega) (by omega)
    omega

/-- what the answer about a number is -/
def CodeIs (B E : Nat → Nat) (lo hi off : Int) (top : Nat) (n : Int) (v : Value) : Prop :=
  ((n < lo ∨ hi < n) ∧ v = .tuple #[.int .i64 0, .int .i64 0, .int .i64 0]) ∨
  ((lo ≤ n ∧ n ≤ hi) ∧ ∃ j, Last_ B top n j ∧ v = .tuple #[.int .i64 (off + (j : Int)), .int .i64 ((E j : Nat) : Int), .int .i64 (n - ((B j : Nat) : Int))])
theorem CodeIs.uniq {B E : Nat → Nat} {lo hi off : Int} {top : Nat} {n : Int} {u v : Value} (h : CodeIs B E lo hi off top n u) (h' : CodeIs B E lo hi off top n v) : u = v := by
  rcases h with ⟨h1, rfl⟩ | ⟨h1, j, hj, rfl⟩ <;> rcases h' with ⟨h2, rfl⟩ | ⟨h2, k, hk, rfl⟩
  · rfl
  · omega
  · omega
  · rw [hj.uniq hk]
end Go.Proofs.Ytckhkkjdibcclaa

/-
  Plain law: the codes of lengths: how many symbols have a length, the first code of a length, each symbol's code; their bounds.
-/
namespace Go.Proofs.Ytckhkkjdibcclaa

/-- how many of the first k lengths are v -/
def cnt (l : List Int) : Nat → Nat → Nat
  | 0, _ => 0
  | k + 1, v => cnt l k v + if ix l k = (v : Int) then 1 else 0
/-- the first code of length v -/
def nxt (l : List Int) : Nat → Nat
  | 0 => 0
  | 1 => 0
  | v + 2 => 2 * (nxt l (v + 1) + cnt l l.length (v + 1))
def isLen (x : Int) : Bool := decide (1 ≤ x ∧ x ≤ 15)
/-- symbol i's code -/
def codeAt (l : List Int) (i : Nat) : Nat := if isLen (ix l i) then nxt l (ix l i).toNat + cnt l i (ix l i).toNat else 0
def codesOf (l : List Int) : List Int := if l.length ≤ 288 then (List.range l.length).map fun i => (codeAt l i : Int) else []

theorem cnt_le (l : List Int) (k v : Nat) : cnt l k v ≤ k := by
  induction k with
  | zero => simp [cnt]
  | succ k ih => simp only [cnt]; split <;> omega
theorem cnt_mono (l : List Int) (v : Nat) {j k : Nat} (h : j ≤ k) : cnt l j v ≤ cnt l k v := by
  induction k with
  | zero => have : j = 0 := by omega
            subst this; omega
  | succ k ih =>
    by_cases e : j = k + 1
    · subst e; omega
    · have := ih (by omega); simp only [cnt]; split <;> omega
theorem nxt_le (l : List Int) (hl : l.length ≤ 288) (v : Nat) : nxt l v + 576 ≤ 576 * 2 ^ v := by
  induction v with
  | zero => simp [nxt]
  | succ v ih =>
    cases v with
    | zero => simp [nxt]
    | succ v =>
      have := cnt_le l l.length (v + 1)
      simp only [nxt, Nat.pow_succ] at ih ⊢
      omega
theorem nxt_bd (l : List Int) (hl : l.length ≤ 288) {v : Nat} (hv : v ≤ 15) : nxt l v ≤ 18874368 := by
  have h := nxt_le l hl v
  have h2 : 2 ^ v ≤ 2 ^ 15 := Nat.pow_le_pow_right (by omega) hv
  omega
theorem codesOf_length (l : List Int) (h : l.length ≤ 288) : (codesOf l).length = l.length := by simp [codesOf, h]
theorem ix_codesOf (l : List Int) (h : l.length ≤ 288) {i : Nat} (hi : i < l.length) : ix (codesOf l) i = (codeAt l i : Int) := by
  simp [ix, codesOf, h, hi]
end Go.Proofs.Ytckhkkjdibcclaa

/-
  Plain law: bits, the lowest first: numbers, bytes.
-/
namespace Go.Proofs.Ytckhkkjdibcclaa
set_option linter.unusedVariables false

def Bit (l : List Int) : Prop := ∀ x ∈ l, x = 0 ∨ x = 1
def numI : List Int → Int
  | [] => 0
  | b :: l => b + 2 * numI l
def ofN : Int → Nat → List Int
  | _, 0 => []
  | v, n + 1 => v % 2 :: ofN (v / 2) n
theorem ofN_length (v : Int) (n : Nat) : (ofN v n).length = n := by
  induction n generalizing v with
  | zero => rfl
  | succ n ih => simp [ofN, ih]
theorem Bit.nil_ : Bit [] := fun x h => by cases h
theorem Bit.app {a b : List Int} (h : Bit a) (h' : Bit b) : Bit (a ++ b) := fun x hx => by
  rcases List.mem_append.1 hx with h1 | h1
  · exact h x h1
  · exact h' x h1
theorem Bit.drop_ {a : List Int} (h : Bit a) (k : Nat) : Bit (a.drop k) := fun x hx => h x (List.mem_of_mem_drop hx)
theorem Bit.take_ {a : List Int} (h : Bit a) (k : Nat) : Bit (a.take k) := fun x hx => h x (List.mem_of_mem_take hx)
theorem Bit.ofN (v : Int) (n : Nat) : Bit (ofN v n) := by
  induction n generalizing v with
  | zero => exact Bit.nil_
  | succ n ih =>
    intro x hx
    rcases List.mem_cons.1 hx with rfl | h
    · omega
    · exact ih _ x h
theorem Bit.zeros (n : Nat) : Bit (List.replicate n 0) := fun x hx => .inl (List.eq_of_mem_replicate hx)
theorem numI_append (a b : List Int) : numI (a ++ b) = numI a + 2 ^ a.length * numI b := by
  induction a with
  | nil => simp [numI]
  | cons x a ih => simp only [List.cons_append, numI, ih, List.length_cons, Int.pow_succ]; rw [Int.mul_add, Int.mul_right_comm, Int.mul_comm 2]; omega
theorem numI_bd {l : List Int} (h : Bit l) : 0 ≤ numI l ∧ numI l < 2 ^ l.length := by
  induction l with
  | nil => simp [numI]
  | cons x l ih =>
    have h1 := ih fun y hy => h y (List.mem_cons_of_mem _ hy)
    have h2 := h x (List.mem_cons_self ..)
    simp only [numI, List.length_cons, Int.pow_succ]
    omega
theorem two_pos (n : Nat) : (0 : Int) < 2 ^ n := Int.pow_pos (by omega)
theorem numI_ofN (v : Int) (n : Nat) : numI (ofN v n) = v % 2 ^ n := by
  induction n generalizing v with
  | zero => simp [ofN, numI]
  | succ n ih =>
    have hp := two_pos n
    have h3 := Int.emod_nonneg (v / 2) (b := 2 ^ n) (by omega)
    have h4 := Int.emod_lt_of_pos (v / 2) hp
    have h5 := Int.emod_add_mul_ediv (v / 2) (2 ^ n)
    have key : v % 2 + 2 * (v / 2 % 2 ^ n) + 2 * 2 ^ n * (v / 2 / 2 ^ n) = v := by
      rw [Int.mul_assoc]
      generalize 2 ^ n * (v / 2 / 2 ^ n) = z at *
      omega
    simp only [ofN, numI, ih, Int.pow_succ]
    rw [Int.mul_comm (2 ^ n) 2]
    calc v % 2 + 2 * (v / 2 % 2 ^ n) = (v % 2 + 2 * (v / 2 % 2 ^ n) + 2 * 2 ^ n * (v / 2 / 2 ^ n)) % (2 * 2 ^ n) := by
          rw [Int.add_mul_emod_self_left, Int.emod_eq_of_lt (a := v % 2 + 2 * (v / 2 % 2 ^ n)) (b := 2 * 2 ^ n) (by omega) (by omega)]
      _ = v % (2 * 2 ^ n) := by rw [key]
theorem numI_take {l : List Int} (h : Bit l) (n : Nat) : numI (l.take n) = numI l % 2 ^ n := by
  by_cases hn : n ≤ l.length
  · have e := numI_append (l.take n) (l.drop n)
    rw [List.take_append_drop, List.length_take, Nat.min_eq_left hn] at e
    have hb := numI_bd (h.take_ n)
    rw [List.length_take, Nat.min_eq_left hn] at hb
    rw [e, Int.add_mul_emod_self_left, Int.emod_eq_of_lt hb.1 hb.2]
  · have hb := numI_bd h
    have : (2 : Int) ^ l.length ≤ 2 ^ n := by
      rw [show n = l.length + (n - l.length) by omega, Int.pow_add]
      have := two_pos (n - l.length)
      have h2 := two_pos l.length
      calc (2 : Int) ^ l.length = 2 ^ l.length * 1 := by omega
        _ ≤ 2 ^ l.length * 2 ^ (n - l.length) := Int.mul_le_mul_of_nonneg_left (by omega) (by omega)
    rw [List.take_of_length_le (by omega), Int.emod_eq_of_lt hb.1 (by omega)]
theorem numI_drop {l : List Int} (h : Bit l) (n : Nat) : numI (l.drop n) = numI l / 2 ^ n := by
  by_cases hn : n ≤ l.length
  · have e := numI_append (l.take n) (l.drop n)
    rw [List.take_append_drop, List.length_take, Nat.min_eq_left hn] at e
    have hb := numI_bd (h.take_ n)
    rw [List.length_take, Nat.min_eq_left hn] at hb
    have hp := two_pos n
    rw [e, Int.add_mul_ediv_left _ _ (by omega), Int.ediv_eq_zero_of_lt hb.1 hb.2]
    omega
  · have hb := numI_bd h
    have : (2 : Int) ^ l.length ≤ 2 ^ n := by
      rw [show n = l.length + (n - l.length) by omega, Int.pow_add]
      have := two_pos (n - l.length)
      have h2 := two_pos l.length
      calc (2 : Int) ^ l.length = 2 ^ l.length * 1 := by omega
        _ ≤ 2 ^ l.length * 2 ^ (n - l.length) := Int.mul_le_mul_of_nonneg_left (by omega) (by omega)
    rw [List.drop_eq_nil_of_le (by omega), Int.ediv_eq_zero_of_lt hb.1 (by omega)]
    rfl
theorem ofN_numI {l : List Int} (h : Bit l) : ofN (numI l) l.length = l := by
  induction l with
  | nil => rfl
  | cons x l ih =>
    have h1 := ih fun y hy => h y (List.mem_cons_of_mem _ hy)
    have h2 := h x (List.mem_cons_self ..)
    simp only [numI, List.length_cons, ofN]
    rw [show (x + 2 * numI l) % 2 = x by omega, show (x + 2 * numI l) / 2 = numI l by omega, h1]
theorem ofN_succ (v : Int) (n : Nat) : ofN v (n + 1) = ofN v n ++ [v / 2 ^ n % 2] := by
  induction n generalizing v with
  | zero => simp [ofN]
  | succ n ih =>
    rw [ofN, ih, ofN, List.cons_append]
    congr 4
    rw [Int.pow_succ, Int.mul_comm, Int.ediv_ediv_of_nonneg (by omega)]
theorem ofN_mod (v : Int) (n : Nat) : ofN (v % 2 ^ n) n = ofN v n := by
  have := ofN_numI (Bit.ofN v n)
  rwa [ofN_length, numI_ofN] at this

/-- the whole bytes of a row of bits; the bits behind them; the bits of bytes -/
def byt (l : List Int) : List Int := (List.range (l.length / 8)).map fun i => numI ((l.drop (8 * i)).take 8)
def rest (l : List Int) : List Int := l.drop (8 * (l.length / 8))
def bts : List Int → List Int
  | [] => []
  | b :: l => ofN b 8 ++ bts l
theorem byt_length (l : List Int) : (byt l).length = l.length / 8 := by simp [byt]
theorem rest_length (l : List Int) : (rest l).length = l.length % 8 := by simp [rest]; omega
theorem bts_length (l : List Int) : (bts l).length = 8 * l.length := by
  induction l with
  | nil => rfl
  | cons b l ih => simp [bts, ofN_length, ih]; omega
theorem Bit.rest {l : List Int} (h : Bit l) : Bit (rest l) := h.drop_ _
theorem Bit.bts (l : List Int) : Bit (bts l) := by
  induction l with
  | nil => exact Bit.nil_
  | cons b l ih => exact (Bit.ofN b 8).app ih
theorem byt_small {l : List Int} (h : l.length < 8) : byt l = [] := by unfold byt; rw [Nat.div_eq_of_lt h]; rfl
theorem rest_small {l : List Int} (h : l.length < 8) : rest l = l := by unfold rest; rw [Nat.div_eq_of_lt h]; simp
theorem byt_eight {a : List Int} (h : a.length = 8) (l : List Int) : byt (a ++ l) = numI a :: byt l := by
  unfold byt
  rw [List.length_append, h, show (8 + l.length) / 8 = l.length / 8 + 1 by omega, List.range_succ_eq_map]
  simp only [List.map_cons, List.map_map]
  congr 1
  · rw [Nat.mul_zero, List.drop_zero, List.take_append_of_le_length (by omega), List.take_of_length_le (by omega)]
  · apply List.map_congr_left
    intro i _
    simp only [Function.comp]
    rw [show 8 * (i + 1) = a.length + 8 * i by omega, List.drop_append, List.drop_eq_nil_of_le (by omega), List.nil_append, Nat.add_sub_cancel_left]
theorem rest_eight {a : List Int} (h : a.length = 8) (l : List Int) : rest (a ++ l) = rest l := by
  unfold rest
  rw [List.length_append, h, show 8 * ((8 + l.length) / 8) = a.length + 8 * (l.length / 8) by omega, List.drop_append, List.drop_eq_nil_of_le (by omega), List.nil_append, Nat.add_sub_cancel_left]
theorem split8 {l : List Int} (h : 8 ≤ l.length) : ∃ a b, l = a ++ b ∧ a.length = 8 := ⟨l.take 8, l.drop 8, (List.take_append_drop ..).symm, by simp; omega⟩
theorem byt_app (a x : List Int) : byt (a ++ x) = byt a ++ byt (rest a ++ x) := by
  induction hn : a.length using Nat.strongRecOn generalizing a with
  | _ n ih =>
    by_cases h : a.length < 8
    · rw [byt_small h, rest_small h]; rfl
    · obtain ⟨b, c, rfl, hb⟩ := split8 (l := a) (by omega)
      rw [List.append_assoc, byt_eight hb, byt_eight hb, rest_eight hb, ih c.length (by rw [← hn, List.length_append]; omega) c rfl]
      rfl
theorem rest_app (a x : List Int) : rest (a ++ x) = rest (rest a ++ x) := by
  induction hn : a.length using Nat.strongRecOn generalizing a with
  | _ n ih =>
    by_cases h : a.length < 8
    · rw [rest_small h]
    · obtain ⟨b, c, rfl, hb⟩ := split8 (l := a) (by omega)
      rw [List.append_assoc, rest_eight hb, rest_eight hb, ih c.length (by rw [← hn, List.length_append]; omega) c rfl]
theorem byt_bts {B : List Int} (h : ∀ b ∈ B, 0 ≤ b ∧ b < 256) : byt (bts B) = B := by
  induction B with
  | nil => rfl
  | cons b B ih =>
    have h1 := h b (List.mem_cons_self ..)
    rw [bts, byt_eight (ofN_length b 8), numI_ofN, ih fun y hy => h y (List.mem_cons_of_mem _ hy)]
    congr 1
    omega
theorem rest_bts (B : List Int) : rest (bts B) = [] := by
  unfold rest
  rw [bts_length, Nat.mul_div_cancel_left _ (by omega), ← bts_length, List.drop_length]
theorem bts_append (a b : List Int) : bts (a ++ b) = bts a ++ bts b := by
  induction a with
  | nil => rfl
  | cons x a ih => simp [bts, ih]
theorem bts_byt {l : List Int} (h : Bit l) : bts (byt l) ++ rest l = l := by
  induction hn : l.length using Nat.strongRecOn generalizing l with
  | _ n ih =>
    by_cases h8 : l.length < 8
    · rw [byt_small h8, rest_small h8]; rfl
    · obtain ⟨a, b, rfl, ha⟩ := split8 (l := l) (by omega)
      rw [byt_eight ha, rest_eight ha, bts, List.append_assoc, ih b.length (by rw [← hn, List.length_append]; omega) (fun x hx => h x (List.mem_append_right _ hx)) rfl]
      have := ofN_numI (l := a) fun x hx => h x (List.mem_append_left _ hx)
      rw [ha] at this
      rw [this]
theorem byt_bd {l : List Int} (h : Bit l) : ∀ b ∈ byt l, 0 ≤ b ∧ b < 256 := by
  intro b hb
  obtain ⟨i, hi, rfl⟩ := List.mem_map.1 hb
  have h1 := numI_bd ((h.drop_ (8 * i)).take_ 8)
  have h2 : ((l.drop (8 * i)).take 8).length = 8 := by have := List.mem_range.1 hi; simp; omega
  rw [h2] at h1
  exact h1
/-- whole bytes after whole bytes -/
theorem byt_even {a : List Int} (h : a.length % 8 = 0) (x : List Int) : byt (a ++ x) = byt a ++ byt x := by
  rw [byt_app]
  have : rest a = [] := List.eq_nil_of_length_eq_zero (by rw [rest_length, h])
  rw [this]; rfl
theorem rest_even {a : List Int} (h : a.length % 8 = 0) (x : List Int) : rest (a ++ x) = rest x := by
  rw [rest_app]
  have : rest a = [] := List.eq_nil_of_length_eq_zero (by rw [rest_length, h])
  rw [this]; rfl
/-- noughts up to a whole byte -/
def evn (l : List Int) : List Int := l ++ List.replicate ((8 - l.length % 8) % 8) 0
theorem evn_length (l : List Int) : (evn l).length = l.length + (8 - l.length % 8) % 8 := by simp [evn]
theorem evn_even (l : List Int) : (evn l).length % 8 = 0 := by rw [evn_length]; omega
theorem Bit.evn {l : List Int} (h : Bit l) : Bit (evn l) := h.app (Bit.zeros _)
theorem ofN_zero (n : Nat) : ofN 0 n = List.replicate n 0 := by
  induction n with
  | zero => rfl
  | succ n ih => simp [ofN, ih, List.replicate_succ]
/-- byte j of what stands behind -/
theorem byt_at {l : List Int} {j : Nat} (hj : j < l.length / 8) (h : Bit l) : byt (l.take (8 * (j + 1))) = byt (l.take (8 * j)) ++ [numI (l.drop (8 * j)) % 256] := by
  have e : l.take (8 * (j + 1)) = l.take (8 * j) ++ (l.drop (8 * j)).take 8 := by
    rw [show 8 * (j + 1) = 8 * j + 8 by omega, List.take_add]
  have h8 : ((l.drop (8 * j)).take 8).length = 8 := by simp; omega
  rw [e, byt_even (by simp; omega)]
  congr 1
  have := byt_eight h8 []
  rw [List.append_nil, byt_small (l := []) (by simp)] at this
  rw [this, numI_take (h.drop_ _)]
  rfl
theorem byt_take (l : List Int) : byt (l.take (8 * (l.length / 8))) = byt l := by
  conv => rhs; rw [← List.take_append_drop (8 * (l.length / 8)) l]
  rw [byt_even (by simp; omega), byt_small (l := l.drop _) (by simp; omega), List.append_nil]
theorem rest_drop (l : List Int) : rest l = l.drop (8 * (l.length / 8)) := rfl
end Go.Proofs.Ytckhkkjdibcclaa

/-
  Plain law: how much of all codes lengths take; when lengths are a code's; their bounds.
-/
namespace Go.Proofs.Ytckhkkjdibcclaa

/-- 2^(15-v), closed to the walk -/
def p15 (v : Nat) : Nat := 2 ^ (15 - v)
theorem p15_zero : p15 0 = 32768 := rfl
theorem p15_bd (v : Nat) : 1 ≤ p15 v ∧ p15 v ≤ 32768 := by
  unfold p15
  have h1 : 2 ^ (15 - v) ≤ 2 ^ 15 := Nat.pow_le_pow_right (by omega) (by omega)
  have h2 : 1 ≤ 2 ^ (15 - v) := Nat.one_le_two_pow
  omega
theorem p15_half {v : Nat} (h : v < 15) : p15 v = 2 * p15 (v + 1) := by
  unfold p15
  have : 15 - v = (15 - (v + 1)) + 1 := by omega
  rw [this, Nat.pow_succ]; omega
theorem p15_int (v : Nat) : ((p15 v : Nat) : Int) = 2 ^ (15 - v) := by unfold p15; simp
def share (x : Int) : Nat := if isLen x then p15 x.toNat else 0
def sumTo (l : List Int) : Nat → Nat
  | 0 => 0
  | k + 1 => sumTo l k + share (ix l k)
theorem share_yes {v : Nat} (h1 : 1 ≤ v) (h2 : v ≤ 15) : share (v : Int) = p15 v := by
  unfold share isLen; rw [if_pos (by simp; omega)]; simp
theorem share_no {x : Int} (h : ¬ (1 ≤ x ∧ x ≤ 15)) : share x = 0 := by
  unfold share isLen; rw [if_neg (by simpa using h)]
theorem share_bd (x : Int) : share x ≤ 32768 := by
  unfold share; split
  · exact (p15_bd _).2
  · omega
theorem sumTo_bd (l : List Int) (k : Nat) : sumTo l k ≤ 32768 * k := by
  induction k with
  | zero => simp [sumTo]
  | succ k ih => have := share_bd (ix l k); simp only [sumTo]; omega

/-- how many of the first k lengths are above 0 -/
def posTo (l : List Int) : Nat → Nat
  | 0 => 0
  | k + 1 => posTo l k + if 0 < ix l k then 1 else 0
theorem posTo_le (l : List Int) (k : Nat) : posTo l k ≤ k := by
  induction k with
  | zero => simp [posTo]
  | succ k ih => simp only [posTo]; split <;> omega
/-- no length above 1 among the first k -/
def lowTo (l : List Int) (k : Nat) : Bool := decide (∀ i, i < k → ix l i ≤ 1)
def aloneB (l : List Int) (n : Nat) : Bool := lowTo l n && decide (posTo l n ≤ 1)
/-- all of the first k lengths are between 0 and most -/
def inTo (l : List Int) (most : Int) (k : Nat) : Bool := decide (∀ i, i < k → 0 ≤ ix l i ∧ ix l i ≤ most)
def checkOf (l : List Int) (most : Int) : Int :=
  if most < 1 ∨ 15 < most ∨ 288 < l.length then 1
  else if inTo l most l.length = false then 1
  else if 32768 < sumTo l l.length ∨ (sumTo l l.length < 32768 ∧ aloneB l l.length = false) then 3 else 0
theorem inTo_of {l : List Int} {most : Int} {k : Nat} (h : ∀ i, i < k → 0 ≤ ix l i ∧ ix l i ≤ most) : inTo l most k = true := by simpa [inTo] using h
theorem inTo_not {l : List Int} {most : Int} {n k : Nat} (hk : k < n) (h : ¬ (0 ≤ ix l k ∧ ix l k ≤ most)) : inTo l most n = false := by
  rw [← Bool.not_eq_true]
  intro hh
  have := of_decide_eq_true hh
  exact h (this k hk)
end Go.Proofs.Ytckhkkjdibcclaa
