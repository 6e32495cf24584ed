/-
  Plain words and laws: several texts in one (written by pack.py): Base, SumP, TellP, Own, JoinP, Chg, Slc, BitP, WtrP, RdrP, WinP, CodesP, TabP, CodeP, Tree, TReadP, TokP, ExpP, InfP, RevP.
-/
import Derived.WalkKit
import Derived.WalkLawsBesides
import Derived.WalkSpells
import Derived.Below
import Derived.Laws.OwnMore
import Derived.Deep.AppendLies
import Derived.Deep.Draws
import Derived.Deep.QuietTactic
import Derived.BigQuiet
import Derived.BigGuardPart
import Derived.Lib.Hide
import Derived.LoopTactic
import Derived.Deep.LoopGhost
import Derived.RegionTactic
import Derived.Outline
import Derived.WalkSmall
import Derived.OneCell
import Derived.Maps.AppendAt
import Derived.OwnWalk
import Derived.Laws.BitsAllLaws
import Derived.Laws.Bits64b
/-
  Words for memory, over any program: a slice that reads as a function of its places, a slice that reads as a list of numbers.
-/
namespace Go.Proofs.Ytjeedkjgjfbndaa
open Go.RowKit
set_option linter.unusedVariables false

theorem addr_block (a : Addr) (n : Nat) : (a.add n).block = a.block := by unfold Addr.add; split <;> rfl
theorem addr_add (a : Addr) (i j : Nat) : (a.add i).add j = a.add (i + j) := by
  unfold Addr.add
  by_cases hi : i = 0 <;> by_cases hj : j = 0 <;> simp [hi, hj, Nat.add_assoc]

/-- The first m cells behind the address A hold f 0, f 1, ..; they lie in a block below B. -/
def Rd (w : World) (B : Nat) (A : Option Addr) (m : Nat) (f : Nat → Value) : Prop :=
  0 < m → ∃ ad, A = some ad ∧ ad.block < B ∧ ∀ i, i < m → w.cell? (ad.add i) = some (f i)

/-- The number at place i, 0 beyond the end; the walk does not unfold it. -/
def ix (l : List Int) (i : Nat) : Int := l.getD i 0

/-- A slice of numbers of kind k that reads as l. -/
def RdI (k : IntKind) (w : World) (B : Nat) (A : Option Addr) (n : Nat) (l : List Int) : Prop :=
  n = l.length ∧ Rd w B A n (fun i => .int k (ix l i))

section
variable {w w' : World} {B B' n m : Nat} {A : Option Addr} {f : Nat → Value}
theorem Rd.nil_ : Rd w B A 0 f := fun h => absurd h (by omega)
theorem Rd.keep (h : Rd w B A m f) (hk : ∀ p : Addr, p.block < B → w'.cell? p = w.cell? p) : Rd w' B A m f := fun hm => by
  obtain ⟨ad, e, hb, hc⟩ := h hm
  exact ⟨ad, e, hb, fun i hi => (hk _ (by rw [addr_block]; exact hb)).trans (hc i hi)⟩
theorem Rd.more (h : Rd w B A m f) (hB : B ≤ B') : Rd w B' A m f := fun hm => by
  obtain ⟨ad, e, hb, hc⟩ := h hm
  exact ⟨ad, e, by omega, hc⟩
theorem Rd.below (h : Rd w B A m f) (hb : Below B w w') : Rd w' B A m f := h.keep fun _ hp => hb.cell hp
theorem Rd.congr {g : Nat → Value} (h : Rd w B A m f) (hfg : ∀ i, i < m → f i = g i) : Rd w B A m g := fun hm => by
  obtain ⟨ad, e, hb, hc⟩ := h hm
  exact ⟨ad, e, hb, fun i hi => by rw [hc i hi, hfg i hi]⟩
end

section
variable {k : IntKind} {w w' : World} {B B' n : Nat} {A : Option Addr} {l : List Int}
theorem RdI.at_ (h : RdI k w B A n l) {i : Nat} (hi : i < n) : ∃ ad, A = some ad ∧ ad.block < B ∧ w.cell? (ad.add i) = some (.int k (ix l i)) := by
  obtain ⟨ad, e, hb, hc⟩ := h.2 (by omega)
  exact ⟨ad, e, hb, hc i hi⟩
theorem RdI.keep (h : RdI k w B A n l) (hk : ∀ p : Addr, p.block < B → w'.cell? p = w.cell? p) : RdI k w' B A n l := ⟨h.1, h.2.keep hk⟩
theorem RdI.more (h : RdI k w B A n l) (hB : B ≤ B') : RdI k w B' A n l := ⟨h.1, h.2.more hB⟩
theorem RdI.below (h : RdI k w B A n l) (hb : Below B w w') : RdI k w' B A n l := ⟨h.1, h.2.below hb⟩
theorem RdI.drewN (h : RdI k w B A n l) (j : Nat) : RdI k (w.drewN j) B A n l := h
end

theorem ret_int {k : IntKind} {a b : Int} (h : a = b) : Ending.returned (.int k a) = .returned (.int k b) := by rw [h]
theorem ret_bool {a b : Bool} (h : a = b) : Ending.returned (.bool a) = .returned (.bool b) := by rw [h]

/-- A block whose first m cells, none frozen, hold f 0, f 1, .. -/
def Ar (w : World) (g m : Nat) (f : Nat → Value) : Prop :=
  ∃ (cs : Array Value) (t : TypeId) (fr : Nat × Nat), w.heap[g]? = some (.cells cs t fr) ∧ (m ≤ fr.1 ∨ fr.2 = 0) ∧ m ≤ cs.size ∧ ∀ i, i < m → cs[i]? = some (f i)
/-- f, but v at place i. -/
def upd {α : Type} (f : Nat → α) (i : Nat) (v : α) : Nat → α := fun j => if j = i then v else f j
theorem upd_same {α : Type} (f : Nat → α) (i : Nat) (v : α) : upd f i v i = v := by simp [upd]
theorem upd_other {α : Type} (f : Nat → α) {i j : Nat} (v : α) (h : j ≠ i) : upd f i v j = f j := by simp [upd, h]

section
variable {w w' : World} {g m : Nat} {f : Nat → Value}
theorem Ar.lt (h : Ar w g m f) : g < w.heap.size := by
  obtain ⟨cs, t, fr, hh, _⟩ := h
  exact lt_of_block hh
theorem Ar.cell (h : Ar w g m f) {i : Nat} (hi : i < m) : w.cell? ⟨g, i, none⟩ = some (f i) := by
  obtain ⟨cs, t, fr, hh, _, _, hc⟩ := h
  rw [cell_of_row w g i cs t fr hh, hc i hi]
theorem Ar.frozen' (h : Ar w g m f) {i : Nat} (hi : i < m) : w.frozen? ⟨g, i, none⟩ = false := by
  obtain ⟨cs, t, ⟨lo, hi'⟩, hh, hf, _⟩ := h
  simp [World.frozen?, hh]
  simp at hf
  omega
theorem Ar.drewN (h : Ar w g m f) (k : Nat) : Ar (w.drewN k) g m f := h
theorem Ar.drew (h : Ar w g m f) : Ar w.drew g m f := h
theorem Ar.same (h : Ar w g m f) (hb : w'.heap[g]? = w.heap[g]?) : Ar w' g m f := by
  obtain ⟨cs, t, fr, hh, r⟩ := h
  exact ⟨cs, t, fr, hb.trans hh, r⟩
theorem Ar.alloc (h : Ar w g m f) (o : Obj) : Ar (w.alloc o) g m f := h.same (Below.heap_alloc w o g h.lt)
theorem Ar.far (h : Ar w g m f) {p : Addr} (hp : g ≠ p.block) (u : Value) : Ar (w.setCell p u) g m f := h.same (Below.heap_setCell w p u g hp)
theorem Ar.below {B : Nat} (h : Ar w g m f) (hb : Below B w w') (hg : g < B) : Ar w' g m f := h.same (hb.block g hg)
theorem Ar.keeps (h : Ar w g m f) (hb : Below w.heap.size w w') : Ar w' g m f := h.below hb h.lt
theorem Ar.grown {row : Option Nat} (h : Ar w g m f) (hb : w.grownBy w' row) (hg : some g ≠ row) : Ar w' g m f := h.same (hb.block g h.lt hg)
theorem Ar.set_ (h : Ar w g m f) {i : Nat} (hi : i < m) (u : Value) : Ar (w.setCell ⟨g, i, none⟩ u) g m (upd f i u) := by
  obtain ⟨cs, t, fr, hh, hf, hs, hc⟩ := h
  refine ⟨cs.setIfInBounds i u, t, fr, ?_, hf, by simpa using hs, fun j hj => ?_⟩
  · simp [World.setCell, Array.getElem?_modify, hh]
  · rw [Array.getElem?_setIfInBounds]
    by_cases he : i = j
    · subst he
      rw [if_pos rfl, if_pos (by omega), upd_same]
    · rw [if_neg he, hc j hj, upd_other _ _ (by omega)]
theorem Ar.congr {f' : Nat → Value} (h : Ar w g m f) (hf : ∀ i, i < m → f i = f' i) : Ar w g m f' := by
  obtain ⟨cs, t, fr, hh, hfr, hs, hc⟩ := h
  exact ⟨cs, t, fr, hh, hfr, hs, fun i hi => by rw [hc i hi, hf i hi]⟩
theorem Ar.new (w : World) (cs : Array Value) (t : TypeId) (hm : cs.size = m) (hf : ∀ i, i < m → cs[i]? = some (f i)) : Ar (w.alloc (.cells cs t)) w.heap.size m f :=
  ⟨cs, t, (0, 0), heap_alloc_new w _, .inr rfl, Nat.le_of_eq hm.symm, hf⟩
/-- A slice over the head of such a block. -/
theorem Ar.rd (h : Ar w g m f) {B n : Nat} (hB : g < B) (hn : n ≤ m) : Rd w B (some ⟨g, 0, none⟩) n f := fun _ => by
  refine ⟨_, rfl, hB, fun i hi => ?_⟩
  have : (⟨g, 0, none⟩ : Addr).add i = ⟨g, i, none⟩ := by unfold Addr.add; split <;> simp_all
  rw [this]
  exact h.cell (by omega)
end

/-- A slice over the head of a block. -/
theorem RdI.head {k : IntKind} {w : World} {B n g : Nat} {l : List Int} (h : RdI k w B (some ⟨g, 0, none⟩) n l) {i : Nat} (hi : i < n) : w.cell? ⟨g, i, none⟩ = some (.int k (ix l i)) := by
  obtain ⟨ad, e, _, hc⟩ := h.at_ hi
  cases e
  have : (⟨g, 0, none⟩ : Addr).add i = ⟨g, i, none⟩ := by unfold Addr.add; split <;> simp_all
  rwa [this] at hc
theorem rd_of_row {k : IntKind} {w : World} {a : Option Addr} {len cap : Nat} {zs : List Int}
    (h : (a = none ∧ len = 0 ∧ cap = 0 ∧ zs = []) ∨ ∃ x, a = some x ∧ len ≤ cap ∧ cap ≤ maxLen ∧ zs.length = cap ∧ (∀ i, i < zs.length → w.cell? (x.add i) = some (.int k (zs.getD i 0))) ∧ ∀ n ∈ zs, (Lit.int k n).wf = true) :
    RdI k w w.heap.size a len (zs.take len) ∧ len ≤ maxLen ∧ ∀ n ∈ zs.take len, (Lit.int k n).wf = true := by
  rcases h with ⟨rfl, rfl, rfl, rfl⟩ | ⟨x, rfl, hl, hm, hz, hc, hw⟩
  · exact ⟨⟨rfl, Rd.nil_⟩, Nat.zero_le _, fun n hn => by simp at hn⟩
  · refine ⟨⟨by simp; omega, fun h0 => ⟨x, rfl, ?_, fun i hi => ?_⟩⟩, by omega, fun n hn => hw n (List.mem_of_mem_take hn)⟩
    · have h1 := hc 0 (by omega)
      have hlt : (x.add 0).block < w.heap.size := by
        rcases Nat.lt_or_ge (x.add 0).block w.heap.size with h' | h'
        · exact h'
        · simp [World.cell?, Array.getElem?_eq_none h'] at h1
      rwa [addr_block] at hlt
    · rw [hc i (by omega)]
      congr 2
      simp [ix, hi]
theorem bounds_i64 {x : Int} (h : (Lit.int .i64 x).wf = true) : -9223372036854775808 ≤ x ∧ x ≤ 9223372036854775807 := by
  simpa [Lit.wf, IntKind.min, IntKind.max, IntKind.signed, IntKind.bits] using h
theorem bounds_u32 {x : Int} (h : (Lit.int .u32 x).wf = true) : 0 ≤ x ∧ x < 4294967296 := by
  have : 0 ≤ x ∧ x ≤ 4294967295 := by simpa [Lit.wf, IntKind.min, IntKind.max, IntKind.signed, IntKind.bits] using h
  omega
theorem bounds_u16 {x : Int} (h : (Lit.int .u16 x).wf = true) : 0 ≤ x ∧ x < 65536 := by
  have : 0 ≤ x ∧ x ≤ 65535 := by simpa [Lit.wf, IntKind.min, IntKind.max, IntKind.signed, IntKind.bits] using h
  omega
theorem bounds_u8 {x : Int} (h : (Lit.int .u8 x).wf = true) : 0 ≤ x ∧ x < 256 := by
  have : 0 ≤ x ∧ x ≤ 255 := by simpa [Lit.wf, IntKind.min, IntKind.max, IntKind.signed, IntKind.bits] using h
  omega
theorem ix_wf {k : IntKind} {l : List Int} (h : ∀ n ∈ l, (Lit.int k n).wf = true) (h0 : (Lit.int k 0).wf = true) (i : Nat) : (Lit.int k (ix l i)).wf = true := by
  unfold ix
  rw [List.getD_eq_getElem?_getD]
  cases hi : l[i]? with
  | none => simpa using h0
  | some v => exact h v (List.mem_of_getElem? hi)
/-- A new slice literal of numbers. -/
theorem RdI.lit (k : IntKind) (w : World) (l : List Int) (t : TypeId) : RdI k (w.alloc (.cells (l.map (Value.int k)).toArray t)) (w.heap.size + 1) (some ⟨w.heap.size, 0, none⟩) l.length l := by
  refine ⟨rfl, ?_⟩
  have h : Ar (w.alloc (.cells (l.map (Value.int k)).toArray t)) w.heap.size l.length (fun i => .int k (ix l i)) :=
    Ar.new w _ t (by simp) fun i hi => by simp [ix, hi]
  exact h.rd (by omega) (Nat.le_refl _)

theorem RdI.lit' (k : IntKind) {w : World} {g : Nat} (hg : g = w.heap.size) (l : List Int) (t : TypeId) : RdI k (w.alloc (.cells (l.map (Value.int k)).toArray t)) (g + 1) (some ⟨g, 0, none⟩) l.length l := by
  subst hg; exact RdI.lit k w l t
theorem RdI.alloc {k : IntKind} {w : World} {B n : Nat} {A : Option Addr} {l : List Int} (h : RdI k w B A n l) (hB : B ≤ w.heap.size) (o : Obj) : RdI k (w.alloc o) B A n l :=
  h.keep fun p hp => World.cell?_alloc_lt w o p (by omega)

/-- The heap's size, closed to the walk's rewriting. -/
def Sz (w : World) (n : Nat) : Prop := w.heap.size = n
theorem Sz.set_ {w : World} {n : Nat} (h : Sz w n) (p : Addr) (u : Value) : Sz (w.setCell p u) n := by unfold Sz at *; simpa [World.setCell] using h
theorem Sz.drew {w : World} {n : Nat} (h : Sz w n) : Sz w.drew n := h
theorem Sz.drewN {w : World} {n : Nat} (h : Sz w n) (k : Nat) : Sz (w.drewN k) n := h
theorem Sz.alloc {w : World} {n : Nat} (h : Sz w n) (o : Obj) : Sz (w.alloc o) (n + 1) := by unfold Sz at *; simp [h]

/-- n cells that all hold z; the walk does not unfold it. -/
def zrow (n : Nat) (z : Value) : Array Value := Array.replicate n z
theorem zrow_size (n : Nat) (z : Value) : (zrow n z).size = n := by simp [zrow]
theorem zrow_at {n i : Nat} (z : Value) (hi : i < n) : (zrow n z)[i]? = some z := by simp [zrow, hi]
theorem Ar.zeros (w : World) (n : Nat) (z : Value) (t : TypeId) : Ar (w.alloc (.cells (zrow n z) t)) w.heap.size n (fun _ => z) :=
  Ar.new w _ t (zrow_size n z) fun _ hi => zrow_at z hi

theorem Ar.zeros' {w : World} (n : Nat) (z : Value) (t : TypeId) {g : Nat} (hg : g = w.heap.size) : Ar (w.alloc (.cells (zrow n z) t)) g n (fun _ => z) := by
  subst hg; exact Ar.zeros w n z t

/-- 'make([]T, n)', T of one cell. -/
theorem run_make_zrow {P : Program} (t e : TypeId) (i : TypeInfo) (z : Value) (ht : P.underlying t = some (.slice e)) (hi : P.info? e = some i) (hz : i.zero = some z) (hs : i.size = 1) (hzc : z.cells = #[z])
    (kl kc : IntKind) (n : Nat) (hbytes : i.bytes * n ≤ 281474976710656) (h63 : n ≤ 9223372036854775807) (w : World) :
    (Instr.makeSlice t (.int kl (n : Int)) (.int kc (n : Int))).run P w = .ok (.slice (some ⟨w.heap.size, 0, none⟩) n n) (w.alloc (.cells (zrow n z) e)) := by
  have hb : (i.bytes : Int) * (n : Int) ≤ 281474976710656 := by
    have h : ((i.bytes * n : Nat) : Int) ≤ 281474976710656 := by omega
    rwa [Int.natCast_mul] at h
  have hr := run_make (P := P) w t e i z ht hi hz kl kc n n (by omega) (by omega) hb (by omega)
  simp only [Int.toNat_natCast, hs, Nat.mul_one] at hr
  rw [hr]
  have : madeCells z.cells n = zrow n z := by
    apply Array.ext
    · rw [size_madeCells, zrow_size]
    · intro j h1 h2
      have e : (#[z] : Array Value).size = 1 := rfl
      simp [madeCells, zrow, hzc, Nat.mod_one]
  rw [this]
/-- 'make([]T, n, c)', T of one cell. -/
theorem run_make_room {P : Program} (t e : TypeId) (i : TypeInfo) (z : Value) (ht : P.underlying t = some (.slice e)) (hi : P.info? e = some i) (hz : i.zero = some z) (hs : i.size = 1) (hzc : z.cells = #[z])
    (kl kc : IntKind) (n c : Nat) (hnc : n ≤ c) (hbytes : i.bytes * c ≤ 281474976710656) (h63 : c ≤ 9223372036854775807) (w : World) :
    (Instr.makeSlice t (.int kl (n : Int)) (.int kc (c : Int))).run P w = .ok (.slice (some ⟨w.heap.size, 0, none⟩) n c) (w.alloc (.cells (zrow c z) e)) := by
  have hb : (i.bytes : Int) * (c : Int) ≤ 281474976710656 := by
    have h : ((i.bytes * c : Nat) : Int) ≤ 281474976710656 := by omega
    rwa [Int.natCast_mul] at h
  have hr := run_make (P := P) w t e i z ht hi hz kl kc n c (by omega) (by omega) hb (by omega)
  simp only [Int.toNat_natCast, hs, Nat.mul_one] at hr
  rw [hr]
  have : madeCells z.cells c = zrow c z := by
    apply Array.ext
    · rw [size_madeCells, zrow_size]
    · intro j h1 h2
      have e : (#[z] : Array Value).size = 1 := rfl
      simp [madeCells, zrow, hzc, Nat.mod_one]
  rw [this]
end Go.Proofs.Ytjeedkjgjfbndaa

/-
  Plain law: the bits of a checksum: a step, a byte, many bytes.
-/
namespace Go.Proofs.Ytjeedkjgjfbndaa

def poly : Nat := 3988292384
def stp (x : Nat) : Nat := if x % 2 = 1 then (x / 2) ^^^ poly else x / 2
def stpN : Nat → Nat → Nat
  | 0, x => x
  | k + 1, x => stp (stpN k x)
theorem stp_xor (a b : Nat) : stp (a ^^^ b) = stp a ^^^ stp b := by
  unfold stp
  rw [Nat.xor_div_two]
  have hx : (a ^^^ b) % 2 = 1 ↔ ¬ (a % 2 = 1 ↔ b % 2 = 1) := Nat.xor_mod_two_eq_one
  by_cases ha : a % 2 = 1 <;> by_cases hb : b % 2 = 1
  · rw [if_neg (by rw [hx]; simp [ha, hb]), if_pos ha, if_pos hb]
    apply Nat.eq_of_testBit_eq
    intro i
    simp only [Nat.testBit_xor]
    cases (a / 2).testBit i <;> cases (b / 2).testBit i <;> cases poly.testBit i <;> rfl
  · rw [if_pos (by rw [hx]; simp [ha, hb]), if_pos ha, if_neg hb]
    apply Nat.eq_of_testBit_eq
    intro i
    simp only [Nat.testBit_xor]
    cases (a / 2).testBit i <;> cases (b / 2).testBit i <;> cases poly.testBit i <;> rfl
  · rw [if_pos (by rw [hx]; simp [ha, hb]), if_neg ha, if_pos hb]
    apply Nat.eq_of_testBit_eq
    intro i
    simp only [Nat.testBit_xor]
    cases (a / 2).testBit i <;> cases (b / 2).testBit i <;> cases poly.testBit i <;> rfl
  · rw [if_neg (by rw [hx]; simp [ha, hb]), if_neg ha, if_neg hb]
theorem stpN_xor (k a b : Nat) : stpN k (a ^^^ b) = stpN k a ^^^ stpN k b := by
  induction k with
  | zero => rfl
  | succ k ih => simp only [stpN, ih, stp_xor]
theorem stpN_add (j k x : Nat) : stpN (j + k) x = stpN j (stpN k x) := by
  induction j with
  | zero => simp [stpN]
  | succ j ih => rw [Nat.add_right_comm]; simp only [stpN, ih]
theorem stp_even (q : Nat) : stp (2 * q) = q := by unfold stp; rw [if_neg (by omega)]; omega
theorem stpN_even (k q : Nat) : stpN k (2 ^ k * q) = q := by
  induction k generalizing q with
  | zero => simp [stpN]
  | succ k ih =>
    have e : 2 ^ (k + 1) * q = 2 ^ k * (2 * q) := by rw [Nat.pow_succ, Nat.mul_assoc]
    simp only [stpN]
    rw [e, ih, stp_even]
theorem stp_lt {x : Nat} (h : x < 4294967296) : stp x < 4294967296 := by
  unfold stp
  split
  · exact Nat.xor_lt_two_pow (n := 32) (by omega) (by unfold poly; omega)
  · omega
theorem stpN_lt {x : Nat} (h : x < 4294967296) (k : Nat) : stpN k x < 4294967296 := by
  induction k with
  | zero => exact h
  | succ k ih => exact stp_lt ih
/-- the byte step by a table -/
theorem low_high (x c : Nat) (hc : c < 256) : x ^^^ c = ((x % 256) ^^^ c) ^^^ (256 * (x / 256)) := by
  apply Nat.eq_of_testBit_eq
  intro i
  simp only [Nat.testBit_xor]
  have h1 : (x % 256).testBit i = (decide (i < 8) && x.testBit i) := Nat.testBit_mod_two_pow x 8 i
  have h2 : (256 * (x / 256)).testBit i = (decide (8 ≤ i) && x.testBit i) := by
    have : (2 ^ 8 * (x / 256)).testBit i = (decide (i ≥ 8) && (x / 256).testBit (i - 8)) := Nat.testBit_two_pow_mul
    rw [show (2 : Nat) ^ 8 = 256 from rfl] at this
    rw [this]
    by_cases h : 8 ≤ i
    · have e : (x / 256).testBit (i - 8) = x.testBit i := by
        have : (x / 2 ^ 8).testBit (i - 8) = x.testBit (8 + (i - 8)) := by rw [Nat.testBit_div_two_pow, Nat.add_comm]
        rw [show (2 : Nat) ^ 8 = 256 from rfl] at this
        rw [this]; congr 1; omega
      rw [e]
    · simp [h]
  rw [h1, h2]
  by_cases h : i < 8
  · have h' : ¬ 8 ≤ i := by omega
    simp [h, h']
  · have h' : 8 ≤ i := by omega
    have hci : c.testBit i = false := Nat.testBit_lt_two_pow (Nat.lt_of_lt_of_le hc (Nat.pow_le_pow_right (n := 2) (by omega) h'))
    simp [h, h', hci]
theorem byte_step (x c : Nat) (hc : c < 256) : stpN 8 ((x % 256) ^^^ c) ^^^ (x / 256) = stpN 8 (x ^^^ c) := by
  rw [low_high x c hc, stpN_xor 8 ((x % 256) ^^^ c), show 256 * (x / 256) = 2 ^ 8 * (x / 256) from rfl, stpN_even]

/-- the same at the model's integers, closed to the walk -/
def stpI (x : Int) : Int := (stp x.toNat : Nat)
def stpKI (k : Nat) (x : Int) : Int := (stpN k x.toNat : Nat)
def xorI (a b : Int) : Int := (a.toNat ^^^ b.toNat : Nat)
def crStep (x c : Int) : Int := stpKI 8 (xorI x c)
def crTo (x : Int) (l : List Int) : Nat → Int
  | 0 => x
  | k + 1 => crStep (crTo x l k) (ix l k)
theorem stpKI_zero {x : Int} (h : 0 ≤ x) : stpKI 0 x = x := by unfold stpKI stpN; omega
theorem stpKI_succ (k : Nat) (x : Int) : stpKI (k + 1) x = stpI (stpKI k x) := by unfold stpI stpKI; simp [stpN]
theorem stpKI_bd (k : Nat) {x : Int} (h : 0 ≤ x ∧ x < 4294967296) : 0 ≤ stpKI k x ∧ stpKI k x < 4294967296 := by
  unfold stpKI
  have := stpN_lt (x := x.toNat) (by omega) k
  omega
theorem stpI_bd {x : Int} (h : 0 ≤ x ∧ x < 4294967296) : 0 ≤ stpI x ∧ stpI x < 4294967296 := by
  unfold stpI
  have := stp_lt (x := x.toNat) (by omega)
  omega
theorem xorI_bd {a b : Int} (h : 0 ≤ a ∧ a < 4294967296) (h' : 0 ≤ b ∧ b < 4294967296) : 0 ≤ xorI a b ∧ xorI a b < 4294967296 := by
  unfold xorI
  have := Nat.xor_lt_two_pow (x := a.toNat) (y := b.toNat) (n := 32) (by omega) (by omega)
  omega
theorem xorI_bd8 {a b : Int} (h : 0 ≤ a ∧ a < 256) (h' : 0 ≤ b ∧ b < 256) : 0 ≤ xorI a b ∧ xorI a b < 256 := by
  unfold xorI
  have := Nat.xor_lt_two_pow (x := a.toNat) (y := b.toNat) (n := 8) (by omega) (by omega)
  omega
theorem crStep_bd {x c : Int} (h : 0 ≤ x ∧ x < 4294967296) (h' : 0 ≤ c ∧ c < 256) : 0 ≤ crStep x c ∧ crStep x c < 4294967296 :=
  stpKI_bd 8 (xorI_bd h (by omega))
theorem crTo_bd {x : Int} {l : List Int} (h : 0 ≤ x ∧ x < 4294967296) (hl : ∀ i, 0 ≤ ix l i ∧ ix l i < 256) (k : Nat) : 0 ≤ crTo x l k ∧ crTo x l k < 4294967296 := by
  induction k with
  | zero => exact h
  | succ k ih => exact crStep_bd ih (hl k)
theorem table_step {x c : Int} (h : 0 ≤ x ∧ x < 4294967296) (h' : 0 ≤ c ∧ c < 256) : xorI (stpKI 8 (xorI (x % 256) c)) (x / 256) = crStep x c := by
  unfold crStep xorI stpKI
  simp only [Int.toNat_natCast]
  have e1 : (x % 256).toNat = x.toNat % 256 := by omega
  have e2 : (x / 256).toNat = x.toNat / 256 := by omega
  rw [e1, e2, byte_step _ _ (by omega)]
/-- the checksums of Adler -/
def adX (x : Int) (l : List Int) : Nat → Int
  | 0 => x
  | k + 1 => (adX x l k + ix l k) % 65521
def adY (x y : Int) (l : List Int) : Nat → Int
  | 0 => y
  | k + 1 => (adY x y l k + adX x l (k + 1)) % 65521
theorem adX_bd {x : Int} {l : List Int} (h : 0 ≤ x ∧ x < 65521) (k : Nat) : 0 ≤ adX x l k ∧ adX x l k < 65521 := by
  cases k with
  | zero => exact h
  | succ k => simp only [adX]; omega
theorem adY_bd {x y : Int} {l : List Int} (h : 0 ≤ y ∧ y < 65521) (k : Nat) : 0 ≤ adY x y l k ∧ adY x y l k < 65521 := by
  cases k with
  | zero => exact h
  | succ k => simp only [adY]; omega
end Go.Proofs.Ytjeedkjgjfbndaa

/-
  Plain law: two texts that differ in a burst of at most 32 bits have other checksums.
-/
namespace Go.Proofs.Ytjeedkjgjfbndaa

def crN (x : Nat) (f : Nat → Nat) : Nat → Nat
  | 0 => x
  | k + 1 => stpN 8 (crN x f k ^^^ f k)
theorem crTo_N {x : Int} (hx : 0 ≤ x) (l : List Int) (k : Nat) : crTo x l k = (crN x.toNat (fun i => (ix l i).toNat) k : Nat) := by
  induction k with
  | zero => simp only [crTo, crN]; omega
  | succ k ih =>
    simp only [crTo, crN, ih]
    unfold crStep stpKI xorI
    simp
theorem stp_zero {x : Nat} (hx : x < 4294967296) (h : stp x = 0) : x = 0 := by
  unfold stp at h
  split at h
  · have : x / 2 = poly := by
      have h2 : (x / 2 ^^^ poly) ^^^ poly = 0 ^^^ poly := by rw [h]
      rwa [Nat.xor_assoc, Nat.xor_self, Nat.xor_zero, Nat.zero_xor] at h2
    unfold poly at this; omega
  · omega
theorem stpN_zero {k x : Nat} (hx : x < 4294967296) (h : stpN k x = 0) : x = 0 := by
  induction k with
  | zero => exact h
  | succ k ih => exact ih (stp_zero (stpN_lt hx k) h)
theorem xor_cat {a b i : Nat} (h : a < 2 ^ i) : a + 2 ^ i * b = a ^^^ (2 ^ i * b) := by
  apply Nat.eq_of_testBit_eq
  intro j
  rw [Nat.add_comm, Nat.testBit_two_pow_mul_add _ h, Nat.testBit_xor, Nat.testBit_two_pow_mul]
  by_cases hj : j < i
  · have : ¬ i ≤ j := by omega
    simp [hj, this]
  · have h1 : a.testBit j = false := Nat.testBit_lt_two_pow (Nat.lt_of_lt_of_le h (Nat.pow_le_pow_right (n := 2) (by omega) (by omega)))
    have : i ≤ j := by omega
    simp [hj, h1, this]
theorem burst {f f' : Nat → Nat} {X k : Nat} (hd : ∀ m, m < 5 → f (k + m) ^^^ f' (k + m) = X / 2 ^ (8 * m) % 256) (ho : ∀ m, m < k → f m = f' m) (x : Nat) (j : Nat) (hj : j ≤ 5) :
    crN x f (k + j) ^^^ crN x f' (k + j) = stpN (8 * j) (X % 2 ^ (8 * j)) := by
  induction j with
  | zero =>
    have : ∀ m, m ≤ k → crN x f m = crN x f' m := by
      intro m
      induction m with
      | zero => intro _; rfl
      | succ m ih => intro hm; simp only [crN]; rw [ih (by omega), ho m (by omega)]
    rw [Nat.add_zero, this k (Nat.le_refl _), Nat.xor_self]
    simp [stpN, Nat.mod_one]
  | succ j ih =>
    have h1 := ih (by omega)
    have h2 := hd j (by omega)
    show stpN 8 (crN x f (k + j) ^^^ f (k + j)) ^^^ stpN 8 (crN x f' (k + j) ^^^ f' (k + j)) = _
    rw [← stpN_xor]
    have e : (crN x f (k + j) ^^^ f (k + j)) ^^^ (crN x f' (k + j) ^^^ f' (k + j)) = (crN x f (k + j) ^^^ crN x f' (k + j)) ^^^ (f (k + j) ^^^ f' (k + j)) := by
      apply Nat.eq_of_testBit_eq
      intro i
      simp only [Nat.testBit_xor]
      cases (crN x f (k + j)).testBit i <;> cases (crN x f' (k + j)).testBit i <;> cases (f (k + j)).testBit i <;> cases (f' (k + j)).testBit i <;> rfl
    rw [e, h1, h2]
    have e2 : X % 2 ^ (8 * (j + 1)) = X % 2 ^ (8 * j) + 2 ^ (8 * j) * (X / 2 ^ (8 * j) % 256) := by
      rw [show 8 * (j + 1) = 8 * j + 8 by omega, Nat.pow_add, Nat.mod_mul]
    rw [e2, xor_cat (Nat.mod_lt _ (Nat.two_pow_pos _)), show 8 * (j + 1) = 8 + 8 * j by omega, stpN_add, stpN_xor (8 * j), stpN_even]
theorem tell {f f' : Nat → Nat} {B s k n x : Nat} (hB0 : B ≠ 0) (hB : B < 4294967296) (hs : s < 8) (hx : x < 4294967296) (hf : ∀ m, f m < 256) (hf' : ∀ m, f' m < 256)
    (hd : ∀ m, m < 5 → f (k + m) ^^^ f' (k + m) = (2 ^ s * B) / 2 ^ (8 * m) % 256) (ho : ∀ m, m < k → f m = f' m) (hp : ∀ m, k + 5 ≤ m → f m = f' m) (hn : k + 5 ≤ n) : crN x f n ≠ crN x f' n := by
  have hlt : ∀ g : Nat → Nat, (∀ m, g m < 256) → ∀ m, crN x g m < 4294967296 := by
    intro g hg m
    induction m with
    | zero => exact hx
    | succ m ih => exact stpN_lt (Nat.xor_lt_two_pow (n := 32) ih (by have := hg m; omega)) 8
  have h5 := burst hd ho x 5 (Nat.le_refl _)
  have hX : 2 ^ s * B < 2 ^ 40 := by
    have : 2 ^ s ≤ 2 ^ 7 := Nat.pow_le_pow_right (by omega) (by omega)
    calc 2 ^ s * B ≤ 2 ^ 7 * B := Nat.mul_le_mul_right _ this
      _ < 2 ^ 40 := by omega
  rw [show 8 * 5 = 40 from rfl, Nat.mod_eq_of_lt hX, show 40 = (40 - s) + s by omega, stpN_add, stpN_even] at h5
  have h0 : crN x f (k + 5) ^^^ crN x f' (k + 5) ≠ 0 := by rw [h5]; exact fun h => hB0 (stpN_zero hB h)
  have : ∀ j, crN x f (k + 5 + j) ^^^ crN x f' (k + 5 + j) ≠ 0 := by
    intro j
    induction j with
    | zero => exact h0
    | succ j ih =>
      intro h
      apply ih
      have e : crN x f (k + 5 + (j + 1)) ^^^ crN x f' (k + 5 + (j + 1)) = stpN 8 (crN x f (k + 5 + j) ^^^ crN x f' (k + 5 + j)) := by
        show stpN 8 (crN x f (k + 5 + j) ^^^ f (k + 5 + j)) ^^^ stpN 8 (crN x f' (k + 5 + j) ^^^ f' (k + 5 + j)) = _
        rw [← stpN_xor, hp (k + 5 + j) (by omega)]
        congr 1
        apply Nat.eq_of_testBit_eq
        intro i
        simp only [Nat.testBit_xor]
        cases (crN x f (k + 5 + j)).testBit i <;> cases (crN x f' (k + 5 + j)).testBit i <;> cases (f' (k + 5 + j)).testBit i <;> rfl
      rw [e] at h
      exact stpN_zero (Nat.xor_lt_two_pow (n := 32) (hlt f hf _) (hlt f' hf' _)) h
  intro h
  have h2 := this (n - (k + 5))
  rw [show k + 5 + (n - (k + 5)) = n by omega, h, Nat.xor_self] at h2
  exact h2 rfl

/-- the text with the first j of the five bytes bent -/
def teL (l : List Int) (k : Nat) (X : Int) : Nat → List Int
  | 0 => l
  | j + 1 => (teL l k X j).set (k + j) (xorI (ix l (k + j)) (X / 2 ^ (8 * j) % 256))
theorem teL_length (l : List Int) (k : Nat) (X : Int) (j : Nat) : (teL l k X j).length = l.length := by
  induction j with
  | zero => rfl
  | succ j ih => simp [teL, ih]
theorem ix_set' (l : List Int) {k : Nat} (hk : k < l.length) (a : Int) (j : Nat) : ix (l.set k a) j = if j = k then a else ix l j := by
  unfold ix
  simp only [List.getD_eq_getElem?_getD, List.getElem?_set]
  by_cases h : k = j
  · subst h; simp [hk]
  · rw [if_neg h, if_neg (fun e => h e.symm)]
theorem ix_teL (l : List Int) (k : Nat) (X : Int) (j : Nat) (hj : k + j ≤ l.length) (m : Nat) : ix (teL l k X j) m = if k ≤ m ∧ m < k + j then xorI (ix l m) (X / 2 ^ (8 * (m - k)) % 256) else ix l m := by
  induction j with
  | zero => rw [if_neg (by omega)]; rfl
  | succ j ih =>
    simp only [teL]
    rw [ix_set' _ (by rw [teL_length]; omega), ih (by omega)]
    by_cases e : m = k + j
    · subst e
      rw [if_pos rfl, if_pos (by omega), show k + j - k = j by omega]
    · rw [if_neg e]
      by_cases h : k ≤ m ∧ m < k + j
      · rw [if_pos h, if_pos (by omega)]
      · rw [if_neg h, if_neg (by omega)]
theorem teL_bd {l : List Int} {k : Nat} {X : Int} (hl : ∀ i, 0 ≤ ix l i ∧ ix l i < 256) (j : Nat) (hj : k + j ≤ l.length) (m : Nat) : 0 ≤ ix (teL l k X j) m ∧ ix (teL l k X j) m < 256 := by
  rw [ix_teL l k X j hj]
  split
  · exact xorI_bd8 (hl m) ⟨Int.emod_nonneg _ (by omega), Int.emod_lt_of_pos _ (by omega)⟩
  · exact hl m
theorem tell_crc {l : List Int} {k : Nat} {B s x : Int} (hl : ∀ i, 0 ≤ ix l i ∧ ix l i < 256) (hB0 : B ≠ 0) (hB : 0 ≤ B ∧ B < 4294967296) (hs : 0 ≤ s ∧ s < 8) (hx : 0 ≤ x ∧ x < 4294967296) (hk : k + 5 ≤ l.length) :
    crTo x l l.length ≠ crTo x (teL l k (B * 2 ^ s.toNat) 5) l.length := by
  rw [crTo_N hx.1, crTo_N hx.1]
  intro h
  refine tell (f := fun i => (ix l i).toNat) (f' := fun i => (ix (teL l k (B * 2 ^ s.toNat) 5) i).toNat) (B := B.toNat) (s := s.toNat) (k := k) (n := l.length) (x := x.toNat) (by omega) (by omega) (by omega) (by omega)
    (fun m => by have := hl m; show (ix l m).toNat < 256; omega) (fun m => by have := teL_bd (X := B * 2 ^ s.toNat) hl 5 hk m; show (ix (teL l k (B * 2 ^ s.toNat) 5) m).toNat < 256; omega) ?_ ?_ ?_ hk (Int.ofNat.inj h)
  · intro m hm
    show (ix l (k + m)).toNat ^^^ (ix (teL l k (B * 2 ^ s.toNat) 5) (k + m)).toNat = _
    rw [ix_teL l k _ 5 hk, if_pos (by omega)]
    unfold xorI
    rw [Int.toNat_natCast, ← Nat.xor_assoc, Nat.xor_self, Nat.zero_xor, show k + m - k = m by omega]
    have e1 : B * 2 ^ s.toNat = ((2 ^ s.toNat * B.toNat : Nat) : Int) := by
      rw [Int.natCast_mul, Int.toNat_of_nonneg hB.1, Int.mul_comm]; simp
    rw [e1]
    have e2 : ((2 ^ s.toNat * B.toNat : Nat) : Int) / 2 ^ (8 * m) % 256 = (((2 ^ s.toNat * B.toNat) / 2 ^ (8 * m) % 256 : Nat) : Int) := by
      rw [Int.natCast_emod, Int.natCast_ediv]; simp
    rw [e2, Int.toNat_natCast]
  · intro m hm
    show (ix l m).toNat = (ix (teL l k (B * 2 ^ s.toNat) 5) m).toNat
    rw [ix_teL l k _ 5 hk, if_neg (by omega)]
  · intro m hm
    show (ix l m).toNat = (ix (teL l k (B * 2 ^ s.toNat) 5) m).toNat
    rw [ix_teL l k _ 5 hk, if_neg (by omega)]
end Go.Proofs.Ytjeedkjgjfbndaa

/-
  Words for memory, over any program: a slice that the call owns (it may be appended to), and the law of append on it.
-/
namespace Go.Proofs.Ytjeedkjgjfbndaa
open Go.RowKit
set_option linter.unusedVariables false

/-- f on the first n places, g behind. -/
def cat {α : Type} (n : Nat) (f g : Nat → α) : Nat → α := fun i => if i < n then f i else g (i - n)
def blkOf (A : Option Addr) : Option Nat := A.map (·.block)

/-- The slice .slice A n c is nil, or lies at the head of a block from b0 on that nothing else shares the length of; its first m cells (m = n x cells per element) are f 0, f 1, .. -/
def Own (w : World) (b0 : Nat) (e : TypeId) (sz : Nat) (A : Option Addr) (n c : Nat) (f : Nat → Value) : Prop :=
  (A = none ∧ n = 0 ∧ c = 0) ∨ ∃ (g : Nat) (cur : Array Value), A = some ⟨g, 0, none⟩ ∧ b0 ≤ g ∧ w.heap[g]? = some (.cells cur e (0, 0)) ∧ n ≤ c ∧ c ≤ maxLen ∧ cur.size = c * sz ∧ ∀ i, i < n * sz → cur[i]? = some (f i)

section
variable {w w' : World} {b0 : Nat} {e : TypeId} {sz n c : Nat} {A : Option Addr} {f : Nat → Value}
theorem Own.nil_ : Own w b0 e sz none 0 0 f := .inl ⟨rfl, rfl, rfl⟩
theorem Own.keep (h : Own w b0 e sz A n c f) (hk : ∀ g, blkOf A = some g → g < w.heap.size → w'.heap[g]? = w.heap[g]?) : Own w' b0 e sz A n c f := by
  rcases h with h | ⟨g, cur, rfl, h1, h2, r⟩
  · exact .inl h
  · exact .inr ⟨g, cur, rfl, h1, (hk g rfl (lt_of_block h2)).trans h2, r⟩
theorem Own.alloc (h : Own w b0 e sz A n c f) (o : Obj) : Own (w.alloc o) b0 e sz A n c f := h.keep fun g _ hlt => Below.heap_alloc w o g hlt
theorem Own.drewN (h : Own w b0 e sz A n c f) (k : Nat) : Own (w.drewN k) b0 e sz A n c f := h
theorem Own.drew (h : Own w b0 e sz A n c f) : Own w.drew b0 e sz A n c f := h
theorem Own.far (h : Own w b0 e sz A n c f) {p : Addr} (hp : blkOf A ≠ some p.block) (u : Value) : Own (w.setCell p u) b0 e sz A n c f :=
  h.keep fun g hg _ => Below.heap_setCell w p u g (fun e => hp (by rw [hg, e]))
theorem Own.below {B : Nat} (h : Own w b0 e sz A n c f) (hb : Below B w w') (hB : ∀ g, blkOf A = some g → g < B) : Own w' b0 e sz A n c f := h.keep fun g hg _ => hb.block g (hB g hg)
theorem Own.grown {row : Option Nat} (h : Own w b0 e sz A n c f) (hg : w.grownBy w' row) (hr : blkOf A ≠ row ∨ blkOf A = none) : Own w' b0 e sz A n c f :=
  h.keep fun g hgA hlt => hg.block g hlt (fun e => by
    rcases hr with hr | hr
    · exact hr (hgA.trans e)
    · rw [hr] at hgA; cases hgA)
theorem Own.lt (h : Own w b0 e sz A n c f) {g : Nat} (hg : blkOf A = some g) : b0 ≤ g ∧ g < w.heap.size := by
  rcases h with ⟨rfl, _⟩ | ⟨g', cur, rfl, h1, h2, _⟩
  · simp [blkOf] at hg
  · simp [blkOf] at hg; subst hg; exact ⟨h1, lt_of_block h2⟩
theorem Own.congr {f' : Nat → Value} (h : Own w b0 e sz A n c f) (hf : ∀ i, i < n * sz → f i = f' i) : Own w b0 e sz A n c f' := by
  rcases h with h | ⟨g, cur, r1, r2, r3, r4, r5, r6, h7⟩
  · exact .inl h
  · exact .inr ⟨g, cur, r1, r2, r3, r4, r5, r6, fun i hi => by rw [h7 i hi, hf i hi]⟩
theorem Own.more {b1 : Nat} (h : Own w b0 e sz A n c f) (hb : b1 ≤ b0) : Own w b1 e sz A n c f := by
  rcases h with h | ⟨g, cur, r1, r2, r⟩
  · exact .inl h
  · exact .inr ⟨g, cur, r1, Nat.le_trans hb r2, r⟩
theorem Own.rd (h : Own w b0 e sz A n c f) : Rd w w.heap.size A (n * sz) f := fun hm => by
  rcases h with ⟨_, rfl, _⟩ | ⟨g, cur, rfl, _, h2, h3, _, h5, h6⟩
  · simp at hm
  · refine ⟨_, rfl, lt_of_block h2, fun i hi => ?_⟩
    have : (⟨g, 0, none⟩ : Addr).add i = ⟨g, i, none⟩ := by unfold Addr.add; split <;> simp_all
    rw [this, cell_of_row w g i cur e (0, 0) h2, h6 i hi]
theorem Own.capLe (h : Own w b0 e sz A n c f) : n ≤ c := by
  rcases h with ⟨_, rfl, rfl⟩ | ⟨g, cur, _, _, _, h3, _⟩
  · exact Nat.le_refl _
  · exact h3
theorem Own.owns (h : Own w b0 e sz A n c f) : w.ownsRow b0 e sz (.slice A n c) n ((List.range (n * sz)).map f) := by
  refine ⟨by simp, ?_⟩
  rcases h with ⟨rfl, rfl, rfl⟩ | ⟨g, cur, rfl, h1, h2, h3, h4, h5, h6⟩
  · exact .inl ⟨rfl, rfl⟩
  · refine .inr ⟨g, c, cur, rfl, h1, h2, h3, h4, h5, ?_⟩
    apply List.ext_getElem?
    intro i
    rw [List.getElem?_take]
    by_cases hi : i < n * sz
    · rw [if_pos hi]
      have := h6 i hi
      simp [hi, this]
    · rw [if_neg hi]; simp [hi]
theorem own_of_owns {v : Value} {xs : List Value} (h : w.ownsRow b0 e sz v n xs) (hx : ∀ i, i < n * sz → xs[i]? = some (f i)) : ∃ A c, v = .slice A n c ∧ Own w b0 e sz A n c f ∧ v.ownBlock = blkOf A := by
  obtain ⟨hl, h2⟩ := h
  rcases h2 with ⟨rfl, rfl⟩ | ⟨g, cap, cur, rfl, h1, h2, h3, h4, h5, h6⟩
  · exact ⟨none, 0, rfl, .inl ⟨rfl, rfl, rfl⟩, rfl⟩
  · refine ⟨_, _, rfl, .inr ⟨g, cur, rfl, h1, h2, h3, h4, h5, fun i hi => ?_⟩, rfl⟩
    have := hx i hi
    rw [← h6, List.getElem?_take, if_pos hi] at this
    simpa using this
/-- A new block of a literal's cells. -/
theorem Own.lit {g : Nat} (hg : g = w.heap.size) (cs : Array Value) (e : TypeId) {n : Nat} (hb : b0 ≤ w.heap.size) (hn : n ≤ maxLen) (hs : cs.size = n * sz) (hf : ∀ i, i < n * sz → cs[i]? = some (f i)) :
    Own (w.alloc (.cells cs e)) b0 e sz (some ⟨g, 0, none⟩) n n f := by
  subst hg
  exact .inr ⟨_, cs, rfl, hb, heap_alloc_new w _, Nat.le_refl _, hn, hs, hf⟩
/-- A store into a place of the row. -/
theorem Own.set_ {g : Nat} (h : Own w b0 e sz (some ⟨g, 0, none⟩) n c f) {i : Nat} (hi : i < n * sz) (u : Value) : Own (w.setCell ⟨g, i, none⟩ u) b0 e sz (some ⟨g, 0, none⟩) n c (upd f i u) := by
  rcases h with ⟨h, _⟩ | ⟨g', cur, hA, h1, h2, h3, h4, h5, h6⟩
  · cases h
  · cases hA
    refine .inr ⟨_, cur.setIfInBounds i u, rfl, h1, ?_, h3, h4, by simpa using h5, fun j hj => ?_⟩
    · simp [World.setCell, Array.getElem?_modify, h2]
    · rw [Array.getElem?_setIfInBounds]
      by_cases he : i = j
      · subst he
        have : i < cur.size := by rw [h5]; exact Nat.lt_of_lt_of_le hj (Nat.mul_le_mul_right _ h3)
        rw [if_pos rfl, if_pos this, upd_same]
      · rw [if_neg he, h6 j hj, upd_other _ _ (by omega)]
theorem Own.cell {g : Nat} (h : Own w b0 e sz (some ⟨g, 0, none⟩) n c f) {i : Nat} (hi : i < n * sz) : w.cell? ⟨g, i, none⟩ = some (f i) := by
  rcases h with ⟨h, _⟩ | ⟨g', cur, hA, h1, h2, h3, h4, h5, h6⟩
  · cases h
  · cases hA
    rw [cell_of_row w _ i cur e (0, 0) h2, h6 i hi]
theorem Own.frozen {g : Nat} (h : Own w b0 e sz (some ⟨g, 0, none⟩) n c f) (i : Nat) : w.frozen? ⟨g, i, none⟩ = false := by
  rcases h with ⟨h, _⟩ | ⟨g', cur, hA, h1, h2, _⟩
  · cases h
  · cases hA; simp [World.frozen?, h2]
theorem Own.addr (h : Own w b0 e sz A n c f) (hn : 0 < n) : ∃ g, A = some ⟨g, 0, none⟩ := by
  rcases h with ⟨_, h, _⟩ | ⟨g', cur, hA, _⟩
  · omega
  · exact ⟨_, hA⟩
end

section
variable {P : Program} (w : World)
/-- append onto such a row, whatever the source (nil too). -/
theorem run_append_cat (b0 : Nat) (t ty e : TypeId) (i : TypeInfo) (z : Value) (sz bytes : Nat) (ht : P.underlying t = some (.slice e)) (hi : P.info? e = some i) (hz : i.zero = some z)
    (hsize : i.size = sz) (hby : i.bytes = bytes) (hzs : z.cells.size = sz) (hsz : 0 < sz)
    (A : Option Addr) (n c : Nat) (f : Nat → Value) (hown : Own w b0 e sz A n c f)
    (B : Nat) (A' : Option Addr) (m c' : Nat) (f' : Nat → Value) (hr : Rd w B A' (m * sz) f') (h1 : ∀ j, j < m * sz → (f' j).oneCell' = true)
    (h63 : n + m ≤ 1000000000000) (hb8 : bytes ≤ 100) (hbase : b0 ≤ w.heap.size) :
    ∃ A2 c2 w2, (Builtin.append_ #[t, t] ty #[.slice A n c, .slice A' m c']).run P w = .ok (.slice A2 (n + m) c2) w2 ∧ Own w2 b0 e sz A2 (n + m) c2 (cat (n * sz) f f') ∧ w.grownBy w2 (blkOf A) ∧
      (blkOf A2 = blkOf A ∨ blkOf A2 = some w.heap.size) := by
  have hcat0 : m = 0 → Own w b0 e sz A (n + m) c (cat (n * sz) f f') := by
    rintro rfl
    exact hown.congr fun j hj => by unfold cat; rw [if_pos hj]
  have hbk : (Value.slice A n c).ownBlock = blkOf A := by cases A <;> rfl
  rcases A' with _ | ad
  · have hm : m = 0 := by
      rcases Nat.eq_zero_or_pos m with h0 | h0
      · exact h0
      · obtain ⟨ad, h, _⟩ := hr (Nat.mul_pos h0 hsz)
        cases h
    subst hm
    refine ⟨A, c, w, ?_, hcat0 rfl, World.grownBy.refl w _, .inl rfl⟩
    rcases hown with ⟨rfl, rfl, rfl⟩ | ⟨g, cur, rfl, _, _, hnc, _⟩
    · simp [Builtin.append_, run_underlying ht, sizeOf, typeInfo, hi, Builtin.lenOf, Builtin.firstCells]
    · simp [Builtin.append_, run_underlying ht, sizeOf, typeInfo, hi, Builtin.lenOf, Builtin.firstCells, hnc, storeCells]
  · have hcells : ∀ j u, ((List.range (m * sz)).map f')[j]? = some u → w.cell? (ad.add j) = some u := by
      intro j u hu
      have hj : j < m * sz := by
        rcases Nat.lt_or_ge j (m * sz) with h' | h'
        · exact h'
        · rw [List.getElem?_eq_none (by simpa using h')] at hu; cases hu
      obtain ⟨ad', h, _, hc⟩ := hr (by omega)
      injection h with h
      subst h
      rw [hc j hj]
      simpa [hj] using hu
    have hone : ∀ u ∈ (List.range (m * sz)).map f', u.oneCell' = true := by
      intro u hu
      obtain ⟨j, hj, rfl⟩ := List.mem_map.1 hu
      exact h1 j (by simpa using hj)
    have hbb : (n + m) * bytes ≤ 140737488355328 := by
      calc (n + m) * bytes ≤ 1000000000000 * 100 := Nat.mul_le_mul h63 hb8
        _ ≤ 140737488355328 := by omega
    obtain ⟨v', w', hrun, h2, h3, _, h5⟩ := run_append_own_at (P := P) w b0 t ty e i z sz bytes ht hi hz hsize hby hzs hsz _ n _ hown.owns ad m c' _ (by simp) hcells hone (by unfold maxLen; omega) hbb hbase
    obtain ⟨A2, c2, rfl, ho, hbk2⟩ := own_of_owns (f := cat (n * sz) f f') h2 (fun j hj => by
      unfold cat
      rw [Nat.add_mul] at hj
      by_cases h' : j < n * sz
      · rw [if_pos h', List.getElem?_append_left (by simpa using h')]
        simp [h']
      · rw [if_neg h', List.getElem?_append_right (by simp; omega)]
        have : j - n * sz < m * sz := by omega
        simp [this])
    refine ⟨A2, c2, w', hrun, ho, by rw [← hbk]; exact h3, ?_⟩
    rw [← hbk2, ← hbk]
    exact h5
end

/-- The same at a row of numbers. -/
def OwnI (k : IntKind) (w : World) (b0 : Nat) (e : TypeId) (A : Option Addr) (n c : Nat) (l : List Int) : Prop := n = l.length ∧ Own w b0 e 1 A n c (fun i => .int k (ix l i))
section
variable {k : IntKind} {w w' : World} {b0 : Nat} {e : TypeId} {n c : Nat} {A : Option Addr} {l : List Int}
theorem OwnI.nil_ : OwnI k w b0 e none 0 0 [] := ⟨rfl, Own.nil_⟩
theorem OwnI.alloc (h : OwnI k w b0 e A n c l) (o : Obj) : OwnI k (w.alloc o) b0 e A n c l := ⟨h.1, h.2.alloc o⟩
theorem OwnI.drewN (h : OwnI k w b0 e A n c l) (j : Nat) : OwnI k (w.drewN j) b0 e A n c l := h
theorem OwnI.drew (h : OwnI k w b0 e A n c l) : OwnI k w.drew b0 e A n c l := h
theorem OwnI.far (h : OwnI k w b0 e A n c l) {p : Addr} (hp : blkOf A ≠ some p.block) (u : Value) : OwnI k (w.setCell p u) b0 e A n c l := ⟨h.1, h.2.far hp u⟩
theorem OwnI.below {B : Nat} (h : OwnI k w b0 e A n c l) (hb : Below B w w') (hB : ∀ g, blkOf A = some g → g < B) : OwnI k w' b0 e A n c l := ⟨h.1, h.2.below hb hB⟩
theorem OwnI.keeps (h : OwnI k w b0 e A n c l) (hb : Below w.heap.size w w') : OwnI k w' b0 e A n c l := h.below hb fun _ hg => (h.2.lt hg).2
theorem OwnI.grown {row : Option Nat} (h : OwnI k w b0 e A n c l) (hg : w.grownBy w' row) (hr : blkOf A ≠ row ∨ blkOf A = none) : OwnI k w' b0 e A n c l := ⟨h.1, h.2.grown hg hr⟩
theorem OwnI.more {b1 : Nat} (h : OwnI k w b0 e A n c l) (hb : b1 ≤ b0) : OwnI k w b1 e A n c l := ⟨h.1, h.2.more hb⟩
theorem OwnI.rd (h : OwnI k w b0 e A n c l) : RdI k w w.heap.size A n l := ⟨h.1, by simpa using h.2.rd⟩
theorem OwnI.lit {g : Nat} (hg : g = w.heap.size) (l : List Int) (e : TypeId) (hb : b0 ≤ w.heap.size) (hn : l.length ≤ maxLen) : OwnI k (w.alloc (.cells (l.map (Value.int k)).toArray e)) b0 e (some ⟨g, 0, none⟩) l.length l.length l :=
  ⟨rfl, Own.lit hg _ e hb hn (by simp) fun i hi => by rw [Nat.mul_one] at hi; simp [ix, hi]⟩
end

theorem ix_append (l l' : List Int) (i : Nat) : ix (l ++ l') i = if i < l.length then ix l i else ix l' (i - l.length) := by
  unfold ix
  simp only [List.getD_eq_getElem?_getD]
  split
  · rw [List.getElem?_append_left (by assumption)]
  · rw [List.getElem?_append_right (by omega)]

section
variable {P : Program} {w : World}
theorem run_app (k : IntKind) (b0 : Nat) (t ty e : TypeId) (i : TypeInfo) (bytes : Nat) (ht : P.underlying t = some (.slice e)) (hi : P.info? e = some i) (hz : i.zero = some (.int k 0))
    (hsize : i.size = 1) (hby : i.bytes = bytes) {A : Option Addr} {n c : Nat} {l : List Int} (hown : OwnI k w b0 e A n c l) {B : Nat} {A' : Option Addr} {m c' : Nat} {l' : List Int} (hr : RdI k w B A' m l')
    (h63 : n + m ≤ 1000000000000) (hb8 : bytes ≤ 100) (hbase : b0 ≤ w.heap.size) :
    ∃ A2 c2 w2, (Builtin.append_ #[t, t] ty #[.slice A n c, .slice A' m c']).run P w = .ok (.slice A2 (n + m) c2) w2 ∧ OwnI k w2 b0 e A2 (n + m) c2 (l ++ l') ∧ w.grownBy w2 (blkOf A) ∧
      (blkOf A2 = blkOf A ∨ blkOf A2 = some w.heap.size) := by
  obtain ⟨A2, c2, w2, h1, h2, h3, h4⟩ := run_append_cat (P := P) w b0 t ty e i (.int k 0) 1 bytes ht hi hz hsize hby rfl (by omega) A n c _ hown.2 B A' m c' _ (by rw [Nat.mul_one]; exact hr.2) (fun _ _ => rfl) h63 hb8 hbase
  refine ⟨A2, c2, w2, h1, ⟨by rw [List.length_append, ← hown.1, ← hr.1], h2.congr fun j hj => ?_⟩, h3, h4⟩
  unfold cat
  rw [ix_append, ← hown.1, Nat.mul_one]
  split <;> rfl

theorem wpList_app {ops : Array Oper} {rest : List Oper} {o : Oper} {a : Act} {Q : Exit → Act → World → Prop} (k : IntKind) (b0 : Nat) (e : TypeId) (i : TypeInfo) (bytes : Nat) (hgd : Region.wanted o (yielded ops a.tmps) = true) (s x : Operand) (t : TypeId)
    (ho : o.op = .call { callee := .builtin .append, args := #[s, x], argTypes := #[t, t] }) (ht : P.underlying t = some (.slice e)) (hi : P.info? e = some i) (hz : i.zero = some (.int k 0))
    (hsize : i.size = 1) (hby : i.bytes = bytes) {A : Option Addr} {n c : Nat} {l : List Int} (hs : a.eval s = .slice A n c) (hown : OwnI k w b0 e A n c l)
    {B : Nat} {A' : Option Addr} {m c' : Nat} {l' : List Int} (hx : a.eval x = .slice A' m c') (hr : RdI k w B A' m l')
    (h63 : n + m ≤ 1000000000000) (hb8 : bytes ≤ 100) (hbase : b0 ≤ w.heap.size)
    (h : ∀ A2 c2 w2, OwnI k w2 b0 e A2 (n + m) c2 (l ++ l') → w.grownBy w2 (blkOf A) → (blkOf A2 = blkOf A ∨ blkOf A2 = some w.heap.size) → wpList P ops Q rest (a.put o.dst (.slice A2 (n + m) c2)) w2) : wpList P ops Q (o :: rest) a w := by
  refine wpList_step fun K hK => ?_
  rw [if_pos hgd]
  obtain ⟨A2, c2, w2, hrun, h2, h3, h4⟩ := run_app (P := P) (w := w) k b0 t o.type e i bytes ht hi hz hsize hby hown (c' := c') hr h63 hb8 hbase
  unfold Oper.wp execOp
  simp only [ho, resolve, invoke, builtin, Sem.run_bind, Sem.run_pure, Result.andThen_ok, List.map_toArray, List.map_cons, List.map_nil, hs, hx, hrun]
  exact hK _ _ (h A2 c2 w2 h2 h3 h4)
end
/-- What a growth of one's own row is, seen from below. -/
theorem below_grown {b0 : Nat} {w0 w w' : World} {A : Option Addr} (hb : Below b0 w0 w) (hg : w.grownBy w' (blkOf A)) (hB : b0 ≤ w.heap.size) (hA : ∀ g, blkOf A = some g → b0 ≤ g) : Below b0 w0 w' := hb.grown hg hB hA
end Go.Proofs.Ytjeedkjgjfbndaa

/-
  Plain law: the checksums of two texts behind each other.
-/
namespace Go.Proofs.Ytjeedkjgjfbndaa
set_option linter.unusedVariables false

theorem crN_lin (x y : Nat) (f : Nat → Nat) (k : Nat) : crN (x ^^^ y) f k = stpN (8 * k) x ^^^ crN y f k := by
  induction k with
  | zero => rfl
  | succ k ih =>
    simp only [crN, ih]
    rw [Nat.xor_assoc, stpN_xor, ← stpN_add, show 8 + 8 * k = 8 * (k + 1) by omega]
theorem stpN_zero_arg (k : Nat) : stpN k 0 = 0 := by
  have := stpN_even k 0
  rwa [Nat.mul_zero] at this
theorem crTo_append (x : Int) (a b : List Int) (k : Nat) : crTo x (a ++ b) (a.length + k) = crTo (crTo x a a.length) b k := by
  have h0 : ∀ m, m ≤ a.length → crTo x (a ++ b) m = crTo x a m := by
    intro m
    induction m with
    | zero => intro _; rfl
    | succ m ih => intro hm; simp only [crTo]; rw [ih (by omega), ix_append, if_pos (by omega)]
  induction k with
  | zero => rw [Nat.add_zero, h0 _ (Nat.le_refl _)]; rfl
  | succ k ih =>
    rw [← Nat.add_assoc]
    simp only [crTo]
    rw [ih, ix_append, if_neg (by omega), show a.length + k - a.length = k by omega]
theorem adX_append (x : Int) (a b : List Int) (k : Nat) : adX x (a ++ b) (a.length + k) = adX (adX x a a.length) b k := by
  have h0 : ∀ m, m ≤ a.length → adX x (a ++ b) m = adX x a m := by
    intro m
    induction m with
    | zero => intro _; rfl
    | succ m ih => intro hm; simp only [adX]; rw [ih (by omega), ix_append, if_pos (by omega)]
  induction k with
  | zero => rw [Nat.add_zero, h0 _ (Nat.le_refl _)]; rfl
  | succ k ih =>
    rw [← Nat.add_assoc]
    simp only [adX]
    rw [ih, ix_append, if_neg (by omega), show a.length + k - a.length = k by omega]
theorem adX_pre (x : Int) (a b : List Int) (m : Nat) : m ≤ a.length → adX x (a ++ b) m = adX x a m := by
  induction m with
  | zero => intro _; rfl
  | succ m ih => intro hm; simp only [adX]; rw [ih (by omega), ix_append, if_pos (by omega)]
theorem adY_append (x y : Int) (a b : List Int) (k : Nat) : adY x y (a ++ b) (a.length + k) = adY (adX x a a.length) (adY x y a a.length) b k := by
  have h0 : ∀ m, m ≤ a.length → adY x y (a ++ b) m = adY x y a m := by
    intro m
    induction m with
    | zero => intro _; rfl
    | succ m ih => intro hm; simp only [adY]; rw [ih (by omega), adX_pre x a b (m + 1) hm]
  induction k with
  | zero => rw [Nat.add_zero, h0 _ (Nat.le_refl _)]; rfl
  | succ k ih =>
    rw [← Nat.add_assoc]
    simp only [adY]
    rw [ih, Nat.add_assoc, adX_append]
/-- the join of two checksums (CRC) -/
def joinC (a b : Int) (n : Nat) : Int := xorI (stpKI (8 * n) a) b
theorem joinC_eq {la lb : List Int} {n : Nat} (hla : ∀ i, 0 ≤ ix la i ∧ ix la i < 256) (F M : Int) (hF : 0 ≤ F) (hM : 0 ≤ M ∧ M < 4294967296) :
    joinC (xorI F (crTo M la la.length)) (xorI F (crTo F lb n)) n = xorI F (crTo (crTo M la la.length) lb n) := by
  have hA := crTo_bd hM hla la.length
  obtain ⟨A, hAe⟩ : ∃ A : Nat, crTo M la la.length = A := ⟨(crTo M la la.length).toNat, by omega⟩
  rw [hAe, crTo_N hF, crTo_N (x := (A : Int)) (by omega)]
  unfold joinC xorI stpKI
  simp only [Int.toNat_natCast]
  congr 1
  obtain ⟨G, hG⟩ : ∃ G, F.toNat = G := ⟨_, rfl⟩
  rw [hG, stpN_xor]
  have h1 := crN_lin G 0 (fun i => (ix lb i).toNat) n
  have h2 := crN_lin A 0 (fun i => (ix lb i).toNat) n
  rw [Nat.xor_zero] at h1 h2
  rw [h1, h2]
  apply Nat.eq_of_testBit_eq
  intro i
  simp only [Nat.testBit_xor]
  cases (stpN (8 * n) G).testBit i <;> cases (stpN (8 * n) A).testBit i <;> cases (G.testBit i) <;> cases (crN 0 (fun i => (ix lb i).toNat) n).testBit i <;> rfl
/-- the join of two checksums (Adler) -/
theorem adX_lin {x : Int} (hx : 0 ≤ x ∧ x < 65521) (l : List Int) (k : Nat) : adX x l k = (x + adX 1 l k + 65520) % 65521 := by
  induction k with
  | zero => simp only [adX]; omega
  | succ k ih => simp only [adX]; rw [ih]; omega
theorem adY_lin {x y : Int} (hx : 0 ≤ x ∧ x < 65521) (hy : 0 ≤ y ∧ y < 65521) (l : List Int) (k : Nat) : adY x y l k = (y + adY 1 0 l k + (k : Int) * (x + 65520)) % 65521 := by
  induction k with
  | zero => simp only [adY]; omega
  | succ k ih =>
    have h1 := adX_lin hx l (k + 1)
    have h2 := adX_bd (x := 1) (l := l) (by omega) (k + 1)
    have h3 := adY_bd (x := 1) (y := 0) (l := l) (by omega) k
    have e : ((k + 1 : Nat) : Int) * (x + 65520) = (k : Int) * (x + 65520) + (x + 65520) := by
      rw [show ((k + 1 : Nat) : Int) = (k : Int) + 1 by omega, Int.add_mul, Int.one_mul]
    simp only [adY] at h1 ⊢
    rw [ih, h1, e]
    obtain ⟨T, hT⟩ : ∃ T : Int, (k : Int) * (x + 65520) = T := ⟨_, rfl⟩
    rw [hT]
    omega
def lowH' (s : Int) : Int := s % 65536 % 65521
def highH' (s : Int) : Int := s / 65536 % 65521
theorem ad_half {x y : Int} (hx : 0 ≤ x ∧ x < 65521) (hy : 0 ≤ y ∧ y < 65521) : lowH' (y * 65536 + x) = x ∧ highH' (y * 65536 + x) = y := by
  unfold lowH' highH'; omega
end Go.Proofs.Ytjeedkjgjfbndaa

/-
  Words for memory, over any program: what a call may have changed: the blocks of a set, and what is new.
-/
namespace Go.Proofs.Ytjeedkjgjfbndaa
open Go.RowKit
set_option linter.unusedVariables false

theorem addr0 (g i : Nat) : (⟨g, 0, none⟩ : Addr).add i = ⟨g, i, none⟩ := by unfold Addr.add; split <;> simp_all
def foot (A : Option Addr) (g : Nat) (k : Nat) : Prop := k = g ∨ blkOf A = some k
/-- Of the blocks of w only those of S may have turned. -/
structure Chg (w w' : World) (S : Nat → Prop) : Prop where
  os : w'.os = w.os
  tape : w'.tape = w.tape
  output : w'.output = w.output
  size : w.heap.size ≤ w'.heap.size
  block : ∀ k, k < w.heap.size → ¬ S k → w'.heap[k]? = w.heap[k]?
section
variable {w w' w'' : World} {S S' : Nat → Prop}
theorem Chg.refl (w : World) (S : Nat → Prop) : Chg w w S := ⟨rfl, rfl, rfl, Nat.le_refl _, fun _ _ _ => rfl⟩
theorem Chg.trans (h : Chg w w' S) (h' : Chg w' w'' S') (hs : ∀ k, S' k → S k ∨ w.heap.size ≤ k) : Chg w w'' S :=
  ⟨h'.os.trans h.os, h'.tape.trans h.tape, h'.output.trans h.output, Nat.le_trans h.size h'.size, fun k hk hS =>
    (h'.block k (Nat.lt_of_lt_of_le hk h.size) (fun h2 => by rcases hs k h2 with h3 | h3; exact hS h3; omega)).trans (h.block k hk hS)⟩
theorem Chg.more (h : Chg w w' S) (hs : ∀ k, S k → S' k) : Chg w w' S' := ⟨h.os, h.tape, h.output, h.size, fun k hk hS => h.block k hk fun h2 => hS (hs k h2)⟩
theorem Chg.drew (h : Chg w w' S) : Chg w w'.drew S := ⟨h.os, h.tape, h.output, h.size, h.block⟩
theorem Chg.drewN (h : Chg w w' S) (n : Nat) : Chg w (w'.drewN n) S := ⟨h.os, h.tape, h.output, h.size, h.block⟩
theorem Chg.alloc (h : Chg w w' S) (o : Obj) : Chg w (w'.alloc o) S :=
  ⟨h.os, h.tape, h.output, Nat.le_trans h.size (by simp), fun k hk hS => (Below.heap_alloc w' o k (Nat.lt_of_lt_of_le hk h.size)).trans (h.block k hk hS)⟩
theorem Chg.setCell (h : Chg w w' S) {p : Addr} (hp : S p.block ∨ w.heap.size ≤ p.block) (u : Value) : Chg w (w'.setCell p u) S :=
  ⟨h.os, h.tape, h.output, by simpa [World.setCell] using h.size, fun k hk hS => (Below.heap_setCell w' p u k (by
    rintro rfl
    rcases hp with hp | hp
    · exact hS hp
    · omega)).trans (h.block k hk hS)⟩
theorem Chg.grown (h : Chg w w' S) {row : Option Nat} (hg : w'.grownBy w'' row) (hr : ∀ k, row = some k → S k ∨ w.heap.size ≤ k) : Chg w w'' S :=
  ⟨hg.os.trans h.os, hg.tape.trans h.tape, hg.output.trans h.output, Nat.le_trans h.size hg.size, fun k hk hS =>
    (hg.block k (Nat.lt_of_lt_of_le hk h.size) (fun e => by rcases hr k e.symm with h2 | h2; exact hS h2; omega)).trans (h.block k hk hS)⟩
theorem Chg.of_below (h : Below w.heap.size w w') : Chg w w' S := ⟨h.os, h.tape, h.output, h.size, fun k hk _ => h.block k hk⟩
theorem Chg.below {b0 : Nat} (h : Chg w w' S) (hs : ∀ k, S k → b0 ≤ k) (hb : b0 ≤ w.heap.size) : Below b0 w w' :=
  ⟨h.os, h.tape, h.output, h.size, fun k hk => h.block k (by omega) fun h2 => by have := hs k h2; omega⟩
theorem Chg.cell (h : Chg w w' S) {p : Addr} (hp : p.block < w.heap.size) (hS : ¬ S p.block) : w'.cell? p = w.cell? p := World.cell?_of_block (w := w) (h.block p.block hp hS)
theorem Chg.ar {g m : Nat} {f : Nat → Value} (h : Chg w w' S) (ha : Ar w g m f) (hS : ¬ S g) : Ar w' g m f := ha.same (h.block g ha.lt hS)
theorem Chg.own {b0 : Nat} {e : TypeId} {sz n c : Nat} {A : Option Addr} {f : Nat → Value} (h : Chg w w' S) (ha : Own w b0 e sz A n c f) (hS : ∀ g, blkOf A = some g → ¬ S g) : Own w' b0 e sz A n c f :=
  ha.keep fun g hg hlt => h.block g hlt (hS g hg)
theorem Chg.ownI {k : IntKind} {b0 : Nat} {e : TypeId} {n c : Nat} {A : Option Addr} {l : List Int} (h : Chg w w' S) (ha : OwnI k w b0 e A n c l) (hS : ∀ g, blkOf A = some g → ¬ S g) : OwnI k w' b0 e A n c l :=
  ⟨ha.1, h.own ha.2 hS⟩
theorem Chg.rdI {k : IntKind} {B n : Nat} {A : Option Addr} {l : List Int} (h : Chg w w' S) (ha : RdI k w B A n l) (hB : B ≤ w.heap.size) (hS : 0 < n → ∀ ad, A = some ad → ¬ S ad.block) : RdI k w' B A n l :=
  ⟨ha.1, fun hm => by
    obtain ⟨ad, e, hb, hc⟩ := ha.2 hm
    exact ⟨ad, e, hb, fun i hi => (h.cell (by rw [addr_block]; omega) (by rw [addr_block]; exact hS hm ad e)).trans (hc i hi)⟩⟩
end

/-- The bytes from place k on. -/
theorem ix_drop (l : List Int) (k i : Nat) : ix (l.drop k) i = ix l (k + i) := by
  unfold ix
  simp only [List.getD_eq_getElem?_getD, List.getElem?_drop]
theorem RdI.cut {k : IntKind} {w : World} {B n : Nat} {A : Option Addr} {l : List Int} (h : RdI k w B A n l) {j : Nat} (hj : j ≤ n) {A' : Option Addr} (hA : j < n → A' = A.map (·.add j)) : RdI k w B A' (n - j) (l.drop j) := by
  refine ⟨by rw [List.length_drop, h.1], fun hm => ?_⟩
  obtain ⟨ad, rfl, hb, hc⟩ := h.2 (by omega)
  refine ⟨ad.add j, hA (by omega), by rw [addr_block]; exact hb, fun i hi => ?_⟩
  rw [addr_add, hc (j + i) (by omega)]
  show some (Value.int k (ix l (j + i))) = some (Value.int k (ix (List.drop j l) i))
  rw [ix_drop]
end Go.Proofs.Ytjeedkjgjfbndaa

/-
  Words for memory, over any program: slicing a slice, whatever its place.
-/
namespace Go.Proofs.Ytjeedkjgjfbndaa
open Go.RowKit
set_option linter.unusedVariables false
/-- where s[j:] of a slice of one-cell elements lies -/
def cutA (A : Option Addr) (c j : Nat) : Option Addr := if c = j then A else A.map (·.add j)
theorem RdI.cutA {k : IntKind} {w : World} {B n c : Nat} {A : Option Addr} {l : List Int} (h : RdI k w B A n l) {j : Nat} (hj : j ≤ n) (hc : n ≤ c) : RdI k w B (cutA A c j) (n - j) (l.drop j) :=
  h.cut hj fun hlt => by unfold Go.Proofs.Ytjeedkjgjfbndaa.cutA; rw [if_neg (by omega)]
theorem RdI.pre {k : IntKind} {w : World} {B n : Nat} {A : Option Addr} {l : List Int} (h : RdI k w B A n l) {j : Nat} (hj : j ≤ n) : RdI k w B A j (l.take j) := by
  refine ⟨by rw [List.length_take, ← h.1]; omega, fun h0 => ?_⟩
  obtain ⟨ad, e, hb, hc⟩ := h.2 (by omega)
  refine ⟨ad, e, hb, fun i hi => ?_⟩
  rw [hc i (by omega)]
  simp [ix, hi]
section
variable {P : Program} (t e : TypeId) (ht : P.underlying t = some (.slice e)) {i : TypeInfo} (hi : P.info? e = some i) (hs : i.size = 1)
include ht hi hs
theorem run_slice_from (A : Option Addr) (n c : Nat) {j : Nat} (hj : j ≤ n) (W : World) :
    (Instr.slice t (.slice A n c) (some (.int .i64 (j : Int))) none none).run P W = .ok (.slice (cutA A c j) (n - j) (c - j)) W := by
  have he : P.elem t = e := by simp [Program.elem, ht]
  rw [run_slice_l W t A n c (by rw [he]; exact ht) .i64 j (by omega) (by omega), he]
  simp [sizeOf, typeInfo, hi, hs, sliced, cutA]
theorem run_slice_to (A : Option Addr) (n c : Nat) {j : Nat} (hj : j ≤ c) (W : World) :
    (Instr.slice t (.slice A n c) none (some (.int .i64 (j : Int))) none).run P W = .ok (.slice A j c) W := by
  have he : P.elem t = e := by simp [Program.elem, ht]
  rw [run_slice_h W t A n c (by rw [he]; exact ht) .i64 j (by omega) (by omega), he]
  simp [sizeOf, typeInfo, hi, hs, sliced]
  cases A <;> simp [Addr.add]
theorem run_slice_mid (A : Option Addr) (n c : Nat) {a b : Nat} (hab : a ≤ b) (hj : b ≤ c) (W : World) :
    (Instr.slice t (.slice A n c) (some (.int .i64 (a : Int))) (some (.int .i64 (b : Int))) none).run P W = .ok (.slice (cutA A c a) (b - a) (c - a)) W := by
  have he : P.elem t = e := by simp [Program.elem, ht]
  rw [run_slice_lh W t A n c (by rw [he]; exact ht) .i64 .i64 a b (by omega) (by omega) (by omega), he]
  simp [sizeOf, typeInfo, hi, hs, sliced, cutA]
end
end Go.Proofs.Ytjeedkjgjfbndaa

/-
  Plain law: bits, the lowest first: numbers, bytes.
-/
namespace Go.Proofs.Ytjeedkjgjfbndaa
set_option linter.unusedVariables false

def Bit (l : List Int) : Prop := ∀ x ∈ l, x = 0 ∨ x = 1
def numI : List Int → Int
  | [] => 0
  | b :: l => b + 2 * numI l
def ofN : Int → Nat → List Int
  | _, 0 => []
  | v, n + 1 => v % 2 :: ofN (v / 2) n
theorem ofN_length (v : Int) (n : Nat) : (ofN v n).length = n := by
  induction n generalizing v with
  | zero => rfl
  | succ n ih => simp [ofN, ih]
theorem Bit.nil_ : Bit [] := fun x h => by cases h
theorem Bit.app {a b : List Int} (h : Bit a) (h' : Bit b) : Bit (a ++ b) := fun x hx => by
  rcases List.mem_append.1 hx with h1 | h1
  · exact h x h1
  · exact h' x h1
theorem Bit.drop_ {a : List Int} (h : Bit a) (k : Nat) : Bit (a.drop k) := fun x hx => h x (List.mem_of_mem_drop hx)
theorem Bit.take_ {a : List Int} (h : Bit a) (k : Nat) : Bit (a.take k) := fun x hx => h x (List.mem_of_mem_take hx)
theorem Bit.ofN (v : Int) (n : Nat) : Bit (ofN v n) := by
  induction n generalizing v with
  | zero => exact Bit.nil_
  | succ n ih =>
    intro x hx
    rcases List.mem_cons.1 hx with rfl | h
    · omega
    · exact ih _ x h
theorem Bit.zeros (n : Nat) : Bit (List.replicate n 0) := fun x hx => .inl (List.eq_of_mem_replicate hx)
theorem numI_append (a b : List Int) : numI (a ++ b) = numI a + 2 ^ a.length * numI b := by
  induction a with
  | nil => simp [numI]
  | cons x a ih => simp only [List.cons_append, numI, ih, List.length_cons, Int.pow_succ]; rw [Int.mul_add, Int.mul_right_comm, Int.mul_comm 2]; omega
theorem numI_bd {l : List Int} (h : Bit l) : 0 ≤ numI l ∧ numI l < 2 ^ l.length := by
  induction l with
  | nil => simp [numI]
  | cons x l ih =>
    have h1 := ih fun y hy => h y (List.mem_cons_of_mem _ hy)
    have h2 := h x (List.mem_cons_self ..)
    simp only [numI, List.length_cons, Int.pow_succ]
    omega
theorem two_pos (n : Nat) : (0 : Int) < 2 ^ n := Int.pow_pos (by omega)
theorem numI_ofN (v : Int) (n : Nat) : numI (ofN v n) = v % 2 ^ n := by
  induction n generalizing v with
  | zero => simp [ofN, numI]
  | succ n ih =>
    have hp := two_pos n
    have h3 := Int.emod_nonneg (v / 2) (b := 2 ^ n) (by omega)
    have h4 := Int.emod_lt_of_pos (v / 2) hp
    have h5 := Int.emod_add_mul_ediv (v / 2) (2 ^ n)
    have key : v % 2 + 2 * (v / 2 % 2 ^ n) + 2 * 2 ^ n * (v / 2 / 2 ^ n) = v := by
      rw [Int.mul_assoc]
      generalize 2 ^ n * (v / 2 / 2 ^ n) = z at *
      omega
    simp only [ofN, numI, ih, Int.pow_succ]
    rw [Int.mul_comm (2 ^ n) 2]
    calc v % 2 + 2 * (v / 2 % 2 ^ n) = (v % 2 + 2 * (v / 2 % 2 ^ n) + 2 * 2 ^ n * (v / 2 / 2 ^ n)) % (2 * 2 ^ n) := by
          rw [Int.add_mul_emod_self_left, Int.emod_eq_of_lt (a := v % 2 + 2 * (v / 2 % 2 ^ n)) (b := 2 * 2 ^ n) (by omega) (by omega)]
      _ = v % (2 * 2 ^ n) := by rw [key]
theorem numI_take {l : List Int} (h : Bit l) (n : Nat) : numI (l.take n) = numI l % 2 ^ n := by
  by_cases hn : n ≤ l.length
  · have e := numI_append (l.take n) (l.drop n)
    rw [List.take_append_drop, List.length_take, Nat.min_eq_left hn] at e
    have hb := numI_bd (h.take_ n)
    rw [List.length_take, Nat.min_eq_left hn] at hb
    rw [e, Int.add_mul_emod_self_left, Int.emod_eq_of_lt hb.1 hb.2]
  · have hb := numI_bd h
    have : (2 : Int) ^ l.length ≤ 2 ^ n := by
      rw [show n = l.length + (n - l.length) by omega, Int.pow_add]
      have := two_pos (n - l.length)
      have h2 := two_pos l.length
      calc (2 : Int) ^ l.length = 2 ^ l.length * 1 := by omega
        _ ≤ 2 ^ l.length * 2 ^ (n - l.length) := Int.mul_le_mul_of_nonneg_left (by omega) (by omega)
    rw [List.take_of_length_le (by omega), Int.emod_eq_of_lt hb.1 (by omega)]
theorem numI_drop {l : List Int} (h : Bit l) (n : Nat) : numI (l.drop n) = numI l / 2 ^ n := by
  by_cases hn : n ≤ l.length
  · have e := numI_append (l.take n) (l.drop n)
    rw [List.take_append_drop, List.length_take, Nat.min_eq_left hn] at e
    have hb := numI_bd (h.take_ n)
    rw [List.length_take, Nat.min_eq_left hn] at hb
    have hp := two_pos n
    rw [e, Int.add_mul_ediv_left _ _ (by omega), Int.ediv_eq_zero_of_lt hb.1 hb.2]
    omega
  · have hb := numI_bd h
    have : (2 : Int) ^ l.length ≤ 2 ^ n := by
      rw [show n = l.length + (n - l.length) by omega, Int.pow_add]
      have := two_pos (n - l.length)
      have h2 := two_pos l.length
      calc (2 : Int) ^ l.length = 2 ^ l.length * 1 := by omega
        _ ≤ 2 ^ l.length * 2 ^ (n - l.length) := Int.mul_le_mul_of_nonneg_left (by omega) (by omega)
    rw [List.drop_eq_nil_of_le (by omega), Int.ediv_eq_zero_of_lt hb.1 (by omega)]
    rfl
theorem ofN_numI {l : List Int} (h : Bit l) : ofN (numI l) l.length = l := by
  induction l with
  | nil => rfl
  | cons x l ih =>
    have h1 := ih fun y hy => h y (List.mem_cons_of_mem _ hy)
    have h2 := h x (List.mem_cons_self ..)
    simp only [numI, List.length_cons, ofN]
    rw [show (x + 2 * numI l) % 2 = x by omega, show (x + 2 * numI l) / 2 = numI l by omega, h1]
theorem ofN_succ (v : Int) (n : Nat) : ofN v (n + 1) = ofN v n ++ [v / 2 ^ n % 2] := by
  induction n generalizing v with
  | zero => simp [ofN]
  | succ n ih =>
    rw [ofN, ih, ofN, List.cons_append]
    congr 4
    rw [Int.pow_succ, Int.mul_comm, Int.ediv_ediv_of_nonneg (by omega)]
theorem ofN_mod (v : Int) (n : Nat) : ofN (v % 2 ^ n) n = ofN v n := by
  have := ofN_numI (Bit.ofN v n)
  rwa [ofN_length, numI_ofN] at this

/-- the whole bytes of a row of bits; the bits behind them; the bits of bytes -/
def byt (l : List Int) : List Int := (List.range (l.length / 8)).map fun i => numI ((l.drop (8 * i)).take 8)
def rest (l : List Int) : List Int := l.drop (8 * (l.length / 8))
def bts : List Int → List Int
  | [] => []
  | b :: l => ofN b 8 ++ bts l
theorem byt_length (l : List Int) : (byt l).length = l.length / 8 := by simp [byt]
theorem rest_length (l : List Int) : (rest l).length = l.length % 8 := by simp [rest]; omega
theorem bts_length (l : List Int) : (bts l).length = 8 * l.length := by
  induction l with
  | nil => rfl
  | cons b l ih => simp [bts, ofN_length, ih]; omega
theorem Bit.rest {l : List Int} (h : Bit l) : Bit (rest l) := h.drop_ _
theorem Bit.bts (l : List Int) : Bit (bts l) := by
  induction l with
  | nil => exact Bit.nil_
  | cons b l ih => exact (Bit.ofN b 8).app ih
theorem byt_small {l : List Int} (h : l.length < 8) : byt l = [] := by unfold byt; rw [Nat.div_eq_of_lt h]; rfl
theorem rest_small {l : List Int} (h : l.length < 8) : rest l = l := by unfold rest; rw [Nat.div_eq_of_lt h]; simp
theorem byt_eight {a : List Int} (h : a.length = 8) (l : List Int) : byt (a ++ l) = numI a :: byt l := by
  unfold byt
  rw [List.length_append, h, show (8 + l.length) / 8 = l.length / 8 + 1 by omega, List.range_succ_eq_map]
  simp only [List.map_cons, List.map_map]
  congr 1
  · rw [Nat.mul_zero, List.drop_zero, List.take_append_of_le_length (by omega), List.take_of_length_le (by omega)]
  · apply List.map_congr_left
    intro i _
    simp only [Function.comp]
    rw [show 8 * (i + 1) = a.length + 8 * i by omega, List.drop_append, List.drop_eq_nil_of_le (by omega), List.nil_append, Nat.add_sub_cancel_left]
theorem rest_eight {a : List Int} (h : a.length = 8) (l : List Int) : rest (a ++ l) = rest l := by
  unfold rest
  rw [List.length_append, h, show 8 * ((8 + l.length) / 8) = a.length + 8 * (l.length / 8) by omega, List.drop_append, List.drop_eq_nil_of_le (by omega), List.nil_append, Nat.add_sub_cancel_left]
theorem split8 {l : List Int} (h : 8 ≤ l.length) : ∃ a b, l = a ++ b ∧ a.length = 8 := ⟨l.take 8, l.drop 8, (List.take_append_drop ..).symm, by simp; omega⟩
theorem byt_app (a x : List Int) : byt (a ++ x) = byt a ++ byt (rest a ++ x) := by
  induction hn : a.length using Nat.strongRecOn generalizing a with
  | _ n ih =>
    by_cases h : a.length < 8
    · rw [byt_small h, rest_small h]; rfl
    · obtain ⟨b, c, rfl, hb⟩ := split8 (l := a) (by omega)
      rw [List.append_assoc, byt_eight hb, byt_eight hb, rest_eight hb, ih c.length (by rw [← hn, List.length_append]; omega) c rfl]
      rfl
theorem rest_app (a x : List Int) : rest (a ++ x) = rest (rest a ++ x) := by
  induction hn : a.length using Nat.strongRecOn generalizing a with
  | _ n ih =>
    by_cases h : a.length < 8
    · rw [rest_small h]
    · obtain ⟨b, c, rfl, hb⟩ := split8 (l := a) (by omega)
      rw [List.append_assoc, rest_eight hb, rest_eight hb, ih c.length (by rw [← hn, List.length_append]; omega) c rfl]
theorem byt_bts {B : List Int} (h : ∀ b ∈ B, 0 ≤ b ∧ b < 256) : byt (bts B) = B := by
  induction B with
  | nil => rfl
  | cons b B ih =>
    have h1 := h b (List.mem_cons_self ..)
    rw [bts, byt_eight (ofN_length b 8), numI_ofN, ih fun y hy => h y (List.mem_cons_of_mem _ hy)]
    congr 1
    omega
theorem rest_bts (B : List Int) : rest (bts B) = [] := by
  unfold rest
  rw [bts_length, Nat.mul_div_cancel_left _ (by omega), ← bts_length, List.drop_length]
theorem bts_append (a b : List Int) : bts (a ++ b) = bts a ++ bts b := by
  induction a with
  | nil => rfl
  | cons x a ih => simp [bts, ih]
theorem bts_byt {l : List Int} (h : Bit l) : bts (byt l) ++ rest l = l := by
  induction hn : l.length using Nat.strongRecOn generalizing l with
  | _ n ih =>
    by_cases h8 : l.length < 8
    · rw [byt_small h8, rest_small h8]; rfl
    · obtain ⟨a, b, rfl, ha⟩ := split8 (l := l) (by omega)
      rw [byt_eight ha, rest_eight ha, bts, List.append_assoc, ih b.length (by rw [← hn, List.length_append]; omega) (fun x hx => h x (List.mem_append_right _ hx)) rfl]
      have := ofN_numI (l := a) fun x hx => h x (List.mem_append_left _ hx)
      rw [ha] at this
      rw [this]
theorem byt_bd {l : List Int} (h : Bit l) : ∀ b ∈ byt l, 0 ≤ b ∧ b < 256 := by
  intro b hb
  obtain ⟨i, hi, rfl⟩ := List.mem_map.1 hb
  have h1 := numI_bd ((h.drop_ (8 * i)).take_ 8)
  have h2 : ((l.drop (8 * i)).take 8).length = 8 := by have := List.mem_range.1 hi; simp; omega
  rw [h2] at h1
  exact h1
/-- whole bytes after whole bytes -/
theorem byt_even {a : List Int} (h : a.length % 8 = 0) (x : List Int) : byt (a ++ x) = byt a ++ byt x := by
  rw [byt_app]
  have : rest a = [] := List.eq_nil_of_length_eq_zero (by rw [rest_length, h])
  rw [this]; rfl
theorem rest_even {a : List Int} (h : a.length % 8 = 0) (x : List Int) : rest (a ++ x) = rest x := by
  rw [rest_app]
  have : rest a = [] := List.eq_nil_of_length_eq_zero (by rw [rest_length, h])
  rw [this]; rfl
/-- noughts up to a whole byte -/
def evn (l : List Int) : List Int := l ++ List.replicate ((8 - l.length % 8) % 8) 0
theorem evn_length (l : List Int) : (evn l).length = l.length + (8 - l.length % 8) % 8 := by simp [evn]
theorem evn_even (l : List Int) : (evn l).length % 8 = 0 := by rw [evn_length]; omega
theorem Bit.evn {l : List Int} (h : Bit l) : Bit (evn l) := h.app (Bit.zeros _)
theorem ofN_zero (n : Nat) : ofN 0 n = List.replicate n 0 := by
  induction n with
  | zero => rfl
  | succ n ih => simp [ofN, ih, List.replicate_succ]
/-- byte j of what stands behind -/
theorem byt_at {l : List Int} {j : Nat} (hj : j < l.length / 8) (h : Bit l) : byt (l.take (8 * (j + 1))) = byt (l.take (8 * j)) ++ [numI (l.drop (8 * j)) % 256] := by
  have e : l.take (8 * (j + 1)) = l.take (8 * j) ++ (l.drop (8 * j)).take 8 := by
    rw [show 8 * (j + 1) = 8 * j + 8 by omega, List.take_add]
  have h8 : ((l.drop (8 * j)).take 8).length = 8 := by simp; omega
  rw [e, byt_even (by simp; omega)]
  congr 1
  have := byt_eight h8 []
  rw [List.append_nil, byt_small (l := []) (by simp)] at this
  rw [this, numI_take (h.drop_ _)]
  rfl
theorem byt_take (l : List Int) : byt (l.take (8 * (l.length / 8))) = byt l := by
  conv => rhs; rw [← List.take_append_drop (8 * (l.length / 8)) l]
  rw [byt_even (by simp; omega), byt_small (l := l.drop _) (by simp; omega), List.append_nil]
theorem rest_drop (l : List Int) : rest l = l.drop (8 * (l.length / 8)) := rfl
end Go.Proofs.Ytjeedkjgjfbndaa

/-
  Plain law: what a put leaves in the last byte.
-/
namespace Go.Proofs.Ytjeedkjgjfbndaa
open Go Go.RowKit
set_option linter.unusedVariables false
theorem pow_mono2 {a b : Nat} (h : a ≤ b) : (2 : Int) ^ a ≤ 2 ^ b := by
  obtain ⟨k, rfl⟩ := Nat.exists_eq_add_of_le h
  rw [Int.pow_add]
  have := two_pos k
  have h2 := two_pos a
  calc (2 : Int) ^ a = 2 ^ a * 1 := by omega
    _ ≤ 2 ^ a * 2 ^ k := Int.mul_le_mul_of_nonneg_left (by omega) (by omega)
theorem cast_pow2 (n : Nat) : ((2 ^ n : Nat) : Int) = 2 ^ n := by simp
/-- 'x & (1<<n - 1)' -/
theorem and_low {x : Int} {n : Nat} (h0 : 0 ≤ x) (h1 : x < 18446744073709551616) (hn : n ≤ 32) : bits .and .u64 x (2 ^ n - 1) = x % 2 ^ n := by
  obtain ⟨X, rfl⟩ := Int.eq_ofNat_of_zero_le h0
  have hp : (2 : Nat) ^ n ≤ 2 ^ 32 := Nat.pow_le_pow_right (by omega) hn
  have hp0 : 0 < (2 : Nat) ^ n := Nat.two_pow_pos n
  have e : ((2 : Int) ^ n - 1) = ((2 ^ n - 1 : Nat) : Int) := by rw [← cast_pow2]; omega
  rw [e, bits_and_u64_nat _ _ (by omega) (by omega), Nat.and_two_pow_sub_one_eq_mod, ← cast_pow2]
  simp
/-- 'x | y<<k', the bits apart -/
theorem or_high {x y : Int} {k : Nat} (h0 : 0 ≤ x) (h1 : x < 2 ^ k) (hy : 0 ≤ y) (hb : x + y * 2 ^ k < 18446744073709551616) : bits .or .u64 x (y * 2 ^ k) = x + y * 2 ^ k := by
  obtain ⟨X, rfl⟩ := Int.eq_ofNat_of_zero_le h0
  obtain ⟨Y, rfl⟩ := Int.eq_ofNat_of_zero_le hy
  rw [← cast_pow2] at *
  have hX : X < 2 ^ k := by omega
  have e : ((Y : Int) * ((2 ^ k : Nat) : Int)) = ((Y * 2 ^ k : Nat) : Int) := by simp
  rw [e] at hb ⊢
  rw [bits_or_u64_nat _ _ (by omega) (by omega), Nat.or_comm, Nat.mul_comm, ← Nat.two_pow_add_eq_or_of_lt hX]
  simp; omega
end Go.Proofs.Ytjeedkjgjfbndaa

/-
  Plain law: the bits that are left, the bits that come next.
-/
namespace Go.Proofs.Ytjeedkjgjfbndaa
open Go Go.RowKit
set_option linter.unusedVariables false
/-- the bits of the bytes B from bit at on -/
def rb (B : List Int) (at_ : Nat) : List Int := (bts B).drop at_
theorem rb_length (B : List Int) (a : Nat) : (rb B a).length = 8 * B.length - a := by simp [rb, bts_length]
theorem Bit.rb (B : List Int) (a : Nat) : Bit (rb B a) := (Bit.bts B).drop_ a
theorem drop_len_add (a l : List Int) (k : Nat) : (a ++ l).drop (a.length + k) = l.drop k := by rw [List.drop_append, List.drop_eq_nil_of_le (by omega), List.nil_append, Nat.add_sub_cancel_left]
theorem bts_drop (B : List Int) (k : Nat) : bts (B.drop k) = (bts B).drop (8 * k) := by
  induction k generalizing B with
  | zero => rfl
  | succ k ih =>
    cases B with
    | nil => simp [bts]
    | cons b B => rw [List.drop_succ_cons, ih, bts, show 8 * (k + 1) = (ofN b 8).length + 8 * k by rw [ofN_length]; omega, drop_len_add]
theorem rb_feed (B b : List Int) {a : Nat} (h : a ≤ 8 * B.length) : rb (B.drop (a / 8) ++ b) (a % 8) = rb B a ++ bts b := by
  unfold rb
  rw [bts_append, bts_drop, List.drop_append_of_le_length (by rw [List.length_drop, bts_length]; omega), List.drop_drop, show 8 * (a / 8) + a % 8 = a by omega]
theorem rb_drop (B : List Int) (a k : Nat) : (rb B a).drop k = rb B (a + k) := by unfold rb; rw [List.drop_drop]
/-- byte j, as bits -/
theorem bts_byte (B : List Int) {j : Nat} (hj : j < B.length) : ((bts B).drop (8 * j)).take 8 = ofN (ix B j) 8 := by
  rw [← bts_drop, List.drop_eq_getElem_cons hj, bts, List.take_append_of_le_length (by rw [ofN_length]; omega), List.take_of_length_le (by rw [ofN_length]; omega)]
  simp [ix, hj]
/-- what the loop of Peek gathers -/
def gath (B : List Int) (a j : Nat) : Int := numI (((bts B).drop (8 * a)).take (8 * j))
theorem gath_zero (B : List Int) (a : Nat) : gath B a 0 = 0 := by unfold gath; rw [Nat.mul_zero, List.take_zero]; rfl
theorem gath_bd (B : List Int) (a : Nat) {j : Nat} (hj : j ≤ 5) : 0 ≤ gath B a j ∧ gath B a j < 2 ^ (8 * j) ∧ gath B a j < 1099511627776 := by
  have h := numI_bd (((Bit.bts B).drop_ (8 * a)).take_ (8 * j))
  have h2 := pow_mono2 (show (((bts B).drop (8 * a)).take (8 * j)).length ≤ 8 * j by simp; omega)
  have h3 := pow_mono2 (show 8 * j ≤ 40 by omega)
  have h4 : (2 : Int) ^ 40 = 1099511627776 := rfl
  unfold gath
  omega
theorem gath_succ (B : List Int) (a : Nat) {j : Nat} (hj : a + j < B.length) (hB : ∀ x ∈ B, 0 ≤ x ∧ x < 256) : gath B a (j + 1) = gath B a j + ix B (a + j) * 2 ^ (8 * j) := by
  unfold gath
  rw [show 8 * (j + 1) = 8 * j + 8 by omega, List.take_add, numI_append, List.drop_drop, show 8 * a + 8 * j = 8 * (a + j) by omega, bts_byte B hj, numI_ofN, List.length_take, List.length_drop, bts_length, Nat.min_eq_left (by omega), Int.mul_comm]
  have : 0 ≤ ix B (a + j) ∧ ix B (a + j) < 256 := by
    unfold ix
    rw [List.getD_eq_getElem?_getD, List.getElem?_eq_getElem hj]
    exact hB _ (List.getElem_mem hj)
  rw [Int.emod_eq_of_lt this.1 (by have h : (2 : Int) ^ 8 = 256 := rfl; omega)]
theorem ix_bd {B : List Int} (hB : ∀ x ∈ B, 0 ≤ x ∧ x < 256) (j : Nat) : 0 ≤ ix B j ∧ ix B j < 256 := by
  unfold ix
  rw [List.getD_eq_getElem?_getD]
  cases h : B[j]? with
  | none => simp
  | some v => exact hB v (List.mem_of_getElem? h)
theorem gath_end (B : List Int) {a r j n : Nat} (h : r + n ≤ 8 * j) : gath B a j / 2 ^ r % 2 ^ n = numI ((rb B (8 * a + r)).take n) := by
  unfold gath rb
  have hb := ((Bit.bts B).drop_ (8 * a)).take_ (8 * j)
  rw [← numI_drop hb, ← numI_take (hb.drop_ r), List.drop_take, List.take_take, List.drop_drop, Nat.min_eq_left (by omega)]
end Go.Proofs.Ytjeedkjgjfbndaa

/-
  Plain law: what a window holds.
-/
namespace Go.Proofs.Ytjeedkjgjfbndaa
set_option linter.unusedVariables false

/-- what is kept when bytes are added -/
def addL (l b : List Int) : List Int := if 65536 < (l ++ b).length then (l ++ b).drop ((l ++ b).length - 32768) else l ++ b
theorem addL_le (l b : List Int) : (addL l b).length ≤ 65536 := by
  unfold addL; split
  · simp; omega
  · omega
theorem ix_append' (l l' : List Int) (i : Nat) : ix (l ++ l') i = if i < l.length then ix l i else ix l' (i - l.length) := ix_append l l' i

/-- the last bytes of all that was: at least as many as may be known -/
def Tail (all l : List Int) : Prop := ∃ k, l = all.drop k ∧ k ≤ all.length ∧ (k = 0 ∨ 32768 ≤ all.length - k)
theorem Tail.nil_ : Tail [] [] := ⟨0, rfl, by simp, .inl rfl⟩
theorem Tail.add {all l : List Int} (h : Tail all l) (b : List Int) : Tail (all ++ b) (addL l b) := by
  obtain ⟨k, rfl, hk, hk2⟩ := h
  have e : all.drop k ++ b = (all ++ b).drop k := by rw [List.drop_append_of_le_length hk]
  unfold addL
  rw [e]
  have hl : ((all ++ b).drop k).length = all.length + b.length - k := by simp
  have hl2 : (all ++ b).length = all.length + b.length := by simp
  split
  · rename_i h
    rw [hl] at h
    rw [hl, List.drop_drop]
    exact ⟨k + (all.length + b.length - k - 32768), rfl, by omega, .inr (by omega)⟩
  · exact ⟨k, rfl, by omega, by omega⟩
theorem Tail.len {all l : List Int} (h : Tail all l) : min l.length 32768 = min all.length 32768 := by
  obtain ⟨k, rfl, hk, hk2⟩ := h
  simp; omega
theorem Tail.back {all l : List Int} (h : Tail all l) {d : Nat} (hd : d ≤ l.length) : l.drop (l.length - d) = all.drop (all.length - d) := by
  obtain ⟨k, rfl, hk, hk2⟩ := h
  rw [List.drop_drop, List.length_drop] at *
  congr 1
  omega
end Go.Proofs.Ytjeedkjgjfbndaa

/-
  Plain law: the codes of lengths: how many symbols have a length, the first code of a length, each symbol's code; their bounds.
-/
namespace Go.Proofs.Ytjeedkjgjfbndaa

/-- how many of the first k lengths are v -/
def cnt (l : List Int) : Nat → Nat → Nat
  | 0, _ => 0
  | k + 1, v => cnt l k v + if ix l k = (v : Int) then 1 else 0
/-- the first code of length v -/
def nxt (l : List Int) : Nat → Nat
  | 0 => 0
  | 1 => 0
  | v + 2 => 2 * (nxt l (v + 1) + cnt l l.length (v + 1))
def isLen (x : Int) : Bool := decide (1 ≤ x ∧ x ≤ 15)
/-- symbol i's code -/
def codeAt (l : List Int) (i : Nat) : Nat := if isLen (ix l i) then nxt l (ix l i).toNat + cnt l i (ix l i).toNat else 0
def codesOf (l : List Int) : List Int := if l.length ≤ 288 then (List.range l.length).map fun i => (codeAt l i : Int) else []

theorem cnt_le (l : List Int) (k v : Nat) : cnt l k v ≤ k := by
  induction k with
  | zero => simp [cnt]
  | succ k ih => simp only [cnt]; split <;> omega
theorem cnt_mono (l : List Int) (v : Nat) {j k : Nat} (h : j ≤ k) : cnt l j v ≤ cnt l k v := by
  induction k with
  | zero => have : j = 0 := by omega
            subst this; omega
  | succ k ih =>
    by_cases e : j = k + 1
    · subst e; omega
    · have := ih (by omega); simp only [cnt]; split <;> omega
theorem nxt_le (l : List Int) (hl : l.length ≤ 288) (v : Nat) : nxt l v + 576 ≤ 576 * 2 ^ v := by
  induction v with
  | zero => simp [nxt]
  | succ v ih =>
    cases v with
    | zero => simp [nxt]
    | succ v =>
      have := cnt_le l l.length (v + 1)
      simp only [nxt, Nat.pow_succ] at ih ⊢
      omega
theorem nxt_bd (l : List Int) (hl : l.length ≤ 288) {v : Nat} (hv : v ≤ 15) : nxt l v ≤ 18874368 := by
  have h := nxt_le l hl v
  have h2 : 2 ^ v ≤ 2 ^ 15 := Nat.pow_le_pow_right (by omega) hv
  omega
theorem codesOf_length (l : List Int) (h : l.length ≤ 288) : (codesOf l).length = l.length := by simp [codesOf, h]
theorem ix_codesOf (l : List Int) (h : l.length ≤ 288) {i : Nat} (hi : i < l.length) : ix (codesOf l) i = (codeAt l i : Int) := by
  simp [ix, codesOf, h, hi]
end Go.Proofs.Ytjeedkjgjfbndaa

/-
  Plain law: symbols by their codes, and what bits stand for.
-/
namespace Go.Proofs.Ytjeedkjgjfbndaa
open Go Go.RowKit
set_option linter.unusedVariables false

/-- the places below k whose length is n -/
def idxs (l : List Int) (n : Nat) : Nat → List Int
  | 0 => []
  | k + 1 => idxs l n k ++ (if ix l k = (n : Int) then [(k : Int)] else [])
theorem idxs_succ (l : List Int) (n k : Nat) : idxs l n (k + 1) = idxs l n k ++ (if ix l k = (n : Int) then [(k : Int)] else []) := rfl
theorem idxs_length (l : List Int) (n k : Nat) : (idxs l n k).length = cnt l k n := by
  induction k with
  | zero => rfl
  | succ k ih =>
    unfold idxs cnt
    rw [List.length_append, ih]
    split <;> simp_all
theorem ix_app_left {a b : List Int} {i : Nat} (h : i < a.length) : ix (a ++ b) i = ix a i := by rw [ix_append, if_pos h]
theorem ix_app_right {a b : List Int} {i : Nat} : ix (a ++ b) (a.length + i) = ix b i := by rw [ix_append, if_neg (by omega), Nat.add_sub_cancel_left]
/-- the place i stands at the number of such places ahead -/
theorem idxs_at (l : List Int) {n i k : Nat} (hi : i < k) (he : ix l i = (n : Int)) : ix (idxs l n k) (cnt l i n) = (i : Int) := by
  induction k with
  | zero => omega
  | succ k ih =>
    unfold idxs
    by_cases h : i < k
    · have hlt : cnt l i n < cnt l k n := by
        have h1 : cnt l (i + 1) n = cnt l i n + 1 := by simp [cnt, he]
        have h2 := cnt_mono l n (show i + 1 ≤ k from h)
        omega
      rw [ix_app_left (by rw [idxs_length]; exact hlt), ih h]
    · obtain rfl : i = k := by omega
      rw [if_pos he]
      have e := ix_app_right (a := idxs l n i) (b := [(i : Int)]) (i := 0)
      rw [idxs_length, Nat.add_zero] at e
      rw [e]; rfl
/-- the j-th place of a length, back -/
theorem idxs_back (l : List Int) {n j k : Nat} (hj : j < cnt l k n) : ∃ i, i < k ∧ ix l i = (n : Int) ∧ cnt l i n = j ∧ ix (idxs l n k) j = (i : Int) := by
  induction k with
  | zero => simp [cnt] at hj
  | succ k ih =>
    by_cases h : j < cnt l k n
    · obtain ⟨i, h1, h2, h3, h4⟩ := ih h
      exact ⟨i, by omega, h2, h3, by rw [← h3]; exact idxs_at l (by omega) h2⟩
    · have hk : ix l k = (n : Int) := by
        by_cases e : ix l k = (n : Int)
        · exact e
        · unfold cnt at hj; rw [if_neg e] at hj; omega
      have hjk : cnt l k n = j := by unfold cnt at hj; rw [if_pos hk] at hj; omega
      exact ⟨k, by omega, hk, hjk, by rw [← hjk]; exact idxs_at l (by omega) hk⟩
/-- all symbols with at most n bits, by their codes -/
def srt (l : List Int) : Nat → List Int
  | 0 => []
  | n + 1 => srt l n ++ idxs l (n + 1) l.length
def below (l : List Int) : Nat → Nat
  | 0 => 0
  | n + 1 => below l n + cnt l l.length (n + 1)
theorem srt_length (l : List Int) (n : Nat) : (srt l n).length = below l n := by
  induction n with
  | zero => rfl
  | succ n ih => rw [srt, List.length_append, ih, idxs_length, below]
theorem srt_pre (l : List Int) {m n : Nat} (h : m ≤ n) {i : Nat} (hi : i < below l m) : ix (srt l n) i = ix (srt l m) i := by
  induction n with
  | zero => obtain rfl : m = 0 := by omega
            rfl
  | succ n ih =>
    by_cases e : m = n + 1
    · subst e; rfl
    · have hm : ∀ a b, a ≤ b → below l a ≤ below l b := by
        intro a b hab
        induction b with
        | zero => obtain rfl : a = 0 := by omega
                  exact Nat.le_refl _
        | succ b ih2 =>
          by_cases e2 : a = b + 1
          · subst e2; exact Nat.le_refl _
          · exact Nat.le_trans (ih2 (by omega)) (by rw [below]; omega)
      rw [srt, ix_app_left (by rw [srt_length]; exact Nat.lt_of_lt_of_le hi (hm m n (by omega))), ih (by omega)]
theorem below_le (l : List Int) (n : Nat) : below l n ≤ n * l.length := by
  induction n with
  | zero => simp [below]
  | succ n ih => rw [below, Nat.succ_mul]; have := cnt_le l l.length (n + 1); omega
/-- the symbol of the j-th code with n bits -/
def selS (l : List Int) (n j : Nat) : Int := ix (idxs l n l.length) j
theorem srt_at (l : List Int) {n m j : Nat} (hn : n + 1 ≤ m) (hj : j < cnt l l.length (n + 1)) : ix (srt l m) (below l n + j) = selS l (n + 1) j := by
  rw [srt_pre l hn (by rw [below]; omega), srt]
  have := ix_app_right (a := srt l n) (b := idxs l (n + 1) l.length) (i := j)
  rw [srt_length] at this
  rw [this]; rfl
/-- the first n bits as a number, the highest first -/
def hv (x : List Int) : Nat → Int
  | 0 => 0
  | n + 1 => 2 * hv x n + ix x n
def hitB (l x : List Int) (n : Nat) : Bool := decide (hv x n < nxt l n + cnt l l.length n)
/-- the first number of bits, up to m, that are a code; 0: none -/
def fh (l x : List Int) : Nat → Nat
  | 0 => 0
  | m + 1 => if fh l x m = 0 then (if hitB l x (m + 1) then m + 1 else 0) else fh l x m
theorem fh_zero_succ {l x : List Int} {m : Nat} (h : fh l x m = 0) : fh l x (m + 1) = if hitB l x (m + 1) then m + 1 else 0 := by rw [fh, if_pos h]
theorem fh_keep {l x : List Int} {m k : Nat} (h : fh l x m ≠ 0) (hk : m ≤ k) : fh l x k = fh l x m := by
  induction k with
  | zero => obtain rfl : m = 0 := by omega
            rfl
  | succ k ih =>
    by_cases e : m = k + 1
    · subst e; rfl
    · have := ih (by omega)
      rw [fh, if_neg (by rw [this]; exact h), this]
theorem fh_le (l x : List Int) (m : Nat) : fh l x m ≤ m := by
  induction m with
  | zero => exact Nat.le_refl _
  | succ m ih => rw [fh]; split
                 · split <;> omega
                 · omega
theorem fh_all {l x : List Int} {k : Nat} (h : fh l x k = 0) : ∀ m, m ≤ k → fh l x m = 0 := fun m hm => by
  by_cases e : fh l x m = 0
  · exact e
  · have := fh_keep e hm; omega
theorem hv_bd {x : List Int} (hx : Bit x) (n : Nat) : 0 ≤ hv x n ∧ hv x n < 2 ^ n := by
  have bit : ∀ i, 0 ≤ ix x i ∧ ix x i ≤ 1 := fun i => by
    unfold ix; rw [List.getD_eq_getElem?_getD]
    cases e : x[i]? with
    | none => simp
    | some v => have := hx v (List.mem_of_getElem? e); simp; omega
  induction n with
  | zero => simp [hv]
  | succ n ih => have := bit n; rw [hv, Int.pow_succ]; omega
/-- the greatest length up to n -/
def lgT (l : List Int) : Nat → Nat
  | 0 => 0
  | n + 1 => if cnt l l.length (n + 1) = 0 then lgT l n else n + 1
/-- the next symbol of the bits x, how many bits it has, and the error -/
def nextOf (l : List Int) (x : List Int) : Int × Nat × Int :=
  let m := min x.length (lgT l 15)
  if fh l x m ≠ 0 then (selS l (fh l x m) (hv x (fh l x m) - nxt l (fh l x m)).toNat, fh l x m, 0)
  else if m < lgT l 15 then (0, 0, 5)
  else if lgT l 15 = 0 ∧ x.length = 0 then (0, 0, 5)
  else (0, 0, 3)
theorem lgT_le (l : List Int) (n : Nat) : lgT l n ≤ n := by
  induction n with
  | zero => exact Nat.le_refl _
  | succ n ih => rw [lgT]; split <;> omega
theorem below_mono (l : List Int) {a b : Nat} (h : a ≤ b) : below l a ≤ below l b := by
  induction b with
  | zero => obtain rfl : a = 0 := by omega
            exact Nat.le_refl _
  | succ b ih =>
    by_cases e : a = b + 1
    · subst e; exact Nat.le_refl _
    · exact Nat.le_trans (ih (by omega)) (by rw [below]; omega)
/-- what the walk keeps: v is not below the first code -/
theorem hv_ge {l x : List Int} (hx : Bit x) {n : Nat} (h : ∀ m, m ≤ n → fh l x m = 0) : (nxt l (n + 1) : Int) ≤ hv x (n + 1) := by
  have bit : ∀ i, 0 ≤ ix x i := fun i => by
    unfold ix; rw [List.getD_eq_getElem?_getD]
    cases e : x[i]? with
    | none => simp
    | some v => have := hx v (List.mem_of_getElem? e); simp; omega
  induction n with
  | zero => simp [hv, nxt]; exact bit 0
  | succ n ih =>
    have h1 := ih fun m hm => h m (by omega)
    have h2 := h (n + 1) (Nat.le_refl _)
    have h3 : fh l x n = 0 := h n (by omega)
    rw [fh_zero_succ h3] at h2
    have h4 : ¬ hv x (n + 1) < nxt l (n + 1) + cnt l l.length (n + 1) := by
      intro hc
      rw [if_pos (by simpa [hitB] using hc)] at h2
      omega
    have hb := bit (n + 1)
    show (nxt l (n + 2) : Int) ≤ 2 * hv x (n + 1) + ix x (n + 1)
    have e : nxt l (n + 2) = 2 * (nxt l (n + 1) + cnt l l.length (n + 1)) := by simp [nxt]
    rw [e]
    omega
end Go.Proofs.Ytjeedkjgjfbndaa

/-
  Plain law: how much of all codes lengths take; when lengths are a code's; their bounds.
-/
namespace Go.Proofs.Ytjeedkjgjfbndaa

/-- 2^(15-v), closed to the walk -/
def p15 (v : Nat) : Nat := 2 ^ (15 - v)
theorem p15_zero : p15 0 = 32768 := rfl
theorem p15_bd (v : Nat) : 1 ≤ p15 v ∧ p15 v ≤ 32768 := by
  unfold p15
  have h1 : 2 ^ (15 - v) ≤ 2 ^ 15 := Nat.pow_le_pow_right (by omega) (by omega)
  have h2 : 1 ≤ 2 ^ (15 - v) := Nat.one_le_two_pow
  omega
theorem p15_half {v : Nat} (h : v < 15) : p15 v = 2 * p15 (v + 1) := by
  unfold p15
  have : 15 - v = (15 - (v + 1)) + 1 := by omega
  rw [this, Nat.pow_succ]; omega
theorem p15_int (v : Nat) : ((p15 v : Nat) : Int) = 2 ^ (15 - v) := by unfold p15; simp
def share (x : Int) : Nat := if isLen x then p15 x.toNat else 0
def sumTo (l : List Int) : Nat → Nat
  | 0 => 0
  | k + 1 => sumTo l k + share (ix l k)
theorem share_yes {v : Nat} (h1 : 1 ≤ v) (h2 : v ≤ 15) : share (v : Int) = p15 v := by
  unfold share isLen; rw [if_pos (by simp; omega)]; simp
theorem share_no {x : Int} (h : ¬ (1 ≤ x ∧ x ≤ 15)) : share x = 0 := by
  unfold share isLen; rw [if_neg (by simpa using h)]
theorem share_bd (x : Int) : share x ≤ 32768 := by
  unfold share; split
  · exact (p15_bd _).2
  · omega
theorem sumTo_bd (l : List Int) (k : Nat) : sumTo l k ≤ 32768 * k := by
  induction k with
  | zero => simp [sumTo]
  | succ k ih => have := share_bd (ix l k); simp only [sumTo]; omega

/-- how many of the first k lengths are above 0 -/
def posTo (l : List Int) : Nat → Nat
  | 0 => 0
  | k + 1 => posTo l k + if 0 < ix l k then 1 else 0
theorem posTo_le (l : List Int) (k : Nat) : posTo l k ≤ k := by
  induction k with
  | zero => simp [posTo]
  | succ k ih => simp only [posTo]; split <;> omega
/-- no length above 1 among the first k -/
def lowTo (l : List Int) (k : Nat) : Bool := decide (∀ i, i < k → ix l i ≤ 1)
def aloneB (l : List Int) (n : Nat) : Bool := lowTo l n && decide (posTo l n ≤ 1)
/-- all of the first k lengths are between 0 and most -/
def inTo (l : List Int) (most : Int) (k : Nat) : Bool := decide (∀ i, i < k → 0 ≤ ix l i ∧ ix l i ≤ most)
def checkOf (l : List Int) (most : Int) : Int :=
  if most < 1 ∨ 15 < most ∨ 288 < l.length then 1
  else if inTo l most l.length = false then 1
  else if 32768 < sumTo l l.length ∨ (sumTo l l.length < 32768 ∧ aloneB l l.length = false) then 3 else 0
theorem inTo_of {l : List Int} {most : Int} {k : Nat} (h : ∀ i, i < k → 0 ≤ ix l i ∧ ix l i ≤ most) : inTo l most k = true := by simpa [inTo] using h
theorem inTo_not {l : List Int} {most : Int} {n k : Nat} (hk : k < n) (h : ¬ (0 ≤ ix l k ∧ ix l k ≤ most)) : inTo l most n = false := by
  rw [← Bool.not_eq_true]
  intro hh
  have := of_decide_eq_true hh
  exact h (this k hk)
end Go.Proofs.Ytjeedkjgjfbndaa

/-
  Plain law: the codes of lengths lie behind each other: no code begins another one, each fits its length, the order, and (where the lengths fill everything) any 15 bits begin with just one.
-/
namespace Go.Proofs.Ytjeedkjgjfbndaa

/-- what the lengths 1 .. m of the first k symbols take -/
def tot (l : List Int) (k : Nat) : Nat → Nat
  | 0 => 0
  | m + 1 => tot l k m + cnt l k (m + 1) * p15 (m + 1)
theorem tot_step (l : List Int) (k m : Nat) : tot l (k + 1) m = tot l k m + if 1 ≤ ix l k ∧ ix l k ≤ m then p15 (ix l k).toNat else 0 := by
  induction m with
  | zero => simp [tot]; omega
  | succ m ih =>
    simp only [tot, cnt, ih]
    by_cases h : ix l k = ((m + 1 : Nat) : Int)
    · rw [if_pos h, if_neg (by omega), if_pos (by omega), h, Int.toNat_natCast, Nat.add_mul]
      omega
    · simp only [if_neg h, Nat.add_zero]
      by_cases h2 : 1 ≤ ix l k ∧ ix l k ≤ m
      · have h3 : 1 ≤ ix l k ∧ ix l k ≤ ((m + 1 : Nat) : Int) := by omega
        simp only [if_pos h2, if_pos h3]; omega
      · have h3 : ¬ (1 ≤ ix l k ∧ ix l k ≤ ((m + 1 : Nat) : Int)) := by omega
        simp only [if_neg h2, if_neg h3]; omega
theorem tot_sum (l : List Int) (k : Nat) : tot l k 15 = sumTo l k := by
  induction k with
  | zero => simp [tot, cnt, sumTo]
  | succ k ih =>
    rw [tot_step, ih]
    show _ = sumTo l k + share (ix l k)
    congr 1
    unfold share isLen
    by_cases h : 1 ≤ ix l k ∧ ix l k ≤ 15
    · rw [if_pos (by simpa using h), if_pos (by simpa using h)]
    · rw [if_neg (by simpa using h), if_neg (by simpa using h)]
theorem tot_mono (l : List Int) (k : Nat) {m m' : Nat} (h : m ≤ m') : tot l k m ≤ tot l k m' := by
  induction m' with
  | zero => have : m = 0 := by omega
            subst this; omega
  | succ q ih =>
    by_cases e : m = q + 1
    · subst e; omega
    · have := ih (by omega); simp only [tot]; omega
theorem nxt_tot (l : List Int) (v : Nat) (h1 : 1 ≤ v) (h2 : v ≤ 15) : nxt l v * p15 v = tot l l.length (v - 1) := by
  induction v with
  | zero => omega
  | succ v ih =>
    rcases v with _ | v
    · simp [nxt, tot]
    · have hi := ih (by omega) (by omega)
      have hp := p15_half (v := v + 1) (by omega)
      simp only [Nat.add_sub_cancel] at hi ⊢
      show 2 * (nxt l (v + 1) + cnt l l.length (v + 1)) * p15 (v + 1 + 1) = tot l l.length v + cnt l l.length (v + 1) * p15 (v + 1)
      rw [← hi, hp, ← Nat.add_mul, Nat.mul_comm 2 (nxt l (v + 1) + cnt l l.length (v + 1)), Nat.mul_assoc]
/-- where symbol i's code begins among the 32768 -/
def placeOf (l : List Int) (i : Nat) : Nat := codeAt l i * p15 (ix l i).toNat
theorem placeOf_eq {l : List Int} {i v : Nat} (h1 : 1 ≤ v) (h2 : v ≤ 15) (e : ix l i = v) : placeOf l i = tot l l.length (v - 1) + cnt l i v * p15 v := by
  unfold placeOf codeAt isLen
  rw [e, if_pos (by simp; omega), Int.toNat_natCast, Nat.add_mul, nxt_tot l v h1 h2]
theorem cnt_strict {l : List Int} {i k v : Nat} (h : i < k) (e : ix l i = v) : cnt l i v + 1 ≤ cnt l k v := by
  have h1 : cnt l (i + 1) v = cnt l i v + 1 := by simp [cnt, e]
  have h2 := cnt_mono l v (show i + 1 ≤ k by omega)
  omega
theorem place_end {l : List Int} {i v : Nat} (h1 : 1 ≤ v) (h2 : v ≤ 15) (e : ix l i = v) (hi : i < l.length) : placeOf l i + p15 v ≤ tot l l.length v := by
  rw [placeOf_eq h1 h2 e]
  obtain ⟨u, rfl⟩ : ∃ u, v = u + 1 := ⟨v - 1, by omega⟩
  have hc := cnt_strict hi e
  have : (cnt l i (u + 1) + 1) * p15 (u + 1) ≤ cnt l l.length (u + 1) * p15 (u + 1) := Nat.mul_le_mul_right _ hc
  rw [Nat.add_mul] at this
  simp only [tot, Nat.add_sub_cancel]
  omega
theorem p15_mul {u v : Nat} (h : u ≤ v) (hv : v ≤ 15) : p15 u = 2 ^ (v - u) * p15 v := by
  unfold p15
  rw [← Nat.pow_add]; congr 1; omega
/-- of two symbols of one length -/
theorem place_same {l : List Int} {i k v : Nat} (h1 : 1 ≤ v) (h2 : v ≤ 15) (ei : ix l i = v) (ek : ix l k = v) (h : i < k) : codeAt l i < codeAt l k := by
  rw [codeAt, codeAt, ei, ek, if_pos (by simp [isLen]; omega), if_pos (by simp [isLen]; omega), Int.toNat_natCast]
  have := cnt_strict h ei
  omega
/-- of a shorter and a longer one -/
theorem place_less {l : List Int} {i k u v : Nat} (h1 : 1 ≤ u) (huv : u < v) (h2 : v ≤ 15) (ei : ix l i = u) (ek : ix l k = v) (hi : i < l.length) : (codeAt l i + 1) * 2 ^ (v - u) ≤ codeAt l k := by
  have a := place_end h1 (by omega) ei hi
  have b : tot l l.length u ≤ placeOf l k := by
    rw [placeOf_eq (by omega) h2 ek]
    have := tot_mono l l.length (show u ≤ v - 1 by omega)
    omega
  unfold placeOf at a b
  rw [ei, Int.toNat_natCast, p15_mul (Nat.le_of_lt huv) h2] at a
  rw [ek, Int.toNat_natCast] at b
  have c : (codeAt l i + 1) * 2 ^ (v - u) * p15 v ≤ codeAt l k * p15 v := by
    rw [Nat.add_mul, Nat.add_mul, Nat.one_mul, Nat.mul_assoc]
    omega
  exact Nat.le_of_mul_le_mul_right c (p15_bd v).1
theorem code_fits {l : List Int} {i v : Nat} (h1 : 1 ≤ v) (h2 : v ≤ 15) (e : ix l i = v) (hi : i < l.length) (hS : sumTo l l.length ≤ 32768) : codeAt l i < 2 ^ v := by
  have a := place_end h1 h2 e hi
  have b := tot_mono l l.length h2
  rw [tot_sum] at b
  unfold placeOf at a
  rw [e, Int.toNat_natCast] at a
  have c : (codeAt l i + 1) * p15 v ≤ 2 ^ v * p15 v := by
    have := p15_mul (Nat.zero_le v) h2
    rw [p15_zero, Nat.sub_zero] at this
    rw [Nat.add_mul]; omega
  have := Nat.le_of_mul_le_mul_right c (p15_bd v).1
  omega
theorem no_prefix {l : List Int} {i k u v : Nat} (h1 : 1 ≤ u) (huv : u ≤ v) (h2 : v ≤ 15) (ei : ix l i = u) (ek : ix l k = v) (hi : i < l.length) (hne : k ≠ i) : codeAt l k / 2 ^ (v - u) ≠ codeAt l i := by
  intro h
  by_cases e : u = v
  · subst e
    rw [Nat.sub_self, Nat.pow_zero, Nat.div_one] at h
    rcases Nat.lt_or_ge i k with h' | h'
    · have := place_same h1 h2 ei ek h'; omega
    · have := place_same h1 h2 ek ei (by omega); omega
  · have a := place_less h1 (by omega) h2 ei ek hi
    have : codeAt l i + 1 ≤ codeAt l k / 2 ^ (v - u) := (Nat.le_div_iff_mul_le (Nat.two_pow_pos _)).2 a
    omega

/-- do the 15 bits x begin with symbol i's code? -/
def hits (l : List Int) (x i : Nat) : Bool := isLen (ix l i) && decide (x / p15 (ix l i).toNat = codeAt l i)
def hitsTo (l : List Int) (x : Nat) : Nat → Nat
  | 0 => 0
  | k + 1 => hitsTo l x k + if hits l x k then 1 else 0
theorem hits_iff {l : List Int} {x i v : Nat} (h1 : 1 ≤ v) (h2 : v ≤ 15) (e : ix l i = v) : hits l x i = true ↔ placeOf l i ≤ x ∧ x < placeOf l i + p15 v := by
  unfold hits isLen placeOf
  rw [e, Int.toNat_natCast]
  have hp := (p15_bd v).1
  simp only [Bool.and_eq_true, decide_eq_true_eq]
  rw [Nat.div_eq_iff (by omega)]
  rw [show codeAt l i * p15 v + p15 v = codeAt l i * p15 v + p15 v from rfl]
  omega
theorem hits_len {l : List Int} {x i : Nat} (h : hits l x i = true) : ∃ v : Nat, 1 ≤ v ∧ v ≤ 15 ∧ ix l i = v := by
  unfold hits isLen at h
  simp only [Bool.and_eq_true, decide_eq_true_eq] at h
  exact ⟨(ix l i).toNat, by omega, by omega, by omega⟩
theorem hits_one {l : List Int} {x i k : Nat} (hi : i < l.length) (hk : k < l.length) (h : hits l x i = true) (h' : hits l x k = true) : i = k := by
  obtain ⟨u, u1, u2, eu⟩ := hits_len h
  obtain ⟨v, v1, v2, ev⟩ := hits_len h'
  have a := (hits_iff u1 u2 eu).1 h
  have b := (hits_iff v1 v2 ev).1 h'
  have key : ∀ {i k u v : Nat}, 1 ≤ u → u < v → v ≤ 15 → ix l i = (u : Int) → ix l k = (v : Int) → i < l.length → placeOf l i + p15 u ≤ placeOf l k := by
    intro i k u v h1 huv h2 ei ek hi
    have a := place_end h1 (by omega) ei hi
    have := tot_mono l l.length (show u ≤ v - 1 by omega)
    rw [placeOf_eq (by omega) h2 ek]
    omega
  have key2 : ∀ {i k v : Nat}, 1 ≤ v → v ≤ 15 → ix l i = (v : Int) → ix l k = (v : Int) → i < k → placeOf l i + p15 v ≤ placeOf l k := by
    intro i k v h1 h2 ei ek h
    rw [placeOf_eq h1 h2 ei, placeOf_eq h1 h2 ek]
    have : (cnt l i v + 1) * p15 v ≤ cnt l k v * p15 v := Nat.mul_le_mul_right _ (cnt_strict h ei)
    rw [Nat.add_mul] at this
    omega
  rcases Nat.lt_trichotomy u v with huv | huv | huv
  · have := key u1 huv v2 eu ev hi; omega
  · subst huv
    rcases Nat.lt_trichotomy i k with h3 | h3 | h3
    · have := key2 u1 u2 eu ev h3; omega
    · exact h3
    · have := key2 u1 u2 ev eu h3; omega
  · have := key v1 huv u2 ev eu hk; omega
theorem cnt_ivt (l : List Int) (v q : Nat) : ∀ k, q < cnt l k v → ∃ i, i < k ∧ ix l i = v ∧ cnt l i v = q := by
  intro k
  induction k with
  | zero => intro h; simp [cnt] at h
  | succ k ih =>
    intro h
    by_cases h' : q < cnt l k v
    · obtain ⟨i, a, b⟩ := ih h'
      exact ⟨i, by omega, b⟩
    · by_cases e : ix l k = v
      · refine ⟨k, by omega, e, ?_⟩
        simp [cnt, e] at h; omega
      · simp [cnt, e] at h; omega
theorem hits_some {l : List Int} {x : Nat} (hS : sumTo l l.length = 32768) (hx : x < 32768) : ∃ i, i < l.length ∧ hits l x i = true := by
  have : ∀ m, m ≤ 15 → x < tot l l.length m → ∃ v : Nat, 1 ≤ v ∧ v ≤ m ∧ tot l l.length (v - 1) ≤ x ∧ x < tot l l.length v := by
    intro m
    induction m with
    | zero => intro _ h; simp [tot] at h
    | succ m ih =>
      intro hm h
      by_cases h' : x < tot l l.length m
      · obtain ⟨v, a, b, c⟩ := ih (by omega) h'
        exact ⟨v, a, by omega, c⟩
      · exact ⟨m + 1, by omega, by omega, by simpa using h', h⟩
  obtain ⟨v, v1, v2, a, b⟩ := this 15 (by omega) (by rw [tot_sum, hS]; exact hx)
  obtain ⟨u, rfl⟩ : ∃ u, v = u + 1 := ⟨v - 1, by omega⟩
  simp only [Nat.add_sub_cancel] at a
  simp only [tot] at b
  have hp := (p15_bd (u + 1)).1
  have hq : (x - tot l l.length u) / p15 (u + 1) < cnt l l.length (u + 1) := by
    rw [Nat.div_lt_iff_lt_mul (by omega)]; omega
  obtain ⟨i, hi, e, hc⟩ := cnt_ivt l (u + 1) _ _ hq
  refine ⟨i, hi, (hits_iff v1 v2 e).2 ?_⟩
  rw [placeOf_eq v1 v2 e, hc]
  simp only [Nat.add_sub_cancel]
  have h1 := Nat.div_mul_le_self (x - tot l l.length u) (p15 (u + 1))
  have h2 := Nat.lt_div_mul_add (a := x - tot l l.length u) (b := p15 (u + 1)) (by omega)
  omega
theorem hitsTo_bd (l : List Int) (x k : Nat) : hitsTo l x k ≤ k := by
  induction k with
  | zero => simp [hitsTo]
  | succ k ih => simp only [hitsTo]; split <;> omega
theorem hitsTo_one {l : List Int} {x : Nat} (hS : sumTo l l.length = 32768) (hx : x < 32768) : hitsTo l x l.length = 1 := by
  obtain ⟨i, hi, hh⟩ := hits_some hS hx
  have : ∀ k, k ≤ l.length → hitsTo l x k = if i < k then 1 else 0 := by
    intro k
    induction k with
    | zero => intro _; simp [hitsTo]
    | succ k ih =>
      intro hk
      simp only [hitsTo, ih (by omega)]
      by_cases e : i = k
      · subst e; rw [hh]; simp
      · have : hits l x k = false := by
          rw [← Bool.not_eq_true]
          intro h'
          exact e (hits_one hi (by omega) hh h')
        rw [this]
        by_cases h3 : i < k
        · have h4 : i < k + 1 := by omega
          simp [h3, h4]
        · have h4 : ¬ i < k + 1 := by omega
          simp [h3, h4]
  rw [this _ (Nat.le_refl _), if_pos hi]
/-- what Check at 15 says of lengths -/
theorem check_ok {l : List Int} (h : checkOf l 15 = 0) : l.length ≤ 288 ∧ (∀ i, i < l.length → 0 ≤ ix l i ∧ ix l i ≤ 15) ∧ sumTo l l.length ≤ 32768 ∧ (sumTo l l.length = 32768 ∨ aloneB l l.length = true) := by
  unfold checkOf at h
  split at h
  · simp at h
  · split at h
    · simp at h
    · split at h
      · simp at h
      · rename_i h1 h2 h3
        refine ⟨by omega, ?_, by omega, ?_⟩
        · have : inTo l 15 l.length = true := by simpa using h2
          simpa [inTo] using this
        · rcases Nat.lt_or_ge (sumTo l l.length) 32768 with h4 | h4
          · right
            cases ha : aloneB l l.length
            · exact absurd (Or.inr ⟨h4, ha⟩) h3
            · rfl
          · left; omega
theorem alone_count {l : List Int} (h : aloneB l l.length = true) : posTo l l.length ≤ 1 := by
  unfold aloneB at h
  simp only [Bool.and_eq_true, decide_eq_true_eq] at h
  exact h.2
end Go.Proofs.Ytjeedkjgjfbndaa

/-
  Plain law: the greatest length; what more bits behind do to the next symbol.
-/
namespace Go.Proofs.Ytjeedkjgjfbndaa
open Go Go.RowKit
set_option linter.unusedVariables false

def mxI (l : List Int) : Nat → Int
  | 0 => 0
  | k + 1 => if mxI l k < ix l k then ix l k else mxI l k
theorem mxI_nn (l : List Int) (k : Nat) : 0 ≤ mxI l k := by
  induction k with
  | zero => exact Int.le_refl _
  | succ k ih => rw [mxI]; split <;> omega
theorem mxI_ge (l : List Int) {i k : Nat} (h : i < k) : ix l i ≤ mxI l k := by
  induction k with
  | zero => omega
  | succ k ih =>
    rw [mxI]
    by_cases e : i = k
    · subst e; split <;> omega
    · have := ih (by omega); split <;> omega
theorem mxI_is (l : List Int) (k : Nat) : mxI l k = 0 ∨ ∃ i, i < k ∧ ix l i = mxI l k := by
  induction k with
  | zero => exact .inl rfl
  | succ k ih =>
    rw [mxI]
    by_cases e : mxI l k < ix l k
    · rw [if_pos e]; exact .inr ⟨k, by omega, rfl⟩
    · rw [if_neg e]
      rcases ih with h | ⟨i, h, h2⟩
      · exact .inl h
      · exact .inr ⟨i, by omega, h2⟩
theorem cnt_pos {l : List Int} {i k v : Nat} (h : i < k) (e : ix l i = (v : Int)) : 0 < cnt l k v := by
  have := cnt_strict h e; omega
theorem cnt_is {l : List Int} {k v : Nat} (h : 0 < cnt l k v) : ∃ i, i < k ∧ ix l i = (v : Int) := by
  induction k with
  | zero => simp [cnt] at h
  | succ k ih =>
    by_cases e : ix l k = (v : Int)
    · exact ⟨k, by omega, e⟩
    · simp only [cnt, if_neg e] at h
      obtain ⟨i, h1, h2⟩ := ih h
      exact ⟨i, by omega, h2⟩
theorem lgT_is (l : List Int) (n : Nat) : lgT l n = 0 ∨ 0 < cnt l l.length (lgT l n) := by
  induction n with
  | zero => exact .inl rfl
  | succ n ih => rw [lgT]; split
                 · exact ih
                 · exact .inr (by omega)
theorem lgT_above (l : List Int) {n m : Nat} (h : lgT l n < m) (h2 : m ≤ n) : cnt l l.length m = 0 := by
  induction n with
  | zero => omega
  | succ n ih =>
    rw [lgT] at h
    by_cases e : cnt l l.length (n + 1) = 0
    · rw [if_pos e] at h
      by_cases e2 : m = n + 1
      · subst e2; exact e
      · exact ih h (by omega)
    · rw [if_neg e] at h; omega
theorem mxI_lgT {l : List Int} (h : ∀ i, i < l.length → ix l i ≤ 15) : mxI l l.length = (lgT l 15 : Int) := by
  have a := lgT_is l 15
  have b := mxI_is l l.length
  have c := mxI_nn l l.length
  have d : (lgT l 15 : Int) ≤ mxI l l.length := by
    rcases a with a | a
    · omega
    · obtain ⟨i, h1, h2⟩ := cnt_is a
      have := mxI_ge l h1
      omega
  rcases b with b | ⟨i, h1, h2⟩
  · omega
  · have h3 := h i h1
    obtain ⟨M, hM⟩ := Int.eq_ofNat_of_zero_le c
    rw [hM] at h2 ⊢
    have h4 := cnt_pos h1 h2
    by_cases hh : lgT l 15 < M
    · have := lgT_above l hh (by omega); omega
    · omega
/-- only the first bits count -/
theorem hv_app (x y : List Int) {m : Nat} (h : m ≤ x.length) : hv (x ++ y) m = hv x m := by
  induction m with
  | zero => rfl
  | succ m ih => rw [hv, hv, ih (by omega), ix_app_left (by omega)]
theorem fh_app (l x y : List Int) {m : Nat} (h : m ≤ x.length) : fh l (x ++ y) m = fh l x m := by
  induction m with
  | zero => rfl
  | succ m ih => rw [fh, fh, ih (by omega)]; unfold hitB; rw [hv_app x y h]
def nextB (l x : List Int) (lg m len : Nat) : Int × Nat × Int :=
  if fh l x m ≠ 0 then (selS l (fh l x m) (hv x (fh l x m) - nxt l (fh l x m)).toNat, fh l x m, 0)
  else if m < lg then (0, 0, 5)
  else if lg = 0 ∧ len = 0 then (0, 0, 5)
  else (0, 0, 3)
theorem nextOf_eq (l x : List Int) : nextOf l x = nextB l x (lgT l 15) (min x.length (lgT l 15)) x.length := rfl
theorem nextOf_app (l x y : List Int) (h : (nextOf l x).2.2 ≠ 5) : nextOf l (x ++ y) = nextOf l x := by
  rw [nextOf_eq] at h
  rw [nextOf_eq, nextOf_eq]
  obtain ⟨lg, hlg⟩ : ∃ lg, lgT l 15 = lg := ⟨_, rfl⟩
  rw [hlg] at h ⊢
  rw [List.length_append]
  by_cases hx : lg ≤ x.length
  · rw [Nat.min_eq_right hx] at h ⊢
    rw [Nat.min_eq_right (by omega)]
    unfold nextB at h ⊢
    rw [fh_app l x y hx]
    by_cases hf : fh l x lg = 0
    · have hn : ¬ fh l x lg ≠ 0 := by omega
      have hm : ¬ lg < lg := by omega
      simp only [if_neg hn, if_neg hm] at h ⊢
      by_cases h0 : lg = 0 ∧ x.length = 0
      · rw [if_pos h0] at h; simp at h
      · rw [if_neg h0, if_neg (by omega)]
    · rw [if_pos hf, if_pos hf, hv_app x y (Nat.le_trans (fh_le l x lg) hx)]
  · rw [Nat.min_eq_left (show x.length ≤ lg by omega)] at h ⊢
    unfold nextB at h ⊢
    by_cases hf : fh l x x.length = 0
    · have hn : ¬ fh l x x.length ≠ 0 := by omega
      rw [if_neg hn, if_pos (by omega)] at h
      simp at h
    · have hm : x.length ≤ min (x.length + y.length) lg := by omega
      have e : fh l (x ++ y) (min (x.length + y.length) lg) = fh l x x.length := by
        rw [fh_keep (m := x.length) (by rw [fh_app l x y (Nat.le_refl _)]; exact hf) hm, fh_app l x y (Nat.le_refl _)]
      rw [e, if_pos hf, if_pos hf, hv_app x y (fh_le l x _)]
/-- a hit has bits, and they are there -/
theorem nextOf_pos {l x : List Int} (h : (nextOf l x).2.2 = 0) : 1 ≤ (nextOf l x).2.1 ∧ (nextOf l x).2.1 ≤ x.length ∧ (nextOf l x).2.1 ≤ 15 := by
  unfold nextOf at *
  simp only at *
  by_cases hf : fh l x (min x.length (lgT l 15)) = 0
  · rw [if_neg (by simp [hf])] at h
    split at h
    · simp at h
    · split at h <;> simp at h
  · rw [if_pos hf]
    have := fh_le l x (min x.length (lgT l 15))
    have := lgT_le l 15
    refine ⟨?_, ?_, ?_⟩ <;> simp only <;> omega
theorem nextOf_none {l x : List Int} (h : (nextOf l x).2.2 ≠ 0) : (nextOf l x).1 = 0 ∧ (nextOf l x).2.1 = 0 := by
  unfold nextOf at *
  simp only at *
  split
  · rename_i hf; rw [if_pos hf] at h; simp at h
  · split
    · exact ⟨rfl, rfl⟩
    · split <;> exact ⟨rfl, rfl⟩
theorem nextOf_err (l x : List Int) : (nextOf l x).2.2 = 0 ∨ (nextOf l x).2.2 = 3 ∨ (nextOf l x).2.2 = 5 := by
  unfold nextOf
  simp only
  split
  · exact .inl rfl
  · split
    · exact .inr (.inr rfl)
    · split
      · exact .inr (.inr rfl)
      · exact .inr (.inl rfl)
end Go.Proofs.Ytjeedkjgjfbndaa

/-
  Plain law: the codes of lengths and distances.
-/
namespace Go.Proofs.Ytjeedkjgjfbndaa
set_option linter.unusedVariables false

/-- first length and extra bits of code 257 + j -/
def lB (j : Nat) : Nat := if j = 28 then 258 else if j < 8 then 3 + j else 3 + (4 + j % 4) * 2 ^ (j / 4 - 1)
def lE (j : Nat) : Nat := if j = 28 then 0 else if j < 8 then 0 else j / 4 - 1
/-- first distance and extra bits of code j -/
def dB (j : Nat) : Nat := if j < 4 then 1 + j else 1 + (2 + j % 2) * 2 ^ (j / 2 - 1)
def dE (j : Nat) : Nat := if j < 4 then 0 else j / 2 - 1
/-- the sums of the reference -/
def lR (j : Nat) : Nat := if j = 28 then 259 else lB j
theorem lR_zero : lR 0 = 3 := by decide
theorem lR_next : ∀ j, j < 28 → lR (j + 1) = lR j + 2 ^ lE j := by decide +kernel
theorem dB_next : ∀ j, j < 30 → dB (j + 1) = dB j + 2 ^ dE j := by decide +kernel
theorem lB_next : ∀ j, j < 28 → lB (j + 1) ≤ lB j + 2 ^ lE j := by decide +kernel
theorem lB_bd : ∀ j, j < 29 → 3 ≤ lB j ∧ lB j ≤ 258 ∧ lE j ≤ 5 := by decide +kernel
theorem dB_bd : ∀ j, j < 31 → 1 ≤ dB j ∧ dB j ≤ 32769 ∧ dE j ≤ 14 := by decide +kernel
theorem dB_bd' : ∀ j, j < 30 → 1 ≤ dB j ∧ dB j ≤ 24577 ∧ dE j ≤ 13 := by decide +kernel

/-- j is the last of 0 .. top whose first one is not above n -/
def Last_ (B : Nat → Nat) (top : Nat) (n : Int) (j : Nat) : Prop := j ≤ top ∧ ((B j : Nat) : Int) ≤ n ∧ ∀ i, j < i → i ≤ top → n < ((B i : Nat) : Int)
theorem Last_.uniq {B : Nat → Nat} {top : Nat} {n : Int} {j k : Nat} (h : Last_ B top n j) (h' : Last_ B top n k) : j = k := by
  rcases Nat.lt_trichotomy j k with hl | hl | hl
  · have := h.2.2 k hl h'.1
    have := h'.2.1
    omega
  · exact hl
  · have := h'.2.2 j hl h.1
    have := h.2.1
    omega
theorem Last_.val_l {n : Int} {j : Nat} (h : Last_ lB 28 n j) (hn : n ≤ 258) : n - ((lB j : Nat) : Int) < ((2 ^ lE j : Nat) : Int) := by
  obtain ⟨h1, h2, h3⟩ := h
  by_cases hj : j = 28
  · subst hj
    have : lB 28 = 258 := by decide
    have : 2 ^ lE 28 = 1 := by decide
    omega
  · have h4 := h3 (j + 1) (by omega) (by omega)
    have h5 := lB_next j (by omega)
    omega
theorem Last_.val_d {n : Int} {j : Nat} (h : Last_ dB 29 n j) (hn : n ≤ 32768) : n - ((dB j : Nat) : Int) < ((2 ^ dE j : Nat) : Int) := by
  obtain ⟨h1, h2, h3⟩ := h
  have h5 := dB_next j (by omega)
  by_cases hj : j = 29
  · subst hj
    have : dB (29 + 1) = 32769 := by decide
    omega
  · have h4 := h3 (j + 1) (by omega) (by omega)
    omega

/-- what the answer about a number is -/
def CodeIs (B E : Nat → Nat) (lo hi off : Int) (top : Nat) (n : Int) (v : Value) : Prop :=
  ((n < lo ∨ hi < n) ∧ v = .tuple #[.int .i64 0, .int .i64 0, .int .i64 0]) ∨
  ((lo ≤ n ∧ n ≤ hi) ∧ ∃ j, Last_ B top n j ∧ v = .tuple #[.int .i64 (off + (j : Int)), .int .i64 ((E j : Nat) : Int), .int .i64 (n - ((B j : Nat) : Int))])
theorem CodeIs.uniq {B E : Nat → Nat} {lo hi off : Int} {top : Nat} {n : Int} {u v : Value} (h : CodeIs B E lo hi off top n u) (h' : CodeIs B E lo hi off top n v) : u = v := by
  rcases h with ⟨h1, rfl⟩ | ⟨h1, j, hj, rfl⟩ <;> rcases h' with ⟨h2, rfl⟩ | ⟨h2, k, hk, rfl⟩
  · rfl
  · omega
  · omega
  · rw [hj.uniq hk]
end Go.Proofs.Ytjeedkjgjfbndaa

/-
  Plain law: what tokens stand for.
-/
namespace Go.Proofs.Ytjeedkjgjfbndaa
set_option linter.unusedVariables false

structure Tok where
  lit : Int
  len : Int
  dist : Int
def soundT (t : Tok) : Prop := if t.len = 0 then t.dist = 0 else t.lit = 0 ∧ 3 ≤ t.len ∧ t.len ≤ 258 ∧ 1 ≤ t.dist ∧ t.dist ≤ 32768
instance (t : Tok) : Decidable (soundT t) := by unfold soundT; infer_instance
/-- the bytes that come again -/
def again (l : List Int) (D N : Nat) : List Int := (List.range N).map fun i => ix l (l.length - D + i % D)
theorem again_length (l : List Int) (D N : Nat) : (again l D N).length = N := by simp [again]
theorem ix_again (l : List Int) (D N : Nat) {i : Nat} (h : i < N) : ix (again l D N) i = ix l (l.length - D + i % D) := by simp [ix, again, h]
theorem again_zero (l : List Int) (D : Nat) : again l D 0 = [] := rfl
theorem again_succ (l : List Int) (D N : Nat) (hD : 1 ≤ D) (hl : D ≤ l.length) : again l D (N + 1) = again l D N ++ [ix (l ++ again l D N) (l.length + N - D)] := by
  have h1 : again l D (N + 1) = again l D N ++ [ix l (l.length - D + N % D)] := by unfold again; rw [List.range_succ, List.map_append]; rfl
  rw [h1]
  congr 2
  by_cases h : N < D
  · rw [Nat.mod_eq_of_lt h, ix_append, if_pos (by omega)]
    congr 1
    omega
  · rw [ix_append, if_neg (by omega), ix_again _ _ _ (by omega), show l.length + N - D - l.length = N - D by omega, ← Nat.mod_eq_sub_mod (by omega)]
/-- one token's bytes behind those that were, or why there are none -/
def step (out : List Int) (t : Tok) : Int × List Int :=
  if ¬ soundT t then (1, [])
  else if 16777216 < (out.length : Int) + max t.len 1 then (6, [])
  else if t.len = 0 then (0, out ++ [t.lit])
  else if (out.length : Int) < t.dist then (3, [])
  else (0, out ++ again out t.dist.toNat t.len.toNat)
/-- all tokens' -/
def expand (out : List Int) : List Tok → Int × List Int
  | [] => (0, out)
  | t :: l => if (step out t).1 = 0 then expand (step out t).2 l else step out t
theorem expand_cons (out : List Int) (t : Tok) (l : List Tok) : expand out (t :: l) = if (step out t).1 = 0 then expand (step out t).2 l else step out t := rfl
theorem step_len {out : List Int} {t : Tok} (h : (step out t).1 = 0) : (step out t).2.length ≤ 16777216 ∧ out.length ≤ (step out t).2.length := by
  unfold step at h ⊢
  by_cases h1 : soundT t
  · rw [if_neg (by simpa using h1)] at h ⊢
    by_cases h2 : 16777216 < (out.length : Int) + max t.len 1
    · rw [if_pos h2] at h; simp at h
    · rw [if_neg h2] at h ⊢
      by_cases h3 : t.len = 0
      · rw [if_pos h3]; simp; omega
      · rw [if_neg h3] at h ⊢
        by_cases h4 : (out.length : Int) < t.dist
        · rw [if_pos h4] at h; simp at h
        · rw [if_neg h4]; simp [again_length]; omega
  · rw [if_pos (by simpa using h1)] at h; simp at h
end Go.Proofs.Ytjeedkjgjfbndaa

/-
  Plain law: the decoder of a stream as a pure machine over the bits that are left.
-/
namespace Go.Proofs.Ytjeedkjgjfbndaa
set_option linter.unusedVariables false

/-- a decoder: the bits that are left; what is read next (0 a block, 1 a size, 2 stored bytes, 3 counts, 4 the third code, 5 lengths, 6 a token, 7 a distance, 8 nothing); all that came out; how much may yet; the kinds of the blocks, how much had come out behind each, the tokens -/
structure IS where
  x : List Int
  st : Nat
  last : Bool
  left : Nat
  c0 : Nat
  c1 : Nat
  c2 : Nat
  lens : List Int
  hd : List Int
  lt : List Int
  ds : List Int
  len : Nat
  all : List Int
  rem : Nat
  kinds : List Int
  stops : List Int
  toks : List Tok
/-- up to the next byte -/
def algn (x : List Int) : List Int := x.drop (x.length % 8)
/-- the first n bits as a number -/
def num (x : List Int) (n : Nat) : Nat := (numI (x.take n)).toNat
/-- the lengths of the fixed codes -/
def fixL : List Int := List.replicate 144 8 ++ List.replicate 112 9 ++ List.replicate 24 7 ++ List.replicate 8 8
def fixD : List Int := List.replicate 32 5
def hOrd : List Nat := [16, 17, 18, 0, 8, 7, 9, 6, 10, 5, 11, 4, 12, 3, 13, 2, 14, 1, 15]
/-- the lengths in their places -/
def hAll (l : List Int) : List Int := (List.range 19).map fun s => ix l (hOrd.idxOf s)
/-- are all of them 0? -/
def noneB (l : List Int) : Bool := l.all fun v => v == 0
namespace IS
def over (s : IS) : IS :=
  if s.last then { s with x := algn s.x, st := 8, stops := s.stops ++ [(s.all.length : Int)] } else { s with st := 0, stops := s.stops ++ [(s.all.length : Int)] }
/-- bytes come out -/
def emit (s : IS) (b : List Int) : IS × Int := ({ s with all := s.all ++ b.take s.rem, rem := s.rem - b.length }, if s.rem < b.length then 6 else 0)
def block (s : IS) : IS × Int :=
  if s.x.length < 3 then (s, 5)
  else if num s.x 3 / 2 = 0 then ({ s with last := decide (num s.x 3 % 2 = 1), kinds := s.kinds ++ [((num s.x 3 / 2 : Nat) : Int)], x := algn (s.x.drop 3), st := 1 }, 0)
  else if num s.x 3 / 2 = 1 then ({ s with last := decide (num s.x 3 % 2 = 1), kinds := s.kinds ++ [((num s.x 3 / 2 : Nat) : Int)], x := s.x.drop 3, lt := fixL, ds := fixD, st := 6 }, 0)
  else if num s.x 3 / 2 = 2 then ({ s with last := decide (num s.x 3 % 2 = 1), kinds := s.kinds ++ [((num s.x 3 / 2 : Nat) : Int)], x := s.x.drop 3, st := 3 }, 0)
  else ({ s with last := decide (num s.x 3 % 2 = 1), kinds := s.kinds ++ [((num s.x 3 / 2 : Nat) : Int)], x := s.x.drop 3 }, 2)
def size (s : IS) : IS × Int :=
  if s.x.length < 32 then (s, 5)
  else if num s.x 32 % 65536 + num s.x 32 / 65536 = 65535 then ({ s with x := s.x.drop 32, left := num s.x 32 % 65536, st := 2 }, 0)
  else ({ s with x := s.x.drop 32 }, 2)
/-- one stored byte -/
def stored (s : IS) : IS × Int :=
  if s.left = 0 then (s.over, 0)
  else if s.x.length < 8 then (s, 5)
  else { s with x := s.x.drop 8, left := s.left - 1 }.emit [(num s.x 8 : Int)]
def sizes (s : IS) : IS × Int :=
  if s.x.length < 14 then (s, 5)
  else if 286 < num s.x 14 % 32 + 257 ∨ 30 < num s.x 14 / 32 % 32 + 1 then ({ s with x := s.x.drop 14 }, 2)
  else ({ s with x := s.x.drop 14, c0 := num s.x 14 % 32 + 257, c1 := num s.x 14 / 32 % 32 + 1, c2 := num s.x 14 / 1024 + 4, lens := [], st := 4 }, 0)
def heads (s : IS) : IS × Int :=
  if s.lens.length < s.c2 then
    if s.x.length < 3 then (s, 5) else ({ s with x := s.x.drop 3, lens := s.lens ++ [(num s.x 3 : Int)] }, 0)
  else if checkOf (hAll s.lens) 7 ≠ 0 ∨ noneB s.lens = true then (s, 3)
  else ({ s with hd := hAll s.lens, lens := [], st := 5 }, 0)
/-- extra bits and base of a repeated length -/
def rW (k : Int) : Nat := if k = 17 then 3 else if k = 18 then 7 else 2
def rB (k : Int) : Nat := if k = 18 then 11 else 3
/-- a length, so often -/
def repeat_ (s : IS) (k : Int) (x1 : List Int) : IS × Int :=
  if s.c0 + s.c1 < s.lens.length + (rB k + num x1 (rW k)) then ({ s with x := x1.drop (rW k) }, 2)
  else ({ s with x := x1.drop (rW k), lens := s.lens ++ List.replicate (rB k + num x1 (rW k)) (if k = 16 then ix s.lens (s.lens.length - 1) else 0) }, 0)
def length (s : IS) : IS × Int :=
  if (nextOf s.hd s.x).2.2 ≠ 0 then (s, (nextOf s.hd s.x).2.2)
  else if (nextOf s.hd s.x).1 < 16 then ({ s with x := s.x.drop (nextOf s.hd s.x).2.1, lens := s.lens ++ [(nextOf s.hd s.x).1] }, 0)
  else if (nextOf s.hd s.x).1 = 16 ∧ s.lens.length = 0 then (s, 2)
  else if (s.x.drop (nextOf s.hd s.x).2.1).length < rW (nextOf s.hd s.x).1 then (s, 5)
  else s.repeat_ (nextOf s.hd s.x).1 (s.x.drop (nextOf s.hd s.x).2.1)
def lengths (s : IS) : IS × Int :=
  if s.lens.length < s.c0 + s.c1 then s.length
  else if checkOf (s.lens.take s.c0) 15 ≠ 0 ∨ checkOf (s.lens.drop s.c0) 15 ≠ 0 ∨ ix s.lens 256 = 0 then (s, 3)
  else ({ s with lt := s.lens.take s.c0, ds := s.lens.drop s.c0, st := 6 }, 0)
def token (s : IS) : IS × Int :=
  if (nextOf s.lt s.x).2.2 ≠ 0 then (s, (nextOf s.lt s.x).2.2)
  else if (nextOf s.lt s.x).1 < 256 then { s with x := s.x.drop (nextOf s.lt s.x).2.1, toks := s.toks ++ [Tok.mk (nextOf s.lt s.x).1 0 0] }.emit [(nextOf s.lt s.x).1]
  else if (nextOf s.lt s.x).1 = 256 then ({ s with x := s.x.drop (nextOf s.lt s.x).2.1 }.over, 0)
  else if 285 < (nextOf s.lt s.x).1 then (s, 3)
  else if (s.x.drop (nextOf s.lt s.x).2.1).length < lE ((nextOf s.lt s.x).1 - 257).toNat then (s, 5)
  else ({ s with x := (s.x.drop (nextOf s.lt s.x).2.1).drop (lE ((nextOf s.lt s.x).1 - 257).toNat), len := lB ((nextOf s.lt s.x).1 - 257).toNat + num (s.x.drop (nextOf s.lt s.x).2.1) (lE ((nextOf s.lt s.x).1 - 257).toNat), st := 7 }, 0)
/-- a text that was -/
def text (s : IS) (x1 : List Int) (D : Nat) : IS × Int :=
  if s.all.length < D then (s, 3)
  else { s with x := x1, st := 6, toks := s.toks ++ [Tok.mk 0 s.len D] }.emit (again s.all D s.len)
def dist (s : IS) : IS × Int :=
  if (nextOf s.ds s.x).2.2 ≠ 0 then (s, (nextOf s.ds s.x).2.2)
  else if 29 < (nextOf s.ds s.x).1 then (s, 3)
  else if (s.x.drop (nextOf s.ds s.x).2.1).length < dE (nextOf s.ds s.x).1.toNat then (s, 5)
  else s.text ((s.x.drop (nextOf s.ds s.x).2.1).drop (dE (nextOf s.ds s.x).1.toNat)) (dB (nextOf s.ds s.x).1.toNat + num (s.x.drop (nextOf s.ds s.x).2.1) (dE (nextOf s.ds s.x).1.toNat))
/-- one more step: the state, the error (0: it goes on; 5: bits lack) -/
def step (s : IS) : IS × Int :=
  if s.st = 0 then s.block
  else if s.st = 1 then s.size
  else if s.st = 2 then s.stored
  else if s.st = 3 then s.sizes
  else if s.st = 4 then s.heads
  else if s.st = 5 then s.lengths
  else if s.st = 6 then s.token
  else if s.st = 7 then s.dist
  else (s, 8)
inductive Steps : IS → IS → Prop
  | refl (s : IS) : Steps s s
  | tail {s t : IS} : Steps s t → t.step.2 = 0 → Steps s t.step.1
theorem Steps.trans {a b c : IS} (h : Steps a b) (h' : Steps b c) : Steps a c := by
  induction h' with
  | refl => exact h
  | tail _ h2 ih => exact .tail ih h2
theorem Steps.one {s : IS} (h : s.step.2 = 0) : Steps s s.step.1 := .tail (.refl s) h
/-- so many steps, or until it ends -/
def run : Nat → IS → IS × Int
  | 0, s => s.step
  | n + 1, s => if s.step.2 = 0 then run n s.step.1 else s.step
/-- more bits -/
def app (s : IS) (y : List Int) : IS := { s with x := s.x ++ y }
/-- how far it may go -/
def mu (s : IS) : Nat := 3 * s.x.length + (if s.st = 4 then 2 else if s.st = 5 ∨ s.st = 2 then 1 else 0)
def fin (s : IS) : IS × Int := run s.mu s
end IS
/-- nothing is read yet -/
def start (x : List Int) (most : Nat) : IS := ⟨x, 0, false, 0, 0, 0, 0, [], [], [], [], 0, [], most, [], [], []⟩

section
variable {s t : IS} {x y b : List Int} {n m : Nat}
theorem num_app (h : n ≤ x.length) : num (x ++ y) n = num x n := by unfold num; rw [List.take_append_of_le_length h]
theorem drop_app' (h : n ≤ x.length) : (x ++ y).drop n = x.drop n ++ y := List.drop_append_of_le_length h
theorem algn_app (h : y.length % 8 = 0) : algn (x ++ y) = algn x ++ y := by
  unfold algn
  rw [List.length_append, show (x.length + y.length) % 8 = x.length % 8 by omega, drop_app' (Nat.mod_le _ _)]
theorem algn_length (x : List Int) : (algn x).length = x.length / 8 * 8 := by unfold algn; rw [List.length_drop]; omega
theorem IS.mu_step (h : s.step.2 = 0) : s.step.1.mu < s.mu := by
  have hov : ∀ s : IS, s.over.x.length ≤ s.x.length ∧ (s.over.st = 0 ∨ s.over.st = 8) := fun s => by
    unfold IS.over; split
    · exact ⟨by show (algn s.x).length ≤ _; rw [algn_length]; omega, .inr rfl⟩
    · exact ⟨Nat.le_refl _, .inl rfl⟩
  have hmu : ∀ s : IS, (s.st = 0 ∨ s.st = 8 ∨ s.st = 1 ∨ s.st = 3 ∨ s.st = 6 ∨ s.st = 7) → s.mu = 3 * s.x.length := fun s h => by
    unfold IS.mu; rw [if_neg (by omega), if_neg (by omega)]; rfl
  have hmu2 : ∀ s : IS, s.mu ≤ 3 * s.x.length + 2 ∧ 3 * s.x.length ≤ s.mu := fun s => by
    unfold IS.mu; constructor <;> (split; omega; split <;> omega)
  unfold IS.step at h ⊢
  by_cases h0 : s.st = 0
  · rw [if_pos h0] at h ⊢
    unfold IS.block at h ⊢
    by_cases hx : s.x.length < 3
    · rw [if_pos hx] at h; simp at h
    rw [if_neg hx] at h ⊢
    have hs := hmu s (.inl h0)
    have hal := algn_length (s.x.drop 3)
    have hdl : (s.x.drop 3).length = s.x.length - 3 := List.length_drop
    split at h <;> rename_i h1
    · rw [if_pos h1, hmu _ (by simp)]; simp only [hs]; omega
    rw [if_neg h1]
    split at h <;> rename_i h2
    · rw [if_pos h2, hmu _ (by simp)]; simp only [hs]; omega
    rw [if_neg h2]
    split at h <;> rename_i h3
    · rw [if_pos h3, hmu _ (by simp)]; simp only [hs]; omega
    · simp at h
  rw [if_neg h0] at h ⊢
  by_cases h1 : s.st = 1
  · rw [if_pos h1] at h ⊢
    unfold IS.size at h ⊢
    by_cases hx : s.x.length < 32
    · rw [if_pos hx] at h; simp at h
    rw [if_neg hx] at h ⊢
    split at h <;> rename_i h2
    · rw [if_pos h2]
      have a2 := (hmu2 s).2
      have hdl : (s.x.drop 32).length = s.x.length - 32 := List.length_drop
      refine Nat.lt_of_le_of_lt (hmu2 _).1 ?_
      show 3 * (s.x.drop 32).length + 2 < _
      omega
    · simp at h
  rw [if_neg h1] at h ⊢
  by_cases h2 : s.st = 2
  · rw [if_pos h2] at h ⊢
    unfold IS.stored at h ⊢
    by_cases hl : s.left = 0
    · rw [if_pos hl]
      have a1 := hov s
      have a2 : s.over.mu = _ := hmu s.over (by omega)
      have a3 : s.mu = 3 * s.x.length + 1 := by unfold IS.mu; rw [if_neg (by omega), if_pos (by omega)]
      show s.over.mu < s.mu
      omega
    rw [if_neg hl] at h ⊢
    by_cases hx : s.x.length < 8
    · rw [if_pos hx] at h; simp at h
    rw [if_neg hx]
    unfold IS.emit
    have a1 := (hmu2 { { s with x := s.x.drop 8, left := s.left - 1 } with all := s.all ++ [(num s.x 8 : Int)].take s.rem, rem := s.rem - [(num s.x 8 : Int)].length }).1
    have a2 := (hmu2 s).2
    have hdl : (s.x.drop 8).length = s.x.length - 8 := List.length_drop
    simp only at a1 ⊢
    omega
  rw [if_neg h2] at h ⊢
  by_cases h3 : s.st = 3
  · rw [if_pos h3] at h ⊢
    unfold IS.sizes at h ⊢
    by_cases hx : s.x.length < 14
    · rw [if_pos hx] at h; simp at h
    rw [if_neg hx] at h ⊢
    split at h <;> rename_i h4
    · simp at h
    rw [if_neg h4]
    have a1 := (hmu2 { s with x := s.x.drop 14, c0 := num s.x 14 % 32 + 257, c1 := num s.x 14 / 32 % 32 + 1, c2 := num s.x 14 / 1024 + 4, lens := [], st := 4 }).1
    have a2 := (hmu2 s).2
    have hdl : (s.x.drop 14).length = s.x.length - 14 := List.length_drop
    simp only at a1 ⊢
    omega
  rw [if_neg h3] at h ⊢
  by_cases h4 : s.st = 4
  · rw [if_pos h4] at h ⊢
    unfold IS.heads at h ⊢
    have a3 : s.mu = 3 * s.x.length + 2 := by unfold IS.mu; rw [if_pos h4]
    by_cases hc : s.lens.length < s.c2
    · rw [if_pos hc] at h ⊢
      by_cases hx : s.x.length < 3
      · rw [if_pos hx] at h; simp at h
      rw [if_neg hx]
      have a1 := (hmu2 { s with x := s.x.drop 3, lens := s.lens ++ [(num s.x 3 : Int)] }).1
      have hdl : (s.x.drop 3).length = s.x.length - 3 := List.length_drop
      simp only at a1 ⊢
      omega
    rw [if_neg hc] at h ⊢
    split at h <;> rename_i h5
    · simp at h
    rw [if_neg h5]
    have : IS.mu { s with hd := hAll s.lens, lens := [], st := 5 } = 3 * s.x.length + 1 := by unfold IS.mu; rw [if_neg (by simp), if_pos (by simp)]
    simp only [this]
    omega
  rw [if_neg h4] at h ⊢
  by_cases h5 : s.st = 5
  · rw [if_pos h5] at h ⊢
    unfold IS.lengths at h ⊢
    have a2 := hmu2 s
    by_cases hc : s.lens.length < s.c0 + s.c1
    · rw [if_pos hc] at h ⊢
      unfold IS.length at h ⊢
      by_cases e : (nextOf s.hd s.x).2.2 ≠ 0
      · rw [if_pos e] at h; exact absurd h e
      have hp := nextOf_pos (Decidable.not_not.1 e)
      rw [if_neg e] at h ⊢
      have hdl : (s.x.drop (nextOf s.hd s.x).2.1).length = s.x.length - (nextOf s.hd s.x).2.1 := List.length_drop
      split at h <;> rename_i h6
      · rw [if_pos h6]
        have a1 := (hmu2 { s with x := s.x.drop (nextOf s.hd s.x).2.1, lens := s.lens ++ [(nextOf s.hd s.x).1] }).1
        simp only at a1 ⊢
        have a3 : s.mu = 3 * s.x.length + 1 := by unfold IS.mu; rw [if_neg (by omega), if_pos (by omega)]
        omega
      rw [if_neg h6]
      split at h <;> rename_i h7
      · simp at h
      rw [if_neg h7]
      split at h <;> rename_i h8
      · simp at h
      rw [if_neg h8]
      unfold IS.repeat_ at h ⊢
      split at h <;> rename_i h9
      · simp at h
      rw [if_neg h9]
      have hd2 : ((s.x.drop (nextOf s.hd s.x).2.1).drop (IS.rW (nextOf s.hd s.x).1)).length ≤ (s.x.drop (nextOf s.hd s.x).2.1).length := by rw [List.length_drop]; omega
      have a1 := (hmu2 { s with x := (s.x.drop (nextOf s.hd s.x).2.1).drop (IS.rW (nextOf s.hd s.x).1), lens := s.lens ++ List.replicate (IS.rB (nextOf s.hd s.x).1 + num (s.x.drop (nextOf s.hd s.x).2.1) (IS.rW (nextOf s.hd s.x).1)) (if (nextOf s.hd s.x).1 = 16 then ix s.lens (s.lens.length - 1) else 0) }).1
      simp only at a1 ⊢
      have a3 : s.mu = 3 * s.x.length + 1 := by unfold IS.mu; rw [if_neg (by omega), if_pos (by omega)]
      omega
    rw [if_neg hc] at h ⊢
    split at h <;> rename_i h6
    · simp at h
    rw [if_neg h6]
    have a1 : IS.mu { s with lt := s.lens.take s.c0, ds := s.lens.drop s.c0, st := 6 } = 3 * s.x.length := hmu _ (by simp)
    have a3 : s.mu = 3 * s.x.length + 1 := by unfold IS.mu; rw [if_neg (by omega), if_pos (by omega)]
    simp only [a1]
    omega
  rw [if_neg h5] at h ⊢
  by_cases h6 : s.st = 6
  · rw [if_pos h6] at h ⊢
    unfold IS.token at h ⊢
    have a2 : s.mu = 3 * s.x.length := hmu s (by omega)
    by_cases e : (nextOf s.lt s.x).2.2 ≠ 0
    · rw [if_pos e] at h; exact absurd h e
    have hp := nextOf_pos (Decidable.not_not.1 e)
    rw [if_neg e] at h ⊢
    have hdl : (s.x.drop (nextOf s.lt s.x).2.1).length = s.x.length - (nextOf s.lt s.x).2.1 := List.length_drop
    split at h <;> rename_i h7
    · rw [if_pos h7]
      unfold IS.emit
      rw [hmu _ (by simp [h6])]
      simp only
      omega
    rw [if_neg h7]
    split at h <;> rename_i h8
    · rw [if_pos h8]
      have a1 := hov { s with x := s.x.drop (nextOf s.lt s.x).2.1 }
      refine Nat.lt_of_le_of_lt (Nat.le_of_eq (hmu _ ?_)) ?_
      · exact a1.2.elim .inl (fun h => .inr (.inl h))
      · have a3 : (IS.over { s with x := s.x.drop (nextOf s.lt s.x).2.1 }).x.length ≤ (s.x.drop (nextOf s.lt s.x).2.1).length := a1.1
        simp only
        omega
    rw [if_neg h8]
    split at h <;> rename_i h9
    · simp at h
    rw [if_neg h9]
    split at h <;> rename_i h10
    · simp at h
    rw [if_neg h10]
    have hd2 : ((s.x.drop (nextOf s.lt s.x).2.1).drop (lE ((nextOf s.lt s.x).1 - 257).toNat)).length ≤ (s.x.drop (nextOf s.lt s.x).2.1).length := by rw [List.length_drop]; omega
    rw [hmu _ (by simp)]
    simp only
    omega
  rw [if_neg h6] at h ⊢
  by_cases h7 : s.st = 7
  · rw [if_pos h7] at h ⊢
    unfold IS.dist at h ⊢
    have a2 : s.mu = 3 * s.x.length := hmu s (by omega)
    by_cases e : (nextOf s.ds s.x).2.2 ≠ 0
    · rw [if_pos e] at h; exact absurd h e
    have hp := nextOf_pos (Decidable.not_not.1 e)
    rw [if_neg e] at h ⊢
    have hdl : (s.x.drop (nextOf s.ds s.x).2.1).length = s.x.length - (nextOf s.ds s.x).2.1 := List.length_drop
    split at h <;> rename_i h8
    · simp at h
    rw [if_neg h8]
    split at h <;> rename_i h9
    · simp at h
    rw [if_neg h9]
    unfold IS.text at h ⊢
    split at h <;> rename_i h10
    · simp at h
    rw [if_neg h10]
    have hd2 : ((s.x.drop (nextOf s.ds s.x).2.1).drop (dE (nextOf s.ds s.x).1.toNat)).length ≤ (s.x.drop (nextOf s.ds s.x).2.1).length := by rw [List.length_drop]; omega
    unfold IS.emit
    rw [hmu _ (by simp)]
    simp only
    omega
  · rw [if_neg h7] at h; simp at h
theorem IS.run_mono (h : (IS.run n s).2 ≠ 0) : IS.run (n + 1) s = IS.run n s := by
  induction n generalizing s with
  | zero =>
    show (if s.step.2 = 0 then s.step.1.step else s.step) = s.step
    exact if_neg h
  | succ n ih =>
    rw [IS.run] at h ⊢
    by_cases e : s.step.2 = 0
    · rw [if_pos e] at h ⊢; rw [ih h]; conv => rhs; rw [IS.run, if_pos e]
    · rw [if_neg e] at h ⊢; conv => rhs; rw [IS.run, if_neg e]
theorem IS.run_le (h : (IS.run n s).2 ≠ 0) (hm : n ≤ m) : IS.run m s = IS.run n s := by
  induction m with
  | zero => obtain rfl : n = 0 := by omega
            rfl
  | succ m ih =>
    by_cases e : n = m + 1
    · subst e; rfl
    · have := ih (by omega)
      rw [IS.run_mono (by rw [this]; exact h), this]
theorem IS.run_end (h : s.mu ≤ n) : (IS.run n s).2 ≠ 0 := by
  induction n generalizing s with
  | zero =>
    intro e
    have := IS.mu_step (s := s) e
    omega
  | succ n ih =>
    rw [IS.run]
    by_cases e : s.step.2 = 0
    · rw [if_pos e]; exact ih (by have := IS.mu_step e; omega)
    · rw [if_neg e]; exact e
theorem IS.fin_ne (s : IS) : s.fin.2 ≠ 0 := IS.run_end (Nat.le_refl _)
theorem IS.fin_run (h : (IS.run n s).2 ≠ 0) : IS.run n s = s.fin := by
  rcases Nat.le_total n s.mu with h2 | h2
  · exact (IS.run_le h h2).symm
  · exact IS.run_le (IS.fin_ne s) h2
theorem IS.fin_stop (h : s.step.2 ≠ 0) : s.fin = s.step := (IS.fin_run (n := 0) h).symm
theorem IS.fin_step (h : s.step.2 = 0) : s.step.1.fin = s.fin := by
  have e : IS.run (s.step.1.mu + 1) s = s.step.1.fin := by rw [IS.run, if_pos h]; rfl
  rw [← e]
  exact IS.fin_run (by rw [e]; exact IS.fin_ne _)
theorem IS.Steps.fin_eq (h : IS.Steps s t) : t.fin = s.fin := by
  induction h with
  | refl => rfl
  | tail _ h2 ih => rw [IS.fin_step h2, ih]
/-- it ends somewhere -/
theorem IS.fin_steps (s : IS) : ∃ t, IS.Steps s t ∧ t.step = s.fin := by
  have : ∀ n s, s.mu ≤ n → ∃ t, IS.Steps s t ∧ t.step = s.fin := by
    intro n
    induction n with
    | zero =>
      intro s h
      refine ⟨s, .refl s, (IS.fin_stop ?_).symm⟩
      intro e
      have := IS.mu_step (s := s) e
      omega
    | succ n ih =>
      intro s h
      by_cases e : s.step.2 = 0
      · obtain ⟨t, h1, h2⟩ := ih s.step.1 (by have := IS.mu_step e; omega)
        exact ⟨t, (IS.Steps.one e).trans h1, by rw [h2, IS.fin_step e]⟩
      · exact ⟨s, .refl s, (IS.fin_stop e).symm⟩
  exact this _ s (Nat.le_refl _)
end
end Go.Proofs.Ytjeedkjgjfbndaa

/-
  Plain law: the 32 bits of a number the other way round.
-/
namespace Go.Proofs.Ytjeedkjgjfbndaa
open Go Go.RowKit
set_option linter.unusedVariables false
def stg (s m x : Nat) : Nat := ((x >>> s) &&& m) ||| ((x &&& m) <<< s)
theorem stg_bit (s m x i : Nat) : (stg s m x).testBit i = ((x.testBit (s + i) && m.testBit i) || (decide (s ≤ i) && (x.testBit (i - s) && m.testBit (i - s)))) := by
  simp [stg, Nat.testBit_or, Nat.testBit_and, Nat.testBit_shiftRight, Nat.testBit_shiftLeft]
def rev32 (x : Nat) : Nat :=
  let y := stg 8 16711935 (stg 4 252645135 (stg 2 858993459 (stg 1 1431655765 x)))
  (y >>> 16) ||| ((y <<< 16) % 4294967296)
theorem mask1 : ∀ j, j < 32 → Nat.testBit 1431655765 j = decide (j % 2 = 0) := by decide
theorem mask2 : ∀ j, j < 32 → Nat.testBit 858993459 j = decide (j % 4 < 2) := by decide
theorem mask4 : ∀ j, j < 32 → Nat.testBit 252645135 j = decide (j % 8 < 4) := by decide
theorem mask8 : ∀ j, j < 32 → Nat.testBit 16711935 j = decide (j % 16 < 8) := by decide
theorem rev32_bit (x : Nat) (hx : x < 4294967296) {i : Nat} (hi : i < 32) : (rev32 x).testBit i = x.testBit (31 - i) := by
  have hz : ∀ j, 32 ≤ j → x.testBit j = false := fun j hj => Nat.testBit_lt_two_pow (Nat.lt_of_lt_of_le hx (Nat.pow_le_pow_right (n := 2) (by omega) hj))
  have hc : i = 0 ∨ i = 1 ∨ i = 2 ∨ i = 3 ∨ i = 4 ∨ i = 5 ∨ i = 6 ∨ i = 7 ∨ i = 8 ∨ i = 9 ∨ i = 10 ∨ i = 11 ∨ i = 12 ∨ i = 13 ∨ i = 14 ∨ i = 15 ∨ i = 16 ∨ i = 17 ∨ i = 18 ∨ i = 19 ∨ i = 20 ∨ i = 21 ∨ i = 22 ∨ i = 23 ∨ i = 24 ∨ i = 25 ∨ i = 26 ∨ i = 27 ∨ i = 28 ∨ i = 29 ∨ i = 30 ∨ i = 31 := by omega
  have hm : (4294967296 : Nat) = 2 ^ 32 := rfl
  unfold rev32
  rw [hm]
  simp only [Nat.testBit_or, Nat.testBit_shiftRight, Nat.testBit_mod_two_pow, Nat.testBit_shiftLeft]
  rcases hc with rfl | rfl | rfl | rfl | rfl | rfl | rfl | rfl | rfl | rfl | rfl | rfl | rfl | rfl | rfl | rfl | rfl | rfl | rfl | rfl | rfl | rfl | rfl | rfl | rfl | rfl | rfl | rfl | rfl | rfl | rfl | rfl
  all_goals
    simp [stg_bit, hz, mask1, mask2, mask4, mask8, -Nat.testBit_zero]

theorem rev32_lt (x : Nat) (hx : x < 4294967296) : rev32 x < 4294967296 := by
  have hm : (4294967296 : Nat) = 2 ^ 32 := rfl
  rw [hm]
  refine Nat.lt_pow_two_of_testBit _ fun i hi => ?_
  have hz : ∀ j, 32 ≤ j → x.testBit j = false := fun j hj => Nat.testBit_lt_two_pow (Nat.lt_of_lt_of_le hx (Nat.pow_le_pow_right (n := 2) (by omega) hj))
  have hb : ∀ M : Nat, M < 4294967296 → ∀ j, 32 ≤ j → M.testBit j = false := fun M hM j hj => Nat.testBit_lt_two_pow (Nat.lt_of_lt_of_le hM (Nat.pow_le_pow_right (n := 2) (by omega) hj))
  unfold rev32
  rw [hm]
  simp only [Nat.testBit_or, Nat.testBit_shiftRight, Nat.testBit_mod_two_pow, Nat.testBit_shiftLeft]
  have e : ¬ i < 32 := by omega
  simp only [e, decide_false, Bool.false_and, Bool.or_false]
  by_cases h48 : i < 48 - 16
  · omega
  · rw [stg_bit]
    by_cases h8 : 40 ≤ 16 + i
    · rw [hb 16711935 (by omega) (16 + i) (by omega)]
      rw [hb 16711935 (by omega) (16 + i - 8) (by omega)]
      simp
    · omega
theorem ix_ofN (v : Int) (n : Nat) {i : Nat} (hi : i < n) : ix (ofN v n) i = v / 2 ^ i % 2 := by
  induction n generalizing v i with
  | zero => omega
  | succ n ih =>
    cases i with
    | zero => simp [ofN, ix]
    | succ i =>
      have : ix (ofN v (n + 1)) (i + 1) = ix (ofN (v / 2) n) i := by simp [ofN, ix]
      rw [this, ih (v / 2) (by omega), Int.pow_succ, Int.mul_comm, Int.ediv_ediv_of_nonneg (by omega)]
/-- the number's lowest n bits the other way round -/
def revN (v : Int) (n : Nat) : Int := numI (ofN v n).reverse
theorem bit_div (x i : Nat) : ((x : Int) / 2 ^ i % 2) = if x.testBit i then 1 else 0 := by
  have : ((x : Int) / 2 ^ i % 2) = ((x / 2 ^ i % 2 : Nat) : Int) := by rw [← cast_pow2]; simp
  rw [this, Nat.testBit_eq_decide_div_mod_eq]
  have := Nat.mod_two_eq_zero_or_one (x / 2 ^ i)
  rcases this with h | h <;> simp [h]
theorem ext_ix {a b : List Int} (hl : a.length = b.length) (h : ∀ i, i < a.length → ix a i = ix b i) : a = b := by
  apply List.ext_getElem hl
  intro i h1 h2
  have := h i h1
  simpa [ix, h1, h2] using this
theorem rev_is (x n : Nat) (hx : x < 4294967296) (hn : n ≤ 32) : revN x n = ((rev32 x / 2 ^ (32 - n) : Nat) : Int) := by
  have hr := rev32_lt x hx
  have hlt : rev32 x / 2 ^ (32 - n) < 2 ^ n := by
    rw [Nat.div_lt_iff_lt_mul (Nat.two_pow_pos _), ← Nat.pow_add, show n + (32 - n) = 32 by omega]
    exact hr
  have e : (ofN x n).reverse = ofN ((rev32 x / 2 ^ (32 - n) : Nat) : Int) n := by
    refine ext_ix (by simp [ofN_length]) fun i hi => ?_
    have hin : i < n := by simpa [ofN_length] using hi
    rw [ix_ofN _ _ hin, bit_div]
    have h1 : ix (ofN x n).reverse i = ix (ofN x n) (n - 1 - i) := by
      have hk : n - 1 - i < (ofN x n).length := by rw [ofN_length]; omega
      simp [ix, ofN_length, hin]
      rw [List.getElem?_eq_getElem hk]; rfl
    rw [h1, ix_ofN _ _ (by omega), bit_div, ← Nat.shiftRight_eq_div_pow, Nat.testBit_shiftRight, rev32_bit x hx (by omega), show 31 - (32 - n + i) = n - 1 - i by omega]
  unfold revN
  rw [e, numI_ofN]
  obtain ⟨y, hy⟩ : ∃ y, rev32 x / 2 ^ (32 - n) = y := ⟨_, rfl⟩
  rw [hy] at hlt ⊢
  rw [← cast_pow2, Int.emod_eq_of_lt (by omega) (by omega)]
end Go.Proofs.Ytjeedkjgjfbndaa
