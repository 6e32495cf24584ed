/-
  Several texts in one (written by pack2.py): Base, TokP, CodesP, BitP, CodeP, Tree, SrtP.
-/
import Derived.WalkKit
import Derived.WalkLawsBesides
import Derived.WalkSpells
import Derived.Below
import Derived.Laws.OwnMore
import Derived.Deep.AppendLies
import Derived.Deep.Draws
import Derived.Deep.QuietTactic
import Derived.BigQuiet
import Derived.BigGuardPart
import Derived.Lib.Hide
import Derived.LoopTactic
import Derived.Deep.LoopGhost
import Derived.RegionTactic
import Derived.Outline
import Derived.WalkSmall
import Derived.OneCell
namespace Go.Proofs.Ytlgkiookobedcaa
open Go.RowKit
set_option linter.unusedVariables false
theorem addr_block (a : Addr) (n : Nat) : (a.add n).block = a.block := by unfold Addr.add; split <;> rfl
theorem addr_add (a : Addr) (i j : Nat) : (a.add i).add j = a.add (i + j) := by
  unfold Addr.add
  by_cases hi : i = 0 <;> by_cases hj : j = 0 <;> simp [hi, hj, Nat.add_assoc]
def Rd (w : World) (B : Nat) (A : Option Addr) (m : Nat) (f : Nat → Value) : Prop :=
  0 < m → ∃ ad, A = some ad ∧ ad.block < B ∧ ∀ i, i < m → w.cell? (ad.add i) = some (f i)
def ix (l : List Int) (i : Nat) : Int := l.getD i 0
def RdI (k : IntKind) (w : World) (B : Nat) (A : Option Addr) (n : Nat) (l : List Int) : Prop :=
  n = l.length ∧ Rd w B A n (fun i => .int k (ix l i))
section
variable {w w' : World} {B B' n m : Nat} {A : Option Addr} {f : Nat → Value}
theorem Rd.nil_ : Rd w B A 0 f := fun h => absurd h (by omega)
theorem Rd.keep (h : Rd w B A m f) (hk : ∀ p : Addr, p.block < B → w'.cell? p = w.cell? p) : Rd w' B A m f := fun hm => by
  obtain ⟨ad, e, hb, hc⟩ := h hm
  exact ⟨ad, e, hb, fun i hi => (hk _ (by rw [addr_block]; exact hb)).trans (hc i hi)⟩
theorem Rd.more (h : Rd w B A m f) (hB : B ≤ B') : Rd w B' A m f := fun hm => by
  obtain ⟨ad, e, hb, hc⟩ := h hm
  exact ⟨ad, e, by omega, hc⟩
theorem Rd.below (h : Rd w B A m f) (hb : Below B w w') : Rd w' B A m f := h.keep fun _ hp => hb.cell hp
theorem Rd.congr {g : Nat → Value} (h : Rd w B A m f) (hfg : ∀ i, i < m → f i = g i) : Rd w B A m g := fun hm => by
  obtain ⟨ad, e, hb, hc⟩ := h hm
  exact ⟨ad, e, hb, fun i hi => by rw [hc i hi, hfg i hi]⟩
end
section
variable {k : IntKind} {w w' : World} {B B' n : Nat} {A : Option Addr} {l : List Int}
theorem RdI.at_ (h : RdI k w B A n l) {i : Nat} (hi : i < n) : ∃ ad, A = some ad ∧ ad.block < B ∧ w.cell? (ad.add i) = some (.int k (ix l i)) := by
  obtain ⟨ad, e, hb, hc⟩ := h.2 (by omega)
  exact ⟨ad, e, hb, hc i hi⟩
theorem RdI.keep (h : RdI k w B A n l) (hk : ∀ p : Addr, p.block < B → w'.cell? p = w.cell? p) : RdI k w' B A n l := ⟨h.1, h.2.keep hk⟩
theorem RdI.more (h : RdI k w B A n l) (hB : B ≤ B') : RdI k w B' A n l := ⟨h.1, h.2.more hB⟩
theorem RdI.below (h : RdI k w B A n l) (hb : Below B w w') : RdI k w' B A n l := ⟨h.1, h.2.below hb⟩
theorem RdI.drewN (h : RdI k w B A n l) (j : Nat) : RdI k (w.drewN j) B A n l := h
end
theorem ret_int {k : IntKind} {a b : Int} (h : a = b) : Ending.returned (.int k a) = .returned (.int k b) := by rw [h]
theorem ret_bool {a b : Bool} (h : a = b) : Ending.returned (.bool a) = .returned (.bool b) := by rw [h]
def Ar (w : World) (g m : Nat) (f : Nat → Value) : Prop :=
  ∃ (cs : Array Value) (t : TypeId) (fr : Nat × Nat), w.heap[g]? = some (.cells cs t fr) ∧ (m ≤ fr.1 ∨ fr.2 = 0) ∧ m ≤ cs.size ∧ ∀ i, i < m → cs[i]? = some (f i)
def upd {α : Type} (f : Nat → α) (i : Nat) (v : α) : Nat → α := fun j => if j = i then v else f j
theorem upd_same {α : Type} (f : Nat → α) (i : Nat) (v : α) : upd f i v i = v := by simp [upd]
theorem upd_other {α : Type} (f : Nat → α) {i j : Nat} (v : α) (h : j ≠ i) : upd f i v j = f j := by simp [upd, h]
section
variable {w w' : World} {g m : Nat} {f : Nat → Value}
theorem Ar.lt (h : Ar w g m f) : g < w.heap.size := by
  obtain ⟨cs, t, fr, hh, _⟩ := h
  exact lt_of_block hh
theorem Ar.cell (h : Ar w g m f) {i : Nat} (hi : i < m) : w.cell? ⟨g, i, none⟩ = some (f i) := by
  obtain ⟨cs, t, fr, hh, _, _, hc⟩ := h
  rw [cell_of_row w g i cs t fr hh, hc i hi]
theorem Ar.frozen' (h : Ar w g m f) {i : Nat} (hi : i < m) : w.frozen? ⟨g, i, none⟩ = false := by
  obtain ⟨cs, t, ⟨lo, hi'⟩, hh, hf, _⟩ := h
  simp [World.frozen?, hh]
  simp at hf
  omega
theorem Ar.drewN (h : Ar w g m f) (k : Nat) : Ar (w.drewN k) g m f := h
theorem Ar.drew (h : Ar w g m f) : Ar w.drew g m f := h
theorem Ar.same (h : Ar w g m f) (hb : w'.heap[g]? = w.heap[g]?) : Ar w' g m f := by
  obtain ⟨cs, t, fr, hh, r⟩ := h
  exact ⟨cs, t, fr, hb.trans hh, r⟩
theorem Ar.alloc (h : Ar w g m f) (o : Obj) : Ar (w.alloc o) g m f := h.same (Below.heap_alloc w o g h.lt)
theorem Ar.far (h : Ar w g m f) {p : Addr} (hp : g ≠ p.block) (u : Value) : Ar (w.setCell p u) g m f := h.same (Below.heap_setCell w p u g hp)
theorem Ar.below {B : Nat} (h : Ar w g m f) (hb : Below B w w') (hg : g < B) : Ar w' g m f := h.same (hb.block g hg)
theorem Ar.keeps (h : Ar w g m f) (hb : Below w.heap.size w w') : Ar w' g m f := h.below hb h.lt
theorem Ar.grown {row : Option Nat} (h : Ar w g m f) (hb : w.grownBy w' row) (hg : some g ≠ row) : Ar w' g m f := h.same (hb.block g h.lt hg)
theorem Ar.set_ (h : Ar w g m f) {i : Nat} (hi : i < m) (u : Value) : Ar (w.setCell ⟨g, i, none⟩ u) g m (upd f i u) := by
  obtain ⟨cs, t, fr, hh, hf, hs, hc⟩ := h
  refine ⟨cs.setIfInBounds i u, t, fr, ?_, hf, by simpa using hs, fun j hj => ?_⟩
  · simp [World.setCell, Array.getElem?_modify, hh]
  · rw [Array.getElem?_setIfInBounds]
    by_cases he : i = j
    · subst he
      rw [if_pos rfl, if_pos (by omega), upd_same]
    · rw [if_neg he, hc j hj, upd_other _ _ (by omega)]
theorem Ar.congr {f' : Nat → Value} (h : Ar w g m f) (hf : ∀ i, i < m → f i = f' i) : Ar w g m f' := by
  obtain ⟨cs, t, fr, hh, hfr, hs, hc⟩ := h
  exact ⟨cs, t, fr, hh, hfr, hs, fun i hi => by rw [hc i hi, hf i hi]⟩
theorem Ar.new (w : World) (cs : Array Value) (t : TypeId) (hm : cs.size = m) (hf : ∀ i, i < m → cs[i]? = some (f i)) : Ar (w.alloc (.cells cs t)) w.heap.size m f :=
  ⟨cs, t, (0, 0), heap_alloc_new w _, .inr rfl, Nat.le_of_eq hm.symm, hf⟩
theorem Ar.rd (h : Ar w g m f) {B n : Nat} (hB : g < B) (hn : n ≤ m) : Rd w B (some ⟨g, 0, none⟩) n f := fun _ => by
  refine ⟨_, rfl, hB, fun i hi => ?_⟩
  have : (⟨g, 0, none⟩ : Addr).add i = ⟨g, i, none⟩ := by unfold Addr.add; split <;> simp_all
  rw [this]
  exact h.cell (by omega)
end
theorem RdI.head {k : IntKind} {w : World} {B n g : Nat} {l : List Int} (h : RdI k w B (some ⟨g, 0, none⟩) n l) {i : Nat} (hi : i < n) : w.cell? ⟨g, i, none⟩ = some (.int k (ix l i)) := by
  obtain ⟨ad, e, _, hc⟩ := h.at_ hi
  cases e
  have : (⟨g, 0, none⟩ : Addr).add i = ⟨g, i, none⟩ := by unfold Addr.add; split <;> simp_all
  rwa [this] at hc
theorem bounds_i64 {x : Int} (h : (Lit.int .i64 x).wf = true) : -9223372036854775808 ≤ x ∧ x ≤ 9223372036854775807 := by
  simpa [Lit.wf, IntKind.min, IntKind.max, IntKind.signed, IntKind.bits] using h
theorem bounds_u8 {x : Int} (h : (Lit.int .u8 x).wf = true) : 0 ≤ x ∧ x < 256 := by
  have : 0 ≤ x ∧ x ≤ 255 := by simpa [Lit.wf, IntKind.min, IntKind.max, IntKind.signed, IntKind.bits] using h
  omega
theorem RdI.lit (k : IntKind) (w : World) (l : List Int) (t : TypeId) : RdI k (w.alloc (.cells (l.map (Value.int k)).toArray t)) (w.heap.size + 1) (some ⟨w.heap.size, 0, none⟩) l.length l := by
  refine ⟨rfl, ?_⟩
  have h : Ar (w.alloc (.cells (l.map (Value.int k)).toArray t)) w.heap.size l.length (fun i => .int k (ix l i)) :=
    Ar.new w _ t (by simp) fun i hi => by simp [ix, hi]
  exact h.rd (by omega) (Nat.le_refl _)
theorem RdI.lit' (k : IntKind) {w : World} {g : Nat} (hg : g = w.heap.size) (l : List Int) (t : TypeId) : RdI k (w.alloc (.cells (l.map (Value.int k)).toArray t)) (g + 1) (some ⟨g, 0, none⟩) l.length l := by
  subst hg; exact RdI.lit k w l t
theorem RdI.alloc {k : IntKind} {w : World} {B n : Nat} {A : Option Addr} {l : List Int} (h : RdI k w B A n l) (hB : B ≤ w.heap.size) (o : Obj) : RdI k (w.alloc o) B A n l :=
  h.keep fun p hp => World.cell?_alloc_lt w o p (by omega)
def Sz (w : World) (n : Nat) : Prop := w.heap.size = n
theorem Sz.set_ {w : World} {n : Nat} (h : Sz w n) (p : Addr) (u : Value) : Sz (w.setCell p u) n := by unfold Sz at *; simpa [World.setCell] using h
theorem Sz.drew {w : World} {n : Nat} (h : Sz w n) : Sz w.drew n := h
theorem Sz.drewN {w : World} {n : Nat} (h : Sz w n) (k : Nat) : Sz (w.drewN k) n := h
theorem Sz.alloc {w : World} {n : Nat} (h : Sz w n) (o : Obj) : Sz (w.alloc o) (n + 1) := by unfold Sz at *; simp [h]
def zrow (n : Nat) (z : Value) : Array Value := Array.replicate n z
theorem zrow_size (n : Nat) (z : Value) : (zrow n z).size = n := by simp [zrow]
theorem zrow_at {n i : Nat} (z : Value) (hi : i < n) : (zrow n z)[i]? = some z := by simp [zrow, hi]
theorem Ar.zeros (w : World) (n : Nat) (z : Value) (t : TypeId) : Ar (w.alloc (.cells (zrow n z) t)) w.heap.size n (fun _ => z) :=
  Ar.new w _ t (zrow_size n z) fun _ hi => zrow_at z hi
theorem Ar.zeros' {w : World} (n : Nat) (z : Value) (t : TypeId) {g : Nat} (hg : g = w.heap.size) : Ar (w.alloc (.cells (zrow n z) t)) g n (fun _ => z) := by
  subst hg; exact Ar.zeros w n z t
theorem run_make_zrow {P : Program} (t e : TypeId) (i : TypeInfo) (z : Value) (ht : P.underlying t = some (.slice e)) (hi : P.info? e = some i) (hz : i.zero = some z) (hs : i.size = 1) (hzc : z.cells = #[z])
    (kl kc : IntKind) (n : Nat) (hbytes : i.bytes * n ≤ 281474976710656) (h63 : n ≤ 9223372036854775807) (w : World) :
    (Instr.makeSlice t (.int kl (n : Int)) (.int kc (n : Int))).run P w = .ok (.slice (some ⟨w.heap.size, 0, none⟩) n n) (w.alloc (.cells (zrow n z) e)) := by
  have hb : (i.bytes : Int) * (n : Int) ≤ 281474976710656 := by
    have h : ((i.bytes * n : Nat) : Int) ≤ 281474976710656 := by omega
    rwa [Int.natCast_mul] at h
  have hr := run_make (P := P) w t e i z ht hi hz kl kc n n (by omega) (by omega) hb (by omega)
  simp only [Int.toNat_natCast, hs, Nat.mul_one] at hr
  rw [hr]
  have : madeCells z.cells n = zrow n z := by
    apply Array.ext
    · rw [size_madeCells, zrow_size]
    · intro j h1 h2
      have e : (#[z] : Array Value).size = 1 := rfl
      simp [madeCells, zrow, hzc, Nat.mod_one]
  rw [this]
end Go.Proofs.Ytlgkiookobedcaa
namespace Go.Proofs.Ytlgkiookobedcaa
set_option linter.unusedVariables false
def lB (j : Nat) : Nat := if j = 28 then 258 else if j < 8 then 3 + j else 3 + (4 + j % 4) * 2 ^ (j / 4 - 1)
def lE (j : Nat) : Nat := if j = 28 then 0 else if j < 8 then 0 else j / 4 - 1
def dB (j : Nat) : Nat := if j < 4 then 1 + j else 1 + (2 + j % 2) * 2 ^ (j / 2 - 1)
def dE (j : Nat) : Nat := if j < 4 then 0 else j / 2 - 1
def lR (j : Nat) : Nat := if j = 28 then 259 else lB j
theorem dB_next : ∀ j, j < 30 → dB (j + 1) = dB j + 2 ^ dE j := by decide +kernel
theorem lB_next : ∀ j, j < 28 → lB (j + 1) ≤ lB j + 2 ^ lE j := by decide +kernel
theorem lB_bd : ∀ j, j < 29 → 3 ≤ lB j ∧ lB j ≤ 258 ∧ lE j ≤ 5 := by decide +kernel
theorem dB_bd' : ∀ j, j < 30 → 1 ≤ dB j ∧ dB j ≤ 24577 ∧ dE j ≤ 13 := by decide +kernel
def Last_ (B : Nat → Nat) (top : Nat) (n : Int) (j : Nat) : Prop := j ≤ top ∧ ((B j : Nat) : Int) ≤ n ∧ ∀ i, j < i → i ≤ top → n < ((B i : Nat) : Int)
theorem Last_.uniq {B : Nat → Nat} {top : Nat} {n : Int} {j k : Nat} (h : Last_ B top n j) (h' : Last_ B top n k) : j = k := by
  rcases Nat.lt_trichotomy j k with hl | hl | hl
  · have := h.2.2 k hl h'.1
    have := h'.2.1
    omega
  · exact hl
  · have := h'.2.2 j hl h.1
    have := h.2.1
    omega
theorem Last_.val_l {n : Int} {j : Nat} (h : Last_ lB 28 n j) (hn : n ≤ 258) : n - ((lB j : Nat) : Int) < ((2 ^ lE j : Nat) : Int) := by
  obtain ⟨h1, h2, h3⟩ := h
  by_cases hj : j = 28
  · subst hj
    have : lB 28 = 258 := by decide
    have : 2 ^ lE 28 = 1 := by decide
    omega
  · have h4 := h3 (j + 1) (by omega) (by omega)
    have h5 := lB_next j (by omega)
    omega
theorem Last_.val_d {n : Int} {j : Nat} (h : Last_ dB 29 n j) (hn : n ≤ 32768) : n - ((dB j : Nat) : Int) < ((2 ^ dE j : Nat) : Int) := by
  obtain ⟨h1, h2, h3⟩ := h
  have h5 := dB_next j (by omega)
  by_cases hj : j = 29
  · subst hj
    have : dB (29 + 1) = 32769 := by decide
    omega
  · have h4 := h3 (j + 1) (by omega) (by omega)
    omega
def CodeIs (B E : Nat → Nat) (lo hi off : Int) (top : Nat) (n : Int) (v : Value) : Prop :=
  ((n < lo ∨ hi < n) ∧ v = .tuple #[.int .i64 0, .int .i64 0, .int .i64 0]) ∨
  ((lo ≤ n ∧ n ≤ hi) ∧ ∃ j, Last_ B top n j ∧ v = .tuple #[.int .i64 (off + (j : Int)), .int .i64 ((E j : Nat) : Int), .int .i64 (n - ((B j : Nat) : Int))])
theorem CodeIs.uniq {B E : Nat → Nat} {lo hi off : Int} {top : Nat} {n : Int} {u v : Value} (h : CodeIs B E lo hi off top n u) (h' : CodeIs B E lo hi off top n v) : u = v := by
  rcases h with ⟨h1, rfl⟩ | ⟨h1, j, hj, rfl⟩ <;> rcases h' with ⟨h2, rfl⟩ | ⟨h2, k, hk, rfl⟩
  · rfl
  · omega
  · omega
  · rw [hj.uniq hk]
end Go.Proofs.Ytlgkiookobedcaa
namespace Go.Proofs.Ytlgkiookobedcaa
def cnt (l : List Int) : Nat → Nat → Nat
  | 0, _ => 0
  | k + 1, v => cnt l k v + if ix l k = (v : Int) then 1 else 0
def nxt (l : List Int) : Nat → Nat
  | 0 => 0
  | 1 => 0
  | v + 2 => 2 * (nxt l (v + 1) + cnt l l.length (v + 1))
def isLen (x : Int) : Bool := decide (1 ≤ x ∧ x ≤ 15)
def codeAt (l : List Int) (i : Nat) : Nat := if isLen (ix l i) then nxt l (ix l i).toNat + cnt l i (ix l i).toNat else 0
def codesOf (l : List Int) : List Int := if l.length ≤ 288 then (List.range l.length).map fun i => (codeAt l i : Int) else []
theorem cnt_le (l : List Int) (k v : Nat) : cnt l k v ≤ k := by
  induction k with
  | zero => simp [cnt]
  | succ k ih => simp only [cnt]; split <;> omega
theorem cnt_mono (l : List Int) (v : Nat) {j k : Nat} (h : j ≤ k) : cnt l j v ≤ cnt l k v := by
  induction k with
  | zero => have : j = 0 := by omega
            subst this; omega
  | succ k ih =>
    by_cases e : j = k + 1
    · subst e; omega
    · have := ih (by omega); simp only [cnt]; split <;> omega
theorem nxt_le (l : List Int) (hl : l.length ≤ 288) (v : Nat) : nxt l v + 576 ≤ 576 * 2 ^ v := by
  induction v with
  | zero => simp [nxt]
  | succ v ih =>
    cases v with
    | zero => simp [nxt]
    | succ v =>
      have := cnt_le l l.length (v + 1)
      simp only [nxt, Nat.pow_succ] at ih ⊢
      omega
theorem nxt_bd (l : List Int) (hl : l.length ≤ 288) {v : Nat} (hv : v ≤ 15) : nxt l v ≤ 18874368 := by
  have h := nxt_le l hl v
  have h2 : 2 ^ v ≤ 2 ^ 15 := Nat.pow_le_pow_right (by omega) hv
  omega
theorem codesOf_length (l : List Int) (h : l.length ≤ 288) : (codesOf l).length = l.length := by simp [codesOf, h]
theorem ix_codesOf (l : List Int) (h : l.length ≤ 288) {i : Nat} (hi : i < l.length) : ix (codesOf l) i = (codeAt l i : Int) := by
  simp [ix, codesOf, h, hi]
end Go.Proofs.Ytlgkiookobedcaa
namespace Go.Proofs.Ytlgkiookobedcaa
set_option linter.unusedVariables false
def Bit (l : List Int) : Prop := ∀ x ∈ l, x = 0 ∨ x = 1
def numI : List Int → Int
  | [] => 0
  | b :: l => b + 2 * numI l
def ofN : Int → Nat → List Int
  | _, 0 => []
  | v, n + 1 => v % 2 :: ofN (v / 2) n
theorem ofN_length (v : Int) (n : Nat) : (ofN v n).length = n := by
  induction n generalizing v with
  | zero => rfl
  | succ n ih => simp [ofN, ih]
theorem Bit.nil_ : Bit [] := fun x h => by cases h
theorem Bit.app {a b : List Int} (h : Bit a) (h' : Bit b) : Bit (a ++ b) := fun x hx => by
  rcases List.mem_append.1 hx with h1 | h1
  · exact h x h1
  · exact h' x h1
theorem Bit.drop_ {a : List Int} (h : Bit a) (k : Nat) : Bit (a.drop k) := fun x hx => h x (List.mem_of_mem_drop hx)
theorem Bit.take_ {a : List Int} (h : Bit a) (k : Nat) : Bit (a.take k) := fun x hx => h x (List.mem_of_mem_take hx)
theorem Bit.ofN (v : Int) (n : Nat) : Bit (ofN v n) := by
  induction n generalizing v with
  | zero => exact Bit.nil_
  | succ n ih =>
    intro x hx
    rcases List.mem_cons.1 hx with rfl | h
    · omega
    · exact ih _ x h
theorem Bit.zeros (n : Nat) : Bit (List.replicate n 0) := fun x hx => .inl (List.eq_of_mem_replicate hx)
theorem numI_append (a b : List Int) : numI (a ++ b) = numI a + 2 ^ a.length * numI b := by
  induction a with
  | nil => simp [numI]
  | cons x a ih => simp only [List.cons_append, numI, ih, List.length_cons, Int.pow_succ]; rw [Int.mul_add, Int.mul_right_comm, Int.mul_comm 2]; omega
theorem numI_bd {l : List Int} (h : Bit l) : 0 ≤ numI l ∧ numI l < 2 ^ l.length := by
  induction l with
  | nil => simp [numI]
  | cons x l ih =>
    have h1 := ih fun y hy => h y (List.mem_cons_of_mem _ hy)
    have h2 := h x (List.mem_cons_self ..)
    simp only [numI, List.length_cons, Int.pow_succ]
    omega
theorem two_pos (n : Nat) : (0 : Int) < 2 ^ n := Int.pow_pos (by omega)
theorem numI_ofN (v : Int) (n : Nat) : numI (ofN v n) = v % 2 ^ n := by
  induction n generalizing v with
  | zero => simp [ofN, numI]
  | succ n ih =>
    have hp := two_pos n
    have h3 := Int.emod_nonneg (v / 2) (b := 2 ^ n) (by omega)
    have h4 := Int.emod_lt_of_pos (v / 2) hp
    have h5 := Int.emod_add_mul_ediv (v / 2) (2 ^ n)
    have key : v % 2 + 2 * (v / 2 % 2 ^ n) + 2 * 2 ^ n * (v / 2 / 2 ^ n) = v := by
      rw [Int.mul_assoc]
      generalize 2 ^ n * (v / 2 / 2 ^ n) = z at *
      omega
    simp only [ofN, numI, ih, Int.pow_succ]
    rw [Int.mul_comm (2 ^ n) 2]
    calc v % 2 + 2 * (v / 2 % 2 ^ n) = (v % 2 + 2 * (v / 2 % 2 ^ n) + 2 * 2 ^ n * (v / 2 / 2 ^ n)) % (2 * 2 ^ n) := by
          rw [Int.add_mul_emod_self_left, Int.emod_eq_of_lt (a := v % 2 + 2 * (v / 2 % 2 ^ n)) (b := 2 * 2 ^ n) (by omega) (by omega)]
      _ = v % (2 * 2 ^ n) := by rw [key]
theorem numI_take {l : List Int} (h : Bit l) (n : Nat) : numI (l.take n) = numI l % 2 ^ n := by
  by_cases hn : n ≤ l.length
  · have e := numI_append (l.take n) (l.drop n)
    rw [List.take_append_drop, List.length_take, Nat.min_eq_left hn] at e
    have hb := numI_bd (h.take_ n)
    rw [List.length_take, Nat.min_eq_left hn] at hb
    rw [e, Int.add_mul_emod_self_left, Int.emod_eq_of_lt hb.1 hb.2]
  · have hb := numI_bd h
    have : (2 : Int) ^ l.length ≤ 2 ^ n := by
      rw [show n = l.length + (n - l.length) by omega, Int.pow_add]
      have := two_pos (n - l.length)
      have h2 := two_pos l.length
      calc (2 : Int) ^ l.length = 2 ^ l.length * 1 := by omega
        _ ≤ 2 ^ l.length * 2 ^ (n - l.length) := Int.mul_le_mul_of_nonneg_left (by omega) (by omega)
    rw [List.take_of_length_le (by omega), Int.emod_eq_of_lt hb.1 (by omega)]
theorem numI_drop {l : List Int} (h : Bit l) (n : Nat) : numI (l.drop n) = numI l / 2 ^ n := by
  by_cases hn : n ≤ l.length
  · have e := numI_append (l.take n) (l.drop n)
    rw [List.take_append_drop, List.length_take, Nat.min_eq_left hn] at e
    have hb := numI_bd (h.take_ n)
    rw [List.length_take, Nat.min_eq_left hn] at hb
    have hp := two_pos n
    rw [e, Int.add_mul_ediv_left _ _ (by omega), Int.ediv_eq_zero_of_lt hb.1 hb.2]
    omega
  · have hb := numI_bd h
    have : (2 : Int) ^ l.length ≤ 2 ^ n := by
      rw [show n = l.length + (n - l.length) by omega, Int.pow_add]
      have := two_pos (n - l.length)
      have h2 := two_pos l.length
      calc (2 : Int) ^ l.length = 2 ^ l.length * 1 := by omega
        _ ≤ 2 ^ l.length * 2 ^ (n - l.length) := Int.mul_le_mul_of_nonneg_left (by omega) (by omega)
    rw [List.drop_eq_nil_of_le (by omega), Int.ediv_eq_zero_of_lt hb.1 (by omega)]
    rfl
theorem ofN_numI {l : List Int} (h : Bit l) : ofN (numI l) l.length = l := by
  induction l with
  | nil => rfl
  | cons x l ih =>
    have h1 := ih fun y hy => h y (List.mem_cons_of_mem _ hy)
    have h2 := h x (List.mem_cons_self ..)
    simp only [numI, List.length_cons, ofN]
    rw [show (x + 2 * numI l) % 2 = x by omega, show (x + 2 * numI l) / 2 = numI l by omega, h1]
theorem ofN_succ (v : Int) (n : Nat) : ofN v (n + 1) = ofN v n ++ [v / 2 ^ n % 2] := by
  induction n generalizing v with
  | zero => simp [ofN]
  | succ n ih =>
    rw [ofN, ih, ofN, List.cons_append]
    congr 4
    rw [Int.pow_succ, Int.mul_comm, Int.ediv_ediv_of_nonneg (by omega)]
theorem ofN_mod (v : Int) (n : Nat) : ofN (v % 2 ^ n) n = ofN v n := by
  have := ofN_numI (Bit.ofN v n)
  rwa [ofN_length, numI_ofN] at this
def byt (l : List Int) : List Int := (List.range (l.length / 8)).map fun i => numI ((l.drop (8 * i)).take 8)
def rest (l : List Int) : List Int := l.drop (8 * (l.length / 8))
def bts : List Int → List Int
  | [] => []
  | b :: l => ofN b 8 ++ bts l
theorem byt_length (l : List Int) : (byt l).length = l.length / 8 := by simp [byt]
theorem rest_length (l : List Int) : (rest l).length = l.length % 8 := by simp [rest]; omega
theorem bts_length (l : List Int) : (bts l).length = 8 * l.length := by
  induction l with
  | nil => rfl
  | cons b l ih => simp [bts, ofN_length, ih]; omega
theorem Bit.rest {l : List Int} (h : Bit l) : Bit (rest l) := h.drop_ _
theorem Bit.bts (l : List Int) : Bit (bts l) := by
  induction l with
  | nil => exact Bit.nil_
  | cons b l ih => exact (Bit.ofN b 8).app ih
theorem byt_small {l : List Int} (h : l.length < 8) : byt l = [] := by unfold byt; rw [Nat.div_eq_of_lt h]; rfl
theorem rest_small {l : List Int} (h : l.length < 8) : rest l = l := by unfold rest; rw [Nat.div_eq_of_lt h]; simp
theorem byt_eight {a : List Int} (h : a.length = 8) (l : List Int) : byt (a ++ l) = numI a :: byt l := by
  unfold byt
  rw [List.length_append, h, show (8 + l.length) / 8 = l.length / 8 + 1 by omega, List.range_succ_eq_map]
  simp only [List.map_cons, List.map_map]
  congr 1
  · rw [Nat.mul_zero, List.drop_zero, List.take_append_of_le_length (by omega), List.take_of_length_le (by omega)]
  · apply List.map_congr_left
    intro i _
    simp only [Function.comp]
    rw [show 8 * (i + 1) = a.length + 8 * i by omega, List.drop_append, List.drop_eq_nil_of_le (by omega), List.nil_append, Nat.add_sub_cancel_left]
theorem rest_eight {a : List Int} (h : a.length = 8) (l : List Int) : rest (a ++ l) = rest l := by
  unfold rest
  rw [List.length_append, h, show 8 * ((8 + l.length) / 8) = a.length + 8 * (l.length / 8) by omega, List.drop_append, List.drop_eq_nil_of_le (by omega), List.nil_append, Nat.add_sub_cancel_left]
theorem split8 {l : List Int} (h : 8 ≤ l.length) : ∃ a b, l = a ++ b ∧ a.length = 8 := ⟨l.take 8, l.drop 8, (List.take_append_drop ..).symm, by simp; omega⟩
theorem byt_app (a x : List Int) : byt (a ++ x) = byt a ++ byt (rest a ++ x) := by
  induction hn : a.length using Nat.strongRecOn generalizing a with
  | _ n ih =>
    by_cases h : a.length < 8
    · rw [byt_small h, rest_small h]; rfl
    · obtain ⟨b, c, rfl, hb⟩ := split8 (l := a) (by omega)
      rw [List.append_assoc, byt_eight hb, byt_eight hb, rest_eight hb, ih c.length (by rw [← hn, List.length_append]; omega) c rfl]
      rfl
theorem rest_app (a x : List Int) : rest (a ++ x) = rest (rest a ++ x) := by
  induction hn : a.length using Nat.strongRecOn generalizing a with
  | _ n ih =>
    by_cases h : a.length < 8
    · rw [rest_small h]
    · obtain ⟨b, c, rfl, hb⟩ := split8 (l := a) (by omega)
      rw [List.append_assoc, rest_eight hb, rest_eight hb, ih c.length (by rw [← hn, List.length_append]; omega) c rfl]
theorem byt_bts {B : List Int} (h : ∀ b ∈ B, 0 ≤ b ∧ b < 256) : byt (bts B) = B := by
  induction B with
  | nil => rfl
  | cons b B ih =>
    have h1 := h b (List.mem_cons_self ..)
    rw [bts, byt_eight (ofN_length b 8), numI_ofN, ih fun y hy => h y (List.mem_cons_of_mem _ hy)]
    congr 1
    omega
theorem rest_bts (B : List Int) : rest (bts B) = [] := by
  unfold rest
  rw [bts_length, Nat.mul_div_cancel_left _ (by omega), ← bts_length, List.drop_length]
theorem bts_append (a b : List Int) : bts (a ++ b) = bts a ++ bts b := by
  induction a with
  | nil => rfl
  | cons x a ih => simp [bts, ih]
theorem bts_byt {l : List Int} (h : Bit l) : bts (byt l) ++ rest l = l := by
  induction hn : l.length using Nat.strongRecOn generalizing l with
  | _ n ih =>
    by_cases h8 : l.length < 8
    · rw [byt_small h8, rest_small h8]; rfl
    · obtain ⟨a, b, rfl, ha⟩ := split8 (l := l) (by omega)
      rw [byt_eight ha, rest_eight ha, bts, List.append_assoc, ih b.length (by rw [← hn, List.length_append]; omega) (fun x hx => h x (List.mem_append_right _ hx)) rfl]
      have := ofN_numI (l := a) fun x hx => h x (List.mem_append_left _ hx)
      rw [ha] at this
      rw [this]
theorem byt_bd {l : List Int} (h : Bit l) : ∀ b ∈ byt l, 0 ≤ b ∧ b < 256 := by
  intro b hb
  obtain ⟨i, hi, rfl⟩ := List.mem_map.1 hb
  have h1 := numI_bd ((h.drop_ (8 * i)).take_ 8)
  have h2 : ((l.drop (8 * i)).take 8).length = 8 := by have := List.mem_range.1 hi; simp; omega
  rw [h2] at h1
  exact h1
theorem byt_even {a : List Int} (h : a.length % 8 = 0) (x : List Int) : byt (a ++ x) = byt a ++ byt x := by
  rw [byt_app]
  have : rest a = [] := List.eq_nil_of_length_eq_zero (by rw [rest_length, h])
  rw [this]; rfl
theorem rest_even {a : List Int} (h : a.length % 8 = 0) (x : List Int) : rest (a ++ x) = rest x := by
  rw [rest_app]
  have : rest a = [] := List.eq_nil_of_length_eq_zero (by rw [rest_length, h])
  rw [this]; rfl
def evn (l : List Int) : List Int := l ++ List.replicate ((8 - l.length % 8) % 8) 0
theorem evn_length (l : List Int) : (evn l).length = l.length + (8 - l.length % 8) % 8 := by simp [evn]
theorem evn_even (l : List Int) : (evn l).length % 8 = 0 := by rw [evn_length]; omega
theorem Bit.evn {l : List Int} (h : Bit l) : Bit (evn l) := h.app (Bit.zeros _)
theorem ofN_zero (n : Nat) : ofN 0 n = List.replicate n 0 := by
  induction n with
  | zero => rfl
  | succ n ih => simp [ofN, ih, List.replicate_succ]
theorem byt_at {l : List Int} {j : Nat} (hj : j < l.length / 8) (h : Bit l) : byt (l.take (8 * (j + 1))) = byt (l.take (8 * j)) ++ [numI (l.drop (8 * j)) % 256] := by
  have e : l.take (8 * (j + 1)) = l.take (8 * j) ++ (l.drop (8 * j)).take 8 := by
    rw [show 8 * (j + 1) = 8 * j + 8 by omega, List.take_add]
  have h8 : ((l.drop (8 * j)).take 8).length = 8 := by simp; omega
  rw [e, byt_even (by simp; omega)]
  congr 1
  have := byt_eight h8 []
  rw [List.append_nil, byt_small (l := []) (by simp)] at this
  rw [this, numI_take (h.drop_ _)]
  rfl
theorem byt_take (l : List Int) : byt (l.take (8 * (l.length / 8))) = byt l := by
  conv => rhs; rw [← List.take_append_drop (8 * (l.length / 8)) l]
  rw [byt_even (by simp; omega), byt_small (l := l.drop _) (by simp; omega), List.append_nil]
theorem rest_drop (l : List Int) : rest l = l.drop (8 * (l.length / 8)) := rfl
end Go.Proofs.Ytlgkiookobedcaa
namespace Go.Proofs.Ytlgkiookobedcaa
def p15 (v : Nat) : Nat := 2 ^ (15 - v)
theorem p15_zero : p15 0 = 32768 := rfl
theorem p15_bd (v : Nat) : 1 ≤ p15 v ∧ p15 v ≤ 32768 := by
  unfold p15
  have h1 : 2 ^ (15 - v) ≤ 2 ^ 15 := Nat.pow_le_pow_right (by omega) (by omega)
  have h2 : 1 ≤ 2 ^ (15 - v) := Nat.one_le_two_pow
  omega
theorem p15_half {v : Nat} (h : v < 15) : p15 v = 2 * p15 (v + 1) := by
  unfold p15
  have : 15 - v = (15 - (v + 1)) + 1 := by omega
  rw [this, Nat.pow_succ]; omega
theorem p15_int (v : Nat) : ((p15 v : Nat) : Int) = 2 ^ (15 - v) := by unfold p15; simp
def share (x : Int) : Nat := if isLen x then p15 x.toNat else 0
def sumTo (l : List Int) : Nat → Nat
  | 0 => 0
  | k + 1 => sumTo l k + share (ix l k)
theorem share_yes {v : Nat} (h1 : 1 ≤ v) (h2 : v ≤ 15) : share (v : Int) = p15 v := by
  unfold share isLen; rw [if_pos (by simp; omega)]; simp
theorem share_no {x : Int} (h : ¬ (1 ≤ x ∧ x ≤ 15)) : share x = 0 := by
  unfold share isLen; rw [if_neg (by simpa using h)]
theorem share_bd (x : Int) : share x ≤ 32768 := by
  unfold share; split
  · exact (p15_bd _).2
  · omega
theorem sumTo_bd (l : List Int) (k : Nat) : sumTo l k ≤ 32768 * k := by
  induction k with
  | zero => simp [sumTo]
  | succ k ih => have := share_bd (ix l k); simp only [sumTo]; omega
def posTo (l : List Int) : Nat → Nat
  | 0 => 0
  | k + 1 => posTo l k + if 0 < ix l k then 1 else 0
theorem posTo_le (l : List Int) (k : Nat) : posTo l k ≤ k := by
  induction k with
  | zero => simp [posTo]
  | succ k ih => simp only [posTo]; split <;> omega
def lowTo (l : List Int) (k : Nat) : Bool := decide (∀ i, i < k → ix l i ≤ 1)
def aloneB (l : List Int) (n : Nat) : Bool := lowTo l n && decide (posTo l n ≤ 1)
def inTo (l : List Int) (most : Int) (k : Nat) : Bool := decide (∀ i, i < k → 0 ≤ ix l i ∧ ix l i ≤ most)
def checkOf (l : List Int) (most : Int) : Int :=
  if most < 1 ∨ 15 < most ∨ 288 < l.length then 1
  else if inTo l most l.length = false then 1
  else if 32768 < sumTo l l.length ∨ (sumTo l l.length < 32768 ∧ aloneB l l.length = false) then 3 else 0
theorem inTo_of {l : List Int} {most : Int} {k : Nat} (h : ∀ i, i < k → 0 ≤ ix l i ∧ ix l i ≤ most) : inTo l most k = true := by simpa [inTo] using h
theorem inTo_not {l : List Int} {most : Int} {n k : Nat} (hk : k < n) (h : ¬ (0 ≤ ix l k ∧ ix l k ≤ most)) : inTo l most n = false := by
  rw [← Bool.not_eq_true]
  intro hh
  have := of_decide_eq_true hh
  exact h (this k hk)
end Go.Proofs.Ytlgkiookobedcaa
namespace Go.Proofs.Ytlgkiookobedcaa
def tot (l : List Int) (k : Nat) : Nat → Nat
  | 0 => 0
  | m + 1 => tot l k m + cnt l k (m + 1) * p15 (m + 1)
theorem tot_step (l : List Int) (k m : Nat) : tot l (k + 1) m = tot l k m + if 1 ≤ ix l k ∧ ix l k ≤ m then p15 (ix l k).toNat else 0 := by
  induction m with
  | zero => simp [tot]; omega
  | succ m ih =>
    simp only [tot, cnt, ih]
    by_cases h : ix l k = ((m + 1 : Nat) : Int)
    · rw [if_pos h, if_neg (by omega), if_pos (by omega), h, Int.toNat_natCast, Nat.add_mul]
      omega
    · simp only [if_neg h, Nat.add_zero]
      by_cases h2 : 1 ≤ ix l k ∧ ix l k ≤ m
      · have h3 : 1 ≤ ix l k ∧ ix l k ≤ ((m + 1 : Nat) : Int) := by omega
        simp only [if_pos h2, if_pos h3]; omega
      · have h3 : ¬ (1 ≤ ix l k ∧ ix l k ≤ ((m + 1 : Nat) : Int)) := by omega
        simp only [if_neg h2, if_neg h3]; omega
theorem tot_sum (l : List Int) (k : Nat) : tot l k 15 = sumTo l k := by
  induction k with
  | zero => simp [tot, cnt, sumTo]
  | succ k ih =>
    rw [tot_step, ih]
    show _ = sumTo l k + share (ix l k)
    congr 1
    unfold share isLen
    by_cases h : 1 ≤ ix l k ∧ ix l k ≤ 15
    · rw [if_pos (by simpa using h), if_pos (by simpa using h)]
    · rw [if_neg (by simpa using h), if_neg (by simpa using h)]
theorem tot_mono (l : List Int) (k : Nat) {m m' : Nat} (h : m ≤ m') : tot l k m ≤ tot l k m' := by
  induction m' with
  | zero => have : m = 0 := by omega
            subst this; omega
  | succ q ih =>
    by_cases e : m = q + 1
    · subst e; omega
    · have := ih (by omega); simp only [tot]; omega
theorem nxt_tot (l : List Int) (v : Nat) (h1 : 1 ≤ v) (h2 : v ≤ 15) : nxt l v * p15 v = tot l l.length (v - 1) := by
  induction v with
  | zero => omega
  | succ v ih =>
    rcases v with _ | v
    · simp [nxt, tot]
    · have hi := ih (by omega) (by omega)
      have hp := p15_half (v := v + 1) (by omega)
      simp only [Nat.add_sub_cancel] at hi ⊢
      show 2 * (nxt l (v + 1) + cnt l l.length (v + 1)) * p15 (v + 1 + 1) = tot l l.length v + cnt l l.length (v + 1) * p15 (v + 1)
      rw [← hi, hp, ← Nat.add_mul, Nat.mul_comm 2 (nxt l (v + 1) + cnt l l.length (v + 1)), Nat.mul_assoc]
def placeOf (l : List Int) (i : Nat) : Nat := codeAt l i * p15 (ix l i).toNat
theorem placeOf_eq {l : List Int} {i v : Nat} (h1 : 1 ≤ v) (h2 : v ≤ 15) (e : ix l i = v) : placeOf l i = tot l l.length (v - 1) + cnt l i v * p15 v := by
  unfold placeOf codeAt isLen
  rw [e, if_pos (by simp; omega), Int.toNat_natCast, Nat.add_mul, nxt_tot l v h1 h2]
theorem cnt_strict {l : List Int} {i k v : Nat} (h : i < k) (e : ix l i = v) : cnt l i v + 1 ≤ cnt l k v := by
  have h1 : cnt l (i + 1) v = cnt l i v + 1 := by simp [cnt, e]
  have h2 := cnt_mono l v (show i + 1 ≤ k by omega)
  omega
theorem place_end {l : List Int} {i v : Nat} (h1 : 1 ≤ v) (h2 : v ≤ 15) (e : ix l i = v) (hi : i < l.length) : placeOf l i + p15 v ≤ tot l l.length v := by
  rw [placeOf_eq h1 h2 e]
  obtain ⟨u, rfl⟩ : ∃ u, v = u + 1 := ⟨v - 1, by omega⟩
  have hc := cnt_strict hi e
  have : (cnt l i (u + 1) + 1) * p15 (u + 1) ≤ cnt l l.length (u + 1) * p15 (u + 1) := Nat.mul_le_mul_right _ hc
  rw [Nat.add_mul] at this
  simp only [tot, Nat.add_sub_cancel]
  omega
theorem p15_mul {u v : Nat} (h : u ≤ v) (hv : v ≤ 15) : p15 u = 2 ^ (v - u) * p15 v := by
  unfold p15
  rw [← Nat.pow_add]; congr 1; omega
theorem code_fits {l : List Int} {i v : Nat} (h1 : 1 ≤ v) (h2 : v ≤ 15) (e : ix l i = v) (hi : i < l.length) (hS : sumTo l l.length ≤ 32768) : codeAt l i < 2 ^ v := by
  have a := place_end h1 h2 e hi
  have b := tot_mono l l.length h2
  rw [tot_sum] at b
  unfold placeOf at a
  rw [e, Int.toNat_natCast] at a
  have c : (codeAt l i + 1) * p15 v ≤ 2 ^ v * p15 v := by
    have := p15_mul (Nat.zero_le v) h2
    rw [p15_zero, Nat.sub_zero] at this
    rw [Nat.add_mul]; omega
  have := Nat.le_of_mul_le_mul_right c (p15_bd v).1
  omega
theorem check_ok {l : List Int} (h : checkOf l 15 = 0) : l.length ≤ 288 ∧ (∀ i, i < l.length → 0 ≤ ix l i ∧ ix l i ≤ 15) ∧ sumTo l l.length ≤ 32768 ∧ (sumTo l l.length = 32768 ∨ aloneB l l.length = true) := by
  unfold checkOf at h
  split at h
  · simp at h
  · split at h
    · simp at h
    · split at h
      · simp at h
      · rename_i h1 h2 h3
        refine ⟨by omega, ?_, by omega, ?_⟩
        · have : inTo l 15 l.length = true := by simpa using h2
          simpa [inTo] using this
        · rcases Nat.lt_or_ge (sumTo l l.length) 32768 with h4 | h4
          · right
            cases ha : aloneB l l.length
            · exact absurd (Or.inr ⟨h4, ha⟩) h3
            · rfl
          · left; omega
end Go.Proofs.Ytlgkiookobedcaa
namespace Go.Proofs.Ytlgkiookobedcaa
set_option linter.unusedVariables false
abbrev El := Int × Option Addr × Nat × Nat
def ps (e : El) : Nat := match e.2.1 with
  | some a => a.block
  | none => 0
def LeE (p q : El) : Prop := p.1 < q.1 ∨ (p.1 = q.1 ∧ ps p ≤ ps q)
theorem LeE.le {p q : El} (h : LeE p q) : p.1 ≤ q.1 := by rcases h with h | h <;> omega
theorem LeE.rfl' (p : El) : LeE p p := .inr ⟨rfl, Nat.le_refl _⟩
theorem LeE.trans {p q r : El} (h : LeE p q) (h' : LeE q r) : LeE p r := by
  rcases h with h | ⟨h, h2⟩ <;> rcases h' with h' | ⟨h', h2'⟩
  · exact .inl (by omega)
  · exact .inl (by omega)
  · exact .inl (by omega)
  · exact .inr ⟨by omega, by omega⟩
theorem LeE.of_le {p q : El} (h : p.1 ≤ q.1) (hs : ps p ≤ ps q) : LeE p q := by
  rcases Int.lt_or_eq_of_le h with h | h
  · exact .inl h
  · exact .inr ⟨h, hs⟩
def SrtE (l : List El) : Prop := l.Pairwise LeE
def Sep (U V : List El) : Prop := ∀ p ∈ U, ∀ q ∈ V, ps p ≤ ps q
def Asc (l : List El) : Prop := l.Pairwise fun p q => ps p ≤ ps q
theorem Sep.perm {U V U' V' : List El} (h : Sep U V) (hU : U'.Perm U) (hV : V'.Perm V) : Sep U' V' := fun p hp q hq => h p (hU.mem_iff.1 hp) q (hV.mem_iff.1 hq)
theorem Sep.sub {U V U' V' : List El} (h : Sep U V) (hU : ∀ p ∈ U', p ∈ U) (hV : ∀ p ∈ V', p ∈ V) : Sep U' V' := fun p hp q hq => h p (hU p hp) q (hV q hq)
theorem Sep.app {U V W : List El} (h : Sep U W) (h' : Sep V W) : Sep (U ++ V) W := fun p hp q hq => by
  rcases List.mem_append.1 hp with hp | hp
  · exact h p hp q hq
  · exact h' p hp q hq
theorem Sep.app' {U V W : List El} (h : Sep W U) (h' : Sep W V) : Sep W (U ++ V) := fun p hp q hq => by
  rcases List.mem_append.1 hq with hq | hq
  · exact h p hp q hq
  · exact h' p hp q hq
theorem Sep.nil_ (U : List El) : Sep U [] := fun p _ q hq => by simp at hq
theorem Sep.nil' (U : List El) : Sep [] U := fun p hp => by simp at hp
theorem asc_app {U V : List El} : Asc (U ++ V) ↔ Asc U ∧ Asc V ∧ Sep U V := List.pairwise_append
theorem sep_push {U V W : List El} {x : El} (h : Sep U (x :: V) ∧ Asc (x :: V)) (hw : ∀ p ∈ W, p = x ∨ p ∈ U) : Sep W V ∧ Asc V := by
  obtain ⟨a1, a2⟩ := List.pairwise_cons.1 h.2
  refine ⟨fun p hp q hq => ?_, a2⟩
  rcases hw p hp with rfl | hp
  · exact a1 q hq
  · exact h.1 p hp q (List.mem_cons_of_mem _ hq)
def el (D : List El) (i : Nat) : El := D.getD i (0, none, 0, 0)
section
variable {X Y Q U V U1 U2 V1 V2 Z1 Z2 D : List El} {x y : El} {i j s : Nat}
theorem SrtE.nil_ : SrtE [] := List.Pairwise.nil
theorem srt_app : SrtE (U ++ V) ↔ SrtE U ∧ SrtE V ∧ ∀ p ∈ U, ∀ q ∈ V, LeE p q := List.pairwise_append
theorem el_app_left (h : i < X.length) : el (X ++ Y) i = el X i := by unfold el; rw [List.getD_eq_getElem?_getD, List.getD_eq_getElem?_getD, List.getElem?_append_left h]
theorem el_app_right (h : X.length ≤ i) : el (X ++ Y) i = el Y (i - X.length) := by unfold el; rw [List.getD_eq_getElem?_getD, List.getD_eq_getElem?_getD, List.getElem?_append_right h]
theorem el_mid (h : i = X.length) : el (X ++ x :: Y) i = x := by subst h; rw [el_app_right (Nat.le_refl _), Nat.sub_self]; rfl
theorem el_mem (h : i < D.length) : el D i ∈ D := by
  unfold el
  rw [List.getD_eq_getElem?_getD, List.getElem?_eq_getElem h]
  exact List.getElem_mem h
def swp (D : List El) (i j : Nat) : List El := (D.set i (el D j)).set j (el D i)
theorem swp_length : (swp D i j).length = D.length := by simp [swp]
theorem swp_mid (hi : i = X.length) (hj : j = X.length + 1 + Q.length) : swp (X ++ x :: (Q ++ y :: Y)) i j = X ++ y :: (Q ++ x :: Y) := by
  have e1 : el (X ++ x :: (Q ++ y :: Y)) i = x := el_mid hi
  have e2 : el (X ++ x :: (Q ++ y :: Y)) j = y := by
    have : X ++ x :: (Q ++ y :: Y) = (X ++ x :: Q) ++ y :: Y := by simp
    rw [this]
    exact el_mid (by rw [hj]; simp; omega)
  unfold swp
  rw [e1, e2]
  subst hi hj
  have s1 : (X ++ x :: (Q ++ y :: Y)).set X.length y = (X ++ y :: Q) ++ y :: Y := by
    rw [List.set_append_right _ _ (Nat.le_refl _), Nat.sub_self]
    simp
  rw [s1]
  have hl : (X ++ y :: Q).length = X.length + 1 + Q.length := by simp; omega
  rw [← hl, List.set_append_right _ _ (Nat.le_refl _), Nat.sub_self]
  simp
theorem swp_comm (D : List El) (i j : Nat) : swp D i j = swp D j i := by
  unfold swp
  by_cases h : i = j
  · subst h; rfl
  · rw [List.set_comm _ _ h]
theorem swp_mem (hi : i < D.length) (hj : j < D.length) : ∀ p ∈ swp D i j, p ∈ D := fun p hp => by
  unfold swp at hp
  rcases List.mem_or_eq_of_mem_set hp with h | h
  · rcases List.mem_or_eq_of_mem_set h with h | h
    · exact h
    · rw [h]; exact el_mem hj
  · rw [h]; exact el_mem hi
theorem ins_srt (hU : SrtE (U1 ++ U2)) (h2 : ∀ q ∈ U2, LeE x q) (h1 : ∀ p ∈ U1, LeE p x) : SrtE (U1 ++ x :: U2) := by
  obtain ⟨a, b, c⟩ := srt_app.1 hU
  refine srt_app.2 ⟨a, List.pairwise_cons.2 ⟨h2, b⟩, fun p hp q hq => ?_⟩
  rcases List.mem_cons.1 hq with rfl | hq
  · exact h1 p hp
  · exact c p hp q hq
theorem srt_last (h : SrtE (U ++ [y])) (hy : LeE y x) : ∀ p ∈ U ++ [y], LeE p x := fun p hp => by
  rcases List.mem_append.1 hp with h1 | h1
  · exact ((srt_app.1 h).2.2 p h1 y List.mem_cons_self).trans hy
  · rw [List.mem_singleton.1 h1]; exact hy
theorem srt_below (hU : SrtE U) (hV : SrtE V) (h : 0 < U.length → 0 < V.length → LeE (el U (U.length - 1)) (el V 0)) : ∀ p ∈ U, ∀ q ∈ V, LeE p q := fun p hp q hq => by
  have h1 : 0 < U.length := List.length_pos_of_mem hp
  have h2 : 0 < V.length := List.length_pos_of_mem hq
  have h3 := h h1 h2
  have hl : LeE p (el U (U.length - 1)) := by
    obtain ⟨U', z, e⟩ : ∃ U' z, U = U' ++ [z] := ⟨U.dropLast, U.getLast (by intro e; rw [e] at h1; simp at h1), by rw [List.dropLast_concat_getLast]⟩
    subst e
    have e2 : el (U' ++ [z]) ((U' ++ [z]).length - 1) = z := el_mid (by simp)
    rw [e2]
    exact srt_last hU (LeE.rfl' _) p hp
  have hr : LeE (el V 0) q := by
    cases V with
    | nil => simp at hq
    | cons v V =>
      rcases List.mem_cons.1 hq with rfl | hq
      · exact LeE.rfl' _
      · exact (List.pairwise_cons.1 hV).1 q hq
  exact hl.trans (h3.trans hr)
theorem sym_join (hU : SrtE (U1 ++ U2)) (hV : SrtE (V1 ++ V2)) (h1 : Z1.Perm (U1 ++ V1)) (s1 : SrtE Z1) (h2 : Z2.Perm (U2 ++ V2)) (s2 : SrtE Z2)
    (c1 : 0 < U1.length → 0 < V2.length → LeE (el U1 (U1.length - 1)) (el V2 0)) (c2 : 0 < V1.length → 0 < U2.length → LeE (el V1 (V1.length - 1)) (el U2 0)) :
    SrtE (Z1 ++ Z2) ∧ (Z1 ++ Z2).Perm ((U1 ++ U2) ++ (V1 ++ V2)) := by
  obtain ⟨u1, u2, u3⟩ := srt_app.1 hU
  obtain ⟨v1, v2, v3⟩ := srt_app.1 hV
  have d1 := srt_below u1 v2 c1
  have d2 := srt_below v1 u2 c2
  refine ⟨srt_app.2 ⟨s1, s2, fun p hp q hq => ?_⟩, ?_⟩
  · rcases List.mem_append.1 (h1.mem_iff.1 hp) with hp | hp <;> rcases List.mem_append.1 (h2.mem_iff.1 hq) with hq | hq
    · exact u3 p hp q hq
    · exact d1 p hp q hq
    · exact d2 p hp q hq
    · exact v3 p hp q hq
  · refine (h1.append h2).trans ?_
    have e1 : (U1 ++ V1) ++ (U2 ++ V2) = U1 ++ ((V1 ++ U2) ++ V2) := by simp
    have e2 : (U1 ++ U2) ++ (V1 ++ V2) = U1 ++ ((U2 ++ V1) ++ V2) := by simp
    rw [e1, e2]
    exact List.Perm.append_left _ (List.Perm.append_right _ List.perm_append_comm)
inductive Chk (s : Nat) : List El → Prop
  | last {c : List El} : c.length ≤ s → SrtE c → Chk s c
  | more {c D : List El} : c.length = s → SrtE c → Sep c D → Chk s D → Chk s (c ++ D)
def Pre (s : Nat) (P : List El) : Prop := ∀ R, Chk s R → Sep P R → Chk s (P ++ R)
theorem Pre.nil_ (s : Nat) : Pre s [] := fun R h _ => h
theorem Pre.more {P c : List El} (h : Pre s P) (hc : c.length = s) (hs : SrtE c) (hsp : Sep P c) : Pre s (P ++ c) := fun R hR hse => by
  rw [List.append_assoc]
  exact h _ (.more hc hs (hse.sub (fun p hp => List.mem_append_right _ hp) fun p hp => hp) hR) (hsp.app' (hse.sub (fun p hp => List.mem_append_left _ hp) fun p hp => hp))
theorem Chk.srt (h : Chk s D) (hl : D.length ≤ s) : SrtE D := by
  cases h with
  | last _ h => exact h
  | @more c D hc hs hse hD =>
    have : D = [] := List.eq_nil_of_length_eq_zero (by rw [List.length_append] at hl; omega)
    rw [this, List.append_nil]; exact hs
theorem Chk.head (h : Chk s D) (hl : s ≤ D.length) : ∃ c R, D = c ++ R ∧ c.length = s ∧ SrtE c ∧ Chk s R ∧ Sep c R := by
  cases h with
  | last h1 h2 => exact ⟨D, [], by simp, by omega, h2, .last (Nat.zero_le _) SrtE.nil_, Sep.nil_ _⟩
  | @more c R hc hs hse hD => exact ⟨c, R, rfl, hc, hs, hD, hse⟩
end
end Go.Proofs.Ytlgkiookobedcaa
