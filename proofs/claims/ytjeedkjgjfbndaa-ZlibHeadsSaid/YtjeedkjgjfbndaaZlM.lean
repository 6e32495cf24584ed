/-
  Words for memory: a zlib decoder.
-/
import Derived.Test.YtjeedkjgjfbndaaZlP
import Derived.Test.YtjeedkjgjfbndaaOwnO
namespace Go.Proofs.Ytjeedkjgjfbndaa
open Go.RowKit
set_option linter.unusedVariables false
/-- what it holds itself -/
structure ZR where
  m : Nat
  A : Option Addr
  n : Nat
  cp : Nat
  l : List Int
  p : Option Addr
  beh : Bool
  ovr : Bool
  sum : Int
  en : Bool
  err : Int
def zF (Z : ZR) : Nat → Value
  | 0 => .int .i64 Z.m
  | 1 => .slice Z.A Z.n Z.cp
  | 2 => .pointer Z.p
  | 3 => .bool Z.beh
  | 4 => .bool Z.ovr
  | 5 => .int .u32 Z.sum
  | 6 => .bool Z.en
  | _ => .int .i64 Z.err
theorem all8 {P : Nat → Prop} (h0 : P 0) (h1 : P 1) (h2 : P 2) (h3 : P 3) (h4 : P 4) (h5 : P 5) (h6 : P 6) (h7 : P 7) : ∀ j, j < 8 → P j := fun j hj => by
  obtain rfl | rfl | rfl | rfl | rfl | rfl | rfl | rfl : j = 0 ∨ j = 1 ∨ j = 2 ∨ j = 3 ∨ j = 4 ∨ j = 5 ∨ j = 6 ∨ j = 7 := by omega
  all_goals assumption
/-- its blocks -/
def zX (g : Nat) (c : Nat → Nat) (A : Option Addr) : Nat → Prop := fun k => k = g ∨ blkOf A = some k ∨ c k ≠ 0
/-- what may have turned: below b0 nothing, nothing beside E; E' is what it holds then -/
def Ext (b0 : Nat) (w w' : World) (E E' : Nat → Prop) : Prop := Below b0 w w' ∧ Chg w w' E ∧ ∀ k, E' k → E k ∨ w.heap.size ≤ k
structure ZlC (w : World) (b0 g : Nat) (c : Nat → Nat) (Z : ZR) : Prop where
  cell : Ar w g 8 (zF Z)
  lo : b0 ≤ g
  own : OwnO .u8 w b0 5 Z.A Z.n Z.cp Z.l
  by_ : ∀ v ∈ Z.l, 0 ≤ v ∧ v < 256
  cg : c g = 0
  cA : ∀ k, blkOf Z.A = some k → k ≠ g ∧ c k = 0
  cb : ∀ k, c k ≠ 0 → b0 ≤ k ∧ k < w.heap.size
  sm : 0 ≤ Z.sum ∧ Z.sum < 4294967296
/-- where it stands: x is fed, a has come out -/
def ZPh (w : World) (b0 : Nat) (c : Nat → Nat) (x a : List Int) (Z : ZR) : Prop :=
  (Z.p = none ∧ Z.beh = false ∧ Z.ovr = false ∧ Z.l = x ∧ a = [] ∧ ∀ k, c k = 0) ∨
  (∃ bI gd M S, Z.p = some ⟨gd, 0, none⟩ ∧ b0 ≤ bI ∧ InfM w bI gd c M S ∧ zHd x = 0 ∧
    ((Z.beh = false ∧ Z.ovr = false ∧ Z.A = none ∧ Z.n = 0 ∧ Z.cp = 0 ∧ Z.l = [] ∧ ZIn (zFin x Z.m) (a ++ M.out) M S ∧ M.out.length ≤ 70000) ∨
     (Z.beh = true ∧ (zFin x Z.m).2 = 8 ∧ a = (zFin x Z.m).1.all ∧ ∃ R, bts R = (zFin x Z.m).1.x ∧ (∀ v ∈ R, 0 ≤ v ∧ v < 256) ∧ ((Z.ovr = false ∧ Z.l = R) ∨ (Z.ovr = true ∧ 4 ≤ R.length ∧ big4 R = Z.sum ∧ Z.l = R.drop 4)))))
section
variable {w w' w'' : World} {b0 g : Nat} {c c' : Nat → Nat} {Z Z' : ZR} {x a : List Int} {E E' E'' : Nat → Prop}
theorem Ext.refl (b0 : Nat) (w : World) (E : Nat → Prop) : Ext b0 w w E E := ⟨Below.refl _ _, Chg.refl _ _, fun k h => .inl h⟩
theorem Ext.trans (h : Ext b0 w w' E E') (h' : Ext b0 w' w'' E' E'') : Ext b0 w w'' E E'' :=
  ⟨h.1.trans h'.1, h.2.1.trans h'.2.1 h.2.2, fun k hk => by
    rcases h'.2.2 k hk with h1 | h1
    · exact h.2.2 k h1
    · exact .inr (Nat.le_trans h.1.size h1)⟩
theorem Ext.of (hc : Chg w w' E) (hE : ∀ k, E k → b0 ≤ k) (hb : b0 ≤ w.heap.size) (he : ∀ k, E' k → E k ∨ w.heap.size ≤ k) : Ext b0 w w' E E' := ⟨hc.below hE hb, hc, he⟩
theorem ZlC.xlo (h : ZlC w b0 g c Z) : ∀ k, zX g c Z.A k → b0 ≤ k := fun k hk => by
  rcases hk with rfl | hk | hk
  · exact h.lo
  · exact (h.own.lt hk).1
  · exact (h.cb k hk).1
theorem ZlC.xlt (h : ZlC w b0 g c Z) : ∀ k, zX g c Z.A k → k < w.heap.size := fun k hk => by
  rcases hk with rfl | hk | hk
  · exact h.cell.lt
  · exact (h.own.lt hk).2
  · exact (h.cb k hk).2
theorem ZlC.low (h : ZlC w b0 g c Z) : b0 ≤ w.heap.size := Nat.le_trans h.lo (Nat.le_of_lt h.cell.lt)
theorem ZlC.cells (h : ZlC w b0 g c Z) : w.cell? ⟨g, 0, none⟩ = some (.int .i64 Z.m) ∧ w.cell? ⟨g, 1, none⟩ = some (.slice Z.A Z.n Z.cp) ∧ w.cell? ⟨g, 2, none⟩ = some (.pointer Z.p) ∧ w.cell? ⟨g, 3, none⟩ = some (.bool Z.beh) ∧ w.cell? ⟨g, 4, none⟩ = some (.bool Z.ovr) ∧
    w.cell? ⟨g, 5, none⟩ = some (.int .u32 Z.sum) ∧ w.cell? ⟨g, 6, none⟩ = some (.bool Z.en) ∧ w.cell? ⟨g, 7, none⟩ = some (.int .i64 Z.err) :=
  ⟨h.cell.cell (by omega), h.cell.cell (by omega), h.cell.cell (by omega), h.cell.cell (by omega), h.cell.cell (by omega), h.cell.cell (by omega), h.cell.cell (by omega), h.cell.cell (by omega)⟩
theorem ZlC.frz (h : ZlC w b0 g c Z) {i : Nat} (hi : i < 8) : w.frozen? ⟨g, i, none⟩ = false := h.cell.frozen' hi
/-- its own cells turn -/
theorem ZlC.turn (h : ZlC w b0 g c Z) (hc : Chg w w' (fun k => k = g)) (ha : Ar w' g 8 (zF Z')) (hA : Z'.A = Z.A ∧ Z'.n = Z.n ∧ Z'.cp = Z.cp ∧ Z'.l = Z.l) (hs : 0 ≤ Z'.sum ∧ Z'.sum < 4294967296) : ZlC w' b0 g c Z' := by
  obtain ⟨h1, h2, h3, h4⟩ := hA
  exact ⟨ha, h.lo, by rw [h1, h2, h3, h4]; exact h.own.chg hc (fun k hk e => (h.cA k hk).1 e), by rw [h4]; exact h.by_, h.cg, by rw [h1]; exact h.cA, fun k hk => ⟨(h.cb k hk).1, Nat.lt_of_lt_of_le (h.cb k hk).2 hc.size⟩, hs⟩
theorem ZlC.chg {F : Nat → Prop} (h : ZlC w b0 g c Z) (hc : Chg w w' F) (hF : ∀ k, F k → k ≠ g ∧ blkOf Z.A ≠ some k) (hcb : ∀ k, c' k ≠ 0 → b0 ≤ k ∧ k < w'.heap.size) (hg : c' g = 0) (hA : ∀ k, blkOf Z.A = some k → c' k = 0) : ZlC w' b0 g c' Z :=
  ⟨hc.ar h.cell (fun e => (hF g e).1 rfl), h.lo, h.own.chg hc (fun k hk e => (hF k e).2 hk), h.by_, hg, fun k hk => ⟨(h.cA k hk).1, hA k hk⟩, hcb, h.sm⟩
theorem ZlC.keeps (h : ZlC w b0 g c Z) (hb : Below w.heap.size w w') : ZlC w' b0 g c Z :=
  ⟨h.cell.keeps hb, h.lo, h.own.keeps hb, h.by_, h.cg, h.cA, fun k hk => ⟨(h.cb k hk).1, Nat.lt_of_lt_of_le (h.cb k hk).2 hb.size⟩, h.sm⟩
theorem ZPh.keeps (h : ZPh w b0 c x a Z) (hb : Below w.heap.size w w') : ZPh w' b0 c x a Z := by
  rcases h with h | ⟨bI, gd, M, S, h1, h2, h3, h4⟩
  · exact .inl h
  · exact .inr ⟨bI, gd, M, S, h1, h2, h3.keeps hb, h4⟩
/-- blocks turn that are not the body's -/
theorem ZPh.aside {F : Nat → Prop} (h : ZPh w b0 c x a Z) (hc : Chg w w' F) (hF : ∀ k, F k → c k = 0) (hZ : Z'.m = Z.m ∧ Z'.A = Z.A ∧ Z'.n = Z.n ∧ Z'.cp = Z.cp ∧ Z'.l = Z.l ∧ Z'.p = Z.p ∧ Z'.beh = Z.beh ∧ Z'.ovr = Z.ovr ∧ Z'.sum = Z.sum) : ZPh w' b0 c x a Z' := by
  obtain ⟨e1, e2, e3, e4, e5, e6, e7, e8, e9⟩ := hZ
  unfold ZPh at h ⊢
  rw [e1, e2, e3, e4, e5, e6, e7, e8, e9]
  rcases h with h | ⟨bI, gd, M, S, h1, h2, h3, h4⟩
  · exact .inl h
  · exact .inr ⟨bI, gd, M, S, h1, h2, h3.aside hc hF, h4⟩
end
end Go.Proofs.Ytjeedkjgjfbndaa
