/-
  Words for memory: the reference's stream that is read.
-/
import Derived.Test.YtoegpffdbfkcpaaProg
import Derived.Test.YtoegpffdbfkcpaaInfM
import Derived.Test.YtoegpffdbfkcpaaPk
namespace Go.Proofs.Ytoegpffdbfkcpaa
open Go.RowKit
set_option linter.unusedVariables false

structure RM where
  Ao : Option Addr
  no : Nat
  co : Nat
  out : List Int
  E : Int
  rest : Int
  Ak : Option Addr
  nk : Nat
  ck : Nat
  kinds : List Int
  As : Option Addr
  ns : Nat
  cs : Nat
  stops : List Int
  Ab : Option Addr
  nb : Nat
  cb : Nat
  X : List Int
  at_ : Nat
  most : Int
  Al : Value
  Ad : Value
  Alc : Value
  Adc : Value
  At : Option Addr
  nt : Nat
  ct : Nat
  toks : List Tok
def sF (R : RM) : Nat → Value
  | 0 => .slice R.Ao R.no R.co
  | 1 => .int .i64 R.E
  | 2 => .int .i64 R.rest
  | 3 => .slice R.Ak R.nk R.ck
  | 4 => .slice R.As R.ns R.cs
  | 5 => .slice R.Ab R.nb R.cb
  | 6 => .int .i64 (R.at_ : Nat)
  | 7 => .int .i64 R.most
  | 8 => R.Al
  | 9 => R.Ad
  | 10 => R.Alc
  | 11 => R.Adc
  | _ => .slice R.At R.nt R.ct
theorem all13 {P : Nat → Prop} (h0 : P 0) (h1 : P 1) (h2 : P 2) (h3 : P 3) (h4 : P 4) (h5 : P 5) (h6 : P 6) (h7 : P 7) (h8 : P 8) (h9 : P 9) (h10 : P 10) (h11 : P 11) (h12 : P 12) : ∀ j, j < 13 → P j := fun j hj => by
  obtain rfl | rfl | rfl | rfl | rfl | rfl | rfl | rfl | rfl | rfl | rfl | rfl | rfl : j = 0 ∨ j = 1 ∨ j = 2 ∨ j = 3 ∨ j = 4 ∨ j = 5 ∨ j = 6 ∨ j = 7 ∨ j = 8 ∨ j = 9 ∨ j = 10 ∨ j = 11 ∨ j = 12 := by omega
  all_goals assumption
theorem Chg.ownT {w w' : World} {S : Nat → Prop} {b0 n c : Nat} {A : Option Addr} {l : List Tok} (h : Chg w w' S) (ha : OwnT w b0 A n c l) (hS : ∀ g, blkOf A = some g → ¬ S g) : OwnT w' b0 A n c l := ⟨ha.1, h.own ha.2 hS⟩
structure RefM (w : World) (b0 g : Nat) (c : Nat → Nat) (R : RM) : Prop where
  cell : Ar w g 13 (sF R)
  cg : c g = 1
  out : OwnI .u8 w b0 5 R.Ao R.no R.co R.out
  cout : ∀ k, blkOf R.Ao = some k → c k = 2
  kinds : OwnI .i64 w b0 3 R.Ak R.nk R.ck R.kinds
  ckinds : ∀ k, blkOf R.Ak = some k → c k = 3
  stops : OwnI .i64 w b0 3 R.As R.ns R.cs R.stops
  cstops : ∀ k, blkOf R.As = some k → c k = 4
  toks : OwnT w b0 R.At R.nt R.ct R.toks
  ctoks : ∀ k, blkOf R.At = some k → c k = 5
  bits : OwnI .u8 w b0 5 R.Ab R.nb R.cb R.X
  cbits : ∀ k, blkOf R.Ab = some k → c k = 6
  cb : ∀ k, c k ≠ 0 → b0 ≤ k ∧ k < w.heap.size
def RefS (w0 : World) (c0 : Nat → Nat) (w : World) (b0 g : Nat) (R : RM) : Prop := ∃ c, RefM w b0 g c R ∧ DE b0 w0 c0 w c
section
variable {w w' w0 : World} {b0 g : Nat} {c c0 : Nat → Nat} {R R' : RM}
theorem RefM.refl (h : RefM w b0 g c R) : RefS w c w b0 g R := ⟨c, h, Below.refl _ _, Chg.refl _ _, fun _ _ => rfl⟩
theorem RefM.lo (h : RefM w b0 g c R) : b0 ≤ w.heap.size := by have := h.cb g (by rw [h.cg]; decide); omega
theorem RefS.rebase (hM : RefM w b0 g c R) (hd : DE b0 w0 c0 w c) (h : RefS w c w' b0 g R') : RefS w0 c0 w' b0 g R' := by
  obtain ⟨c', h1, h2⟩ := h
  exact ⟨c', h1, hd.step hM.lo (fun k hk => (hM.cb k hk).1) h2.2.1 h2.2.2⟩
/-- blocks turn that are nobody's -/
theorem RefM.aside {F : Nat → Prop} (h : RefM w b0 g c R) (hc : Chg w w' F) (hF : ∀ k, F k → c k = 0) : RefM w' b0 g c R :=
  ⟨hc.ar h.cell (fun e => by have := hF g e; have := h.cg; omega), h.cg, hc.ownI h.out (fun k hk e => by have := hF k e; have := h.cout k hk; omega), h.cout,
    hc.ownI h.kinds (fun k hk e => by have := hF k e; have := h.ckinds k hk; omega), h.ckinds,
    hc.ownI h.stops (fun k hk e => by have := hF k e; have := h.cstops k hk; omega), h.cstops,
    hc.ownT h.toks (fun k hk e => by have := hF k e; have := h.ctoks k hk; omega), h.ctoks,
    hc.ownI h.bits (fun k hk e => by have := hF k e; have := h.cbits k hk; omega), h.cbits,
    fun k hk => ⟨(h.cb k hk).1, Nat.lt_of_lt_of_le (h.cb k hk).2 hc.size⟩⟩
theorem RefM.keeps (h : RefM w b0 g c R) (hb : Below w.heap.size w w') : RefM w' b0 g c R := h.aside (F := fun _ => False) (Chg.of_below hb) (fun k hk => hk.elim)
/-- a cell of its own turns -/
theorem RefM.put (h : RefM w b0 g c R) {i : Nat} (hi : i < 13) (v : Value) (R' : RM) (hF : ∀ j, j < 13 → upd (sF R) i v j = sF R' j) (hR : R' = { R with E := R'.E, rest := R'.rest, at_ := R'.at_, most := R'.most, Al := R'.Al, Ad := R'.Ad, Alc := R'.Alc, Adc := R'.Adc }) : RefM (w.setCell ⟨g, i, none⟩ v) b0 g c R' := by
  have hc : Chg w (w.setCell ⟨g, i, none⟩ v) (fun k => k = g) := (Chg.refl w (fun k => k = g)).setCell (p := ⟨g, i, none⟩) (.inl rfl) v
  refine ⟨(h.cell.set_ hi v).congr hF, h.cg, ?_, ?_, ?_, ?_, ?_, ?_, ?_, ?_, ?_, ?_, fun k hk => ⟨(h.cb k hk).1, Nat.lt_of_lt_of_le (h.cb k hk).2 hc.size⟩⟩
  all_goals rw [hR]
  · exact hc.ownI h.out (fun k hk e => by have := h.cout k hk; have := h.cg; subst e; omega)
  · exact h.cout
  · exact hc.ownI h.kinds (fun k hk e => by have := h.ckinds k hk; have := h.cg; subst e; omega)
  · exact h.ckinds
  · exact hc.ownI h.stops (fun k hk e => by have := h.cstops k hk; have := h.cg; subst e; omega)
  · exact h.cstops
  · exact hc.ownT h.toks (fun k hk e => by have := h.ctoks k hk; have := h.cg; subst e; omega)
  · exact h.ctoks
  · exact hc.ownI h.bits (fun k hk e => by have := h.cbits k hk; have := h.cg; subst e; omega)
  · exact h.cbits
/-- its cells turn, and its out -/
theorem RefM.nout (h : RefM w b0 g c R) {A' : Option Addr} {n' c' : Nat} {l' : List Int} (hc : Chg w w' (fun k => k = g ∨ blkOf R.Ao = some k)) (ha : Ar w' g 13 (sF { R with Ao := A', no := n', co := c', out := l' })) (hr : OwnI .u8 w' b0 5 A' n' c' l')
    (hf : ∀ k, blkOf A' = some k → blkOf R.Ao = some k ∨ w.heap.size ≤ k) :
    RefM w' b0 g (colour c w.heap.size (fun k => blkOf A' = some k) 2) { R with Ao := A', no := n', co := c', out := l' } := by
  have hF : ∀ k, (k = g ∨ blkOf R.Ao = some k) → c k = 1 ∨ c k = 2 := fun k hk => by
    rcases hk with rfl | hk
    · exact .inl h.cg
    · exact .inr (h.cout k hk)
  have hlt : ∀ k i, c k = i → i ≠ 0 → k < w.heap.size := fun k i h1 h2 => (h.cb k (by omega)).2
  have hold : ∀ k, k < w.heap.size → colour c w.heap.size (fun k => blkOf A' = some k) 2 k = c k := fun k hk => colour_old hk
  have hkeep : ∀ k i, c k = i → i ≠ 0 → colour c w.heap.size (fun k => blkOf A' = some k) 2 k = i := fun k i h1 h2 => (hold k (hlt k i h1 h2)).trans h1
  exact ⟨ha, hkeep _ _ h.cg (by decide),
    hr, fun k hk => by
      rcases Nat.lt_or_ge k w.heap.size with h1 | h1
      · rcases hf k hk with h2 | h2
        · exact hkeep k 2 (h.cout k h2) (by decide)
        · omega
      · exact colour_new h1 hk,
    hc.ownI h.kinds (fun k hk e => by have := hF k e; have := h.ckinds k hk; omega), fun k hk => hkeep k 3 (h.ckinds k hk) (by decide),
    hc.ownI h.stops (fun k hk e => by have := hF k e; have := h.cstops k hk; omega), fun k hk => hkeep k 4 (h.cstops k hk) (by decide),
    hc.ownT h.toks (fun k hk e => by have := hF k e; have := h.ctoks k hk; omega), fun k hk => hkeep k 5 (h.ctoks k hk) (by decide),
    hc.ownI h.bits (fun k hk e => by have := hF k e; have := h.cbits k hk; omega), fun k hk => hkeep k 6 (h.cbits k hk) (by decide),
    fun k hk => by
      rcases colour_ne hk with ⟨h1, h2⟩ | ⟨h1, h2⟩
      · exact ⟨(h.cb k h2).1, Nat.lt_of_lt_of_le h1 hc.size⟩
      · exact hr.2.lt h2⟩
theorem RefS.nout (h : RefS w0 c0 w b0 g R) {A' : Option Addr} {n' c' : Nat} {l' : List Int} (hc : Chg w w' (fun k => k = g ∨ blkOf R.Ao = some k)) (ha : Ar w' g 13 (sF { R with Ao := A', no := n', co := c', out := l' })) (hr : OwnI .u8 w' b0 5 A' n' c' l')
    (hf : ∀ k, blkOf A' = some k → blkOf R.Ao = some k ∨ w.heap.size ≤ k) : RefS w0 c0 w' b0 g { R with Ao := A', no := n', co := c', out := l' } := by
  obtain ⟨c, h, hd⟩ := h
  exact ⟨_, h.nout hc ha hr hf, hd.step h.lo (fun k hk => (h.cb k hk).1) (hc.more fun k hk => by
    rcases hk with rfl | hk
    · rw [h.cg]; decide
    · rw [h.cout k hk]; decide) fun k hk => colour_old hk⟩
/-- its cells turn, and its kinds -/
theorem RefM.nkinds (h : RefM w b0 g c R) {A' : Option Addr} {n' c' : Nat} {l' : List Int} (hc : Chg w w' (fun k => k = g ∨ blkOf R.Ak = some k)) (ha : Ar w' g 13 (sF { R with Ak := A', nk := n', ck := c', kinds := l' })) (hr : OwnI .i64 w' b0 3 A' n' c' l')
    (hf : ∀ k, blkOf A' = some k → blkOf R.Ak = some k ∨ w.heap.size ≤ k) :
    RefM w' b0 g (colour c w.heap.size (fun k => blkOf A' = some k) 3) { R with Ak := A', nk := n', ck := c', kinds := l' } := by
  have hF : ∀ k, (k = g ∨ blkOf R.Ak = some k) → c k = 1 ∨ c k = 3 := fun k hk => by
    rcases hk with rfl | hk
    · exact .inl h.cg
    · exact .inr (h.ckinds k hk)
  have hlt : ∀ k i, c k = i → i ≠ 0 → k < w.heap.size := fun k i h1 h2 => (h.cb k (by omega)).2
  have hold : ∀ k, k < w.heap.size → colour c w.heap.size (fun k => blkOf A' = some k) 3 k = c k := fun k hk => colour_old hk
  have hkeep : ∀ k i, c k = i → i ≠ 0 → colour c w.heap.size (fun k => blkOf A' = some k) 3 k = i := fun k i h1 h2 => (hold k (hlt k i h1 h2)).trans h1
  exact ⟨ha, hkeep _ _ h.cg (by decide),
    hc.ownI h.out (fun k hk e => by have := hF k e; have := h.cout k hk; omega), fun k hk => hkeep k 2 (h.cout k hk) (by decide),
    hr, fun k hk => by
      rcases Nat.lt_or_ge k w.heap.size with h1 | h1
      · rcases hf k hk with h2 | h2
        · exact hkeep k 3 (h.ckinds k h2) (by decide)
        · omega
      · exact colour_new h1 hk,
    hc.ownI h.stops (fun k hk e => by have := hF k e; have := h.cstops k hk; omega), fun k hk => hkeep k 4 (h.cstops k hk) (by decide),
    hc.ownT h.toks (fun k hk e => by have := hF k e; have := h.ctoks k hk; omega), fun k hk => hkeep k 5 (h.ctoks k hk) (by decide),
    hc.ownI h.bits (fun k hk e => by have := hF k e; have := h.cbits k hk; omega), fun k hk => hkeep k 6 (h.cbits k hk) (by decide),
    fun k hk => by
      rcases colour_ne hk with ⟨h1, h2⟩ | ⟨h1, h2⟩
      · exact ⟨(h.cb k h2).1, Nat.lt_of_lt_of_le h1 hc.size⟩
      · exact hr.2.lt h2⟩
theorem RefS.nkinds (h : RefS w0 c0 w b0 g R) {A' : Option Addr} {n' c' : Nat} {l' : List Int} (hc : Chg w w' (fun k => k = g ∨ blkOf R.Ak = some k)) (ha : Ar w' g 13 (sF { R with Ak := A', nk := n', ck := c', kinds := l' })) (hr : OwnI .i64 w' b0 3 A' n' c' l')
    (hf : ∀ k, blkOf A' = some k → blkOf R.Ak = some k ∨ w.heap.size ≤ k) : RefS w0 c0 w' b0 g { R with Ak := A', nk := n', ck := c', kinds := l' } := by
  obtain ⟨c, h, hd⟩ := h
  exact ⟨_, h.nkinds hc ha hr hf, hd.step h.lo (fun k hk => (h.cb k hk).1) (hc.more fun k hk => by
    rcases hk with rfl | hk
    · rw [h.cg]; decide
    · rw [h.ckinds k hk]; decide) fun k hk => colour_old hk⟩
/-- its cells turn, and its stops -/
theorem RefM.nstops (h : RefM w b0 g c R) {A' : Option Addr} {n' c' : Nat} {l' : List Int} (hc : Chg w w' (fun k => k = g ∨ blkOf R.As = some k)) (ha : Ar w' g 13 (sF { R with As := A', ns := n', cs := c', stops := l' })) (hr : OwnI .i64 w' b0 3 A' n' c' l')
    (hf : ∀ k, blkOf A' = some k → blkOf R.As = some k ∨ w.heap.size ≤ k) :
    RefM w' b0 g (colour c w.heap.size (fun k => blkOf A' = some k) 4) { R with As := A', ns := n', cs := c', stops := l' } := by
  have hF : ∀ k, (k = g ∨ blkOf R.As = some k) → c k = 1 ∨ c k = 4 := fun k hk => by
    rcases hk with rfl | hk
    · exact .inl h.cg
    · exact .inr (h.cstops k hk)
  have hlt : ∀ k i, c k = i → i ≠ 0 → k < w.heap.size := fun k i h1 h2 => (h.cb k (by omega)).2
  have hold : ∀ k, k < w.heap.size → colour c w.heap.size (fun k => blkOf A' = some k) 4 k = c k := fun k hk => colour_old hk
  have hkeep : ∀ k i, c k = i → i ≠ 0 → colour c w.heap.size (fun k => blkOf A' = some k) 4 k = i := fun k i h1 h2 => (hold k (hlt k i h1 h2)).trans h1
  exact ⟨ha, hkeep _ _ h.cg (by decide),
    hc.ownI h.out (fun k hk e => by have := hF k e; have := h.cout k hk; omega), fun k hk => hkeep k 2 (h.cout k hk) (by decide),
    hc.ownI h.kinds (fun k hk e => by have := hF k e; have := h.ckinds k hk; omega), fun k hk => hkeep k 3 (h.ckinds k hk) (by decide),
    hr, fun k hk => by
      rcases Nat.lt_or_ge k w.heap.size with h1 | h1
      · rcases hf k hk with h2 | h2
        · exact hkeep k 4 (h.cstops k h2) (by decide)
        · omega
      · exact colour_new h1 hk,
    hc.ownT h.toks (fun k hk e => by have := hF k e; have := h.ctoks k hk; omega), fun k hk => hkeep k 5 (h.ctoks k hk) (by decide),
    hc.ownI h.bits (fun k hk e => by have := hF k e; have := h.cbits k hk; omega), fun k hk => hkeep k 6 (h.cbits k hk) (by decide),
    fun k hk => by
      rcases colour_ne hk with ⟨h1, h2⟩ | ⟨h1, h2⟩
      · exact ⟨(h.cb k h2).1, Nat.lt_of_lt_of_le h1 hc.size⟩
      · exact hr.2.lt h2⟩
theorem RefS.nstops (h : RefS w0 c0 w b0 g R) {A' : Option Addr} {n' c' : Nat} {l' : List Int} (hc : Chg w w' (fun k => k = g ∨ blkOf R.As = some k)) (ha : Ar w' g 13 (sF { R with As := A', ns := n', cs := c', stops := l' })) (hr : OwnI .i64 w' b0 3 A' n' c' l')
    (hf : ∀ k, blkOf A' = some k → blkOf R.As = some k ∨ w.heap.size ≤ k) : RefS w0 c0 w' b0 g { R with As := A', ns := n', cs := c', stops := l' } := by
  obtain ⟨c, h, hd⟩ := h
  exact ⟨_, h.nstops hc ha hr hf, hd.step h.lo (fun k hk => (h.cb k hk).1) (hc.more fun k hk => by
    rcases hk with rfl | hk
    · rw [h.cg]; decide
    · rw [h.cstops k hk]; decide) fun k hk => colour_old hk⟩
/-- its cells turn, and its toks -/
theorem RefM.ntoks (h : RefM w b0 g c R) {A' : Option Addr} {n' c' : Nat} {l' : List Tok} (hc : Chg w w' (fun k => k = g ∨ blkOf R.At = some k)) (ha : Ar w' g 13 (sF { R with At := A', nt := n', ct := c', toks := l' })) (hr : OwnT w' b0 A' n' c' l')
    (hf : ∀ k, blkOf A' = some k → blkOf R.At = some k ∨ w.heap.size ≤ k) :
    RefM w' b0 g (colour c w.heap.size (fun k => blkOf A' = some k) 5) { R with At := A', nt := n', ct := c', toks := l' } := by
  have hF : ∀ k, (k = g ∨ blkOf R.At = some k) → c k = 1 ∨ c k = 5 := fun k hk => by
    rcases hk with rfl | hk
    · exact .inl h.cg
    · exact .inr (h.ctoks k hk)
  have hlt : ∀ k i, c k = i → i ≠ 0 → k < w.heap.size := fun k i h1 h2 => (h.cb k (by omega)).2
  have hold : ∀ k, k < w.heap.size → colour c w.heap.size (fun k => blkOf A' = some k) 5 k = c k := fun k hk => colour_old hk
  have hkeep : ∀ k i, c k = i → i ≠ 0 → colour c w.heap.size (fun k => blkOf A' = some k) 5 k = i := fun k i h1 h2 => (hold k (hlt k i h1 h2)).trans h1
  exact ⟨ha, hkeep _ _ h.cg (by decide),
    hc.ownI h.out (fun k hk e => by have := hF k e; have := h.cout k hk; omega), fun k hk => hkeep k 2 (h.cout k hk) (by decide),
    hc.ownI h.kinds (fun k hk e => by have := hF k e; have := h.ckinds k hk; omega), fun k hk => hkeep k 3 (h.ckinds k hk) (by decide),
    hc.ownI h.stops (fun k hk e => by have := hF k e; have := h.cstops k hk; omega), fun k hk => hkeep k 4 (h.cstops k hk) (by decide),
    hr, fun k hk => by
      rcases Nat.lt_or_ge k w.heap.size with h1 | h1
      · rcases hf k hk with h2 | h2
        · exact hkeep k 5 (h.ctoks k h2) (by decide)
        · omega
      · exact colour_new h1 hk,
    hc.ownI h.bits (fun k hk e => by have := hF k e; have := h.cbits k hk; omega), fun k hk => hkeep k 6 (h.cbits k hk) (by decide),
    fun k hk => by
      rcases colour_ne hk with ⟨h1, h2⟩ | ⟨h1, h2⟩
      · exact ⟨(h.cb k h2).1, Nat.lt_of_lt_of_le h1 hc.size⟩
      · exact hr.2.lt h2⟩
theorem RefS.ntoks (h : RefS w0 c0 w b0 g R) {A' : Option Addr} {n' c' : Nat} {l' : List Tok} (hc : Chg w w' (fun k => k = g ∨ blkOf R.At = some k)) (ha : Ar w' g 13 (sF { R with At := A', nt := n', ct := c', toks := l' })) (hr : OwnT w' b0 A' n' c' l')
    (hf : ∀ k, blkOf A' = some k → blkOf R.At = some k ∨ w.heap.size ≤ k) : RefS w0 c0 w' b0 g { R with At := A', nt := n', ct := c', toks := l' } := by
  obtain ⟨c, h, hd⟩ := h
  exact ⟨_, h.ntoks hc ha hr hf, hd.step h.lo (fun k hk => (h.cb k hk).1) (hc.more fun k hk => by
    rcases hk with rfl | hk
    · rw [h.cg]; decide
    · rw [h.ctoks k hk]; decide) fun k hk => colour_old hk⟩
theorem RefS.keeps (h : RefS w0 c0 w b0 g R) (hb : Below w.heap.size w w') : RefS w0 c0 w' b0 g R := by
  obtain ⟨c, h, hd⟩ := h
  exact ⟨c, h.keeps hb, hd.step h.lo (fun k hk => (h.cb k hk).1) (Chg.of_below hb) fun k hk => rfl⟩
theorem RefS.drewN (h : RefS w0 c0 w b0 g R) (q : Nat) : RefS w0 c0 (w.drewN q) b0 g R := h.keeps (below_drewN (Below.refl _ _) q)
theorem RefS.drew (h : RefS w0 c0 w b0 g R) : RefS w0 c0 w.drew b0 g R := h.keeps (Below.refl _ _).drew
theorem RefS.put (h : RefS w0 c0 w b0 g R) {i : Nat} (hi : i < 13) (v : Value) (R' : RM) (hF : ∀ j, j < 13 → upd (sF R) i v j = sF R' j) (hR : R' = { R with E := R'.E, rest := R'.rest, at_ := R'.at_, most := R'.most, Al := R'.Al, Ad := R'.Ad, Alc := R'.Alc, Adc := R'.Adc }) : RefS w0 c0 (w.setCell ⟨g, i, none⟩ v) b0 g R' := by
  obtain ⟨c, h, hd⟩ := h
  exact ⟨c, h.put hi v R' hF hR, hd.step h.lo (fun k hk => (h.cb k hk).1) ((Chg.refl w (fun k => c k ≠ 0)).setCell (p := ⟨g, i, none⟩) (.inl (by rw [h.cg]; decide)) v) fun k hk => rfl⟩
theorem RefS.cell (h : RefS w0 c0 w b0 g R) : Ar w g 13 (sF R) := by obtain ⟨c, h, hd⟩ := h; exact h.cell
theorem RefS.out (h : RefS w0 c0 w b0 g R) : OwnI .u8 w b0 5 R.Ao R.no R.co R.out := by obtain ⟨c, h, hd⟩ := h; exact h.out
theorem RefS.kinds (h : RefS w0 c0 w b0 g R) : OwnI .i64 w b0 3 R.Ak R.nk R.ck R.kinds := by obtain ⟨c, h, hd⟩ := h; exact h.kinds
theorem RefS.stops (h : RefS w0 c0 w b0 g R) : OwnI .i64 w b0 3 R.As R.ns R.cs R.stops := by obtain ⟨c, h, hd⟩ := h; exact h.stops
theorem RefS.toks (h : RefS w0 c0 w b0 g R) : OwnT w b0 R.At R.nt R.ct R.toks := by obtain ⟨c, h, hd⟩ := h; exact h.toks
theorem RefS.bits (h : RefS w0 c0 w b0 g R) : OwnI .u8 w b0 5 R.Ab R.nb R.cb R.X := by obtain ⟨c, h, hd⟩ := h; exact h.bits
theorem RefS.lo (h : RefS w0 c0 w b0 g R) : b0 ≤ w.heap.size := by obtain ⟨c, h, hd⟩ := h; exact h.lo
theorem RefS.apart (h : RefS w0 c0 w b0 g R) : blkOf R.Ao ≠ some g ∧ blkOf R.Ak ≠ some g ∧ blkOf R.As ≠ some g ∧ blkOf R.At ≠ some g := by
  obtain ⟨c, h, hd⟩ := h
  have hg := h.cg
  exact ⟨fun e => by have := h.cout g e; omega, fun e => by have := h.ckinds g e; omega, fun e => by have := h.cstops g e; omega, fun e => by have := h.ctoks g e; omega⟩
/-- what lies aside from w0 on stays as it is -/
theorem RefS.aside (h : RefS w0 c0 w b0 g R) : Chg w0 w (fun k => c0 k ≠ 0) ∧ Below b0 w0 w := by obtain ⟨c, h, hd⟩ := h; exact ⟨hd.2.1, hd.1⟩
theorem RefS.cells (h : RefS w0 c0 w b0 g R) : w.cell? ⟨g, 0, none⟩ = some (.slice R.Ao R.no R.co) ∧ w.cell? ⟨g, 1, none⟩ = some (.int .i64 R.E) ∧ w.cell? ⟨g, 2, none⟩ = some (.int .i64 R.rest) ∧ w.cell? ⟨g, 3, none⟩ = some (.slice R.Ak R.nk R.ck) ∧ w.cell? ⟨g, 4, none⟩ = some (.slice R.As R.ns R.cs) ∧ w.cell? ⟨g, 5, none⟩ = some (.slice R.Ab R.nb R.cb) ∧
    w.cell? ⟨g, 6, none⟩ = some (.int .i64 (R.at_ : Nat)) ∧ w.cell? ⟨g, 7, none⟩ = some (.int .i64 R.most) ∧ w.cell? ⟨g, 8, none⟩ = some R.Al ∧ w.cell? ⟨g, 9, none⟩ = some R.Ad ∧ w.cell? ⟨g, 10, none⟩ = some R.Alc ∧ w.cell? ⟨g, 11, none⟩ = some R.Adc ∧ w.cell? ⟨g, 12, none⟩ = some (.slice R.At R.nt R.ct) := by
  have k := h.cell
  exact ⟨k.cell (i := 0) (by omega), k.cell (i := 1) (by omega), k.cell (i := 2) (by omega), k.cell (i := 3) (by omega), k.cell (i := 4) (by omega), k.cell (i := 5) (by omega), k.cell (i := 6) (by omega), k.cell (i := 7) (by omega), k.cell (i := 8) (by omega), k.cell (i := 9) (by omega), k.cell (i := 10) (by omega), k.cell (i := 11) (by omega), k.cell (i := 12) (by omega)⟩
end
end Go.Proofs.Ytoegpffdbfkcpaa
