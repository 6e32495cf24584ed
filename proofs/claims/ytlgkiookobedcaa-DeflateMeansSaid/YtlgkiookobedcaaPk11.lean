/-
  Several texts in one (written by pack2.py): RfM, RefI, RefV, TRead, ICutP.
-/
import Derived.Test.YtlgkiookobedcaaProg
import Derived.Test.YtlgkiookobedcaaPk3
import Derived.Test.YtlgkiookobedcaaPk9
import Derived.Test.YtlgkiookobedcaaPk10
import Derived.Test.YtlgkiookobedcaaPk2
import Derived.Test.YtlgkiookobedcaaPk4
import Derived.Test.YtlgkiookobedcaaPk5
import Derived.Test.YtlgkiookobedcaaPk6
import Derived.Test.YtlgkiookobedcaaPk8
import Derived.Deep.QuietTactic
namespace Go.Proofs.Ytlgkiookobedcaa
open Go.RowKit
set_option linter.unusedVariables false
structure RM where
  Ao : Option Addr
  no : Nat
  co : Nat
  out : List Int
  E : Int
  rest : Int
  Ak : Option Addr
  nk : Nat
  ck : Nat
  kinds : List Int
  As : Option Addr
  ns : Nat
  cs : Nat
  stops : List Int
  Ab : Option Addr
  nb : Nat
  cb : Nat
  X : List Int
  at_ : Nat
  most : Int
  Al : Value
  Ad : Value
  Alc : Value
  Adc : Value
  At : Option Addr
  nt : Nat
  ct : Nat
  toks : List Tok
def sF (R : RM) : Nat → Value
  | 0 => .slice R.Ao R.no R.co
  | 1 => .int .i64 R.E
  | 2 => .int .i64 R.rest
  | 3 => .slice R.Ak R.nk R.ck
  | 4 => .slice R.As R.ns R.cs
  | 5 => .slice R.Ab R.nb R.cb
  | 6 => .int .i64 (R.at_ : Nat)
  | 7 => .int .i64 R.most
  | 8 => R.Al
  | 9 => R.Ad
  | 10 => R.Alc
  | 11 => R.Adc
  | _ => .slice R.At R.nt R.ct
theorem all13 {P : Nat → Prop} (h0 : P 0) (h1 : P 1) (h2 : P 2) (h3 : P 3) (h4 : P 4) (h5 : P 5) (h6 : P 6) (h7 : P 7) (h8 : P 8) (h9 : P 9) (h10 : P 10) (h11 : P 11) (h12 : P 12) : ∀ j, j < 13 → P j := fun j hj => by
  obtain rfl | rfl | rfl | rfl | rfl | rfl | rfl | rfl | rfl | rfl | rfl | rfl | rfl : j = 0 ∨ j = 1 ∨ j = 2 ∨ j = 3 ∨ j = 4 ∨ j = 5 ∨ j = 6 ∨ j = 7 ∨ j = 8 ∨ j = 9 ∨ j = 10 ∨ j = 11 ∨ j = 12 := by omega
  all_goals assumption
theorem Chg.ownT {w w' : World} {S : Nat → Prop} {b0 n c : Nat} {A : Option Addr} {l : List Tok} (h : Chg w w' S) (ha : OwnT w b0 A n c l) (hS : ∀ g, blkOf A = some g → ¬ S g) : OwnT w' b0 A n c l := ⟨ha.1, h.own ha.2 hS⟩
structure RefM (w : World) (b0 g : Nat) (c : Nat → Nat) (R : RM) : Prop where
  cell : Ar w g 13 (sF R)
  cg : c g = 1
  out : OwnI .u8 w b0 5 R.Ao R.no R.co R.out
  cout : ∀ k, blkOf R.Ao = some k → c k = 2
  kinds : OwnI .i64 w b0 3 R.Ak R.nk R.ck R.kinds
  ckinds : ∀ k, blkOf R.Ak = some k → c k = 3
  stops : OwnI .i64 w b0 3 R.As R.ns R.cs R.stops
  cstops : ∀ k, blkOf R.As = some k → c k = 4
  toks : OwnT w b0 R.At R.nt R.ct R.toks
  ctoks : ∀ k, blkOf R.At = some k → c k = 5
  bits : OwnI .u8 w b0 5 R.Ab R.nb R.cb R.X
  cbits : ∀ k, blkOf R.Ab = some k → c k = 6
  cb : ∀ k, c k ≠ 0 → b0 ≤ k ∧ k < w.heap.size
def RefS (w0 : World) (c0 : Nat → Nat) (w : World) (b0 g : Nat) (R : RM) : Prop := ∃ c, RefM w b0 g c R ∧ DE b0 w0 c0 w c
section
variable {w w' w0 : World} {b0 g : Nat} {c c0 : Nat → Nat} {R R' : RM}
theorem RefM.refl (h : RefM w b0 g c R) : RefS w c w b0 g R := ⟨c, h, Below.refl _ _, Chg.refl _ _, fun _ _ => rfl⟩
theorem RefM.lo (h : RefM w b0 g c R) : b0 ≤ w.heap.size := by have := h.cb g (by rw [h.cg]; decide); omega
theorem RefS.rebase (hM : RefM w b0 g c R) (hd : DE b0 w0 c0 w c) (h : RefS w c w' b0 g R') : RefS w0 c0 w' b0 g R' := by
  obtain ⟨c', h1, h2⟩ := h
  exact ⟨c', h1, hd.step hM.lo (fun k hk => (hM.cb k hk).1) h2.2.1 h2.2.2⟩
theorem RefM.aside {F : Nat → Prop} (h : RefM w b0 g c R) (hc : Chg w w' F) (hF : ∀ k, F k → c k = 0) : RefM w' b0 g c R :=
  ⟨hc.ar h.cell (fun e => by have := hF g e; have := h.cg; omega), h.cg, hc.ownI h.out (fun k hk e => by have := hF k e; have := h.cout k hk; omega), h.cout,
    hc.ownI h.kinds (fun k hk e => by have := hF k e; have := h.ckinds k hk; omega), h.ckinds,
    hc.ownI h.stops (fun k hk e => by have := hF k e; have := h.cstops k hk; omega), h.cstops,
    hc.ownT h.toks (fun k hk e => by have := hF k e; have := h.ctoks k hk; omega), h.ctoks,
    hc.ownI h.bits (fun k hk e => by have := hF k e; have := h.cbits k hk; omega), h.cbits,
    fun k hk => ⟨(h.cb k hk).1, Nat.lt_of_lt_of_le (h.cb k hk).2 hc.size⟩⟩
theorem RefM.keeps (h : RefM w b0 g c R) (hb : Below w.heap.size w w') : RefM w' b0 g c R := h.aside (F := fun _ => False) (Chg.of_below hb) (fun k hk => hk.elim)
theorem RefM.put (h : RefM w b0 g c R) {i : Nat} (hi : i < 13) (v : Value) (R' : RM) (hF : ∀ j, j < 13 → upd (sF R) i v j = sF R' j) (hR : R' = { R with E := R'.E, rest := R'.rest, at_ := R'.at_, most := R'.most, Al := R'.Al, Ad := R'.Ad, Alc := R'.Alc, Adc := R'.Adc }) : RefM (w.setCell ⟨g, i, none⟩ v) b0 g c R' := by
  have hc : Chg w (w.setCell ⟨g, i, none⟩ v) (fun k => k = g) := (Chg.refl w (fun k => k = g)).setCell (p := ⟨g, i, none⟩) (.inl rfl) v
  refine ⟨(h.cell.set_ hi v).congr hF, h.cg, ?_, ?_, ?_, ?_, ?_, ?_, ?_, ?_, ?_, ?_, fun k hk => ⟨(h.cb k hk).1, Nat.lt_of_lt_of_le (h.cb k hk).2 hc.size⟩⟩
  all_goals rw [hR]
  · exact hc.ownI h.out (fun k hk e => by have := h.cout k hk; have := h.cg; subst e; omega)
  · exact h.cout
  · exact hc.ownI h.kinds (fun k hk e => by have := h.ckinds k hk; have := h.cg; subst e; omega)
  · exact h.ckinds
  · exact hc.ownI h.stops (fun k hk e => by have := h.cstops k hk; have := h.cg; subst e; omega)
  · exact h.cstops
  · exact hc.ownT h.toks (fun k hk e => by have := h.ctoks k hk; have := h.cg; subst e; omega)
  · exact h.ctoks
  · exact hc.ownI h.bits (fun k hk e => by have := h.cbits k hk; have := h.cg; subst e; omega)
  · exact h.cbits
theorem RefM.nout (h : RefM w b0 g c R) {A' : Option Addr} {n' c' : Nat} {l' : List Int} (hc : Chg w w' (fun k => k = g ∨ blkOf R.Ao = some k)) (ha : Ar w' g 13 (sF { R with Ao := A', no := n', co := c', out := l' })) (hr : OwnI .u8 w' b0 5 A' n' c' l')
    (hf : ∀ k, blkOf A' = some k → blkOf R.Ao = some k ∨ w.heap.size ≤ k) :
    RefM w' b0 g (colour c w.heap.size (fun k => blkOf A' = some k) 2) { R with Ao := A', no := n', co := c', out := l' } := by
  have hF : ∀ k, (k = g ∨ blkOf R.Ao = some k) → c k = 1 ∨ c k = 2 := fun k hk => by
    rcases hk with rfl | hk
    · exact .inl h.cg
    · exact .inr (h.cout k hk)
  have hlt : ∀ k i, c k = i → i ≠ 0 → k < w.heap.size := fun k i h1 h2 => (h.cb k (by omega)).2
  have hold : ∀ k, k < w.heap.size → colour c w.heap.size (fun k => blkOf A' = some k) 2 k = c k := fun k hk => colour_old hk
  have hkeep : ∀ k i, c k = i → i ≠ 0 → colour c w.heap.size (fun k => blkOf A' = some k) 2 k = i := fun k i h1 h2 => (hold k (hlt k i h1 h2)).trans h1
  exact ⟨ha, hkeep _ _ h.cg (by decide),
    hr, fun k hk => by
      rcases Nat.lt_or_ge k w.heap.size with h1 | h1
      · rcases hf k hk with h2 | h2
        · exact hkeep k 2 (h.cout k h2) (by decide)
        · omega
      · exact colour_new h1 hk,
    hc.ownI h.kinds (fun k hk e => by have := hF k e; have := h.ckinds k hk; omega), fun k hk => hkeep k 3 (h.ckinds k hk) (by decide),
    hc.ownI h.stops (fun k hk e => by have := hF k e; have := h.cstops k hk; omega), fun k hk => hkeep k 4 (h.cstops k hk) (by decide),
    hc.ownT h.toks (fun k hk e => by have := hF k e; have := h.ctoks k hk; omega), fun k hk => hkeep k 5 (h.ctoks k hk) (by decide),
    hc.ownI h.bits (fun k hk e => by have := hF k e; have := h.cbits k hk; omega), fun k hk => hkeep k 6 (h.cbits k hk) (by decide),
    fun k hk => by
      rcases colour_ne hk with ⟨h1, h2⟩ | ⟨h1, h2⟩
      · exact ⟨(h.cb k h2).1, Nat.lt_of_lt_of_le h1 hc.size⟩
      · exact hr.2.lt h2⟩
theorem RefS.nout (h : RefS w0 c0 w b0 g R) {A' : Option Addr} {n' c' : Nat} {l' : List Int} (hc : Chg w w' (fun k => k = g ∨ blkOf R.Ao = some k)) (ha : Ar w' g 13 (sF { R with Ao := A', no := n', co := c', out := l' })) (hr : OwnI .u8 w' b0 5 A' n' c' l')
    (hf : ∀ k, blkOf A' = some k → blkOf R.Ao = some k ∨ w.heap.size ≤ k) : RefS w0 c0 w' b0 g { R with Ao := A', no := n', co := c', out := l' } := by
  obtain ⟨c, h, hd⟩ := h
  exact ⟨_, h.nout hc ha hr hf, hd.step h.lo (fun k hk => (h.cb k hk).1) (hc.more fun k hk => by
    rcases hk with rfl | hk
    · rw [h.cg]; decide
    · rw [h.cout k hk]; decide) fun k hk => colour_old hk⟩
theorem RefM.nkinds (h : RefM w b0 g c R) {A' : Option Addr} {n' c' : Nat} {l' : List Int} (hc : Chg w w' (fun k => k = g ∨ blkOf R.Ak = some k)) (ha : Ar w' g 13 (sF { R with Ak := A', nk := n', ck := c', kinds := l' })) (hr : OwnI .i64 w' b0 3 A' n' c' l')
    (hf : ∀ k, blkOf A' = some k → blkOf R.Ak = some k ∨ w.heap.size ≤ k) :
    RefM w' b0 g (colour c w.heap.size (fun k => blkOf A' = some k) 3) { R with Ak := A', nk := n', ck := c', kinds := l' } := by
  have hF : ∀ k, (k = g ∨ blkOf R.Ak = some k) → c k = 1 ∨ c k = 3 := fun k hk => by
    rcases hk with rfl | hk
    · exact .inl h.cg
    · exact .inr (h.ckinds k hk)
  have hlt : ∀ k i, c k = i → i ≠ 0 → k < w.heap.size := fun k i h1 h2 => (h.cb k (by omega)).2
  have hold : ∀ k, k < w.heap.size → colour c w.heap.size (fun k => blkOf A' = some k) 3 k = c k := fun k hk => colour_old hk
  have hkeep : ∀ k i, c k = i → i ≠ 0 → colour c w.heap.size (fun k => blkOf A' = some k) 3 k = i := fun k i h1 h2 => (hold k (hlt k i h1 h2)).trans h1
  exact ⟨ha, hkeep _ _ h.cg (by decide),
    hc.ownI h.out (fun k hk e => by have := hF k e; have := h.cout k hk; omega), fun k hk => hkeep k 2 (h.cout k hk) (by decide),
    hr, fun k hk => by
      rcases Nat.lt_or_ge k w.heap.size with h1 | h1
      · rcases hf k hk with h2 | h2
        · exact hkeep k 3 (h.ckinds k h2) (by decide)
        · omega
      · exact colour_new h1 hk,
    hc.ownI h.stops (fun k hk e => by have := hF k e; have := h.cstops k hk; omega), fun k hk => hkeep k 4 (h.cstops k hk) (by decide),
    hc.ownT h.toks (fun k hk e => by have := hF k e; have := h.ctoks k hk; omega), fun k hk => hkeep k 5 (h.ctoks k hk) (by decide),
    hc.ownI h.bits (fun k hk e => by have := hF k e; have := h.cbits k hk; omega), fun k hk => hkeep k 6 (h.cbits k hk) (by decide),
    fun k hk => by
      rcases colour_ne hk with ⟨h1, h2⟩ | ⟨h1, h2⟩
      · exact ⟨(h.cb k h2).1, Nat.lt_of_lt_of_le h1 hc.size⟩
      · exact hr.2.lt h2⟩
theorem RefS.nkinds (h : RefS w0 c0 w b0 g R) {A' : Option Addr} {n' c' : Nat} {l' : List Int} (hc : Chg w w' (fun k => k = g ∨ blkOf R.Ak = some k)) (ha : Ar w' g 13 (sF { R with Ak := A', nk := n', ck := c', kinds := l' })) (hr : OwnI .i64 w' b0 3 A' n' c' l')
    (hf : ∀ k, blkOf A' = some k → blkOf R.Ak = some k ∨ w.heap.size ≤ k) : RefS w0 c0 w' b0 g { R with Ak := A', nk := n', ck := c', kinds := l' } := by
  obtain ⟨c, h, hd⟩ := h
  exact ⟨_, h.nkinds hc ha hr hf, hd.step h.lo (fun k hk => (h.cb k hk).1) (hc.more fun k hk => by
    rcases hk with rfl | hk
    · rw [h.cg]; decide
    · rw [h.ckinds k hk]; decide) fun k hk => colour_old hk⟩
theorem RefM.nstops (h : RefM w b0 g c R) {A' : Option Addr} {n' c' : Nat} {l' : List Int} (hc : Chg w w' (fun k => k = g ∨ blkOf R.As = some k)) (ha : Ar w' g 13 (sF { R with As := A', ns := n', cs := c', stops := l' })) (hr : OwnI .i64 w' b0 3 A' n' c' l')
    (hf : ∀ k, blkOf A' = some k → blkOf R.As = some k ∨ w.heap.size ≤ k) :
    RefM w' b0 g (colour c w.heap.size (fun k => blkOf A' = some k) 4) { R with As := A', ns := n', cs := c', stops := l' } := by
  have hF : ∀ k, (k = g ∨ blkOf R.As = some k) → c k = 1 ∨ c k = 4 := fun k hk => by
    rcases hk with rfl | hk
    · exact .inl h.cg
    · exact .inr (h.cstops k hk)
  have hlt : ∀ k i, c k = i → i ≠ 0 → k < w.heap.size := fun k i h1 h2 => (h.cb k (by omega)).2
  have hold : ∀ k, k < w.heap.size → colour c w.heap.size (fun k => blkOf A' = some k) 4 k = c k := fun k hk => colour_old hk
  have hkeep : ∀ k i, c k = i → i ≠ 0 → colour c w.heap.size (fun k => blkOf A' = some k) 4 k = i := fun k i h1 h2 => (hold k (hlt k i h1 h2)).trans h1
  exact ⟨ha, hkeep _ _ h.cg (by decide),
    hc.ownI h.out (fun k hk e => by have := hF k e; have := h.cout k hk; omega), fun k hk => hkeep k 2 (h.cout k hk) (by decide),
    hc.ownI h.kinds (fun k hk e => by have := hF k e; have := h.ckinds k hk; omega), fun k hk => hkeep k 3 (h.ckinds k hk) (by decide),
    hr, fun k hk => by
      rcases Nat.lt_or_ge k w.heap.size with h1 | h1
      · rcases hf k hk with h2 | h2
        · exact hkeep k 4 (h.cstops k h2) (by decide)
        · omega
      · exact colour_new h1 hk,
    hc.ownT h.toks (fun k hk e => by have := hF k e; have := h.ctoks k hk; omega), fun k hk => hkeep k 5 (h.ctoks k hk) (by decide),
    hc.ownI h.bits (fun k hk e => by have := hF k e; have := h.cbits k hk; omega), fun k hk => hkeep k 6 (h.cbits k hk) (by decide),
    fun k hk => by
      rcases colour_ne hk with ⟨h1, h2⟩ | ⟨h1, h2⟩
      · exact ⟨(h.cb k h2).1, Nat.lt_of_lt_of_le h1 hc.size⟩
      · exact hr.2.lt h2⟩
theorem RefS.nstops (h : RefS w0 c0 w b0 g R) {A' : Option Addr} {n' c' : Nat} {l' : List Int} (hc : Chg w w' (fun k => k = g ∨ blkOf R.As = some k)) (ha : Ar w' g 13 (sF { R with As := A', ns := n', cs := c', stops := l' })) (hr : OwnI .i64 w' b0 3 A' n' c' l')
    (hf : ∀ k, blkOf A' = some k → blkOf R.As = some k ∨ w.heap.size ≤ k) : RefS w0 c0 w' b0 g { R with As := A', ns := n', cs := c', stops := l' } := by
  obtain ⟨c, h, hd⟩ := h
  exact ⟨_, h.nstops hc ha hr hf, hd.step h.lo (fun k hk => (h.cb k hk).1) (hc.more fun k hk => by
    rcases hk with rfl | hk
    · rw [h.cg]; decide
    · rw [h.cstops k hk]; decide) fun k hk => colour_old hk⟩
theorem RefM.ntoks (h : RefM w b0 g c R) {A' : Option Addr} {n' c' : Nat} {l' : List Tok} (hc : Chg w w' (fun k => k = g ∨ blkOf R.At = some k)) (ha : Ar w' g 13 (sF { R with At := A', nt := n', ct := c', toks := l' })) (hr : OwnT w' b0 A' n' c' l')
    (hf : ∀ k, blkOf A' = some k → blkOf R.At = some k ∨ w.heap.size ≤ k) :
    RefM w' b0 g (colour c w.heap.size (fun k => blkOf A' = some k) 5) { R with At := A', nt := n', ct := c', toks := l' } := by
  have hF : ∀ k, (k = g ∨ blkOf R.At = some k) → c k = 1 ∨ c k = 5 := fun k hk => by
    rcases hk with rfl | hk
    · exact .inl h.cg
    · exact .inr (h.ctoks k hk)
  have hlt : ∀ k i, c k = i → i ≠ 0 → k < w.heap.size := fun k i h1 h2 => (h.cb k (by omega)).2
  have hold : ∀ k, k < w.heap.size → colour c w.heap.size (fun k => blkOf A' = some k) 5 k = c k := fun k hk => colour_old hk
  have hkeep : ∀ k i, c k = i → i ≠ 0 → colour c w.heap.size (fun k => blkOf A' = some k) 5 k = i := fun k i h1 h2 => (hold k (hlt k i h1 h2)).trans h1
  exact ⟨ha, hkeep _ _ h.cg (by decide),
    hc.ownI h.out (fun k hk e => by have := hF k e; have := h.cout k hk; omega), fun k hk => hkeep k 2 (h.cout k hk) (by decide),
    hc.ownI h.kinds (fun k hk e => by have := hF k e; have := h.ckinds k hk; omega), fun k hk => hkeep k 3 (h.ckinds k hk) (by decide),
    hc.ownI h.stops (fun k hk e => by have := hF k e; have := h.cstops k hk; omega), fun k hk => hkeep k 4 (h.cstops k hk) (by decide),
    hr, fun k hk => by
      rcases Nat.lt_or_ge k w.heap.size with h1 | h1
      · rcases hf k hk with h2 | h2
        · exact hkeep k 5 (h.ctoks k h2) (by decide)
        · omega
      · exact colour_new h1 hk,
    hc.ownI h.bits (fun k hk e => by have := hF k e; have := h.cbits k hk; omega), fun k hk => hkeep k 6 (h.cbits k hk) (by decide),
    fun k hk => by
      rcases colour_ne hk with ⟨h1, h2⟩ | ⟨h1, h2⟩
      · exact ⟨(h.cb k h2).1, Nat.lt_of_lt_of_le h1 hc.size⟩
      · exact hr.2.lt h2⟩
theorem RefS.ntoks (h : RefS w0 c0 w b0 g R) {A' : Option Addr} {n' c' : Nat} {l' : List Tok} (hc : Chg w w' (fun k => k = g ∨ blkOf R.At = some k)) (ha : Ar w' g 13 (sF { R with At := A', nt := n', ct := c', toks := l' })) (hr : OwnT w' b0 A' n' c' l')
    (hf : ∀ k, blkOf A' = some k → blkOf R.At = some k ∨ w.heap.size ≤ k) : RefS w0 c0 w' b0 g { R with At := A', nt := n', ct := c', toks := l' } := by
  obtain ⟨c, h, hd⟩ := h
  exact ⟨_, h.ntoks hc ha hr hf, hd.step h.lo (fun k hk => (h.cb k hk).1) (hc.more fun k hk => by
    rcases hk with rfl | hk
    · rw [h.cg]; decide
    · rw [h.ctoks k hk]; decide) fun k hk => colour_old hk⟩
theorem RefS.keeps (h : RefS w0 c0 w b0 g R) (hb : Below w.heap.size w w') : RefS w0 c0 w' b0 g R := by
  obtain ⟨c, h, hd⟩ := h
  exact ⟨c, h.keeps hb, hd.step h.lo (fun k hk => (h.cb k hk).1) (Chg.of_below hb) fun k hk => rfl⟩
theorem RefS.drewN (h : RefS w0 c0 w b0 g R) (q : Nat) : RefS w0 c0 (w.drewN q) b0 g R := h.keeps (below_drewN (Below.refl _ _) q)
theorem RefS.drew (h : RefS w0 c0 w b0 g R) : RefS w0 c0 w.drew b0 g R := h.keeps (Below.refl _ _).drew
theorem RefS.put (h : RefS w0 c0 w b0 g R) {i : Nat} (hi : i < 13) (v : Value) (R' : RM) (hF : ∀ j, j < 13 → upd (sF R) i v j = sF R' j) (hR : R' = { R with E := R'.E, rest := R'.rest, at_ := R'.at_, most := R'.most, Al := R'.Al, Ad := R'.Ad, Alc := R'.Alc, Adc := R'.Adc }) : RefS w0 c0 (w.setCell ⟨g, i, none⟩ v) b0 g R' := by
  obtain ⟨c, h, hd⟩ := h
  exact ⟨c, h.put hi v R' hF hR, hd.step h.lo (fun k hk => (h.cb k hk).1) ((Chg.refl w (fun k => c k ≠ 0)).setCell (p := ⟨g, i, none⟩) (.inl (by rw [h.cg]; decide)) v) fun k hk => rfl⟩
theorem RefS.cell (h : RefS w0 c0 w b0 g R) : Ar w g 13 (sF R) := by obtain ⟨c, h, hd⟩ := h; exact h.cell
theorem RefS.out (h : RefS w0 c0 w b0 g R) : OwnI .u8 w b0 5 R.Ao R.no R.co R.out := by obtain ⟨c, h, hd⟩ := h; exact h.out
theorem RefS.kinds (h : RefS w0 c0 w b0 g R) : OwnI .i64 w b0 3 R.Ak R.nk R.ck R.kinds := by obtain ⟨c, h, hd⟩ := h; exact h.kinds
theorem RefS.stops (h : RefS w0 c0 w b0 g R) : OwnI .i64 w b0 3 R.As R.ns R.cs R.stops := by obtain ⟨c, h, hd⟩ := h; exact h.stops
theorem RefS.toks (h : RefS w0 c0 w b0 g R) : OwnT w b0 R.At R.nt R.ct R.toks := by obtain ⟨c, h, hd⟩ := h; exact h.toks
theorem RefS.bits (h : RefS w0 c0 w b0 g R) : OwnI .u8 w b0 5 R.Ab R.nb R.cb R.X := by obtain ⟨c, h, hd⟩ := h; exact h.bits
theorem RefS.lo (h : RefS w0 c0 w b0 g R) : b0 ≤ w.heap.size := by obtain ⟨c, h, hd⟩ := h; exact h.lo
theorem RefS.apart (h : RefS w0 c0 w b0 g R) : blkOf R.Ao ≠ some g ∧ blkOf R.Ak ≠ some g ∧ blkOf R.As ≠ some g ∧ blkOf R.At ≠ some g := by
  obtain ⟨c, h, hd⟩ := h
  have hg := h.cg
  exact ⟨fun e => by have := h.cout g e; omega, fun e => by have := h.ckinds g e; omega, fun e => by have := h.cstops g e; omega, fun e => by have := h.ctoks g e; omega⟩
theorem RefS.aside (h : RefS w0 c0 w b0 g R) : Chg w0 w (fun k => c0 k ≠ 0) ∧ Below b0 w0 w := by obtain ⟨c, h, hd⟩ := h; exact ⟨hd.2.1, hd.1⟩
theorem RefS.cells (h : RefS w0 c0 w b0 g R) : w.cell? ⟨g, 0, none⟩ = some (.slice R.Ao R.no R.co) ∧ w.cell? ⟨g, 1, none⟩ = some (.int .i64 R.E) ∧ w.cell? ⟨g, 2, none⟩ = some (.int .i64 R.rest) ∧ w.cell? ⟨g, 3, none⟩ = some (.slice R.Ak R.nk R.ck) ∧ w.cell? ⟨g, 4, none⟩ = some (.slice R.As R.ns R.cs) ∧ w.cell? ⟨g, 5, none⟩ = some (.slice R.Ab R.nb R.cb) ∧
    w.cell? ⟨g, 6, none⟩ = some (.int .i64 (R.at_ : Nat)) ∧ w.cell? ⟨g, 7, none⟩ = some (.int .i64 R.most) ∧ w.cell? ⟨g, 8, none⟩ = some R.Al ∧ w.cell? ⟨g, 9, none⟩ = some R.Ad ∧ w.cell? ⟨g, 10, none⟩ = some R.Alc ∧ w.cell? ⟨g, 11, none⟩ = some R.Adc ∧ w.cell? ⟨g, 12, none⟩ = some (.slice R.At R.nt R.ct) := by
  have k := h.cell
  exact ⟨k.cell (i := 0) (by omega), k.cell (i := 1) (by omega), k.cell (i := 2) (by omega), k.cell (i := 3) (by omega), k.cell (i := 4) (by omega), k.cell (i := 5) (by omega), k.cell (i := 6) (by omega), k.cell (i := 7) (by omega), k.cell (i := 8) (by omega), k.cell (i := 9) (by omega), k.cell (i := 10) (by omega), k.cell (i := 11) (by omega), k.cell (i := 12) (by omega)⟩
end
end Go.Proofs.Ytlgkiookobedcaa
namespace Go.Proofs.Ytlgkiookobedcaa
open Go.RowKit
set_option linter.unusedVariables false
theorem fbyte_info : (Try.prog.info? 5).map (fun i => (i.zero, i.size, i.bytes)) = some (some (.int .u8 0), 1, 1) := by kernel_rfl
def MkPost (w : World) (L : List Int) (e : Ending) (w' : World) : Prop :=
  ∃ A n c, e = .returned (.slice A n c) ∧ OwnI .u8 w' w.heap.size 5 A n c L ∧ Below w.heap.size w w'
def BitsOut (w : World) (b : List Int) (n : Nat) (o i : Value) (wr : World) : Prop :=
  ∃ (k m d : Nat) (A : Option Addr), k ≤ n ∧ i = .int .i64 k ∧ Hid (m = 8 * k) ∧ o = .slice A m d ∧ OwnI .u8 wr w.heap.size 5 A m d (bts (b.take k)) ∧ Below w.heap.size w wr
def BitsIn (w : World) (b : List Int) (k0 : Nat) (o j : Value) (wr : World) : Prop :=
  ∃ (k m d : Nat) (A : Option Addr), k ≤ 8 ∧ j = .int .i64 k ∧ Hid (m = 8 * k0 + k) ∧ o = .slice A m d ∧ OwnI .u8 wr w.heap.size 5 A m d (bts (b.take k0) ++ ofN (ix b k0) k) ∧ Below w.heap.size w wr
set_option maxRecDepth 100000 in
set_option maxHeartbeats 1600000 in
theorem bits_any (w : World) (B n c : Nat) (A : Option Addr) (b : List Int) (hr : RdI .u8 w B A n b) (hB : B ≤ w.heap.size) (hby : ∀ x ∈ b, 0 ≤ x ∧ x < 256) (hn : (n : Int) ≤ 100000000000) : Calls Try.prog 16 #[.slice A n c] w (MkPost w (bts b)) := by
  obtain ⟨i0, hi, hz0, hz1, hz2⟩ := info_parts fbyte_info
  have Hi := Lib.hid hi
  have Hz0 := Lib.hid hz0
  have Hz1 := Lib.hid hz1
  have Hz2 := Lib.hid hz2
  clear hi hz0 hz1 hz2
  have HN := Lib.hid hr.1
  go_enter Try.func16, Try.ntmps16
  go_wp2
  go_loopw [3, 4] (BitsOut w b n) (fun _ i _ => n - (intOf i).toNat)
  case atStart => exact ⟨0, 0, 0, none, Nat.zero_le _, rfl, rfl, rfl, OwnI.nil_, Below.refl _ _⟩
  case round =>
    obtain ⟨k, m, d, A1, hk, rfl, HM, rfl, ho, hb⟩ := hrel
    by_cases hlt : k < n
    · have hkI : (k : Int) < (n : Int) ∧ (0 : Int) ≤ k := by omega
      obtain ⟨wo, hwo⟩ : ∃ wo : World, wo = wr := ⟨_, rfl⟩
      subst hwo
      go_wp2_with fail
      go_loopw [3, 5] (BitsIn w b k) (fun _ j _ => 8 - (intOf j).toNat)
      case atStart => exact ⟨0, m, d, A1, Nat.zero_le _, rfl, HM, rfl, by rw [show ofN (ix b k) 0 = [] from rfl, List.append_nil]; exact ho, hb⟩
      case round =>
        clear ho hb
        obtain ⟨j, m2, d2, A2, hj, rfl, HM2, rfl, ho, hb⟩ := hrel
        by_cases hj8 : j < 8
        · have hjI : (j : Int) < 8 ∧ (0 : Int) ≤ j := by omega
          obtain ⟨ad, rfl, hbl, c1⟩ := hr.at_ hlt
          have c2 := (hb.cell (p := ad.add k) (by rw [addr_block]; omega)).trans c1
          obtain ⟨x, hx⟩ : ∃ x, ix b k = x := ⟨_, rfl⟩
          have hxb := ix_bd hby k
          rw [hx] at c2 hxb ho
          have HS : Hid (ofN x (j + 1) = ofN x j ++ [x / 2 ^ j % 2]) := ofN_succ x j
          have HX := Lib.hid hx
          obtain ⟨y, hy⟩ : ∃ y, x / 2 ^ j % 2 = y := ⟨_, rfl⟩
          have hmb : m2 ≤ 900000000000 := by have := HM2.out; omega
          have e0 : (j : Int) % 18446744073709551616 = (j : Int) := by omega
          have hoA := ho.alloc (.cells #[.int .u8 y] 5)
          have hbA := hb.alloc hb.size (.cells #[.int .u8 y] 5)
          rw [hy] at HS
          have e1 : (x / 2 ^ j).tmod 2 = y := by rw [Int.tmod_eq_emod_of_nonneg (Int.ediv_nonneg hxb.1 (Int.le_of_lt (two_pos j))), hy]
          clear hy
          clear hx c1
          go_wp2_with (at_builtin; (refine wpList_app .u8 w.heap.size 5 i0 1 rfl (.tmp 16) (.tmp 25) _ rfl Try.underlying22 Hi.out Hz0.out Hz1.out Hz2.out rfl hoA rfl (RdI.lit .u8 wr [y] 5) (by omega) (by omega) hbA.size ?_)
                       intro A4 d4 w4 hown4 hg4 hat4)
          go_roundw
          case rel => exact ⟨j + 1, m2 + 1, d4, A4, hj8, by go_num, by have := HM2.out; show _ = _; omega, rfl, by rw [HX.out, HS.out, ← List.append_assoc]; exact hown4, hbA.grown hg4 hbA.size fun q hq => (ho.2.lt hq).1⟩
          case measure => simp [intOf]; omega
        · obtain rfl : j = 8 := by omega
          have HE : Hid (bts (b.take (k + 1)) = bts (b.take k) ++ ofN (ix b k) 8) := by
            show _ = _
            have hkl : k < b.length := by rw [← HN.out]; exact hlt
            rw [List.take_succ_eq_append_getElem hkl, bts_append]
            congr 1
            simp [bts, ix, hkl]
          go_wp2
          go_roundw
          case rel => exact ⟨k + 1, m2, d2, A2, hlt, by go_num, by have := HM2.out; show _ = _; omega, rfl, by rw [HE.out]; exact ho, hb⟩
          case measure => simp [intOf]; omega
    · obtain rfl : n = k := by omega
      have HE : Hid (b.take n = b) := by show _ = _; rw [HN.out, List.take_length]
      go_wp2
      go_ret
      exact ⟨A1, m, d, rfl, by rw [HE.out] at ho; exact ho, hb⟩
end Go.Proofs.Ytlgkiookobedcaa
namespace Go.Proofs.Ytlgkiookobedcaa
open Go.RowKit
set_option linter.unusedVariables false
def NumRel (l : List Int) (n : Nat) (x i : Value) : Prop := ∃ (k : Nat) (v : Int), k ≤ n ∧ i = .int .i64 ((k : Int) - 1) ∧ x = .int .i64 v ∧ Hid (v = numI (l.drop k))
set_option maxHeartbeats 1600000 in
theorem number_any (w : World) (B n c : Nat) (A : Option Addr) (l : List Int) (hr : RdI .u8 w B A n l) (hb : Bit l) (hn : (n : Int) ≤ 32) : Calls Try.prog 32 #[.slice A n c] w fun e w' => e = .returned (.int .i64 (numI l)) ∧ w = w' := by
  have HN := Lib.hid hr.1
  go_enter Try.func32, Try.ntmps32
  go_wp2
  go_loop [3, 4] (NumRel l n) (fun _ i => (intOf i + 1).toNat)
  case atStart => exact ⟨n, 0, Nat.le_refl _, rfl, rfl, by show _ = _; rw [HN.out, List.drop_length]; rfl⟩
  case round =>
    obtain ⟨k, v, hk, rfl, rfl, HV⟩ := hrel
    have hvb := numI_bd (hb.drop_ k)
    have h2 := pow_mono2 (show (l.drop k).length ≤ 32 by simp; have := HN.out; omega)
    have h3 : (2 : Int) ^ 32 = 4294967296 := rfl
    rw [← HV.out] at hvb
    have hvI : 0 ≤ v ∧ v < 4294967296 := by omega
    clear hvb h2 h3
    by_cases hk0 : 0 < k
    · obtain ⟨p, rfl⟩ : ∃ p, k = p + 1 := ⟨k - 1, by omega⟩
      have hp : ((p + 1 : Nat) : Int) - 1 = (p : Int) := by omega
      have hpI : (0 : Int) ≤ p ∧ (p : Int) < (n : Int) := by omega
      obtain ⟨ad, rfl, hbl, c1⟩ := hr.at_ (i := p) (by omega)
      obtain ⟨x, hx⟩ : ∃ x, ix l p = x := ⟨_, rfl⟩
      have hxb : 0 ≤ x ∧ x ≤ 1 := by
        rw [← hx]; unfold ix; rw [List.getD_eq_getElem?_getD]
        cases h : l[p]? with
        | none => simp
        | some v => have := hb v (List.mem_of_getElem? h); simp; omega
      rw [hx] at c1
      have HX : Hid (numI (l.drop p) = 2 * v + x) := by
        show _ = _
        have hpl : p < l.length := by rw [← HN.out]; omega
        rw [List.drop_eq_getElem_cons hpl, numI, ← HV.out]
        have : l[p] = x := by rw [← hx]; simp [ix, hpl]
        rw [this]; omega
      clear hx
      rw [hp]
      go_wp2
      go_round
      case rel => exact ⟨p, 2 * v + x, by omega, rfl, rfl, by show _ = _; rw [HX.out]⟩
      case measure => simp [intOf]
    · obtain rfl : k = 0 := by omega
      have hm1 : ((0 : Nat) : Int) - 1 = -1 := rfl
      rw [hm1]
      go_wp2
      go_ret
      exact ⟨ret_int (by rw [HV.out, List.drop_zero]), rfl⟩
end Go.Proofs.Ytlgkiookobedcaa
namespace Go.Proofs.Ytlgkiookobedcaa
open Go.RowKit
set_option linter.unusedVariables false
def ctV (l : List Int) (k v : Nat) : Value := .int .i64 (if v = 0 then 0 else cnt l k v : Nat)
theorem ctV_zero (l : List Int) (v : Nat) : Value.int .i64 0 = ctV l 0 v := by unfold ctV; congr 1; simp [cnt]
theorem ctV_at (l : List Int) (k : Nat) {v : Nat} (h : 1 ≤ v) : ctV l k v = .int .i64 (cnt l k v : Nat) := by unfold ctV; rw [if_neg (by omega)]
theorem ctV_hit (l : List Int) (k : Nat) {v : Nat} (h : 1 ≤ v) (e : ix l k = (v : Int)) (j : Nat) : upd (ctV l k) v (.int .i64 ((cnt l k v : Int) + 1)) j = ctV l (k + 1) j := by
  by_cases hj : j = v
  · subst hj; rw [upd_same, ctV_at _ _ h]; congr 1; simp [cnt, e]
  · rw [upd_other _ _ hj]; unfold ctV; congr 3
    have : ¬ ix l k = (j : Int) := by rw [e]; omega
    simp [cnt, this]
theorem ctV_miss (l : List Int) (k : Nat) (h : ix l k = 0) (j : Nat) : ctV l k j = ctV l (k + 1) j := by
  unfold ctV
  by_cases h1 : j = 0
  · rw [if_pos h1, if_pos h1]
  · rw [if_neg h1, if_neg h1]
    have : ¬ ix l k = (j : Int) := by omega
    simp [cnt, this]
def SymReadPost (w : World) (l x : List Int) (e : Ending) (w' : World) : Prop :=
  e = .returned (.tuple #[.int .i64 (nextOf l x).1, .int .i64 ((nextOf l x).2.1 : Nat), .int .i64 (nextOf l x).2.2]) ∧ Below w.heap.size w w'
def ReadA (w : World) (l : List Int) (n : Nat) (m i : Value) (wr : World) : Prop :=
  ∃ k : Nat, k ≤ n ∧ i = .int .i64 k ∧ m = .int .i64 (mxI l k) ∧ Ar wr w.heap.size 16 (ctV l k) ∧ Below w.heap.size w wr
def ReadB (w : World) (l x : List Int) (lg : Nat) (v f n _i : Value) (wr : World) : Prop :=
  ∃ k : Nat, 1 ≤ k ∧ k ≤ lg + 1 ∧ k ≤ x.length + 1 ∧ n = .int .i64 k ∧ v = .int .i64 (hv x (k - 1)) ∧ f = .int .i64 (preC l k : Nat) ∧ Hid (fh l x (k - 1) = 0) ∧ Ar wr w.heap.size 16 (ctV l l.length) ∧ Below w.heap.size w wr
def ReadC (wo : World) (s : Nat) (i : Value) (wr : World) : Prop := ∃ j q : Nat, j ≤ s ∧ i = .int .i64 j ∧ wr = wo.drewN q
set_option maxRecDepth 100000 in
set_option maxHeartbeats 4000000 in
theorem rread_any (w : World) (Al Ac Ab : Option Addr) (n cl cc nb cb at_ : Nat) (l bs : List Int) (hl : RdI .i64 w w.heap.size Al n l) (hc : RdI .u32 w w.heap.size Ac n (codesOf l)) (hbs : RdI .u8 w w.heap.size Ab nb bs) (hbit : Bit bs)
    (hn : n ≤ 288) (hin : ∀ i, i < n → 0 ≤ ix l i ∧ ix l i ≤ 15) (hat : at_ ≤ nb) (hnb : nb ≤ 1000000000000) :
    Calls Try.prog 51 #[.slice Al n cl, .slice Ac n cc, .slice Ab nb cb, .int .i64 at_] w (SymReadPost w l (bs.drop at_)) := by
  obtain ⟨x, hx⟩ : ∃ x, bs.drop at_ = x := ⟨_, rfl⟩
  rw [hx]
  have hxl : nb - at_ = x.length := by rw [← hx, List.length_drop, hbs.1]
  have hxb : Bit x := by rw [← hx]; exact hbit.drop_ at_
  have HLN := Lib.hid hl.1
  obtain ⟨lg, hlg⟩ : ∃ lg, lgT l 15 = lg := ⟨_, rfl⟩
  have hlg15 : lg ≤ 15 := by rw [← hlg]; exact lgT_le l 15
  have hmx : Hid (mxI l n = (lg : Int)) := by
    show _ = _
    rw [← hlg, HLN.out]; exact mxI_lgT fun i hi => (hin i (by rw [HLN.out]; exact hi)).2
  have hno : Hid (nextOf l x = if fh l x (min x.length lg) ≠ 0 then (selS l (fh l x (min x.length lg)) (hv x (fh l x (min x.length lg)) - nxt l (fh l x (min x.length lg))).toNat, fh l x (min x.length lg), 0) else if min x.length lg < lg then (0, 0, 5) else if lg = 0 ∧ x.length = 0 then (0, 0, 5) else (0, 0, 3)) := by
    show _ = _; unfold nextOf; rw [hlg]
  have HIN := Lib.hid hin
  have HX := Lib.hid hx
  have HLG := Lib.hid hlg
  have hl288 : Hid (l.length ≤ 288) := by show _ ≤ _; rw [← HLN.out]; exact hn
  clear hx hlg hin
  go_enter Try.func51, Try.ntmps51
  go_wp2
  go_loopw [12, 13] (ReadA w l n) (fun _ i _ => n - (intOf i).toNat)
  case atStart => exact ⟨0, Nat.zero_le _, rfl, rfl, (Ar.zeros w 16 (.int .i64 0) 119).congr fun j _ => ctV_zero l j, (Below.refl _ _).alloc (Nat.le_refl _) _⟩
  case round =>
    obtain ⟨k, hk, rfl, rfl, har, hb⟩ := hrel
    have m0 := mxI_nn l k
    obtain ⟨M, hM⟩ : ∃ M, mxI l k = M := ⟨_, rfl⟩
    rw [hM] at m0 ⊢
    by_cases hlt : k < n
    · have hkI : (0 : Int) ≤ k ∧ (k : Int) < (n : Int) := by omega
      obtain ⟨ad, rfl, hadb, c1⟩ := (hl.below hb).at_ hlt
      have ht := HIN.out k hlt
      have hM2 : Hid (mxI l (k + 1) = if M < ix l k then ix l k else M) := by show _ = _; rw [mxI, hM]
      clear hM
      by_cases h0 : ix l k = 0
      · have har2 := har.congr fun j _ => ctV_miss l k h0 j
        have hM3 : Hid (mxI l (k + 1) = M) := by show _ = _; rw [hM2.out, h0, if_neg (by omega)]
        rw [h0] at c1
        clear h0 ht
        go_wp2
        go_roundw
        case rel => exact ⟨k + 1, hlt, by go_num, by rw [hM3.out], har2, hb⟩
        case measure => simp [intOf]; omega
      · obtain ⟨v, hv⟩ : ∃ v : Nat, ix l k = (v : Int) := ⟨(ix l k).toNat, by omega⟩
        rw [hv] at c1 ht h0
        have hb1 : (1 : Int) ≤ (v : Int) ∧ (v : Int) ≤ 15 := by omega
        have c2 := har.cell (i := v) (by omega)
        rw [ctV_at l k (by omega)] at c2
        have z2 := har.frozen' (i := v) (by omega)
        have bd := cnt_le l k v
        have H := Lib.hid hv
        rw [hv] at hM2
        clear hv h0 ht
        have c1b : (wr.setCell ⟨w.heap.size, v, none⟩ (.int .i64 ((cnt l k v : Int) + 1))).cell? (ad.add k) = some (.int .i64 v) := by
          rw [World.cell?_setCell_other _ _ _ _ (fun e => by have h9 := congrArg Addr.block e; rw [addr_block] at h9; simp at h9; omega)]
          exact c1
        by_cases hgt : M < (v : Int)
        · have hM3 : Hid (mxI l (k + 1) = (v : Int)) := by show _ = _; rw [hM2.out, if_pos hgt]
          go_wp2
          go_roundw
          case rel => exact ⟨k + 1, hlt, by go_num, by rw [hM3.out], (har.set_ (by omega) _).congr fun j _ => ctV_hit l k (by omega) H.out j, hb.setCell (Nat.le_refl _) _⟩
          case measure => simp [intOf]; omega
        · have hM3 : Hid (mxI l (k + 1) = M) := by show _ = _; rw [hM2.out, if_neg hgt]
          go_wp2
          go_roundw
          case rel => exact ⟨k + 1, hlt, by go_num, by rw [hM3.out], (har.set_ (by omega) _).congr fun j _ => ctV_hit l k (by omega) H.out j, hb.setCell (Nat.le_refl _) _⟩
          case measure => simp [intOf]; omega
    · obtain rfl : n = k := by omega
      have hMl : M = (lg : Int) := by rw [← hM]; exact hmx.out
      clear hM
      subst hMl
      have har2 : Ar wr w.heap.size 16 (ctV l l.length) := by rw [← HLN.out]; exact har
      clear har m0
      go_wp2
      go_loopw [14, 15, 16, 17] (ReadB w l x lg) (fun _ _ i _ _ => lg + 1 - (intOf i).toNat)
      case atStart => exact ⟨1, Nat.le_refl _, by omega, by omega, rfl, rfl, rfl, rfl, har2, hb⟩
      case round =>
        clear har2 hb
        obtain ⟨k, hk1, hkl, hkx, rfl, rfl, rfl, hfh, har, hb⟩ := hrel
        by_cases hlt : k ≤ lg
        · obtain ⟨p, rfl⟩ : ∃ p, k = p + 1 := ⟨k - 1, by omega⟩
          rw [Nat.add_sub_cancel] at hfh ⊢
          by_cases hend : p < x.length
          · have hb1 := hv_bd hxb p
            have hb2 := hv_bd hxb (p + 1)
            have hge := hv_ge hxb (fh_all hfh.out)
            have hp15 := pow_mono2 (show p + 1 ≤ 15 by omega)
            have h15 : (2 : Int) ^ 15 = 32768 := rfl
            have hpp : (2 : Int) ^ (p + 1) = 2 * 2 ^ p := by rw [Int.pow_succ]; omega
            have hnx := nxt_bd l hl288.out (v := p + 1) (by omega)
            have hpc := preC_nxt l (show 1 ≤ p + 1 by omega)
            have hps := preC_succ l (show 1 ≤ p + 1 by omega)
            have hvs : hv x (p + 1) = 2 * hv x p + ix x p := rfl
            have hcb := cnt_le l l.length (p + 1)
            have hf2 := fh_zero_succ hfh.out
            have c3 := har.cell (i := p + 1) (by omega)
            rw [ctV_at l _ (by omega)] at c3
            obtain ⟨kk, hkk⟩ : ∃ kk : Nat, p + 1 = kk := ⟨_, rfl⟩
            obtain ⟨h, hh⟩ : ∃ h, hv x p = h := ⟨_, rfl⟩
            obtain ⟨b, hbb⟩ : ∃ b, ix x p = b := ⟨_, rfl⟩
            obtain ⟨V, hV⟩ : ∃ V, hv x (p + 1) = V := ⟨_, rfl⟩
            obtain ⟨ct, hct⟩ : ∃ ct, cnt l l.length (p + 1) = ct := ⟨_, rfl⟩
            obtain ⟨nx, hnxe⟩ : ∃ nx, nxt l (p + 1) = nx := ⟨_, rfl⟩
            obtain ⟨pc, hpce⟩ : ∃ pc, preC l (p + 1) = pc := ⟨_, rfl⟩
            obtain ⟨adb, rfl, _, c4⟩ := (hbs.below hb).at_ (i := at_ + p) (by omega)
            have e4 : ix bs (at_ + p) = b := by rw [← hbb, ← HX.out, ix_drop]
            rw [e4] at c4
            have hit : hitB l x (p + 1) = decide (V < (nx : Int) + (ct : Int)) := by unfold hitB; rw [hV, hnxe, hct]
            have hbt : b = 0 ∨ b = 1 := by
              rw [← hbb]
              unfold ix; rw [List.getD_eq_getElem?_getD]
              cases e : x[p]? with
              | none => simp
              | some v => simpa using hxb v (List.mem_of_getElem? e)
            rw [hit] at hf2
            rw [hh, hpce]
            rw [hct] at c3 hcb hps
            rw [hnxe] at hnx hge hpc hps
            rw [hh] at hb1 hvs
            rw [hbb] at hvs
            rw [hV] at hb2 hge hvs
            rw [hpce] at hpc
            rw [hkk] at c3 ⊢
            have hnum : 0 ≤ h ∧ h ≤ 32768 ∧ 0 ≤ V ∧ V ≤ 32768 ∧ (nx : Int) ≤ V ∧ (0 : Int) ≤ ct ∧ (ct : Int) ≤ 288 ∧ (1 : Int) ≤ kk ∧ (kk : Int) ≤ 15 ∧ (kk : Int) ≤ (lg : Int) ∧ (0 : Int) ≤ nx ∧ (nx : Int) = 2 * (pc : Int) ∧ (0 : Int) ≤ pc ∧ V = 2 * h + b ∧ 0 ≤ b ∧ b ≤ 1 ∧ (at_ : Int) + (kk : Int) ≤ (nb : Int) ∧ (pc : Int) ≤ 18874368 ∧ (0 : Int) ≤ at_ := by
              have := hl288.out
              omega
            have hix : ((at_ : Int) + (kk : Int) - 1).toNat = at_ + p := by omega
            have hixI : (at_ : Int) + (kk : Int) - 1 = ((at_ + p : Nat) : Int) := by omega
            by_cases hhit : V < (nx : Int) + (ct : Int)
            · have hf3 : fh l x (p + 1) = p + 1 := by rw [hf2, if_pos (by simp; omega)]
              have hmin : p + 1 ≤ min x.length lg := by omega
              have hfH : fh l x (min x.length lg) = p + 1 := by rw [fh_keep (m := p + 1) (by rw [hf3]; omega) hmin, hf3]
              obtain ⟨J, hJ⟩ := Int.eq_ofNat_of_zero_le (show 0 ≤ V - (nx : Int) by omega)
              obtain ⟨s, hs1, hs2, hs3, hs4⟩ := idxs_back l (n := p + 1) (j := J) (k := l.length) (by rw [hct]; omega)
              have hn3 : nextOf l x = ((s : Int), p + 1, 0) := by
                rw [hno.out, hfH, if_pos (by omega), hV, hnxe]
                have : (V - (nx : Int)).toNat = J := by omega
                rw [this]; unfold selS; rw [hs4]
              rw [hkk] at hn3 hs2
              have hcode : ∀ i, ix l i = (kk : Int) → codeAt l i = nx + cnt l i kk := fun i hi => by rw [codeAt_yes (by omega) (by omega) hi, ← hnxe, hkk]
              have hcs : Hid ((codeAt l s : Int) = V) := by show _ = _; rw [hcode s hs2, ← hkk, hs3]; omega
              have hcn : Hid (∀ i, i < s → ix l i = (kk : Int) → ¬ (codeAt l i : Int) = V) := fun i hi he e => by
                have h1 := cnt_strict hi he
                rw [hcode i he] at e
                rw [hkk] at hs3
                omega
              have hcb : Hid (∀ i : Nat, (codeAt l i : Int) < 4294967296) := fun i => by
                unfold codeAt
                split
                · rename_i hi
                  unfold isLen at hi
                  have h1 := nxt_bd l hl288.out (v := (ix l i).toNat) (by simp at hi; omega)
                  have h2 := cnt_le l l.length (ix l i).toNat
                  have h3 : cnt l i (ix l i).toNat ≤ i := cnt_le l i _
                  by_cases hii : i ≤ l.length
                  · have := hl288.out; omega
                  · have : ix l i = 0 := by unfold ix; rw [List.getD_eq_getElem?_getD, List.getElem?_eq_none (by omega)]; rfl
                    simp [this] at hi
                · omega
              have HN3 := Lib.hid hn3
              have HS2 := Lib.hid hs2
              have hsn : s < n := by rw [HLN.out]; exact hs1
              clear hn3 hs4 hs3 hs2 hJ hf3 hfH hf2 hit hcode hpce hnxe hct hV hh hbb hkk hvs hb1 hb2 hge hp15 h15 hpp hnx hpc hps e4 hbt hmin
              obtain ⟨hn0, hn1, hn2, hn3, hn4, hn5, hn6, hn7, hn8, hn9, hn10, hn11, hn12, hn13, hn14, hn15, hn16, hn17, hn18⟩ := hnum
              obtain rfl : V = h * 2 + b := by omega
              clear hn13
              have hhitI : h * 2 + b < (pc : Int) * 2 + (ct : Int) := by omega
              clear hhit
              go_wp2_with fail
              go_loopw [17] (ReadC wr s) (fun i _ => s + 1 - (intOf i).toNat)
              case atStart => exact ⟨0, 0, Nat.zero_le _, rfl, rfl⟩
              case round =>
                obtain ⟨j, q, hj, rfl, rfl⟩ := hrel
                have hjn : j < n := by omega
                have hjI : (j : Int) < (n : Int) ∧ (0 : Int) ≤ j := by omega
                obtain ⟨adl, rfl, _, cl1⟩ := (hl.below hb).at_ hjn
                obtain ⟨adc, rfl, _, cc1⟩ := (hc.below hb).at_ hjn
                rw [ix_codesOf l hl288.out (by rw [← HLN.out]; exact hjn)] at cc1
                have hcjb := hcb.out j
                obtain ⟨cj, hcj⟩ : ∃ cj, codeAt l j = cj := ⟨_, rfl⟩
                obtain ⟨y, hy⟩ : ∃ y, ix l j = y := ⟨_, rfl⟩
                rw [hcj] at cc1 hcjb
                rw [hy] at cl1
                by_cases hjs : j = s
                · subst hjs
                  have e1 : y = (kk : Int) := by rw [← hy]; exact HS2.out
                  have e2 : (cj : Int) = h * 2 + b := by rw [← hcj]; exact hcs.out
                  rw [e1] at cl1
                  rw [e2] at cc1
                  clear hy hcj e1 e2 hcjb
                  go_wp2_with fail
                  go_ret3
                  unfold SymReadPost
                  rw [HN3.out]
                  exact ⟨rfl, below_drewN hb q⟩
                · have hn1 : y = (kk : Int) → ¬ (cj : Int) = h * 2 + b := fun e => by rw [← hcj]; exact hcn.out j (by omega) (by rw [hy]; exact e)
                  clear hy hcj
                  by_cases hyk : y = (kk : Int)
                  · have e2 : ((cj : Int) == h * 2 + b) = false := by simpa using hn1 hyk
                    rw [hyk] at cl1
                    clear hn1 hyk
                    go_wp2_with fail
                    go_roundw
                    case rel => exact ⟨j + 1, q, by omega, by go_num, rfl⟩
                    case measure => simp [intOf]; omega
                  · have e2 : (y == (kk : Int)) = false := by simpa using hyk
                    clear hn1 hyk
                    go_wp2_with fail
                    go_roundw
                    case rel => exact ⟨j + 1, q, by omega, by go_num, rfl⟩
                    case measure => simp [intOf]; omega
            · have hf3 : Hid (fh l x (p + 1) = 0) := by show _ = _; rw [hf2, if_neg (by simp; omega)]
              have HV := Lib.hid hV
              have HKK := Lib.hid hkk
              have hpc2 : Hid (preC l (p + 1 + 1) = nx + ct) := hps
              clear hf2 hit hpce hnxe hct hV hh hbb hkk hvs hb1 hb2 hge hp15 h15 hpp hnx hpc hps e4 hbt
              obtain ⟨hn0, hn1, hn2, hn3, hn4, hn5, hn6, hn7, hn8, hn9, hn10, hn11, hn12, hn13, hn14, hn15, hn16, hn17, hn18⟩ := hnum
              obtain rfl : V = h * 2 + b := by omega
              clear hn13
              have hhitI : ¬ (h * 2 + b < (pc : Int) * 2 + (ct : Int)) := by omega
              go_wp2_with fail
              go_roundw
              case rel => exact ⟨kk + 1, by omega, by omega, by omega, by go_num, by rw [Nat.add_sub_cancel, ← HKK.out, HV.out], by rw [← HKK.out, hpc2.out]; go_num, by rw [Nat.add_sub_cancel, ← HKK.out]; exact hf3, har, hb⟩
              case measure => simp [intOf]; omega
          · have hHlg : min x.length lg = p := by omega
            have hno2 : nextOf l x = (0, 0, 5) := by rw [hno.out, hHlg, if_neg (by simpa using hfh.out), if_pos (by omega)]
            have HNO := Lib.hid hno2
            have hI : (nb : Int) < (at_ : Int) + ((p + 1 : Nat) : Int) ∧ (p : Int) + 1 ≤ (lg : Int) := by omega
            obtain ⟨V, hV⟩ : ∃ V, hv x p = V := ⟨_, rfl⟩
            rw [hV]
            clear hno2 hV
            go_wp2
            go_ret3
            unfold SymReadPost
            rw [HNO.out]
            exact ⟨rfl, hb⟩
        · obtain rfl : k = lg + 1 := by omega
          rw [Nat.add_sub_cancel] at hfh ⊢
          have hmn : min x.length lg = lg := by omega
          have hno2 : nextOf l x = if lg = 0 ∧ x.length = 0 then (0, 0, 5) else (0, 0, 3) := by
            have e1 : ¬ fh l x lg ≠ 0 := by have := hfh.out; omega
            have e2 : ¬ lg < lg := by omega
            rw [hno.out, hmn, if_neg e1, if_neg e2]
          have HNO := Lib.hid hno2
          obtain ⟨V, hV⟩ : ∃ V, hv x lg = V := ⟨_, rfl⟩
          rw [hV]
          have hkI : ((lg + 1 : Nat) : Int) = (lg : Int) + 1 := by omega
          clear hno2 hV
          by_cases h0 : lg = 0
          · by_cases h1 : x.length = 0
            · have e : Hid (nextOf l x = (0, 0, 5)) := by show _ = _; rw [HNO.out, if_pos ⟨h0, h1⟩]
              have hat2 : (nb : Int) ≤ (at_ : Int) := by omega
              subst h0
              clear h1
              go_wp2_with fail
              go_ret3
              unfold SymReadPost
              rw [e.out]
              exact ⟨rfl, hb⟩
            · have e : Hid (nextOf l x = (0, 0, 3)) := by show _ = _; rw [HNO.out, if_neg (fun h => h1 h.2)]
              have hat2 : ¬ (nb : Int) ≤ (at_ : Int) := by omega
              subst h0
              clear h1
              go_wp2_with fail
              go_ret3
              unfold SymReadPost
              rw [e.out]
              exact ⟨rfl, hb⟩
          · have e : Hid (nextOf l x = (0, 0, 3)) := by show _ = _; rw [HNO.out, if_neg (fun h => h0 h.1)]
            have e0 : ((lg : Int) == 0) = false := by simpa using h0
            clear h0
            go_wp2_with fail
            go_ret3
            unfold SymReadPost
            rw [e.out]
            exact ⟨rfl, hb⟩
end Go.Proofs.Ytlgkiookobedcaa
namespace Go.Proofs.Ytlgkiookobedcaa
set_option linter.unusedVariables false
section
variable {b : List Int} {M k m : Nat}
theorem IS.Steps.mu_le {s t : IS} (h : IS.Steps s t) : t.mu ≤ s.mu := by
  induction h with
  | refl => exact Nat.le_refl _
  | tail _ h2 ih => exact Nat.le_trans (Nat.le_of_lt (IS.mu_step h2)) ih
end
end Go.Proofs.Ytlgkiookobedcaa
