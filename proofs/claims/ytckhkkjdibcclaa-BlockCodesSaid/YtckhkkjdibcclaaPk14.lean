/-
  Several texts in one (written by pack2.py): StpP, RfM, RefI, RefV.
-/
import Derived.Test.YtckhkkjdibcclaaPk12
import Derived.Test.YtckhkkjdibcclaaPk1
import Derived.Test.YtckhkkjdibcclaaProg
import Derived.Test.YtckhkkjdibcclaaPk4
import Derived.Test.YtckhkkjdibcclaaPk3
import Derived.Test.YtckhkkjdibcclaaPk5
import Derived.Test.YtckhkkjdibcclaaPk6
/-
  Plain law: the machine's steps, one by one.
-/
namespace Go.Proofs.Ytckhkkjdibcclaa
open Go.RowKit
set_option linter.unusedVariables false
section
variable {s t t' : IS} {x y b : List Int} {n m : Nat}
/-- where bits lack nothing turns -/
theorem IS.step_lack (h : s.step.2 = 5) : s.step.1 = s := by
  unfold IS.step at h ⊢
  have hem : ∀ (s : IS) b, (s.emit b).2 ≠ 5 := fun s b => by unfold IS.emit; simp only; split <;> decide
  by_cases h0 : s.st = 0
  · rw [if_pos h0] at h ⊢; unfold IS.block at h ⊢; revert h; repeat' split
    all_goals simp
  rw [if_neg h0] at h ⊢
  by_cases h1 : s.st = 1
  · rw [if_pos h1] at h ⊢; unfold IS.size at h ⊢; revert h; repeat' split
    all_goals simp
  rw [if_neg h1] at h ⊢
  by_cases h2 : s.st = 2
  · rw [if_pos h2] at h ⊢; unfold IS.stored at h ⊢; revert h; repeat' split
    · simp
    · simp
    · intro h; exact absurd h (hem _ _)
  rw [if_neg h2] at h ⊢
  by_cases h3 : s.st = 3
  · rw [if_pos h3] at h ⊢; unfold IS.sizes at h ⊢; revert h; repeat' split
    all_goals simp
  rw [if_neg h3] at h ⊢
  by_cases h4 : s.st = 4
  · rw [if_pos h4] at h ⊢; unfold IS.heads at h ⊢; revert h; repeat' split
    all_goals simp
  rw [if_neg h4] at h ⊢
  by_cases h5 : s.st = 5
  · rw [if_pos h5] at h ⊢; unfold IS.lengths IS.length IS.repeat_ at h ⊢
    revert h; repeat' split
    all_goals simp
  rw [if_neg h5] at h ⊢
  by_cases h6 : s.st = 6
  · rw [if_pos h6] at h ⊢; unfold IS.token at h ⊢
    revert h; repeat' split
    all_goals first
      | (intro h; exact absurd h (hem _ _))
      | simp
  rw [if_neg h6] at h ⊢
  by_cases h7 : s.st = 7
  · rw [if_pos h7] at h ⊢; unfold IS.dist IS.text at h ⊢
    revert h; repeat' split
    all_goals first
      | (intro h; exact absurd h (hem _ _))
      | simp
  rw [if_neg h7] at h ⊢
theorem tok_step (h : t.st = 6) : t.step = t.token := by unfold IS.step; rw [if_neg (by omega), if_neg (by omega), if_neg (by omega), if_neg (by omega), if_neg (by omega), if_neg (by omega), if_pos h]
theorem dist_step (h : t.st = 7) : t.step = t.dist := by unfold IS.step; rw [if_neg (by omega), if_neg (by omega), if_neg (by omega), if_neg (by omega), if_neg (by omega), if_neg (by omega), if_neg (by omega), if_pos h]
theorem heads_step (h : t.st = 4) : t.step = t.heads := by unfold IS.step; rw [if_neg (by omega), if_neg (by omega), if_neg (by omega), if_neg (by omega), if_pos h]
theorem heads_lack (h : t.st = 4) (hl : t.lens.length < t.c2) (hx : t.x.length < 3) : t.step.2 = 5 := by rw [heads_step h, IS.heads, if_pos hl, if_pos hx]
theorem heads_push (h : t.st = 4) (hl : t.lens.length < t.c2) (hx : ¬ t.x.length < 3) : t.step = ({ t with x := t.x.drop 3, lens := t.lens ++ [(num t.x 3 : Int)] }, 0) := by rw [heads_step h, IS.heads, if_pos hl, if_neg hx]
theorem heads_bad (h : t.st = 4) (hl : ¬ t.lens.length < t.c2) (hx : checkOf (hAll t.lens) 7 ≠ 0 ∨ noneB t.lens = true) : t.step = (t, 3) := by rw [heads_step h, IS.heads, if_neg hl, if_pos hx]
theorem heads_ok (h : t.st = 4) (hl : ¬ t.lens.length < t.c2) (hx : ¬ (checkOf (hAll t.lens) 7 ≠ 0 ∨ noneB t.lens = true)) : t.step = ({ t with hd := hAll t.lens, lens := [], st := 5 }, 0) := by rw [heads_step h, IS.heads, if_neg hl, if_neg hx]
/-- the lengths in their places, up to place i of the order -/
def hF (l : List Int) (i p : Nat) : Value := .int .i64 (if hOrd.idxOf p < i then ix l (hOrd.idxOf p) else 0)
theorem hF_zero (l : List Int) (p : Nat) : Value.int .i64 0 = hF l 0 p := by unfold hF; rw [if_neg (Nat.not_lt_zero _)]
theorem hOrd_at : ∀ i, i < 19 → ∀ p, p < 19 → (hOrd.idxOf p = i ↔ p = hOrd.getD i 0) := by decide +kernel
theorem hOrd_lt : ∀ i, i < 19 → hOrd.getD i 0 < 19 := by decide +kernel
theorem hF_next {l : List Int} {i : Nat} (hi : i < 19) {p : Nat} (hp : p < 19) : upd (hF l i) (hOrd.getD i 0) (.int .i64 (ix l i)) p = hF l (i + 1) p := by
  have h := hOrd_at i hi p hp
  by_cases e : p = hOrd.getD i 0
  · rw [← e, upd_same]
    unfold hF
    rw [h.2 e, if_pos (by omega)]
  · rw [upd_other _ _ e]
    have : hOrd.idxOf p ≠ i := fun e2 => e (h.1 e2)
    unfold hF
    by_cases e3 : hOrd.idxOf p < i
    · rw [if_pos e3, if_pos (by omega)]
    · rw [if_neg e3, if_neg (by omega)]
theorem hF_end {l : List Int} {p : Nat} (hp : p < 19) : hF l l.length p = .int .i64 (ix (hAll l) p) := by
  unfold hF
  have e : ix (hAll l) p = ix l (hOrd.idxOf p) := by simp [ix, hAll, hp]
  rw [e]
  split
  · rfl
  · congr 1
    unfold ix
    rw [List.getD_eq_getElem?_getD, List.getElem?_eq_none (by omega)]; rfl
theorem noneB_take {l : List Int} {i : Nat} (hi : i < l.length) : noneB (l.take (i + 1)) = (noneB (l.take i) && (ix l i == 0)) := by
  unfold noneB
  rw [List.take_succ_eq_append_getElem hi, List.all_append]
  simp [ix, hi]
theorem len_step (h : t.st = 5) (hl : t.lens.length < t.c0 + t.c1) : t.step = t.length := by unfold IS.step; rw [if_neg (by omega), if_neg (by omega), if_neg (by omega), if_neg (by omega), if_neg (by omega), if_pos h]; unfold IS.lengths; rw [if_pos hl]
theorem add_pos' (a : Addr) {k : Nat} (h : k ≠ 0) : a.add k = ⟨a.block, a.off + k, none⟩ := by unfold Addr.add; rw [if_neg h]
theorem lens_end (h : t.st = 5) (hl : ¬ t.lens.length < t.c0 + t.c1) : t.step = if checkOf (t.lens.take t.c0) 15 ≠ 0 ∨ checkOf (t.lens.drop t.c0) 15 ≠ 0 ∨ ix t.lens 256 = 0 then (t, 3) else ({ t with lt := t.lens.take t.c0, ds := t.lens.drop t.c0, st := 6 }, 0) := by
  unfold IS.step; rw [if_neg (by omega), if_neg (by omega), if_neg (by omega), if_neg (by omega), if_neg (by omega), if_pos h]; unfold IS.lengths; rw [if_neg hl]
/-- the error that a whole stream ends with -/
def endE (F : IS × Int) : Int := if F.2 = 8 then 0 else F.2
end
end Go.Proofs.Ytckhkkjdibcclaa

/-
  Words for memory: the reference's stream that is read.
-/
namespace Go.Proofs.Ytckhkkjdibcclaa
open Go.RowKit
set_option linter.unusedVariables false

structure RM where
  Ao : Option Addr
  no : Nat
  co : Nat
  out : List Int
  E : Int
  rest : Int
  Ak : Option Addr
  nk : Nat
  ck : Nat
  kinds : List Int
  As : Option Addr
  ns : Nat
  cs : Nat
  stops : List Int
  Ab : Option Addr
  nb : Nat
  cb : Nat
  X : List Int
  at_ : Nat
  most : Int
  Al : Value
  Ad : Value
  Alc : Value
  Adc : Value
  At : Option Addr
  nt : Nat
  ct : Nat
  toks : List Tok
def sF (R : RM) : Nat → Value
  | 0 => .slice R.Ao R.no R.co
  | 1 => .int .i64 R.E
  | 2 => .int .i64 R.rest
  | 3 => .slice R.Ak R.nk R.ck
  | 4 => .slice R.As R.ns R.cs
  | 5 => .slice R.Ab R.nb R.cb
  | 6 => .int .i64 (R.at_ : Nat)
  | 7 => .int .i64 R.most
  | 8 => R.Al
  | 9 => R.Ad
  | 10 => R.Alc
  | 11 => R.Adc
  | _ => .slice R.At R.nt R.ct
theorem all13 {P : Nat → Prop} (h0 : P 0) (h1 : P 1) (h2 : P 2) (h3 : P 3) (h4 : P 4) (h5 : P 5) (h6 : P 6) (h7 : P 7) (h8 : P 8) (h9 : P 9) (h10 : P 10) (h11 : P 11) (h12 : P 12) : ∀ j, j < 13 → P j := fun j hj => by
  obtain rfl | rfl | rfl | rfl | rfl | rfl | rfl | rfl | rfl | rfl | rfl | rfl | rfl : j = 0 ∨ j = 1 ∨ j = 2 ∨ j = 3 ∨ j = 4 ∨ j = 5 ∨ j = 6 ∨ j = 7 ∨ j = 8 ∨ j = 9 ∨ j = 10 ∨ j = 11 ∨ j = 12 := by omega
  all_goals assumption
theorem Chg.ownT {w w' : World} {S : Nat → Prop} {b0 n c : Nat} {A : Option Addr} {l : List Tok} (h : Chg w w' S) (ha : OwnT w b0 A n c l) (hS : ∀ g, blkOf A = some g → ¬ S g) : OwnT w' b0 A n c l := ⟨ha.1, h.own ha.2 hS⟩
structure RefM (w : World) (b0 g : Nat) (c : Nat → Nat) (R : RM) : Prop where
  cell : Ar w g 13 (sF R)
  cg : c g = 1
  out : OwnI .u8 w b0 5 R.Ao R.no R.co R.out
  cout : ∀ k, blkOf R.Ao = some k → c k = 2
  kinds : OwnI .i64 w b0 3 R.Ak R.nk R.ck R.kinds
  ckinds : ∀ k, blkOf R.Ak = some k → c k = 3
  stops : OwnI .i64 w b0 3 R.As R.ns R.cs R.stops
  cstops : ∀ k, blkOf R.As = some k → c k = 4
  toks : OwnT w b0 R.At R.nt R.ct R.toks
  ctoks : ∀ k, blkOf R.At = some k → c k = 5
  bits : OwnI .u8 w b0 5 R.Ab R.nb R.cb R.X
  cbits : ∀ k, blkOf R.Ab = some k → c k = 6
  cb : ∀ k, c k ≠ 0 → b0 ≤ k ∧ k < w.heap.size
def RefS (w0 : World) (c0 : Nat → Nat) (w : World) (b0 g : Nat) (R : RM) : Prop := ∃ c, RefM w b0 g c R ∧ DE b0 w0 c0 w c
section
variable {w w' w0 : World} {b0 g : Nat} {c c0 : Nat → Nat} {R R' : RM}
theorem RefM.refl (h : RefM w b0 g c R) : RefS w c w b0 g R := ⟨c, h, Below.refl _ _, Chg.refl _ _, fun _ _ => rfl⟩
theorem RefM.lo (h : RefM w b0 g c R) : b0 ≤ w.heap.size := by have := h.cb g (by rw [h.cg]; decide); omega
theorem RefS.rebase (hM : RefM w b0 g c R) (hd : DE b0 w0 c0 w c) (h : RefS w c w' b0 g R') : RefS w0 c0 w' b0 g R' := by
  obtain ⟨c', h1, h2⟩ := h
  exact ⟨c', h1, hd.step hM.lo (fun k hk => (hM.cb k hk).1) h2.2.1 h2.2.2⟩
/-- blocks turn that are nobody's -/
theorem RefM.aside {F : Nat → Prop} (h : RefM w b0 g c R) (hc : Chg w w' F) (hF : ∀ k, F k → c k = 0) : RefM w' b0 g c R :=
  ⟨hc.ar h.cell (fun e => by have := hF g e; have := h.cg; omega), h.cg, hc.ownI h.out (fun k hk e => by have := hF k e; have := h.cout k hk; omega), h.cout,
    hc.ownI h.kinds (fun k hk e => by have := hF k e; have := h.ckinds k hk; omega), h.ckinds,
    hc.ownI h.stops (fun k hk e => by have := hF k e; have := h.cstops k hk; omega), h.cstops,
    hc.ownT h.toks (fun k hk e => by have := hF k e; have := h.ctoks k hk; omega), h.ctoks,
    hc.ownI h.bits (fun k hk e => by have := hF k e; have := h.cbits k hk; omega), h.cbits,
    fun k hk => ⟨(h.cb k hk).1, Nat.lt_of_lt_of_le (h.cb k hk).2 hc.size⟩⟩
theorem RefM.keeps (h : RefM w b0 g c R) (hb : Below w.heap.size w w') : RefM w' b0 g c R := h.aside (F := fun _ => False) (Chg.of_below hb) (fun k hk => hk.elim)
/-- a cell of its own turns -/
theorem RefM.put (h : RefM w b0 g c R) {i : Nat} (hi : i < 13) (v : Value) (R' : RM) (hF : ∀ j, j < 13 → upd (sF R) i v j = sF R' j) (hR : R' = { R with E := R'.E, rest := R'.rest, at_ := R'.at_, most := R'.most, Al := R'.Al, Ad := R'.Ad, Alc := R'.Alc, Adc := R'.Adc }) : RefM (w.setCell ⟨g, i, none⟩ v) b0 g c R' := by
  have hc : Chg w (w.setCell ⟨g, i, none⟩ v) (fun k => k = g) := (Chg.refl w (fun k => k = g)).setCell (p := ⟨g, i, none⟩) (.inl rfl) v
  refine ⟨(h.cell.set_ hi v).congr hF, h.cg, ?_, ?_, ?_, ?_, ?_, ?_, ?_, ?_, ?_, ?_, fun k hk => ⟨(h.cb k hk).1, Nat.lt_of_lt_of_le (h.cb k hk).2 hc.size⟩⟩
  all_goals rw [hR]
  · exact hc.ownI h.out (fun k hk e => by have := h.cout k hk; have := h.cg; subst e; omega)
  · exact h.cout
  · exact hc.ownI h.kinds (fun k hk e => by have := h.ckinds k hk; have := h.cg; subst e; omega)
  · exact h.ckinds
  · exact hc.ownI h.stops (fun k hk e => by have := h.cstops k hk; have := h.cg; subst e; omega)
  · exact h.cstops
  · exact hc.ownT h.toks (fun k hk e => by have := h.ctoks k hk; have := h.cg; subst e; omega)
  · exact h.ctoks
  · exact hc.ownI h.bits (fun k hk e => by have := h.cbits k hk; have := h.cg; subst e; omega)
  · exact h.cbits
/-- its cells turn, and its out -/
theorem RefM.nout (h : RefM w b0 g c R) {A' : Option Addr} {n' c' : Nat} {l' : List Int} (hc : Chg w w' (fun k => k = g ∨ blkOf R.Ao = some k)) (ha : Ar w' g 13 (sF { R with Ao := A', no := n', co := c', out := l' })) (hr : OwnI .u8 w' b0 5 A' n' c' l')
    (hf : ∀ k, blkOf A' = some k → blkOf R.Ao = some k ∨ w.heap.size ≤ k) :
    RefM w' b0 g (colour c w.heap.size (fun k => blkOf A' = some k) 2) { R with Ao := A', no := n', co := c', out := l' } := by
  have hF : ∀ k, (k = g ∨ blkOf R.Ao = some k) → c k = 1 ∨ c k = 2 := fun k hk => by
    rcases hk with rfl | hk
    · exact .inl h.cg
    · exact .inr (h.cout k hk)
  have hlt : ∀ k i, c k = i → i ≠ 0 → k < w.heap.size := fun k i h1 h2 => (h.cb k (by omega)).2
  have hold : ∀ k, k < w.heap.size → colour c w.heap.size (fun k => blkOf A' = some k) 2 k = c k := fun k hk => colour_old hk
  have hkeep : ∀ k i, c k = i → i ≠ 0 → colour c w.heap.size (fun k => blkOf A' = some k) 2 k = i := fun k i h1 h2 => (hold k (hlt k i h1 h2)).trans h1
  exact ⟨ha, hkeep _ _ h.cg (by decide),
    hr, fun k hk => by
      rcases Nat.lt_or_ge k w.heap.size with h1 | h1
      · rcases hf k hk with h2 | h2
        · exact hkeep k 2 (h.cout k h2) (by decide)
        · omega
      · exact colour_new h1 hk,
    hc.ownI h.kinds (fun k hk e => by have := hF k e; have := h.ckinds k hk; omega), fun k hk => hkeep k 3 (h.ckinds k hk) (by decide),
    hc.ownI h.stops (fun k hk e => by have := hF k e; have := h.cstops k hk; omega), fun k hk => hkeep k 4 (h.cstops k hk) (by decide),
    hc.ownT h.toks (fun k hk e => by have := hF k e; have := h.ctoks k hk; omega), fun k hk => hkeep k 5 (h.ctoks k hk) (by decide),
    hc.ownI h.bits (fun k hk e => by have := hF k e; have := h.cbits k hk; omega), fun k hk => hkeep k 6 (h.cbits k hk) (by decide),
    fun k hk => by
      rcases colour_ne hk with ⟨h1, h2⟩ | ⟨h1, h2⟩
      · exact ⟨(h.cb k h2).1, Nat.lt_of_lt_of_le h1 hc.size⟩
      · exact hr.2.lt h2⟩
theorem RefS.nout (h : RefS w0 c0 w b0 g R) {A' : Option Addr} {n' c' : Nat} {l' : List Int} (hc : Chg w w' (fun k => k = g ∨ blkOf R.Ao = some k)) (ha : Ar w' g 13 (sF { R with Ao := A', no := n', co := c', out := l' })) (hr : OwnI .u8 w' b0 5 A' n' c' l')
    (hf : ∀ k, blkOf A' = some k → blkOf R.Ao = some k ∨ w.heap.size ≤ k) : RefS w0 c0 w' b0 g { R with Ao := A', no := n', co := c', out := l' } := by
  obtain ⟨c, h, hd⟩ := h
  exact ⟨_, h.nout hc ha hr hf, hd.step h.lo (fun k hk => (h.cb k hk).1) (hc.more fun k hk => by
    rcases hk with rfl | hk
    · rw [h.cg]; decide
    · rw [h.cout k hk]; decide) fun k hk => colour_old hk⟩
/-- its cells turn, and its kinds -/
theorem RefM.nkinds (h : RefM w b0 g c R) {A' : Option Addr} {n' c' : Nat} {l' : List Int} (hc : Chg w w' (fun k => k = g ∨ blkOf R.Ak = some k)) (ha : Ar w' g 13 (sF { R with Ak := A', nk := n', ck := c', kinds := l' })) (hr : OwnI .i64 w' b0 3 A' n' c' l')
    (hf : ∀ k, blkOf A' = some k → blkOf R.Ak = some k ∨ w.heap.size ≤ k) :
    RefM w' b0 g (colour c w.heap.size (fun k => blkOf A' = some k) 3) { R with Ak := A', nk := n', ck := c', kinds := l' } := by
  have hF : ∀ k, (k = g ∨ blkOf R.Ak = some k) → c k = 1 ∨ c k = 3 := fun k hk => by
    rcases hk with rfl | hk
    · exact .inl h.cg
    · exact .inr (h.ckinds k hk)
  have hlt : ∀ k i, c k = i → i ≠ 0 → k < w.heap.size := fun k i h1 h2 => (h.cb k (by omega)).2
  have hold : ∀ k, k < w.heap.size → colour c w.heap.size (fun k => blkOf A' = some k) 3 k = c k := fun k hk => colour_old hk
  have hkeep : ∀ k i, c k = i → i ≠ 0 → colour c w.heap.size (fun k => blkOf A' = some k) 3 k = i := fun k i h1 h2 => (hold k (hlt k i h1 h2)).trans h1
  exact ⟨ha, hkeep _ _ h.cg (by decide),
    hc.ownI h.out (fun k hk e => by have := hF k e; have := h.cout k hk; omega), fun k hk => hkeep k 2 (h.cout k hk) (by decide),
    hr, fun k hk => by
      rcases Nat.lt_or_ge k w.heap.size with h1 | h1
      · rcases hf k hk with h2 | h2
        · exact hkeep k 3 (h.ckinds k h2) (by decide)
        · omega
      · exact colour_new h1 hk,
    hc.ownI h.stops (fun k hk e => by have := hF k e; have := h.cstops k hk; omega), fun k hk => hkeep k 4 (h.cstops k hk) (by decide),
    hc.ownT h.toks (fun k hk e => by have := hF k e; have := h.ctoks k hk; omega), fun k hk => hkeep k 5 (h.ctoks k hk) (by decide),
    hc.ownI h.bits (fun k hk e => by have := hF k e; have := h.cbits k hk; omega), fun k hk => hkeep k 6 (h.cbits k hk) (by decide),
    fun k hk => by
      rcases colour_ne hk with ⟨h1, h2⟩ | ⟨h1, h2⟩
      · exact ⟨(h.cb k h2).1, Nat.lt_of_lt_of_le h1 hc.size⟩
      · exact hr.2.lt h2⟩
theorem RefS.nkinds (h : RefS w0 c0 w b0 g R) {A' : Option Addr} {n' c' : Nat} {l' : List Int} (hc : Chg w w' (fun k => k = g ∨ blkOf R.Ak = some k)) (ha : Ar w' g 13 (sF { R with Ak := A', nk := n', ck := c', kinds := l' })) (hr : OwnI .i64 w' b0 3 A' n' c' l')
    (hf : ∀ k, blkOf A' = some k → blkOf R.Ak = some k ∨ w.heap.size ≤ k) : RefS w0 c0 w' b0 g { R with Ak := A', nk := n', ck := c', kinds := l' } := by
  obtain ⟨c, h, hd⟩ := h
  exact ⟨_, h.nkinds hc ha hr hf, hd.step h.lo (fun k hk => (h.cb k hk).1) (hc.more fun k hk => by
    rcases hk with rfl | hk
    · rw [h.cg]; decide
    · rw [h.ckinds k hk]; decide) fun k hk => colour_old hk⟩
/-- its cells turn, and its stops -/
theorem RefM.nstops (h : RefM w b0 g c R) {A' : Option Addr} {n' c' : Nat} {l' : List Int} (hc : Chg w w' (fun k => k = g ∨ blkOf R.As = some k)) (ha : Ar w' g 13 (sF { R with As := A', ns := n', cs := c', stops := l' })) (hr : OwnI .i64 w' b0 3 A' n' c' l')
    (hf : ∀ k, blkOf A' = some k → blkOf R.As = some k ∨ w.heap.size ≤ k) :
    RefM w' b0 g (colour c w.heap.size (fun k => blkOf A' = some k) 4) { R with As := A', ns := n', cs := c', stops := l' } := by
  have hF : ∀ k, (k = g ∨ blkOf R.As = some k) → c k = 1 ∨ c k = 4 := fun k hk => by
    rcases hk with rfl | hk
    · exact .inl h.cg
    · exact .inr (h.cstops k hk)
  have hlt : ∀ k i, c k = i → i ≠ 0 → k < w.heap.size := fun k i h1 h2 => (h.cb k (by omega)).2
  have hold : ∀ k, k < w.heap.size → colour c w.heap.size (fun k => blkOf A' = some k) 4 k = c k := fun k hk => colour_old hk
  have hkeep : ∀ k i, c k = i → i ≠ 0 → colour c w.heap.size (fun k => blkOf A' = some k) 4 k = i := fun k i h1 h2 => (hold k (hlt k i h1 h2)).trans h1
  exact ⟨ha, hkeep _ _ h.cg (by decide),
    hc.ownI h.out (fun k hk e => by have := hF k e; have := h.cout k hk; omega), fun k hk => hkeep k 2 (h.cout k hk) (by decide),
    hc.ownI h.kinds (fun k hk e => by have := hF k e; have := h.ckinds k hk; omega), fun k hk => hkeep k 3 (h.ckinds k hk) (by decide),
    hr, fun k hk => by
      rcases Nat.lt_or_ge k w.heap.size with h1 | h1
      · rcases hf k hk with h2 | h2
        · exact hkeep k 4 (h.cstops k h2) (by decide)
        · omega
      · exact colour_new h1 hk,
    hc.ownT h.toks (fun k hk e => by have := hF k e; have := h.ctoks k hk; omega), fun k hk => hkeep k 5 (h.ctoks k hk) (by decide),
    hc.ownI h.bits (fun k hk e => by have := hF k e; have := h.cbits k hk; omega), fun k hk => hkeep k 6 (h.cbits k hk) (by decide),
    fun k hk => by
      rcases colour_ne hk with ⟨h1, h2⟩ | ⟨h1, h2⟩
      · exact ⟨(h.cb k h2).1, Nat.lt_of_lt_of_le h1 hc.size⟩
      · exact hr.2.lt h2⟩
theorem RefS.nstops (h : RefS w0 c0 w b0 g R) {A' : Option Addr} {n' c' : Nat} {l' : List Int} (hc : Chg w w' (fun k => k = g ∨ blkOf R.As = some k)) (ha : Ar w' g 13 (sF { R with As := A', ns := n', cs := c', stops := l' })) (hr : OwnI .i64 w' b0 3 A' n' c' l')
    (hf : ∀ k, blkOf A' = some k → blkOf R.As = some k ∨ w.heap.size ≤ k) : RefS w0 c0 w' b0 g { R with As := A', ns := n', cs := c', stops := l' } := by
  obtain ⟨c, h, hd⟩ := h
  exact ⟨_, h.nstops hc ha hr hf, hd.step h.lo (fun k hk => (h.cb k hk).1) (hc.more fun k hk => by
    rcases hk with rfl | hk
    · rw [h.cg]; decide
    · rw [h.cstops k hk]; decide) fun k hk => colour_old hk⟩
/-- its cells turn, and its toks -/
theorem RefM.ntoks (h : RefM w b0 g c R) {A' : Option Addr} {n' c' : Nat} {l' : List Tok} (hc : Chg w w' (fun k => k = g ∨ blkOf R.At = some k)) (ha : Ar w' g 13 (sF { R with At := A', nt := n', ct := c', toks := l' })) (hr : OwnT w' b0 A' n' c' l')
    (hf : ∀ k, blkOf A' = some k → blkOf R.At = some k ∨ w.heap.size ≤ k) :
    RefM w' b0 g (colour c w.heap.size (fun k => blkOf A' = some k) 5) { R with At := A', nt := n', ct := c', toks := l' } := by
  have hF : ∀ k, (k = g ∨ blkOf R.At = some k) → c k = 1 ∨ c k = 5 := fun k hk => by
    rcases hk with rfl | hk
    · exact .inl h.cg
    · exact .inr (h.ctoks k hk)
  have hlt : ∀ k i, c k = i → i ≠ 0 → k < w.heap.size := fun k i h1 h2 => (h.cb k (by omega)).2
  have hold : ∀ k, k < w.heap.size → colour c w.heap.size (fun k => blkOf A' = some k) 5 k = c k := fun k hk => colour_old hk
  have hkeep : ∀ k i, c k = i → i ≠ 0 → colour c w.heap.size (fun k => blkOf A' = some k) 5 k = i := fun k i h1 h2 => (hold k (hlt k i h1 h2)).trans h1
  exact ⟨ha, hkeep _ _ h.cg (by decide),
    hc.ownI h.out (fun k hk e => by have := hF k e; have := h.cout k hk; omega), fun k hk => hkeep k 2 (h.cout k hk) (by decide),
    hc.ownI h.kinds (fun k hk e => by have := hF k e; have := h.ckinds k hk; omega), fun k hk => hkeep k 3 (h.ckinds k hk) (by decide),
    hc.ownI h.stops (fun k hk e => by have := hF k e; have := h.cstops k hk; omega), fun k hk => hkeep k 4 (h.cstops k hk) (by decide),
    hr, fun k hk => by
      rcases Nat.lt_or_ge k w.heap.size with h1 | h1
      · rcases hf k hk with h2 | h2
        · exact hkeep k 5 (h.ctoks k h2) (by decide)
        · omega
      · exact colour_new h1 hk,
    hc.ownI h.bits (fun k hk e => by have := hF k e; have := h.cbits k hk; omega), fun k hk => hkeep k 6 (h.cbits k hk) (by decide),
    fun k hk => by
      rcases colour_ne hk with ⟨h1, h2⟩ | ⟨h1, h2⟩
      · exact ⟨(h.cb k h2).1, Nat.lt_of_lt_of_le h1 hc.size⟩
      · exact hr.2.lt h2⟩
theorem RefS.ntoks (h : RefS w0 c0 w b0 g R) {A' : Option Addr} {n' c' : Nat} {l' : List Tok} (hc : Chg w w' (fun k => k = g ∨ blkOf R.At = some k)) (ha : Ar w' g 13 (sF { R with At := A', nt := n', ct := c', toks := l' })) (hr : OwnT w' b0 A' n' c' l')
    (hf : ∀ k, blkOf A' = some k → blkOf R.At = some k ∨ w.heap.size ≤ k) : RefS w0 c0 w' b0 g { R with At := A', nt := n', ct := c', toks := l' } := by
  obtain ⟨c, h, hd⟩ := h
  exact ⟨_, h.ntoks hc ha hr hf, hd.step h.lo (fun k hk => (h.cb k hk).1) (hc.more fun k hk => by
    rcases hk with rfl | hk
    · rw [h.cg]; decide
    · rw [h.ctoks k hk]; decide) fun k hk => colour_old hk⟩
theorem RefS.keeps (h : RefS w0 c0 w b0 g R) (hb : Below w.heap.size w w') : RefS w0 c0 w' b0 g R := by
  obtain ⟨c, h, hd⟩ := h
  exact ⟨c, h.keeps hb, hd.step h.lo (fun k hk => (h.cb k hk).1) (Chg.of_below hb) fun k hk => rfl⟩
theorem RefS.drewN (h : RefS w0 c0 w b0 g R) (q : Nat) : RefS w0 c0 (w.drewN q) b0 g R := h.keeps (below_drewN (Below.refl _ _) q)
theorem RefS.drew (h : RefS w0 c0 w b0 g R) : RefS w0 c0 w.drew b0 g R := h.keeps (Below.refl _ _).drew
theorem RefS.put (h : RefS w0 c0 w b0 g R) {i : Nat} (hi : i < 13) (v : Value) (R' : RM) (hF : ∀ j, j < 13 → upd (sF R) i v j = sF R' j) (hR : R' = { R with E := R'.E, rest := R'.rest, at_ := R'.at_, most := R'.most, Al := R'.Al, Ad := R'.Ad, Alc := R'.Alc, Adc := R'.Adc }) : RefS w0 c0 (w.setCell ⟨g, i, none⟩ v) b0 g R' := by
  obtain ⟨c, h, hd⟩ := h
  exact ⟨c, h.put hi v R' hF hR, hd.step h.lo (fun k hk => (h.cb k hk).1) ((Chg.refl w (fun k => c k ≠ 0)).setCell (p := ⟨g, i, none⟩) (.inl (by rw [h.cg]; decide)) v) fun k hk => rfl⟩
theorem RefS.cell (h : RefS w0 c0 w b0 g R) : Ar w g 13 (sF R) := by obtain ⟨c, h, hd⟩ := h; exact h.cell
theorem RefS.out (h : RefS w0 c0 w b0 g R) : OwnI .u8 w b0 5 R.Ao R.no R.co R.out := by obtain ⟨c, h, hd⟩ := h; exact h.out
theorem RefS.kinds (h : RefS w0 c0 w b0 g R) : OwnI .i64 w b0 3 R.Ak R.nk R.ck R.kinds := by obtain ⟨c, h, hd⟩ := h; exact h.kinds
theorem RefS.stops (h : RefS w0 c0 w b0 g R) : OwnI .i64 w b0 3 R.As R.ns R.cs R.stops := by obtain ⟨c, h, hd⟩ := h; exact h.stops
theorem RefS.toks (h : RefS w0 c0 w b0 g R) : OwnT w b0 R.At R.nt R.ct R.toks := by obtain ⟨c, h, hd⟩ := h; exact h.toks
theorem RefS.bits (h : RefS w0 c0 w b0 g R) : OwnI .u8 w b0 5 R.Ab R.nb R.cb R.X := by obtain ⟨c, h, hd⟩ := h; exact h.bits
theorem RefS.lo (h : RefS w0 c0 w b0 g R) : b0 ≤ w.heap.size := by obtain ⟨c, h, hd⟩ := h; exact h.lo
theorem RefS.apart (h : RefS w0 c0 w b0 g R) : blkOf R.Ao ≠ some g ∧ blkOf R.Ak ≠ some g ∧ blkOf R.As ≠ some g ∧ blkOf R.At ≠ some g := by
  obtain ⟨c, h, hd⟩ := h
  have hg := h.cg
  exact ⟨fun e => by have := h.cout g e; omega, fun e => by have := h.ckinds g e; omega, fun e => by have := h.cstops g e; omega, fun e => by have := h.ctoks g e; omega⟩
/-- what lies aside from w0 on stays as it is -/
theorem RefS.aside (h : RefS w0 c0 w b0 g R) : Chg w0 w (fun k => c0 k ≠ 0) ∧ Below b0 w0 w := by obtain ⟨c, h, hd⟩ := h; exact ⟨hd.2.1, hd.1⟩
theorem RefS.cells (h : RefS w0 c0 w b0 g R) : w.cell? ⟨g, 0, none⟩ = some (.slice R.Ao R.no R.co) ∧ w.cell? ⟨g, 1, none⟩ = some (.int .i64 R.E) ∧ w.cell? ⟨g, 2, none⟩ = some (.int .i64 R.rest) ∧ w.cell? ⟨g, 3, none⟩ = some (.slice R.Ak R.nk R.ck) ∧ w.cell? ⟨g, 4, none⟩ = some (.slice R.As R.ns R.cs) ∧ w.cell? ⟨g, 5, none⟩ = some (.slice R.Ab R.nb R.cb) ∧
    w.cell? ⟨g, 6, none⟩ = some (.int .i64 (R.at_ : Nat)) ∧ w.cell? ⟨g, 7, none⟩ = some (.int .i64 R.most) ∧ w.cell? ⟨g, 8, none⟩ = some R.Al ∧ w.cell? ⟨g, 9, none⟩ = some R.Ad ∧ w.cell? ⟨g, 10, none⟩ = some R.Alc ∧ w.cell? ⟨g, 11, none⟩ = some R.Adc ∧ w.cell? ⟨g, 12, none⟩ = some (.slice R.At R.nt R.ct) := by
  have k := h.cell
  exact ⟨k.cell (i := 0) (by omega), k.cell (i := 1) (by omega), k.cell (i := 2) (by omega), k.cell (i := 3) (by omega), k.cell (i := 4) (by omega), k.cell (i := 5) (by omega), k.cell (i := 6) (by omega), k.cell (i := 7) (by omega), k.cell (i := 8) (by omega), k.cell (i := 9) (by omega), k.cell (i := 10) (by omega), k.cell (i := 11) (by omega), k.cell (i := 12) (by omega)⟩
end
end Go.Proofs.Ytckhkkjdibcclaa

/-
  The walk of the reference's Bits.
-/
namespace Go.Proofs.Ytckhkkjdibcclaa
open Go.RowKit
set_option linter.unusedVariables false
theorem fbyte_info : (Try.prog.info? 5).map (fun i => (i.zero, i.size, i.bytes)) = some (some (.int .u8 0), 1, 1) := by kernel_rfl
/-- a new slice that reads as L; all else as it was -/
def MkPost (w : World) (L : List Int) (e : Ending) (w' : World) : Prop :=
  ∃ A n c, e = .returned (.slice A n c) ∧ OwnI .u8 w' w.heap.size 5 A n c L ∧ Below w.heap.size w w'

def BitsOut (w : World) (b : List Int) (n : Nat) (o i : Value) (wr : World) : Prop :=
  ∃ (k m d : Nat) (A : Option Addr), k ≤ n ∧ i = .int .i64 k ∧ Hid (m = 8 * k) ∧ o = .slice A m d ∧ OwnI .u8 wr w.heap.size 5 A m d (bts (b.take k)) ∧ Below w.heap.size w wr
def BitsIn (w : World) (b : List Int) (k0 : Nat) (o j : Value) (wr : World) : Prop :=
  ∃ (k m d : Nat) (A : Option Addr), k ≤ 8 ∧ j = .int .i64 k ∧ Hid (m = 8 * k0 + k) ∧ o = .slice A m d ∧ OwnI .u8 wr w.heap.size 5 A m d (bts (b.take k0) ++ ofN (ix b k0) k) ∧ Below w.heap.size w wr
set_option maxRecDepth 100000 in
set_option maxHeartbeats 1600000 in
theorem bits_any (w : World) (B n c : Nat) (A : Option Addr) (b : List Int) (hr : RdI .u8 w B A n b) (hB : B ≤ w.heap.size) (hby : ∀ x ∈ b, 0 ≤ x ∧ x < 256) (hn : (n : Int) ≤ 100000000000) : Calls Try.prog 39 #[.slice A n c] w (MkPost w (bts b)) := by
  obtain ⟨i0, hi, hz0, hz1, hz2⟩ := info_parts fbyte_info
  have Hi := Lib.hid hi
  have Hz0 := Lib.hid hz0
  have Hz1 := Lib.hid hz1
  have Hz2 := Lib.hid hz2
  clear hi hz0 hz1 hz2
  have HN := Lib.hid hr.1
  go_enter Try.func39, Try.ntmps39
  go_wp2
  go_loopw [3, 4] (BitsOut w b n) (fun _ i _ => n - (intOf i).toNat)
  case atStart => exact ⟨0, 0, 0, none, Nat.zero_le _, rfl, rfl, rfl, OwnI.nil_, Below.refl _ _⟩
  case round =>
    obtain ⟨k, m, d, A1, hk, rfl, HM, rfl, ho, hb⟩ := hrel
    by_cases hlt : k < n
    · have hkI : (k : Int) < (n : Int) ∧ (0 : Int) ≤ k := by omega
      obtain ⟨wo, hwo⟩ : ∃ wo : World, wo = wr := ⟨_, rfl⟩
      subst hwo
      go_wp2_with fail
      go_loopw [3, 5] (BitsIn w b k) (fun _ j _ => 8 - (intOf j).toNat)
      case atStart => exact ⟨0, m, d, A1, Nat.zero_le _, rfl, HM, rfl, by rw [show ofN (ix b k) 0 = [] from rfl, List.append_nil]; exact ho, hb⟩
      case round =>
        clear ho hb
        obtain ⟨j, m2, d2, A2, hj, rfl, HM2, rfl, ho, hb⟩ := hrel
        by_cases hj8 : j < 8
        · have hjI : (j : Int) < 8 ∧ (0 : Int) ≤ j := by omega
          obtain ⟨ad, rfl, hbl, c1⟩ := hr.at_ hlt
          have c2 := (hb.cell (p := ad.add k) (by rw [addr_block]; omega)).trans c1
          obtain ⟨x, hx⟩ : ∃ x, ix b k = x := ⟨_, rfl⟩
          have hxb := ix_bd hby k
          rw [hx] at c2 hxb ho
          have HS : Hid (ofN x (j + 1) = ofN x j ++ [x / 2 ^ j % 2]) := ofN_succ x j
          have HX := Lib.hid hx
          obtain ⟨y, hy⟩ : ∃ y, x / 2 ^ j % 2 = y := ⟨_, rfl⟩
          have hmb : m2 ≤ 900000000000 := by have := HM2.out; omega
          have e0 : (j : Int) % 18446744073709551616 = (j : Int) := by omega
          have hoA := ho.alloc (.cells #[.int .u8 y] 5)
          have hbA := hb.alloc hb.size (.cells #[.int .u8 y] 5)
          rw [hy] at HS
          have e1 : (x / 2 ^ j).tmod 2 = y := by rw [Int.tmod_eq_emod_of_nonneg (Int.ediv_nonneg hxb.1 (Int.le_of_lt (two_pos j))), hy]
          clear hy
          clear hx c1
          go_wp2_with (at_builtin; (refine wpList_app .u8 w.heap.size 5 i0 1 rfl (.tmp 16) (.tmp 25) _ rfl Try.underlying36 Hi.out Hz0.out Hz1.out Hz2.out rfl hoA rfl (RdI.lit .u8 wr [y] 5) (by omega) (by omega) hbA.size ?_)
                       intro A4 d4 w4 hown4 hg4 hat4)
          go_roundw
          case rel => exact ⟨j + 1, m2 + 1, d4, A4, hj8, by go_num, by have := HM2.out; show _ = _; omega, rfl, by rw [HX.out, HS.out, ← List.append_assoc]; exact hown4, hbA.grown hg4 hbA.size fun q hq => (ho.2.lt hq).1⟩
          case measure => simp [intOf]; omega
        · obtain rfl : j = 8 := by omega
          have HE : Hid (bts (b.take (k + 1)) = bts (b.take k) ++ ofN (ix b k) 8) := by
            show _ = _
            have hkl : k < b.length := by rw [← HN.out]; exact hlt
            rw [List.take_succ_eq_append_getElem hkl, bts_append]
            congr 1
            simp [bts, ix, hkl]
          go_wp2
          go_roundw
          case rel => exact ⟨k + 1, m2, d2, A2, hlt, by go_num, by have := HM2.out; show _ = _; omega, rfl, by rw [HE.out]; exact ho, hb⟩
          case measure => simp [intOf]; omega
    · obtain rfl : n = k := by omega
      have HE : Hid (b.take n = b) := by show _ = _; rw [HN.out, List.take_length]
      go_wp2
      go_ret
      exact ⟨A1, m, d, rfl, by rw [HE.out] at ho; exact ho, hb⟩

end Go.Proofs.Ytckhkkjdibcclaa

/-
  The walk of the reference's Number.
-/
namespace Go.Proofs.Ytckhkkjdibcclaa
open Go.RowKit
set_option linter.unusedVariables false
def NumRel (l : List Int) (n : Nat) (x i : Value) : Prop := ∃ (k : Nat) (v : Int), k ≤ n ∧ i = .int .i64 ((k : Int) - 1) ∧ x = .int .i64 v ∧ Hid (v = numI (l.drop k))
set_option maxHeartbeats 1600000 in
theorem number_any (w : World) (B n c : Nat) (A : Option Addr) (l : List Int) (hr : RdI .u8 w B A n l) (hb : Bit l) (hn : (n : Int) ≤ 32) : Calls Try.prog 55 #[.slice A n c] w fun e w' => e = .returned (.int .i64 (numI l)) ∧ w = w' := by
  have HN := Lib.hid hr.1
  go_enter Try.func55, Try.ntmps55
  go_wp2
  go_loop [3, 4] (NumRel l n) (fun _ i => (intOf i + 1).toNat)
  case atStart => exact ⟨n, 0, Nat.le_refl _, rfl, rfl, by show _ = _; rw [HN.out, List.drop_length]; rfl⟩
  case round =>
    obtain ⟨k, v, hk, rfl, rfl, HV⟩ := hrel
    have hvb := numI_bd (hb.drop_ k)
    have h2 := pow_mono2 (show (l.drop k).length ≤ 32 by simp; have := HN.out; omega)
    have h3 : (2 : Int) ^ 32 = 4294967296 := rfl
    rw [← HV.out] at hvb
    have hvI : 0 ≤ v ∧ v < 4294967296 := by omega
    clear hvb h2 h3
    by_cases hk0 : 0 < k
    · obtain ⟨p, rfl⟩ : ∃ p, k = p + 1 := ⟨k - 1, by omega⟩
      have hp : ((p + 1 : Nat) : Int) - 1 = (p : Int) := by omega
      have hpI : (0 : Int) ≤ p ∧ (p : Int) < (n : Int) := by omega
      obtain ⟨ad, rfl, hbl, c1⟩ := hr.at_ (i := p) (by omega)
      obtain ⟨x, hx⟩ : ∃ x, ix l p = x := ⟨_, rfl⟩
      have hxb : 0 ≤ x ∧ x ≤ 1 := by
        rw [← hx]; unfold ix; rw [List.getD_eq_getElem?_getD]
        cases h : l[p]? with
        | none => simp
        | some v => have := hb v (List.mem_of_getElem? h); simp; omega
      rw [hx] at c1
      have HX : Hid (numI (l.drop p) = 2 * v + x) := by
        show _ = _
        have hpl : p < l.length := by rw [← HN.out]; omega
        rw [List.drop_eq_getElem_cons hpl, numI, ← HV.out]
        have : l[p] = x := by rw [← hx]; simp [ix, hpl]
        rw [this]; omega
      clear hx
      rw [hp]
      go_wp2
      go_round
      case rel => exact ⟨p, 2 * v + x, by omega, rfl, rfl, by show _ = _; rw [HX.out]⟩
      case measure => simp [intOf]
    · obtain rfl : k = 0 := by omega
      have hm1 : ((0 : Nat) : Int) - 1 = -1 := rfl
      rw [hm1]
      go_wp2
      go_ret
      exact ⟨ret_int (by rw [HV.out, List.drop_zero]), rfl⟩

end Go.Proofs.Ytckhkkjdibcclaa
