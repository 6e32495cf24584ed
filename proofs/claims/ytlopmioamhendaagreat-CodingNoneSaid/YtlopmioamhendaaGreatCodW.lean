/-
  The walks of coding's Decoder, Encoder and Pipe over same and plain.
-/
import Derived.Test.YtlopmioamhendaaGreatCodS
namespace Go.Proofs.YtlopmioamhendaaGreat
open Go.RowKit
set_option linter.unusedVariables false

/-- no block is of both -/
def Dj (F G : Nat → Prop) : Prop := ∀ k, F k → ¬ G k
theorem Dj.fresh {F F' G : Nat → Prop} {S : Nat} (h : Dj F G) (h1 : ∀ k, F' k → F k ∨ S ≤ k) (h2 : ∀ k, G k → k < S) : Dj F' G := fun k hk hg => by
  rcases h1 k hk with h3 | h3
  · exact h k h3 hg
  · have := h2 k hg; omega
theorem Dj.symm {F G : Nat → Prop} (h : Dj F G) : Dj G F := fun k hk hg => h k hg hk
def ppF (gd ge : Nat) (A : Option Addr) (n c : Nat) (err : Int) : Nat → Value
  | 0 => .pointer (some ⟨gd, 0, none⟩)
  | 1 => .pointer (some ⟨ge, 0, none⟩)
  | 2 => .slice A n c
  | _ => .int .i64 err
/-- a pipe that passes bytes as they are: l taken out of its decoder, ls in it -/
structure PipM (w : World) (b0 gp gd ge gs gl : Nat) (A : Option Addr) (n c : Nat) (l : List Int) (err : Int) (As : Option Addr) (ns cs : Nat) (ls : List Int) (M : Int) (ended : Bool) (Ap : Option Addr) (np cp : Nat) (lp : List Int) (done : Bool) : Prop where
  pc : Ar w gp 4 (ppF gd ge A n c err)
  dc : Ar w gd 1 (fun _ => .iface 58 (.pointer (some ⟨gs, 0, none⟩)))
  ec : Ar w ge 1 (fun _ => .iface 69 (.pointer (some ⟨gl, 0, none⟩)))
  s : SamM w b0 gs As ns cs ls M ended
  p : PlnM w b0 gl Ap np cp lp done
  own : OwnI .u8 w b0 5 A n c l
  apart : blkOf A ≠ some gp
  lo : b0 ≤ gp ∧ b0 ≤ gd ∧ b0 ≤ ge
  sp : Dj (foot As gs) (foot Ap gl)
  sq : Dj (foot As gs) (foot A gp)
  pq : Dj (foot Ap gl) (foot A gp)
  iS : ¬ foot As gs gd ∧ ¬ foot As gs ge
  iP : ¬ foot Ap gl gd ∧ ¬ foot Ap gl ge
  iQ : ¬ foot A gp gd ∧ ¬ foot A gp ge
section
variable {w w' : World} {b0 gp gd ge gs gl n c ns cs np cp : Nat} {A As Ap : Option Addr} {l ls lp : List Int} {err M : Int} {ended done : Bool}
theorem PipM.ltS (h : PipM w b0 gp gd ge gs gl A n c l err As ns cs ls M ended Ap np cp lp done) : ∀ k, foot As gs k → k < w.heap.size := fun k hk => by
  rcases hk with rfl | hk
  · exact h.s.cell.lt
  · exact (h.s.own.2.lt hk).2
theorem PipM.ltP (h : PipM w b0 gp gd ge gs gl A n c l err As ns cs ls M ended Ap np cp lp done) : ∀ k, foot Ap gl k → k < w.heap.size := fun k hk => by
  rcases hk with rfl | hk
  · exact h.p.cell.lt
  · exact (h.p.own.2.lt hk).2
theorem PipM.ltQ (h : PipM w b0 gp gd ge gs gl A n c l err As ns cs ls M ended Ap np cp lp done) : ∀ k, foot A gp k → k < w.heap.size := fun k hk => by
  rcases hk with rfl | hk
  · exact h.pc.lt
  · exact (h.own.2.lt hk).2
theorem PipM.loS (h : PipM w b0 gp gd ge gs gl A n c l err As ns cs ls M ended Ap np cp lp done) : ∀ k, foot As gs k → b0 ≤ k := fun k hk => by
  rcases hk with rfl | hk
  · exact h.s.lo
  · exact (h.s.own.2.lt hk).1
theorem PipM.loP (h : PipM w b0 gp gd ge gs gl A n c l err As ns cs ls M ended Ap np cp lp done) : ∀ k, foot Ap gl k → b0 ≤ k := fun k hk => by
  rcases hk with rfl | hk
  · exact h.p.lo
  · exact (h.p.own.2.lt hk).1
theorem PipM.loQ (h : PipM w b0 gp gd ge gs gl A n c l err As ns cs ls M ended Ap np cp lp done) : ∀ k, foot A gp k → b0 ≤ k := fun k hk => by
  rcases hk with rfl | hk
  · exact h.lo.1
  · exact (h.own.2.lt hk).1
/-- the decoder's part turns -/
theorem PipM.setS {As' : Option Addr} {ns' cs' : Nat} {ls' : List Int} {M' : Int} {ended' : Bool} (h : PipM w b0 gp gd ge gs gl A n c l err As ns cs ls M ended Ap np cp lp done) (hc : Chg w w' (foot As gs)) (hs : SamM w' b0 gs As' ns' cs' ls' M' ended')
    (hf : ∀ k, foot As' gs k → foot As gs k ∨ w.heap.size ≤ k) : PipM w' b0 gp gd ge gs gl A n c l err As' ns' cs' ls' M' ended' Ap np cp lp done :=
  ⟨hc.ar h.pc (fun e => h.sq _ e (.inl rfl)), hc.ar h.dc h.iS.1, hc.ar h.ec h.iS.2, hs, h.p.chg hc (fun k hk e => h.sp k e hk), hc.ownI h.own (fun k hk e => h.sq k e (.inr hk)), h.apart, h.lo,
    h.sp.fresh hf h.ltP, h.sq.fresh hf h.ltQ, h.pq, ⟨fun e => (hf _ e).elim h.iS.1 (fun e2 => by have := h.dc.lt; omega), fun e => (hf _ e).elim h.iS.2 (fun e2 => by have := h.ec.lt; omega)⟩, h.iP, h.iQ⟩
/-- the encoder's part turns -/
theorem PipM.setP {Ap' : Option Addr} {np' cp' : Nat} {lp' : List Int} {done' : Bool} (h : PipM w b0 gp gd ge gs gl A n c l err As ns cs ls M ended Ap np cp lp done) (hc : Chg w w' (foot Ap gl)) (hp : PlnM w' b0 gl Ap' np' cp' lp' done')
    (hf : ∀ k, foot Ap' gl k → foot Ap gl k ∨ w.heap.size ≤ k) : PipM w' b0 gp gd ge gs gl A n c l err As ns cs ls M ended Ap' np' cp' lp' done' :=
  ⟨hc.ar h.pc (fun e => h.pq _ e (.inl rfl)), hc.ar h.dc h.iP.1, hc.ar h.ec h.iP.2, h.s.chg hc (fun k hk e => h.sp k hk e), hp, hc.ownI h.own (fun k hk e => h.pq k e (.inr hk)), h.apart, h.lo,
    (h.sp.symm.fresh hf h.ltS).symm, h.sq, h.pq.fresh hf h.ltQ, h.iS, ⟨fun e => (hf _ e).elim h.iP.1 (fun e2 => by have := h.dc.lt; omega), fun e => (hf _ e).elim h.iP.2 (fun e2 => by have := h.ec.lt; omega)⟩, h.iQ⟩
/-- the pipe's own part turns -/
theorem PipM.setQ {A' : Option Addr} {n' c' : Nat} {l' : List Int} {err' : Int} (h : PipM w b0 gp gd ge gs gl A n c l err As ns cs ls M ended Ap np cp lp done) (hc : Chg w w' (foot A gp)) (hq : Ar w' gp 4 (ppF gd ge A' n' c' err')) (ho : OwnI .u8 w' b0 5 A' n' c' l') (hap : blkOf A' ≠ some gp)
    (hf : ∀ k, foot A' gp k → foot A gp k ∨ w.heap.size ≤ k) : PipM w' b0 gp gd ge gs gl A' n' c' l' err' As ns cs ls M ended Ap np cp lp done :=
  ⟨hq, hc.ar h.dc h.iQ.1, hc.ar h.ec h.iQ.2, h.s.chg hc (fun k hk e => h.sq k hk e), h.p.chg hc (fun k hk e => h.pq k hk e), ho, hap, h.lo,
    h.sp, (h.sq.symm.fresh hf h.ltS).symm, (h.pq.symm.fresh hf h.ltP).symm, h.iS, h.iP, ⟨fun e => (hf _ e).elim h.iQ.1 (fun e2 => by have := h.dc.lt; omega), fun e => (hf _ e).elim h.iQ.2 (fun e2 => by have := h.ec.lt; omega)⟩⟩
/-- the same, new blocks counted from an earlier world on -/
theorem PipM.setQ2 {S : Nat} {A' : Option Addr} {n' c' : Nat} {l' : List Int} {err' : Int} (h : PipM w b0 gp gd ge gs gl A n c l err As ns cs ls M ended Ap np cp lp done) (hc : Chg w w' (foot A gp)) (hq : Ar w' gp 4 (ppF gd ge A' n' c' err')) (ho : OwnI .u8 w' b0 5 A' n' c' l') (hap : blkOf A' ≠ some gp)
    (hS1 : ∀ k, foot As gs k → k < S) (hS2 : ∀ k, foot Ap gl k → k < S) (hS3 : gd < S ∧ ge < S) (hf : ∀ k, foot A' gp k → foot A gp k ∨ S ≤ k) : PipM w' b0 gp gd ge gs gl A' n' c' l' err' As ns cs ls M ended Ap np cp lp done :=
  ⟨hq, hc.ar h.dc h.iQ.1, hc.ar h.ec h.iQ.2, h.s.chg hc (fun k hk e => h.sq k hk e), h.p.chg hc (fun k hk e => h.pq k hk e), ho, hap, h.lo,
    h.sp, (h.sq.symm.fresh hf hS1).symm, (h.pq.symm.fresh hf hS2).symm, h.iS, h.iP, ⟨fun e => (hf _ e).elim h.iQ.1 (fun e2 => by omega), fun e => (hf _ e).elim h.iQ.2 (fun e2 => by omega)⟩⟩
theorem PipM.setErr (h : PipM w b0 gp gd ge gs gl A n c l err As ns cs ls M ended Ap np cp lp done) (e : Int) : PipM (w.setCell ⟨gp, 3, none⟩ (.int .i64 e)) b0 gp gd ge gs gl A n c l e As ns cs ls M ended Ap np cp lp done :=
  h.setQ ((Chg.refl w _).setCell (p := ⟨gp, 3, none⟩) (.inl (.inl rfl)) _) ((h.pc.set_ (i := 3) (by omega) _).congr fun i hi => by
    obtain rfl | rfl | rfl | rfl : i = 0 ∨ i = 1 ∨ i = 2 ∨ i = 3 := by omega
    all_goals rfl) (h.own.far (p := ⟨gp, 3, none⟩) h.apart _) h.apart (fun k hk => .inl hk)
theorem PipM.keeps (h : PipM w b0 gp gd ge gs gl A n c l err As ns cs ls M ended Ap np cp lp done) (hb : Below w.heap.size w w') : PipM w' b0 gp gd ge gs gl A n c l err As ns cs ls M ended Ap np cp lp done :=
  ⟨h.pc.keeps hb, h.dc.keeps hb, h.ec.keeps hb, h.s.keeps hb, h.p.keeps hb, h.own.keeps hb, h.apart, h.lo, h.sp, h.sq, h.pq, h.iS, h.iP, h.iQ⟩
/-- the blocks of a pipe that turn -/
def PF (A As Ap : Option Addr) (gp gs gl : Nat) (k : Nat) : Prop := foot As gs k ∨ foot Ap gl k ∨ foot A gp k
/-- nothing below b0 has turned, nothing outside F, and what is of F' was of F or is new -/
def BE (b0 : Nat) (w w' : World) (F F' : Nat → Prop) : Prop := Below b0 w w' ∧ Chg w w' F ∧ ∀ k, F' k → F k ∨ w.heap.size ≤ k
theorem BE.refl (b0 : Nat) (w : World) (F : Nat → Prop) : BE b0 w w F F := ⟨Below.refl _ _, Chg.refl _ _, fun k h => .inl h⟩
theorem BE.trans {w'' : World} {F F' F'' : Nat → Prop} (h : BE b0 w w' F F') (h' : BE b0 w' w'' F' F'') : BE b0 w w'' F F'' :=
  ⟨h.1.trans h'.1, h.2.1.trans h'.2.1 h.2.2, fun k hk => by
    rcases h'.2.2 k hk with h1 | h1
    · exact h.2.2 k h1
    · have := h.1.size; exact .inr (by omega)⟩
theorem BE.ofS {As' : Option Addr} (h : PipM w b0 gp gd ge gs gl A n c l err As ns cs ls M ended Ap np cp lp done) (hB : b0 ≤ w.heap.size) (hc : Chg w w' (foot As gs)) (hf : ∀ k, foot As' gs k → foot As gs k ∨ w.heap.size ≤ k) : BE b0 w w' (PF A As Ap gp gs gl) (PF A As' Ap gp gs gl) :=
  ⟨hc.below h.loS hB, hc.more fun k hk => .inl hk, fun k hk => by
    rcases hk with hk | hk
    · rcases hf k hk with h1 | h1
      · exact .inl (.inl h1)
      · exact .inr h1
    · exact .inl (.inr hk)⟩
theorem BE.ofP {Ap' : Option Addr} (h : PipM w b0 gp gd ge gs gl A n c l err As ns cs ls M ended Ap np cp lp done) (hB : b0 ≤ w.heap.size) (hc : Chg w w' (foot Ap gl)) (hf : ∀ k, foot Ap' gl k → foot Ap gl k ∨ w.heap.size ≤ k) : BE b0 w w' (PF A As Ap gp gs gl) (PF A As Ap' gp gs gl) :=
  ⟨hc.below h.loP hB, hc.more fun k hk => .inr (.inl hk), fun k hk => by
    rcases hk with hk | hk | hk
    · exact .inl (.inl hk)
    · rcases hf k hk with h1 | h1
      · exact .inl (.inr (.inl h1))
      · exact .inr h1
    · exact .inl (.inr (.inr hk))⟩
theorem BE.ofQ {A' : Option Addr} (h : PipM w b0 gp gd ge gs gl A n c l err As ns cs ls M ended Ap np cp lp done) (hB : b0 ≤ w.heap.size) (hc : Chg w w' (foot A gp)) (hf : ∀ k, foot A' gp k → foot A gp k ∨ w.heap.size ≤ k) : BE b0 w w' (PF A As Ap gp gs gl) (PF A' As Ap gp gs gl) :=
  ⟨hc.below h.loQ hB, hc.more fun k hk => .inr (.inr hk), fun k hk => by
    rcases hk with hk | hk | hk
    · exact .inl (.inl hk)
    · exact .inl (.inr (.inl hk))
    · rcases hf k hk with h1 | h1
      · exact .inl (.inr (.inr h1))
      · exact .inr h1⟩
end
end Go.Proofs.YtlopmioamhendaaGreat
