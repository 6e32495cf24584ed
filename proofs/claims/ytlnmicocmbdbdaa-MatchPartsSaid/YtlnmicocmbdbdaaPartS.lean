/-
  What the walk of MatchParts keeps: the finder, all bytes so far, all tokens so far; each in blocks of its own.
-/
import Derived.Test.YtlnmicocmbdbdaaFndH
import Derived.Test.YtlnmicocmbdbdaaFndR
import Derived.Test.YtlnmicocmbdbdaaText9
namespace Go.Proofs.Ytlnmicocmbdbdaa
open Go.RowKit
set_option linter.unusedVariables false

structure PS (wB : World) (b0 g : Nat) (e : Eff) (gm : Nat) (X : List Int) (toks : List Tok) (st : FSt) (Aa : Option Addr) (na ca : Nat) (At : Option Addr) (nt ct : Nat) (A : Option Addr) (n c nm : Nat) (Dm : DataW Unit) (Ap : Option Addr) (np cp : Nat) (wr : World) : Prop where
  f : FndC wr b0 g e st st.at_ A n c gm nm Dm Ap np cp
  a : OwnI .u8 wr b0 5 Aa na ca X
  t : OwnT wr b0 At nt ct toks
  d1 : ∀ q, blkOf Aa = some q → ¬ FF A gm Ap g q
  d2 : ∀ q, blkOf At = some q → ¬ FF A gm Ap g q
  d3 : ∀ q, blkOf Aa = some q → blkOf At ≠ some q
  ex : expand [] toks = (0, st.D.take st.at_)
  b0w : b0 = wB.heap.size
  bel : Below b0 wB wr
section
variable {wB wr w' : World} {b0 g gm na ca nt ct n c nm np cp : Nat} {e : Eff} {X : List Int} {toks : List Tok} {st : FSt} {Aa At A Ap : Option Addr} {Dm : DataW Unit}
theorem PS.b0le (h : PS wB b0 g e gm X toks st Aa na ca At nt ct A n c nm Dm Ap np cp wr) : b0 ≤ wr.heap.size := by rw [h.b0w]; have := h.bel.size; exact this
theorem PS.keeps (h : PS wB b0 g e gm X toks st Aa na ca At nt ct A n c nm Dm Ap np cp wr) (hb : Below wr.heap.size wr w') : PS wB b0 g e gm X toks st Aa na ca At nt ct A n c nm Dm Ap np cp w' :=
  ⟨h.f.keeps hb, h.a.keeps hb, ⟨h.t.1, h.t.2.below hb fun q hq => (h.t.2.lt hq).2⟩, h.d1, h.d2, h.d3, h.ex, h.b0w, h.bel.trans (hb.mono h.b0le)⟩
/-- a block of no one's -/
theorem PS.other {k : Nat} (h : PS wB b0 g e gm X toks st Aa na ca At nt ct A n c nm Dm Ap np cp wr) (hc : Chg wr w' (fun q => q = k)) (h1 : ¬ FF A gm Ap g k) (h2 : blkOf Aa ≠ some k) (h3 : blkOf At ≠ some k) (h4 : b0 ≤ k) : PS wB b0 g e gm X toks st Aa na ca At nt ct A n c nm Dm Ap np cp w' :=
  ⟨h.f.chg hc fun q hq e => h1 (e ▸ hq), hc.ownI h.a fun q hq e => h2 (by rw [hq, e]), ⟨h.t.1, hc.own h.t.2 fun q hq e => h3 (by rw [hq, e])⟩, h.d1, h.d2, h.d3, h.ex, h.b0w, h.bel.trans (hc.below (fun q hq => by omega) h.b0le)⟩
theorem PS.wrote (h : PS wB b0 g e gm X toks st Aa na ca At nt ct A n c nm Dm Ap np cp wr) {y : List Int} {A' Ap' : Option Addr} {n' c' np' cp' nm' : Nat} {Dm' : DataW Unit} (hf : FndC w' b0 g e (writeF st y) st.at_ A' n' c' gm nm' Dm' Ap' np' cp') (hc : Chg wr w' (FF A gm Ap g)) (hF : ∀ k, FF A' gm Ap' g k → FF A gm Ap g k ∨ wr.heap.size ≤ k) :
    PS wB b0 g e gm X toks (writeF st y) Aa na ca At nt ct A' n' c' nm' Dm' Ap' np' cp' w' := by
  refine ⟨hf, hc.ownI h.a h.d1, ⟨h.t.1, hc.own h.t.2 h.d2⟩, fun q hq h2 => ?_, fun q hq h2 => ?_, h.d3, ?_, h.b0w, h.bel.trans (hc.below (fun q hq => (h.f.foot_lo hq).1) h.b0le)⟩
  · rcases hF q h2 with h3 | h3
    · exact h.d1 q hq h3
    · have := (h.a.2.lt hq).2; omega
  · rcases hF q h2 with h3 | h3
    · exact h.d2 q hq h3
    · have := (h.t.2.lt hq).2; omega
  · rw [h.ex]
    show _ = (0, (st.D ++ y).take st.at_)
    rw [List.take_append_of_le_length h.f.ok.hi]
theorem PS.appA (h : PS wB b0 g e gm X toks st Aa na ca At nt ct A n c nm Dm Ap np cp wr) {A' : Option Addr} {n' c' : Nat} {X' : List Int} (ho : OwnI .u8 w' b0 5 A' n' c' X') (hg : wr.grownBy w' (blkOf Aa)) (hA : blkOf A' = blkOf Aa ∨ blkOf A' = some wr.heap.size) :
    PS wB b0 g e gm X' toks st A' n' c' At nt ct A n c nm Dm Ap np cp w' := by
  have hc : Chg wr w' (fun k => blkOf Aa = some k) := (Chg.refl wr (fun k => blkOf Aa = some k)).grown hg fun k hk => .inl hk
  refine ⟨h.f.chg hc fun q hq e => h.d1 q e hq, ho, ⟨h.t.1, hc.own h.t.2 fun q hq e => h.d3 q e hq⟩, fun q hq h2 => ?_, h.d2, fun q hq h2 => ?_, h.ex, h.b0w, h.bel.trans (hc.below (fun q hq => (h.a.2.lt hq).1) h.b0le)⟩
  · rcases hA with e1 | e1
    · exact h.d1 q (e1 ▸ hq) h2
    · rw [e1] at hq; injection hq with hq; have := (h.f.foot_lo h2).2; omega
  · rcases hA with e1 | e1
    · exact h.d3 q (e1 ▸ hq) h2
    · rw [e1] at hq; injection hq with hq; have := (h.t.2.lt h2).2; omega
/-- tokens told and laid behind the list -/
theorem PS.told (h : PS wB b0 g e gm X toks st Aa na ca At nt ct A n c nm Dm Ap np cp wr) (hbig : st.D.length ≤ 16777216) {w6 : World} {left nm' : Nat} {l6 : List Tok} {st' : FSt} {A7 : Option Addr} {n7 c7 : Nat} {Dm' : DataW Unit} (hrun : Run e left st l6 st') (hf : FndC w6 b0 g e st' st'.at_ A n c gm nm' Dm' Ap np cp) (hc : Chg wr w6 (FF A gm Ap g))
    (ho : OwnT w' b0 A7 n7 c7 (toks ++ l6)) (hg : w6.grownBy w' (blkOf At)) (hA : blkOf A7 = blkOf At ∨ blkOf A7 = some w6.heap.size) :
    PS wB b0 g e gm X (toks ++ l6) st' Aa na ca A7 n7 c7 A n c nm' Dm' Ap np cp w' := by
  have hk : Chg w6 w' (fun k => blkOf At = some k) := (Chg.refl w6 (fun k => blkOf At = some k)).grown hg fun k hk => .inl hk
  have hsz := hc.size
  refine ⟨hf.chg hk fun q hq e => h.d2 q e hq, hk.ownI (hc.ownI h.a h.d1) fun q hq e => h.d3 q hq e, ho, h.d1, fun q hq h2 => ?_, fun q hq h2 => ?_, run_expand hrun h.f.ok hbig [] toks h.ex, h.b0w, (h.bel.trans (hc.below (fun q hq => (h.f.foot_lo hq).1) h.b0le)).trans (hk.below (fun q hq => (h.t.2.lt hq).1) (Nat.le_trans h.b0le hsz))⟩
  · rcases hA with e1 | e1
    · exact h.d2 q (e1 ▸ hq) h2
    · rw [e1] at hq; injection hq with hq; have := (hf.foot_lo h2).2; omega
  · rcases hA with e1 | e1
    · exact h.d3 q hq (e1 ▸ h2)
    · rw [e1] at h2; injection h2 with h2; have := (h.a.2.lt hq).2; omega
end
end Go.Proofs.Ytlnmicocmbdbdaa
