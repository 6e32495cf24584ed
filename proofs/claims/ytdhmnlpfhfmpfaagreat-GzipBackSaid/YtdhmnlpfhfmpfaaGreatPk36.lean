/-
  part
-/
import Derived.Test.YtdhmnlpfhfmpfaaGreatPk1
import Derived.Test.YtdhmnlpfhfmpfaaGreatProg
import Derived.Deep.Slices
import Derived.Deep.Fields
import Derived.ProofKit
import Derived.OpenShut
import Derived.ChangeSame
import Derived.ChangeArms
import Derived.KernelRfl
set_option linter.unusedVariables false
set_option maxRecDepth 100000
set_option maxHeartbeats 4000000
namespace Go.Proofs.YtdhmnlpfhfmpfaaGreat
open Go.RowKit Go.ChangeShapes Go.WideShapes Go.Deep
def InC (k:IntKind) (w:World) (a:ay) (len cap:Nat) (l:aj):Prop:=
 bT k w w.heap.size a len l/\len<=maxLen/\(∀n∈l,(Lit.int k n).wf=true)/\len<=cap/\cap<=maxLen
structure GU where
 A:ay
 m:Nat
 d:Nat
 b:aj
instance:Inhabited GU:= ⟨⟨none,0,0,[]⟩⟩
theorem I3 {α:Type} [Inhabited α] {P:Nat->α->Prop} {n:Nat} (h:∀i,i<n->∃t,P i t):∃l:List α,l.length=n/\∀i,i<n->P i (l.getD i default):=by
 induction n with
 | zero=>exact⟨[],rfl,λi hi=>ω⟩
 | succ n c=>
   obtain⟨l,b,d⟩ :=c λi hi=>h i ω;obtain⟨t,ht⟩ :=h n ω;refine⟨l++[t],by simp [b],λi hi=> ?_⟩;rw[aq];by_cases a:i<n
   · rw[bE ω,<-aq];exact d i a
   obtain rfl:i=n:=ω;rw[bA ω];simp [b];exact ht
theorem YQ {w:World} {p:Addr} {v:Value} (h:w.cell? p=some v):p.block<w.heap.size:=by
 rcases aV p.block w.heap.size with h' | h'
 · exact h'
 simp [World.cell?,Array.getElem?_eq_none h']at h
def a5e (w:World) (a:ay) (len:Nat) (l:List GU):Prop:=
 ∀i,i<len->∃c,a=some c/\c.block<w.heap.size/\w.cell? (c.add i)=some (.slice (l.getD i default).A (l.getD i default).m (l.getD i default).d)/\InC .u8 w (l.getD i default).A (l.getD i default).m (l.getD i default).d (l.getD i default).b
theorem rdPt_of {H:Type} {enc:TypeId×Value->H} {w:World} {fuel:Nat} {a:ay} {len cap:Nat} {x:DataW H×List MemPlace}
  (h:DataW.trod enc Tryz.prog w 0 (λ_=>true) true fuel 47 [.slice a len cap]=some x):∃l:List GU,a5e w a len l/\len<=maxLen:=by
 rcases open_slice1 Tryz.underlying47 (by kernel_rfl) h with ⟨e,_⟩ | ⟨j,l,c,m,n,V,D,G,e,_,r,q,u,_,hi⟩
 · simp at e;obtain⟨rfl,rfl,rfl⟩ :=e;exact⟨[],λi hi=>ω,aF _⟩
 simp at e u;obtain⟨rfl,rfl,rfl⟩ :=e;subst u
 have o:∀i,i<len->∃t:GU,∃s,some j=some s/\s.block<w.heap.size/\w.cell? (s.add i)=some (.slice t.A t.m t.d)/\InC .u8 w t.A t.m t.d t.b:=by
  intro i E;obtain⟨g,ht⟩ :=hi i ω;have v:j.block<w.heap.size:=by have:=YQ g;rwa [bG]at this
  rcases open_ints Tryz.underlying22 Tryz.underlying5 (by kernel_rfl) ht with ⟨e,_⟩ | ⟨x,l,c,zs,e,_,r,q,hz,_,f,p⟩
  · simp at e;rw[e]at g;exact⟨⟨none,0,0,[]⟩,j,rfl,v,g, ⟨rfl,Rd.dN⟩,aF _,(λx C=>by cases C),ai _,aF _⟩
  simp at e;rw[e]at g;obtain⟨B,z,y⟩ :=DX (k:= .u8) (w:=w) (a:=some x) (len:=l) (cap:=c) (zs:=zs) (.inr ⟨_,rfl,r,q,by simpa using hz,f,p⟩);exact⟨⟨some x,l,c,_⟩,j,rfl,v,g,B,z,y,r,q⟩
 obtain⟨l,F,g⟩ :=I3 o;exact⟨l,g,ω⟩
end Go.Proofs.YtdhmnlpfhfmpfaaGreat
