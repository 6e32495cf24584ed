/-
  part
-/
import Derived.Test.YtddhegejmkgmjaaGreatProg
import Derived.Test.YtddhegejmkgmjaaGreatPk1
import Derived.Deep.Slices
import Derived.Deep.Fields
import Derived.ProofKit
import Derived.OpenShut
import Derived.ChangeSame
import Derived.ChangeArms
import Derived.KernelRfl
set_option linter.unusedVariables false
set_option maxRecDepth 100000
set_option maxHeartbeats 4000000
namespace Go.Proofs.YtddhegejmkgmjaaGreat
open Go.RowKit Go.ChangeShapes Go.WideShapes Go.Deep
def ZH (k:IntKind) (w:World) (a:Option Addr) (len cap:Nat) (l:List Int):Prop:=
 aT k w w.heap.size a len l/\len<=maxLen/\(∀n∈l,(Lit.int k n).wf=true)/\len<=cap/\cap<=maxLen
theorem rdC_of {T E:TypeId} {k:IntKind} (o:Tryz.prog.underlying T=some (.slice E)) (p:Tryz.prog.underlying E=some (.int k)) (m:Tryz.prog.cellsOf E=1) {H:Type} {enc:TypeId×Value->H} {w:World} {fuel:Nat} {a:Option Addr} {len cap:Nat} {x:DataW H×List MemPlace}
  (h:DataW.trod enc Tryz.prog w 0 (λ_=>true) true fuel T [.slice a len cap]=some x):∃l:List Int,ZH k w a len cap l:=by
 rcases open_ints o p m h with ⟨b,_⟩ | ⟨x,l,c,zs,b,_,g,f,i,_,d,e⟩
 · simp at b;obtain⟨rfl,rfl,rfl⟩ :=b;exact⟨[], ⟨rfl,Rd.br⟩,Nat.zero_le _,λn j=>by simp at j,Nat.le_refl _,Nat.zero_le _⟩
 · simp at b;obtain⟨rfl,rfl,rfl⟩ :=b;obtain⟨s,r,q⟩ :=yb (k:=k) (w:=w) (a:=some x) (len:=len) (cap:=cap) (zs:=zs) (.inr ⟨_,rfl,g,f,by simpa using i,d,e⟩);exact⟨_,s,r,q,g,f⟩
structure BO where
 A:Option Addr
 m:Nat
 d:Nat
 b:List Int
instance:Inhabited BO:= ⟨⟨none,0,0,[]⟩⟩
theorem Co {α:Type} [Inhabited α] {P:Nat->α->Prop} {n:Nat} (h:∀i,i<n->∃t,P i t):∃l:List α,l.length=n/\∀i,i<n->P i (l.getD i default):=by
 induction n with
 | zero=>exact⟨[],rfl,λi hi=>ω⟩
 | succ n c=>
   obtain⟨l,b,d⟩ :=c λi hi=>h i ω
   obtain⟨t,ht⟩ :=h n ω;refine⟨l++[t],by simp [b],λi hi=> ?_⟩;rw[List.getD_eq_getElem?_getD];by_cases a:i<n
   · rw[List.getElem?_append_left ω,<-List.getD_eq_getElem?_getD];exact d i a
   · obtain rfl:i=n:=ω;rw[List.getElem?_append_right ω];simp [b];exact ht
theorem R5 {w:World} {p:Addr} {v:Value} (h:w.cell? p=some v):p.block<w.heap.size:=by
 rcases Nat.lt_or_ge p.block w.heap.size with a | a
 · exact a
 · simp [World.cell?,Array.getElem?_eq_none a]at h
def ZN (w:World) (a:Option Addr) (len:Nat) (l:List BO):Prop:=
 ∀i,i<len->∃c,a=some c/\c.block<w.heap.size/\w.cell? (c.add i)=some (.slice (l.getD i default).A (l.getD i default).m (l.getD i default).d)/\ZH .u8 w (l.getD i default).A (l.getD i default).m (l.getD i default).d (l.getD i default).b
theorem rdPt_of {H:Type} {enc:TypeId×Value->H} {w:World} {fuel:Nat} {a:Option Addr} {len cap:Nat} {x:DataW H×List MemPlace}
  (h:DataW.trod enc Tryz.prog w 0 (λ_=>true) true fuel 22 [.slice a len cap]=some x):∃l:List BO,ZN w a len l/\len<=maxLen:=by
 rcases open_slice1 Tryz.underlying22 (by kernel_rfl) h with ⟨e,_⟩ | ⟨j,l,c,m,n,V,D,I,e,_,r,q,u,_,hi⟩
 · simp at e;obtain⟨rfl,rfl,rfl⟩ :=e;exact⟨[],λi hi=>ω,Nat.zero_le _⟩
 · simp at e u;obtain⟨rfl,rfl,rfl⟩ :=e;subst u
   have o:∀i,i<len->∃t:BO,∃s,some j=some s/\s.block<w.heap.size/\w.cell? (s.add i)=some (.slice t.A t.m t.d)/\ZH .u8 w t.A t.m t.d t.b:=by
    intro i F;obtain⟨g,ht⟩ :=hi i ω;have v:j.block<w.heap.size:=by have:=R5 g;rwa [aw]at this
    rcases open_ints Tryz.underlying26 Tryz.underlying5 (by kernel_rfl) ht with ⟨e,_⟩ | ⟨x,l,c,zs,e,_,r,q,C,_,f,p⟩
    · simp at e;rw[e]at g;exact⟨⟨none,0,0,[]⟩,j,rfl,v,g, ⟨rfl,Rd.br⟩,Nat.zero_le _,(λx E=>by cases E),Nat.le_refl _,Nat.zero_le _⟩
    · simp at e;rw[e]at g;obtain⟨B,z,y⟩ :=yb (k:= .u8) (w:=w) (a:=some x) (len:=l) (cap:=c) (zs:=zs) (.inr ⟨_,rfl,r,q,by simpa using C,f,p⟩);exact⟨⟨some x,l,c,_⟩,j,rfl,v,g,B,z,y,r,q⟩
   obtain⟨l,G,g⟩ :=Co o;exact⟨l,g,ω⟩
end Go.Proofs.YtddhegejmkgmjaaGreat
