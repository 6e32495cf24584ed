/-
  part
-/
import Derived.Test.YtdhmnlpfhfmpfaaGreatPk25
import Derived.Test.YtdhmnlpfhfmpfaaGreatPk36
import Derived.Lib.SmallJoins
set_option linter.unusedVariables false
set_option maxRecDepth 100000
set_option maxHeartbeats 4000000
namespace Go.Proofs.YtdhmnlpfhfmpfaaGreat
open Go.Joins Go.ChangeShapes Go.WideShapes Go.RowKit Go.Deep
theorem wL (s:ByteArray):strOf (py s)=s:=by
 apply ByteArray.ext
 apply Array.ext'
 rw[kd];unfold py;rw[List.map_map]
 conv=>rhs;rw[<-List.map_id s.data.toList]
 apply df
 intro b _;simp
theorem zZ (s:ByteArray):∀x∈py s,0<=x/\x<256:=λx a=>by
 unfold py at a;obtain⟨b,_,rfl⟩ :=gJ.1 a;have:=b.toNat_lt;omega
structure zO where
 h:HP
 A:ay
 len:Nat
 cap:Nat
structure InH (w:World) (d:zO):Prop where
 x:InC .u8 w d.A d.len d.cap d.h.xl
 b:d.h.bd
 nl:d.h.nl.length<=maxLen
 cl:d.h.cl.length<=maxLen
instance:Inhabited zO:= ⟨⟨⟨false,false,0,0,0,[],false,[],[],false,false⟩,none,0,0⟩⟩
def tW (l:List zO) (i:Nat):zO:=l.getD i default
structure T8 (w:World) (p:Addr) (t:zO):Prop where
 c0:w.cell? p=some (.bool t.h.tx)
 cs:∀j,0<j->j<11->w.cell? ⟨p.block,p.off+j,none⟩ =some (hf (t.h.v (.slice t.A t.len t.cap)) j)
 lt:p.block<w.heap.size
 x:InH w t
theorem EL {α:Type} [Inhabited α] {P:Nat->α->Prop} {n:Nat} (h:∀i,i<n->∃t,P i t):∃l:List α,∀i,i<n->P i (l.getD i default):=by
 have d:∀k,k<=n->∃l:List α,l.length=k/\∀i,i<k->P i (l.getD i default):=λk=>by
  induction k with
  | zero=>exact λ_=> ⟨[],rfl,λi hi=>ω⟩
  | succ k e=>
    intro d;obtain⟨l,c,b⟩ :=e ω;obtain⟨t,ht⟩ :=h k ω;refine⟨l++[t],by simp [c],λi hi=> ?_⟩;rw[aq];by_cases a:i<k
    · rw[bE ω,<-aq];exact b i a
    obtain rfl:i=k:=ω;rw[bA ω];simp [c];exact ht
 obtain⟨l,_,b⟩ :=d n (ai _);exact⟨l,b⟩
theorem sR {v:Value} {cs:List Value} {o:Nat} (h:(cs.drop o).take 1=[v]):cs[o]?=some v:=by
 have a:((cs.drop o).take 1)[0]?=some v:=by rw[h];rfl
 rw[fN]at a
 simpa using a
theorem Pb (a:Addr) (i j:Nat):(a.add i).add j=a.add (i+j):=by
 unfold Addr.add;by_cases hi:i=0
 · subst hi;simp
 by_cases b:j=0
 · subst b;simp [hi]
 rw[aa hi,aa b,aa ω];simp [Nat.add_assoc]
theorem Kz (a:Addr) (m j:Nat) (b:0<j):(a.add m).add j= ⟨(a.add m).block,(a.add m).off+j,none⟩ :=by
 show Addr.add _ j=_;unfold Addr.add;rw[aa ω]
theorem Pr:Tryz.prog.cellsOf 31 =11:=by kernel_rfl
theorem rdQ_of {H:Type} {enc:TypeId×Value->H} {w:World} {fuel:Nat} {a:ay} {len cap:Nat} {x:DataW H×List MemPlace}
  (h:DataW.trod enc Tryz.prog w 0 (λ_=>true) true fuel 46 [.slice a len cap]=some x):∃l:List zO,(∀i,i<len->∃r,a=some r/\T8 w (r.add (i*11)) (tW l i))/\len<=maxLen:=by
 rcases open_slice Tryz.underlying46 h with ⟨o,_⟩ | ⟨r,l,c,m,n,D,Pl,o,_,W,U,GA,_,hi⟩
 · simp at o;obtain⟨rfl,rfl,rfl⟩ :=o;exact⟨[],λi hi=>ω,aF _⟩
 simp at o GA;obtain⟨rfl,rfl,rfl⟩ :=o;subst GA;rw[Pr]at hi
 have E:∀i,i<len->∃t:zO,∃Cw,some r=some Cw/\T8 w (Cw.add (i*11)) t:=by
  intro i ae;obtain⟨e,X,ht⟩ :=hi i ω;obtain⟨C,n',_,_,_,mf,Sj⟩ :=DataW.trod_struct Tryz.underlying31 ht;obtain⟨_,_,z⟩ :=World.cells?_some X;have ac:C.length=11:=mf;have g:∀j,j<11->∃y,C[j]?=some y:=λj hj=> ⟨C[j]' ω,br _⟩;have q:∀j f,j<11->_:=λj f (hj:j<11)=>Sj j f;obtain⟨y0,R⟩ :=g 0 ω;obtain⟨y1,Q⟩ :=g 1 ω;obtain⟨y2,O⟩ :=g 2 ω;obtain⟨y3,N⟩ :=g 3 ω;obtain⟨y4,M⟩ :=g 4 ω;obtain⟨y5,L⟩ :=g 5 ω;obtain⟨y6,K⟩ :=g 6 ω;obtain⟨y7,J⟩ :=g 7 ω;obtain⟨y8,I⟩ :=g 8 ω;obtain⟨y9,G⟩ :=g 9 ω;obtain⟨ab,P⟩ :=g 10 ω;have t0:=Sj 0 _ rfl;have t1:=Sj 1 _ rfl;have t2:=Sj 2 _ rfl;have t3:=Sj 3 _ rfl;have t4:=Sj 4 _ rfl;have t5:=Sj 5 _ rfl;have t6:=Sj 6 _ rfl;have t7:=Sj 7 _ rfl;have t8:=Sj 8 _ rfl;have t9:=Sj 9 _ rfl;have s:=Sj 10 _ rfl;rw[R]at t0;rw[Q]at t1;rw[O]at t2;rw[N]at t3;rw[M]at t4;rw[L]at t5;rw[K]at t6;rw[J]at t7;rw[I]at t8;rw[G]at t9;rw[P]at s;obtain⟨b0,e0,_⟩ :=ib Tryz.underlying4 t0;obtain⟨b1,e1,_⟩ :=ib Tryz.underlying4 t1;obtain⟨b6,e6,_⟩ :=ib Tryz.underlying4 t6;obtain⟨b9,Y,_⟩ :=ib Tryz.underlying4 t9;obtain⟨rR,XW,_⟩ :=ib Tryz.underlying4 s;obtain⟨n2,e2,_,w2⟩ :=DataW.trod_int Tryz.underlying29 t2;obtain⟨n3,e3,_,w3⟩ :=DataW.trod_int Tryz.underlying5 t3;obtain⟨n4,e4,_,w4⟩ :=DataW.trod_int Tryz.underlying5 t4;obtain⟨v,e7,_,w7⟩ :=DataW.trod_string Tryz.underlying9 t7;obtain⟨u,Z,_,w8⟩ :=DataW.trod_string Tryz.underlying9 t8
  have h4:∃(A:ay) (m d:Nat) (b:aj),(e.drop 5).take (Tryz.prog.cellsOf 22)=[.slice A m d]/\InC .u8 w A m d b:=by
   rcases open_ints Tryz.underlying22 Tryz.underlying5 (by kernel_rfl) t5 with ⟨o,_⟩ | ⟨x,l,c,zs,o,_,W,U,hz,_,p,T⟩
   · exact⟨none,0,0,[],o, ⟨rfl,Rd.dN⟩,aF _,(λx B=>by cases B),ai _,aF _⟩
   obtain⟨r1,r2,r3⟩ :=DX (k:= .u8) (w:=w) (a:=some x) (len:=l) (cap:=c) (zs:=zs) (.inr ⟨_,rfl,W,U,by simpa using hz,p,T⟩);exact⟨some x,l,c,_,o,r1,r2,r3,W,U⟩
  obtain⟨A,mm,dd,b,e5,B⟩ :=h4;replace e0:(e.drop 0).take 1=[.bool b0]:=e0;replace e1:(e.drop 1).take 1=[.bool b1]:=e1;replace e2:(e.drop 2).take 1=[.int .u32 n2]:=e2;replace e3:(e.drop 3).take 1=[.int .u8 n3]:=e3;replace e4:(e.drop 4).take 1=[.int .u8 n4]:=e4;replace e5:(e.drop 5).take 1=[.slice A mm dd]:=e5;replace e6:(e.drop 6).take 1=[.bool b6]:=e6;replace e7:(e.drop 7).take 1=[.string v]:=e7;replace Z:(e.drop 8).take 1=[.string u]:=Z;replace Y:(e.drop 9).take 1=[.bool b9]:=Y;replace XW:(e.drop 10).take 1=[.bool rR]:=XW;have F:=z 0 ω;rw[Pb,jC,sR e0]at F
  have V:(r.add (i*11)).block<w.heap.size:=by
   rcases aV (r.add (i*11)).block w.heap.size with h' | h'
   · exact h'
   simp [World.cell?,Array.getElem?_eq_none h']at F
  refine⟨⟨⟨b0,b1,n2,n3,n4,b,b6,py v,py u,b9,rR⟩,A,mm,dd⟩,r,rfl, ⟨F,λj h0 hj=> ?_,V, ⟨B, ⟨bounds_u32 w2,bounds_u8 w3,bounds_u8 w4,λx S=>bounds_u8 (B.2.2.1 x S),zZ v,zZ u⟩,by rw[ue];exact w7,by rw[ue];exact w8⟩⟩⟩;have kj:=z j ω;rw[Kz _ _ _ h0]at kj;rw[kj];obtain rfl | rfl | rfl | rfl | rfl | rfl | rfl | rfl | rfl | rfl:j=1\/j=2\/j=3\/j=4\/j=5\/j=6\/j=7\/j=8\/j=9\/j=10:=ω
  · exact sR e1
  · exact sR e2
  · exact sR e3
  · exact sR e4
  · exact sR e5
  · exact sR e6
  · rw[sR e7];show some (Value.string v)=some (.string (strOf (py v)));rw[wL]
  · rw[sR Z];show some (Value.string u)=some (.string (strOf (py u)));rw[wL]
  · exact sR Y
  exact sR XW
 obtain⟨l,X⟩ :=EL E;exact⟨l,X,ω⟩
end Go.Proofs.YtdhmnlpfhfmpfaaGreat
