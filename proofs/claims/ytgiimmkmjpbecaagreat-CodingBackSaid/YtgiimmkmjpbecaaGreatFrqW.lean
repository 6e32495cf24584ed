/-
  part
-/
import Derived.Test.YtgiimmkmjpbecaaGreatPk10
import Derived.BigRegion
import Derived.Deep.CutBlock
import Derived.Deep.DeepCutAuto
namespace Go.Proofs.YtgiimmkmjpbecaaGreat
open Go.RowKit
set_option linter.unusedVariables false
set_option maxRecDepth 100000
set_option maxHeartbeats 4000000
theorem lW.BK {w:World} {B n:Nat} {A:ax} {l:List bY} (h:lW w B A n l) {k:Nat} (b:k<n):dM l k∈l:=by
 have a:k<l.length:=by rw[<-h.1];exact b
 have e:dM l k=l[k]:=by simp [dM,a]
 rw[e];exact cF a
theorem zU (w:World) (At:ax) (nt ct:Nat) (aj:List bY) (C:lW w w.heap.size At nt aj) (L:nt<=4000000000000):
  Calls Tryz.prog 130 #[.slice At nt ct] w λe w'=>e= .returned (.int .i64 ((Cg aj:Nat):Int))/\Below w.heap.size w w':=by
 have I:=η (⟨C,C.1,L⟩ :_/\_/\_);have R5:(0:Int)<=(nt:Int)/\(nt:Int)<=4000000000000:=ω;clear C L
 go_in
 go_wp2_with fail;go_loopg [3,14] nt (λ(gk:Nat) (v3 v14:Value) wx=>∃k s:Nat,v3= .int .i64 s/\v14= .int .i64 k/\k<=nt/\Hid (s=Cg (aj.take k))/\Hid (Below w.heap.size w wx)/\Hid (gk=nt-k))
 case atStart=>exact⟨0,0,rfl,rfl,aG _,rfl,aw _ _,rfl⟩
 obtain⟨k,s,rfl,rfl,hk,q,r,T⟩ :=hrel;by_cases c:k<nt
 rotate_left
 · obtain rfl:k=nt:=ω;have S:¬(k:Int)<(k:Int):=ω;have K:aj.take k=aj:=aA (by rw[<-I.2.1];exact af _);have M:=q;rw[K]at M;clear c K q
   go_wp2_with fail;go_ret;exact⟨bJ (by rw[M.out]),r.out⟩
 have S:(k:Int)<(nt:Int)/\(0:Int)<=(k:Int):=ω;obtain⟨p,hA,B,o⟩ :=(I.1.below r.out).2 ω;obtain⟨G,x,u⟩ :=o k c;rw[kT _ _ _ ω]at x u;have y:=Ud (l:=aj) (k:=k) (by rw[<-I.2.1];exact c);have A:=Fi (aj.take k);have z:=Uc (dM aj k);have R:(aj.take k).length<=k:=by rw[aD];exact eR _ _
 have n:Zj (dM aj k)=_:=rfl;obtain⟨⟨f,N,D⟩,ht⟩ :∃t:bY,dM aj k=t:= ⟨_,rfl⟩;rw[ht]at G x u y n z;replace G:wr.cell? (p.add (k*3))=some (.int .u8 f):=G;replace x:wr.cell? { block:=(p.add (k*3)).block,off:=(p.add (k*3)).off+1 }=some (.int .i64 N):=x;replace u:wr.cell? { block:=(p.add (k*3)).block,off:=(p.add (k*3)).off+2 }=some (.int .i64 D):=u;have P:Hid (∀v,kK lB lE 3 258 257 28 N v->∃a b:Int,v= .tuple #[.int .i64 a, .int .i64 ((if 3<=N/\N<=258 then lE (jq N)else 0:Nat):Int), .int .i64 b]):=λv h=>Qi h;have Q:Hid (∀v,kK dB dE 1 32768 0 29 D v->∃a b:Int,v= .tuple #[.int .i64 a, .int .i64 ((if 1<=D/\D<=32768 then dE (fe D)else 0:Nat):Int), .int .i64 b]):=λv h=>Ls h;obtain⟨i,F⟩ :=ν ((if 3<=N/\N<=258 then lE (jq N)else 0):Nat);obtain⟨g,E⟩ :=ν ((if 1<=D/\D<=32768 then dE (fe D)else 0):Nat);have d:Zj ⟨f,N,D⟩ =i+g:=by rw[<-F,<-E];rfl
 rw[F]at P;rw[E]at Q;have V:=η (show Cg (aj.take (k+1))=s+(i+g) by rw[y,q.out,d]);have qD:(s:Int)<=100000000000000/\(0:Int)<=(s:Int)/\(0:Int)<=(i:Int)/\(0:Int)<=(g:Int)/\(i:Int)+(g:Int)<=18/\(i:Int)<=18/\(g:Int)<=18:=by have:=q.out;rw[d]at z;omega
 have Y:=η (sr N (wr.alloc (.cells #[.int .u8 f, .int .i64 N, .int .i64 D] 132)));have X:Hid (∀W,Calls Tryz.prog 123 #[.int .i64 D] W (nT dB dE 1 32768 0 29 D W)):=λW=>qm D W;have O:=η c;have U:=η (r.out.alloc r.out.size (.cells #[.int .u8 f, .int .i64 N, .int .i64 D] 132));have m:=(BV wr f N D 132).az 2;have H:=η m;subst hA;clear B o ht c y n A z R F E d m
 go_wp2_with fail;refine Y.mono ?_;rintro e w5 ⟨⟨v,rfl,hv⟩,rfl⟩;obtain⟨x1,y1,J⟩ :=P.out v hv;rw[J];clear hv J;have c2:=H.out;replace c2:(wr.alloc (.cells #[.int .u8 f, .int .i64 N, .int .i64 D] 132)).cell? { block:=wr.heap.size,off:=2 }=some (.int .i64 D):=c2
 go_wp2_with fail;refine(X _).mono ?_;rintro e w6 ⟨⟨v,rfl,hv⟩,rfl⟩;obtain⟨x2,Z,j⟩ :=Q.out v hv;rw[j];clear hv j
 go_wp2_with fail;go_roundg (nt-(k+1))
 case measure=>have:=T.out;have:=O.out;omega
 case rel=>exact⟨k+1,s+(i+g),by go_num,by go_num,O.out,V.symm,U,rfl⟩
theorem Un:(Tryz.prog.info? 3).map (λi=>(i.zero,i.size,i.bytes))=some (some (.int .i64 0),1,8):=by kernel_rfl
structure wJ (w wx:World) (g1 g2:Nat) (p:ag×ag):Prop where
 lit:aT .i64 wx w.heap.size 3 (some ⟨g1,0,none⟩) 286 286 p.1
 bn:aT .i64 wx w.heap.size 3 (some ⟨g2,0,none⟩) 30 30 p.2
 ne:g1≠g2
 uY:Below w.heap.size w wx
theorem aT.zeros (w:World) {b0 g:Nat} (a:g=w.heap.size) (n:Nat) (e:TypeId) (b:b0<=w.heap.size) (c:n<=1000000):aT .i64 (w.alloc (.cells (eB n (.int .i64 0)) e)) b0 e (some ⟨g,0,none⟩) n n (List.replicate n 0):=by
 have h:=aT.lit (k:= .i64) (b0:=b0) (w:=w) a (List.replicate n 0) e b (by simp [maxLen];omega);rw[aS,List.map_replicate]at h;have e:(List.replicate n (Value.int .i64 0)).toArray=eB n (.int .i64 0):=by simp [eB]
 rw[e]at h;exact h
theorem aT.head {k:IntKind} {w:World} {b0 g n c:Nat} {e:TypeId} {l:ag} (h:aT k w b0 e (some ⟨g,0,none⟩) n c l) {i:Nat} (hi:i<n):w.cell? ⟨g,i,none⟩ =some (.int k (ix l i))/\w.frozen? ⟨g,i,none⟩ =false:=
 ⟨h.2.cell ω,h.2.frozen i⟩
section
variable {w wx:World} {g1 g2:Nat} {p:ag×ag}
theorem wJ.a9t (w:World):wJ w ((w.alloc (.cells (eB 286 (.int .i64 0)) 3)).alloc (.cells (eB 30 (.int .i64 0)) 3)) w.heap.size (w.heap.size+1) (List.replicate 286 0,List.replicate 30 0):=
 ⟨(aT.zeros w rfl 286 _ (af _) ω).alloc _,aT.zeros _ σ 30 _ σ ω,ω,((aw _ _).alloc (af _) _).alloc σ _⟩
theorem wJ.a9u (w:World):wJ w ((w.alloc (.cells (eB 30 (.int .i64 0)) 3)).alloc (.cells (eB 286 (.int .i64 0)) 3)) (w.heap.size+1) w.heap.size (List.replicate 286 0,List.replicate 30 0):=
 ⟨aT.zeros _ σ 286 _ σ ω,(aT.zeros w rfl 30 _ (af _) ω).alloc _,ω,((aw _ _).alloc (af _) _).alloc σ _⟩
theorem wJ.drew (h:wJ w wx g1 g2 p):wJ w wx.drew g1 g2 p:= ⟨h.1,h.2,h.3, ⟨h.4.os,h.4.tape,h.4.output,h.4.size,h.4.block⟩⟩
theorem wJ.alloc (h:wJ w wx g1 g2 p) (o:Obj):wJ w (wx.alloc o) g1 g2 p:= ⟨h.1.alloc o,h.2.alloc o,h.3,h.4.alloc h.4.size o⟩
theorem wJ.lo (h:wJ w wx g1 g2 p):w.heap.size<=g1/\w.heap.size<=g2:= ⟨(h.1.2.lt rfl).1,(h.2.2.lt rfl).1⟩
theorem wJ.a3I (h:wJ w wx g1 g2 p) {i:Nat} (hi:i<286) (v:Int):wJ w (wx.setCell ⟨g1,i,none⟩ (.int .i64 v)) g1 g2 (p.1.set i v,p.2):=
 ⟨h.1.put hi v,h.2.far (λe=>h.3 (by injection e with e;exact e.symm)) _,h.3,h.4.setCell (show w.heap.size<=g1 from h.lo.1) _⟩
theorem wJ.a9D (h:wJ w wx g1 g2 p) {i:Nat} (hi:i<30) (v:Int):wJ w (wx.setCell ⟨g2,i,none⟩ (.int .i64 v)) g1 g2 (p.1,p.2.set i v):=
 ⟨h.1.far (λe=>h.3 (by injection e)) _,h.2.put hi v,h.3,h.4.setCell (show w.heap.size<=g2 from h.lo.2) _⟩
end
def a1I (w:World) (aj:List bY) (e:Ending) (w':World):Prop:=∃g1 g2,e= .returned (.tuple #[.slice (some ⟨g1,0,none⟩) 286 286, .slice (some ⟨g2,0,none⟩) 30 30])/\wJ w w' g1 g2 (jY aj)
theorem wZ (w:World) (At:ax) (nt ct:Nat) (aj:List bY) (hT:lW w w.heap.size At nt aj) (mL:nt<=4000000000000) (nC:∀t∈aj,cn t/\0<=t.lit/\t.lit<256):
  Calls Tryz.prog 124 #[.slice At nt ct] w (a1I w aj):=by
 obtain⟨i0,hi,s,r,o⟩ :=aL Un;have ab:∀W,(Instr.makeSlice 80 (.int .i64 286) (.int .i64 286)).run Tryz.prog W= .ok (.slice (some ⟨W.heap.size,0,none⟩) 286 286) (W.alloc (.cells (eB 286 (.int .i64 0)) 3)):=λW=>fW (P:=Tryz.prog) 80 3 i0 (.int .i64 0) Tryz.underlying80 hi s r rfl .i64 .i64 286 (by rw[o];omega) ω W;have qC:∀W,(Instr.makeSlice 80 (.int .i64 30) (.int .i64 30)).run Tryz.prog W= .ok (.slice (some ⟨W.heap.size,0,none⟩) 30 30) (W.alloc (.cells (eB 30 (.int .i64 0)) 3)):=λW=>fW (P:=Tryz.prog) 80 3 i0 (.int .i64 0) Tryz.underlying80 hi s r rfl .i64 .i64 30 (by rw[o];omega) ω W;have y:=η (⟨hT,hT.1,mL,nC⟩ :_/\_/\_/\_);have R5:(0:Int)<=(nt:Int)/\(nt:Int)<=4000000000000:=ω;clear hT mL nC hi s r o
 go_in
 go_upto_region 1 with fail
 go_cut [2,3] (λv2 v3 wx=>∃g1 g2,v2= .slice (some ⟨g1,0,none⟩) 286 286/\v3= .slice (some ⟨g2,0,none⟩) 30 30/\Hid (wJ w wx g1 g2 (List.replicate 286 0,List.replicate 30 0)))
 case first=>
  go_wp2_with fail;go_region
  · go_wp2_with fail;go_meet;exact⟨_,_,rfl,rfl,(wJ.a9t w).drew⟩
  go_wp2_with fail;go_meet;exact⟨_,_,rfl,rfl,(wJ.a9u w).drew⟩
 clear ab qC;obtain⟨g1,g2,rfl,rfl,hM⟩ :=hcut;obtain⟨Ln,X⟩ :=hM.out.lit.head (i:=256) ω;have Ct:Hid (∀n:Nat,n=256->wJ w (wc.setCell ⟨g1,n,none⟩ (.int .i64 1)) g1 g2 (jY [])):=λn hn=>by subst hn;exact hM.out.a3I ω 1
 go_wp2_with fail;have L:=η (Ct 256 rfl);clear Ln X hM Ct;go_loopg [15] nt (λ(gk:Nat) (v15:Value) wx=>∃k:Nat,v15= .int .i64 k/\k<=nt/\Hid (wJ w wx g1 g2 (jY (aj.take k)))/\Hid (gk=nt-k))
 case atStart=>exact⟨0,rfl,aG _,L.out,rfl⟩
 clear L;obtain⟨k,rfl,hk,g,hg⟩ :=hrel;by_cases d:k<nt
 rotate_left
 · obtain rfl:k=nt:=ω;have qB:¬(k:Int)<(k:Int):=ω;have jB:aj.take k=aj:=aA (by rw[<-y.2.1];exact af _);have L:=g;rw[jB]at L;clear d jB g
   go_wp2_with fail
   go_ret2
   exact⟨g1,g2,rfl,L.out⟩
 have qB:(k:Int)<(nt:Int)/\(0:Int)<=(k:Int):=ω;obtain⟨K,hA,al,H⟩ :=(y.1.below g.out.uY).2 ω;obtain⟨a0,T,S⟩ :=H k d;rw[kT _ _ _ ω]at T S;have Q:=Ul (l:=aj) (k:=k) (by rw[<-y.2.1];exact d);have C:=y.2.2.2 _ (y.1.BK d);have kA:=DG (aj.take k);have kB:=mq (aj.take k);have AW:(aj.take k).length<=k:=by rw[aD];exact eR _ _
 obtain⟨P,hP⟩ :=ν (jY (aj.take k));rw[hP]at g Q kA kB;obtain⟨⟨T0,N,D⟩,ht⟩ :∃t:bY,dM aj k=t:= ⟨_,rfl⟩;rw[ht]at a0 T S Q C;obtain⟨b,rfl⟩ :∃b:Nat,T0=(b:Int):= ⟨T0.toNat,by have:=C.2.1;have h:0<=T0:=this;omega⟩;replace a0:wr.cell? (K.add (k*3))=some (.int .u8 (b:Int)):=a0;replace T:wr.cell? { block:=(K.add (k*3)).block,off:=(K.add (k*3)).off+1 }=some (.int .i64 N):=T;replace S:wr.cell? { block:=(K.add (k*3)).block,off:=(K.add (k*3)).off+2 }=some (.int .i64 D):=S;have aE:(0:Int)<=(b:Int)/\(b:Int)<256:=C.2;have U:=η d;have u:=η (show∀i,(0<=ix P.1 i/\ix P.1 i<=4000000000001)/\0<=ix P.2 i/\ix P.2 i<=4000000000001 from λi=>by have:=kA i;have:=y.2.2.1;omega);have f:=η (g.out.alloc (.cells #[.int .u8 (b:Int), .int .i64 N, .int .i64 D] 132));have mg:=η (g.out.lo);have ac:Hid (g1<wr.heap.size/\g2<wr.heap.size):= ⟨(g.out.lit.2.lt rfl).2,(g.out.bn.2.lt rfl).2⟩;have z:=η Q;have ao:=η C;have Y:=η (BV wr (b:Int) N D 132);subst hA;clear al H ht d Q C kA kB AW hP;by_cases R:N=0
 · subst R;obtain⟨cl,zl⟩ :=f.lit.head (i:=b) ω;have ah:=(u b).1;obtain⟨V,hV⟩ :=ν (ix P.1 b);rw[hV]at cl ah
   have m:=η (show wJ w ((wr.alloc (.cells #[.int .u8 (b:Int), .int .i64 0, .int .i64 D] 132)).setCell ⟨g1,b,none⟩ (.int .i64 (V+1))) g1 g2 (jY (aj.take (k+1))) from by
    rw[z.out];unfold OD ue;rw[aa rfl];show wJ _ _ _ _ (P.1.set b (ix P.1 b+1),P.2);rw[hV];exact f.a3I ω _)
   clear hV
   go_wp2_with fail;go_roundg (nt-(k+1))
   case measure=>have:=hg.out;have:=U.out;omega
   case rel=>exact⟨k+1,by go_num,U.out,m,rfl⟩
 obtain⟨⟨O,c⟩, ⟨d1,d2⟩,Tb,Tg⟩ :=sN ao.1 R;replace O:3<=N:=O;replace c:N<=258:=c;replace d1:1<=D:=d1;replace d2:D<=32768:=d2;have UI:jq N<=28:=Tb;have UL:fe D<=29:=Tg;have mK:=λv (h:kK lB lE 3 258 257 28 N v)=>zG h ⟨O,c⟩;have Mu:=λv (h:kK dB dE 1 32768 0 29 D v)=>wU h ⟨d1,d2⟩;have F:OD P ⟨(b:Int),N,D⟩ =(ue P.1 (257+jq N),ue P.2 (fe D)):=by unfold OD;rw[a8 R]
 rw[F]at z;obtain⟨j,hj⟩ :=ν (jq N);obtain⟨q,hq⟩ :=ν (fe D);rw[hj]at mK UI z;rw[hq]at Mu UL z;obtain⟨E1,G⟩ :=ν (((lE j:Nat):Int):Int);obtain⟨E2,Vd⟩ :=ν (((dE q:Nat):Int):Int);obtain⟨V1,ll⟩ :=ν (N-((lB j:Nat):Int));obtain⟨V2,A⟩ :=ν (D-((dB q:Nat):Int));obtain⟨a,J⟩ :=ν (257+j);rw[J]at z;have UM:(257:Int)+(j:Int)=(a:Int):=ω;have YE:Hid (∀v,kK lB lE 3 258 257 28 N v->v= .tuple #[.int .i64 (a:Int), .int .i64 E1, .int .i64 V1]):=λv h=>by have:=mK v h;rw[this,ll,G,UM]
 have SE:Hid (∀v,kK dB dE 1 32768 0 29 D v->v= .tuple #[.int .i64 (q:Int), .int .i64 E2, .int .i64 V2]):=λv h=>by have:=Mu v h;rw[this,A,Vd]
 have EL:=η (sr N (wr.alloc (.cells #[.int .u8 (b:Int), .int .i64 N, .int .i64 D] 132)));have xJ:Hid (∀W,Calls Tryz.prog 123 #[.int .i64 D] W (nT dB dE 1 32768 0 29 D W)):=λW=>qm D W;have be:(N==0)=false:=by simpa using R
 have bd:(a:Int)<286/\(0:Int)<=(a:Int)/\(q:Int)<30/\(0:Int)<=(q:Int)/\a<286/\q<30:=ω;have am:=(u a).1;have an:=(u q).2;have Z:=f.a3I (i:=a) ω (ix P.1 a+1);have B:=Z.a9D (i:=q) ω (ix P.2 q+1);obtain⟨cl,zl⟩ :=f.lit.head (i:=a) ω;obtain⟨x,M⟩ :=Z.bn.head (i:=q) ω;have ct:=(Y.far (p:= ⟨g1,a,none⟩) (by have:=ac.1;show wr.heap.size≠g1;omega) (.int .i64 (ix P.1 a+1))).az 2;have e1:(P.1.set a (ix P.1 a+1),P.2).2=P.2:=rfl;rw[e1]at x;have E:jY (aj.take (k+1))=((P.1.set a (ix P.1 a+1)),(P.2.set q (ix P.2 q+1))):=by rw[z.out];rfl
 have m:=B
 change wJ w _ g1 g2 ((P.1.set a (ix P.1 a+1)),(P.2.set q (ix P.2 q+1)))at m
 rw[<-E]at m;obtain⟨X1,Yh⟩ :=ν (ix P.1 a);obtain⟨X2,I⟩ :=ν (ix P.2 q);rw[Yh]at m am cl x M ct;rw[I]at m an x;have PJ:=η m;replace ct:((wr.alloc (.cells #[.int .u8 (b:Int), .int .i64 N, .int .i64 D] 132)).setCell ⟨g1,a,none⟩ (.int .i64 (X1+1))).cell? ⟨wr.heap.size,2,none⟩ =some (.int .i64 D):=ct;have ap:=η (⟨ct,x,M⟩ :_/\_/\_);clear O c d1 d2 Tb Tg UI UL mK Mu F hj hq G Vd ll A J UM Z B Yh I m ct x M e1 E
 go_wp2_with fail;refine EL.mono ?_;rintro e w5 ⟨⟨v,rfl,hv⟩,rfl⟩;rw[YE.out v hv];clear hv;obtain⟨ct,x,M⟩ :=ap.out
 go_wp2_with fail;refine(xJ _).mono ?_;rintro e w6 ⟨⟨v,rfl,hv⟩,rfl⟩;rw[SE.out v hv];clear hv
 go_wp2_with fail;go_roundg (nt-(k+1))
 case measure=>have:=hg.out;have:=U.out;omega
 case rel=>exact⟨k+1,by go_num,U.out,PJ,rfl⟩
end Go.Proofs.YtgiimmkmjpbecaaGreat
