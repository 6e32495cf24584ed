/-
  part
-/
import Derived.Test.YtdhmnlpfhfmpfaaGreatPk10
import Derived.BigRegion
import Derived.Deep.CutBlock
import Derived.Deep.DeepCutAuto
namespace Go.Proofs.YtdhmnlpfhfmpfaaGreat
open Go.RowKit
set_option linter.unusedVariables false
set_option maxRecDepth 100000
set_option maxHeartbeats 4000000
theorem mn.BP {w:World} {B n:Nat} {A:ay} {l:List cy} (h:mn w B A n l) {k:Nat} (b:k<n):dV l k∈l:=by
 have a:k<l.length:=by rw[<-h.1];exact b
 have e:dV l k=l[k]:=by simp [dV,a]
 rw[e];exact bU a
theorem AB (w:World) (At:ay) (nt ct:Nat) (au:List cy) (E:mn w w.heap.size At nt au) (L:nt<=4000000000000):
  Calls Tryz.prog 120 #[.slice At nt ct] w λe w'=>e= .returned (.int .i64 ((Cj au:Nat):Int))/\Below w.heap.size w w':=by
 have I:=η (⟨E,E.1,L⟩ :_/\_/\_);have Qw:(0:Int)<=(nt:Int)/\(nt:Int)<=4000000000000:=ω;clear E L;go_enter Tryz.func120,Tryz.ntmps120
 go_wp2_with fail;go_loopg [3,14] nt (λ(gk:Nat) (v3 v14:Value) wx=>∃k s:Nat,v3= .int .i64 s/\v14= .int .i64 k/\k<=nt/\Hid (s=Cj (au.take k))/\Hid (Below w.heap.size w wx)/\Hid (gk=nt-k))
 case atStart=>exact⟨0,0,rfl,rfl,aF _,rfl,ax _ _,rfl⟩
 obtain⟨k,s,rfl,rfl,hk,r,u,T⟩ :=hrel;by_cases c:k<nt
 rotate_left
 · obtain rfl:k=nt:=ω;have S:¬(k:Int)<(k:Int):=ω;have K:au.take k=au:=aC (by rw[<-I.out.2.1];exact ai _);have M:=r;rw[K]at M;clear c K r
   go_wp2_with fail;go_ret;exact⟨bZ (by rw[M.out]),u.out⟩
 have S:(k:Int)<(nt:Int)/\(0:Int)<=(k:Int):=ω;obtain⟨q,hA,C,p⟩ :=(I.out.1.below u.out).2 ω;obtain⟨H,y,x⟩ :=p k c;rw[lj _ _ _ ω]at y x;have z:=TP (l:=au) (k:=k) (by rw[<-I.out.2.1];exact c);have B:=EO (au.take k);have A:=TN (dV au k);have R:(au.take k).length<=k:=by rw[aD];exact eW _ _
 have o:Z8 (dV au k)=_:=rfl;obtain⟨⟨f,N,D⟩,ht⟩ :∃t:cy,dV au k=t:= ⟨_,rfl⟩;rw[ht]at H y x z o A;replace H:wr.cell? (q.add (k*3))=some (.int .u8 f):=H;replace y:wr.cell? { block:=(q.add (k*3)).block,off:=(q.add (k*3)).off+1 }=some (.int .i64 N):=y;replace x:wr.cell? { block:=(q.add (k*3)).block,off:=(q.add (k*3)).off+2 }=some (.int .i64 D):=x;have P:Hid (∀v,kV lB lE 3 258 257 28 N v->∃a b:Int,v= .tuple #[.int .i64 a, .int .i64 ((if 3<=N/\N<=258 then lE (jm N)else 0:Nat):Int), .int .i64 b]):=λv h=>Pw h;have Q:Hid (∀v,kV dB dE 1 32768 0 29 D v->∃a b:Int,v= .tuple #[.int .i64 a, .int .i64 ((if 1<=D/\D<=32768 then dE (fj D)else 0:Nat):Int), .int .i64 b]):=λv h=>KJ h;obtain⟨j,G⟩ :=ν ((if 3<=N/\N<=258 then lE (jm N)else 0):Nat);obtain⟨g,F⟩ :=ν ((if 1<=D/\D<=32768 then dE (fj D)else 0):Nat);have d:Z8 ⟨f,N,D⟩ =j+g:=by rw[<-G,<-F];rfl
 rw[G]at P;rw[F]at Q;have V:=η (show Cj (au.take (k+1))=s+(j+g) by rw[z,r.out,d]);have uh:(s:Int)<=100000000000000/\(0:Int)<=(s:Int)/\(0:Int)<=(j:Int)/\(0:Int)<=(g:Int)/\(j:Int)+(g:Int)<=18/\(j:Int)<=18/\(g:Int)<=18:=by have:=r.out;rw[d]at A;omega
 have Z:=η (sP N (wr.alloc (.cells #[.int .u8 f, .int .i64 N, .int .i64 D] 109)));have Y:Hid (∀W,Calls Tryz.prog 113 #[.int .i64 D] W (oc dB dE 1 32768 0 29 D W)):=λW=>qE D W;have O:=η c;have U:=η (u.out.alloc u.out.size (.cells #[.int .u8 f, .int .i64 N, .int .i64 D] 109));have n:=(BZ wr f N D 109).cell (i:=2) ω;have X:=η n;subst hA;clear C p ht c z o B A R G F d n
 go_wp2_with fail;refine Z.out.mono ?_;rintro e w5 ⟨⟨v,rfl,hv⟩,rfl⟩;obtain⟨x1,y1,J⟩ :=P.out v hv;rw[J];clear hv J;have c2:=X.out;replace c2:(wr.alloc (.cells #[.int .u8 f, .int .i64 N, .int .i64 D] 109)).cell? { block:=wr.heap.size,off:=2 }=some (.int .i64 D):=c2
 go_wp2_with fail;refine(Y.out _).mono ?_;rintro e w6 ⟨⟨v,rfl,hv⟩,rfl⟩;obtain⟨x2,y2,m⟩ :=Q.out v hv;rw[m];clear hv m
 go_wp2_with fail;go_roundg (nt-(k+1))
 case measure=>have:=T.out;have:=O.out;omega
 case rel=>exact⟨k+1,s+(j+g),by go_num,by go_num,O.out,V.out.symm,U,rfl⟩
theorem U7:(Tryz.prog.info? 3).map (λi=>(i.zero,i.size,i.bytes))=some (some (.int .i64 0),1,8):=by kernel_rfl
structure xf (w wx:World) (g1 g2:Nat) (p:aj×aj):Prop where
 lit:ba .i64 wx w.heap.size 3 (some ⟨g1,0,none⟩) 286 286 p.1
 bm:ba .i64 wx w.heap.size 3 (some ⟨g2,0,none⟩) 30 30 p.2
 ne:g1≠g2
 vE:Below w.heap.size w wx
theorem ba.zeros (w:World) {b0 g:Nat} (a:g=w.heap.size) (n:Nat) (e:TypeId) (b:b0<=w.heap.size) (c:n<=1000000):ba .i64 (w.alloc (.cells (eH n (.int .i64 0)) e)) b0 e (some ⟨g,0,none⟩) n n (List.replicate n 0):=by
 have h:=ba.lit (k:= .i64) (b0:=b0) (w:=w) a (List.replicate n 0) e b (by simp [maxLen];omega);rw[aT,List.map_replicate]at h;have e:(List.replicate n (Value.int .i64 0)).toArray=eH n (.int .i64 0):=by simp [eH]
 rw[e]at h;exact h
theorem ba.head {k:IntKind} {w:World} {b0 g n c:Nat} {e:TypeId} {l:aj} (h:ba k w b0 e (some ⟨g,0,none⟩) n c l) {i:Nat} (hi:i<n):w.cell? ⟨g,i,none⟩ =some (.int k (ix l i))/\w.frozen? ⟨g,i,none⟩ =false:=
 ⟨h.2.cell ω,h.2.frozen i⟩
section
variable {w wx:World} {g1 g2:Nat} {p:aj×aj}
theorem xf.b17 (w:World):xf w ((w.alloc (.cells (eH 286 (.int .i64 0)) 3)).alloc (.cells (eH 30 (.int .i64 0)) 3)) w.heap.size (w.heap.size+1) (List.replicate 286 0,List.replicate 30 0):=
 ⟨(ba.zeros w rfl 286 _ (ai _) ω).alloc _,ba.zeros _ σ 30 _ σ ω,ω,((ax _ _).alloc (ai _) _).alloc σ _⟩
theorem xf.b18 (w:World):xf w ((w.alloc (.cells (eH 30 (.int .i64 0)) 3)).alloc (.cells (eH 286 (.int .i64 0)) 3)) (w.heap.size+1) w.heap.size (List.replicate 286 0,List.replicate 30 0):=
 ⟨ba.zeros _ σ 286 _ σ ω,(ba.zeros w rfl 30 _ (ai _) ω).alloc _,ω,((ax _ _).alloc (ai _) _).alloc σ _⟩
theorem xf.drew (h:xf w wx g1 g2 p):xf w wx.drew g1 g2 p:= ⟨h.1,h.2,h.3, ⟨h.4.os,h.4.tape,h.4.output,h.4.size,h.4.block⟩⟩
theorem xf.alloc (h:xf w wx g1 g2 p) (o:Obj):xf w (wx.alloc o) g1 g2 p:= ⟨h.1.alloc o,h.2.alloc o,h.3,h.4.alloc h.4.size o⟩
theorem xf.lo (h:xf w wx g1 g2 p):w.heap.size<=g1/\w.heap.size<=g2:= ⟨(h.1.2.lt rfl).1,(h.2.2.lt rfl).1⟩
theorem xf.a4L (h:xf w wx g1 g2 p) {i:Nat} (hi:i<286) (v:Int):xf w (wx.setCell ⟨g1,i,none⟩ (.int .i64 v)) g1 g2 (p.1.set i v,p.2):=
 ⟨h.1.put hi v,h.2.far (λe=>h.3 (by injection e with e;exact e.symm)) _,h.3,h.4.setCell (show w.heap.size<=g1 from h.lo.1) _⟩
theorem xf.b1g (h:xf w wx g1 g2 p) {i:Nat} (hi:i<30) (v:Int):xf w (wx.setCell ⟨g2,i,none⟩ (.int .i64 v)) g1 g2 (p.1,p.2.set i v):=
 ⟨h.1.far (λe=>h.3 (by injection e)) _,h.2.put hi v,h.3,h.4.setCell (show w.heap.size<=g2 from h.lo.2) _⟩
end
def a2f (w:World) (au:List cy) (e:Ending) (w':World):Prop:=∃g1 g2,e= .returned (.tuple #[.slice (some ⟨g1,0,none⟩) 286 286, .slice (some ⟨g2,0,none⟩) 30 30])/\xf w w' g1 g2 (kf au)
theorem xu (w:World) (At:ay) (nt ct:Nat) (au:List cy) (hT:mn w w.heap.size At nt au) (mU:nt<=4000000000000) (nL:∀t∈au,cF t/\0<=t.lit/\t.lit<256):
  Calls Tryz.prog 114 #[.slice At nt ct] w (a2f w au):=by
 obtain⟨i0,hi,s,r,o⟩ :=aL U7;have ab:∀W,(Instr.makeSlice 63 (.int .i64 286) (.int .i64 286)).run Tryz.prog W= .ok (.slice (some ⟨W.heap.size,0,none⟩) 286 286) (W.alloc (.cells (eH 286 (.int .i64 0)) 3)):=λW=>fV (P:=Tryz.prog) 63 3 i0 (.int .i64 0) Tryz.underlying63 hi s r rfl .i64 .i64 286 (by rw[o];omega) ω W;have qN:∀W,(Instr.makeSlice 63 (.int .i64 30) (.int .i64 30)).run Tryz.prog W= .ok (.slice (some ⟨W.heap.size,0,none⟩) 30 30) (W.alloc (.cells (eH 30 (.int .i64 0)) 3)):=λW=>fV (P:=Tryz.prog) 63 3 i0 (.int .i64 0) Tryz.underlying63 hi s r rfl .i64 .i64 30 (by rw[o];omega) ω W;have y:=η (⟨hT,hT.1,mU,nL⟩ :_/\_/\_/\_);have Qw:(0:Int)<=(nt:Int)/\(nt:Int)<=4000000000000:=ω;clear hT mU nL hi s r o;go_enter Tryz.func114,Tryz.ntmps114;go_upto_region 1 with fail
 go_cut [2,3] (λv2 v3 wx=>∃g1 g2,v2= .slice (some ⟨g1,0,none⟩) 286 286/\v3= .slice (some ⟨g2,0,none⟩) 30 30/\Hid (xf w wx g1 g2 (List.replicate 286 0,List.replicate 30 0)))
 case first=>
  go_wp2_with fail;go_region
  · go_wp2_with fail;go_meet;exact⟨_,_,rfl,rfl,(xf.b17 w).drew⟩
  go_wp2_with fail;go_meet;exact⟨_,_,rfl,rfl,(xf.b18 w).drew⟩
 clear ab qN;obtain⟨g1,g2,rfl,rfl,hM⟩ :=hcut;obtain⟨KI,X⟩ :=hM.out.lit.head (i:=256) ω;have Ct:Hid (∀n:Nat,n=256->xf w (wc.setCell ⟨g1,n,none⟩ (.int .i64 1)) g1 g2 (kf [])):=λn hn=>by subst hn;exact hM.out.a4L ω 1
 go_wp2_with fail;have L:=η (Ct.out 256 rfl);clear KI X hM Ct;go_loopg [15] nt (λ(gk:Nat) (v15:Value) wx=>∃k:Nat,v15= .int .i64 k/\k<=nt/\Hid (xf w wx g1 g2 (kf (au.take k)))/\Hid (gk=nt-k))
 case atStart=>exact⟨0,rfl,aF _,L.out,rfl⟩
 clear L;obtain⟨k,rfl,hk,g,hg⟩ :=hrel;by_cases d:k<nt
 rotate_left
 · obtain rfl:k=nt:=ω;have pM:¬(k:Int)<(k:Int):=ω;have jJ:au.take k=au:=aC (by rw[<-y.out.2.1];exact ai _);have L:=g;rw[jJ]at L;clear d jJ g
   go_wp2_with fail
   go_ret2
   exact⟨g1,g2,rfl,L.out⟩
 have pM:(k:Int)<(nt:Int)/\(0:Int)<=(k:Int):=ω;obtain⟨K,hA,ah,H⟩ :=(y.out.1.below g.out.vE).2 ω;obtain⟨a0,T,S⟩ :=H k d;rw[lj _ _ _ ω]at T S;have Q:=U5 (l:=au) (k:=k) (by rw[<-y.out.2.1];exact d);have C:=y.out.2.2.2 _ (y.out.1.BP d);have jW:=Di (au.take k);have lI:=mJ (au.take k);have B5:(au.take k).length<=k:=by rw[aD];exact eW _ _
 obtain⟨P,hP⟩ :=ν (kf (au.take k));rw[hP]at g Q jW lI;obtain⟨⟨T0,N,D⟩,ht⟩ :∃t:cy,dV au k=t:= ⟨_,rfl⟩;rw[ht]at a0 T S Q C;obtain⟨b,rfl⟩ :∃b:Nat,T0=(b:Int):= ⟨T0.toNat,by have:=C.2.1;have h:0<=T0:=this;omega⟩;replace a0:wr.cell? (K.add (k*3))=some (.int .u8 (b:Int)):=a0;replace T:wr.cell? { block:=(K.add (k*3)).block,off:=(K.add (k*3)).off+1 }=some (.int .i64 N):=T;replace S:wr.cell? { block:=(K.add (k*3)).block,off:=(K.add (k*3)).off+2 }=some (.int .i64 D):=S;have ap:(0:Int)<=(b:Int)/\(b:Int)<256:=C.2;have U:=η d;have u:=η (show∀i,(0<=ix P.1 i/\ix P.1 i<=4000000000001)/\0<=ix P.2 i/\ix P.2 i<=4000000000001 from λi=>by have:=jW i;have:=y.out.2.2.1;omega);have f:=η (g.out.alloc (.cells #[.int .u8 (b:Int), .int .i64 N, .int .i64 D] 109));have kO:=η (g.out.lo);have ac:Hid (g1<wr.heap.size/\g2<wr.heap.size):= ⟨(g.out.lit.2.lt rfl).2,(g.out.bm.2.lt rfl).2⟩;have z:=η Q;have an:=η C;have Y:=η (BZ wr (b:Int) N D 109);subst hA;clear ah H ht d Q C jW lI B5 hP;by_cases R:N=0
 · subst R;obtain⟨cl,zl⟩ :=f.out.lit.head (i:=b) ω;have ae:=(u.out b).1;obtain⟨V,hV⟩ :=ν (ix P.1 b);rw[hV]at cl ae
   have m:=η (show xf w ((wr.alloc (.cells #[.int .u8 (b:Int), .int .i64 0, .int .i64 D] 109)).setCell ⟨g1,b,none⟩ (.int .i64 (V+1))) g1 g2 (kf (au.take (k+1))) from by
    rw[z.out];unfold NF ur;rw[af rfl];show xf _ _ _ _ (P.1.set b (ix P.1 b+1),P.2);rw[hV];exact f.out.a4L ω _)
   clear hV
   go_wp2_with fail;go_roundg (nt-(k+1))
   case measure=>have:=hg.out;have:=U.out;omega
   case rel=>exact⟨k+1,by go_num,U.out,m,rfl⟩
 obtain⟨⟨O,c⟩, ⟨d1,d2⟩,SE,SH⟩ :=tz an.out.1 R;replace O:3<=N:=O;replace c:N<=258:=c;replace d1:1<=D:=d1;replace d2:D<=32768:=d2;have Ut:jm N<=28:=SE;have Uw:fj D<=29:=SH;have jP:=λv (h:kV lB lE 3 258 257 28 N v)=>Ae h ⟨O,c⟩;have Lx:=λv (h:kV dB dE 1 32768 0 29 D v)=>xp h ⟨d1,d2⟩;have F:NF P ⟨(b:Int),N,D⟩ =(ur P.1 (257+jm N),ur P.2 (fj D)):=by unfold NF;rw[aa R]
 rw[F]at z;obtain⟨j,hj⟩ :=ν (jm N);obtain⟨q,hq⟩ :=ν (fj D);rw[hj]at jP Ut z;rw[hq]at Lx Uw z;obtain⟨E1,G⟩ :=ν (((lE j:Nat):Int):Int);obtain⟨E2,V3⟩ :=ν (((dE q:Nat):Int):Int);obtain⟨V1,pj⟩ :=ν (N-((lB j:Nat):Int));obtain⟨V2,A⟩ :=ν (D-((dB q:Nat):Int));obtain⟨a,J⟩ :=ν (257+j);rw[J]at z;have Ux:(257:Int)+(j:Int)=(a:Int):=ω;have RO:Hid (∀v,kV lB lE 3 258 257 28 N v->v= .tuple #[.int .i64 (a:Int), .int .i64 E1, .int .i64 V1]):=λv h=>by have:=jP v h;rw[this,pj,G,Ux]
 have RN:Hid (∀v,kV dB dE 1 32768 0 29 D v->v= .tuple #[.int .i64 (q:Int), .int .i64 E2, .int .i64 V2]):=λv h=>by have:=Lx v h;rw[this,A,V3]
 have Ev:=η (sP N (wr.alloc (.cells #[.int .u8 (b:Int), .int .i64 N, .int .i64 D] 109)));have yf:Hid (∀W,Calls Tryz.prog 113 #[.int .i64 D] W (oc dB dE 1 32768 0 29 D W)):=λW=>qE D W;have be:(N==0)=false:=by simpa using R
 have aE:(a:Int)<286/\(0:Int)<=(a:Int)/\(q:Int)<30/\(0:Int)<=(q:Int)/\a<286/\q<30:=ω;have al:=(u.out a).1;have am:=(u.out q).2;have Z:=f.out.a4L (i:=a) ω (ix P.1 a+1);have B:=Z.b1g (i:=q) ω (ix P.2 q+1);obtain⟨cl,zl⟩ :=f.out.lit.head (i:=a) ω;obtain⟨x,M⟩ :=Z.bm.head (i:=q) ω;have ct:=(Y.out.far (p:= ⟨g1,a,none⟩) (by have:=ac.out.1;show wr.heap.size≠g1;omega) (.int .i64 (ix P.1 a+1))).cell (i:=2) ω;have e1:(P.1.set a (ix P.1 a+1),P.2).2=P.2:=rfl;rw[e1]at x;have E:kf (au.take (k+1))=((P.1.set a (ix P.1 a+1)),(P.2.set q (ix P.2 q+1))):=by rw[z.out];rfl
 have m:=B
 change xf w _ g1 g2 ((P.1.set a (ix P.1 a+1)),(P.2.set q (ix P.2 q+1)))at m
 rw[<-E]at m;obtain⟨X1,Y3⟩ :=ν (ix P.1 a);obtain⟨X2,I⟩ :=ν (ix P.2 q);rw[Y3]at m al cl x M ct;rw[I]at m am x;have OY:=η m;replace ct:((wr.alloc (.cells #[.int .u8 (b:Int), .int .i64 N, .int .i64 D] 109)).setCell ⟨g1,a,none⟩ (.int .i64 (X1+1))).cell? ⟨wr.heap.size,2,none⟩ =some (.int .i64 D):=ct;have ao:=η (⟨ct,x,M⟩ :_/\_/\_);clear O c d1 d2 SE SH Ut Uw jP Lx F hj hq G V3 pj A J Ux Z B Y3 I m ct x M e1 E
 go_wp2_with fail;refine Ev.out.mono ?_;rintro e w5 ⟨⟨v,rfl,hv⟩,rfl⟩;rw[RO.out v hv];clear hv;obtain⟨ct,x,M⟩ :=ao.out
 go_wp2_with fail;refine(yf.out _).mono ?_;rintro e w6 ⟨⟨v,rfl,hv⟩,rfl⟩;rw[RN.out v hv];clear hv
 go_wp2_with fail;go_roundg (nt-(k+1))
 case measure=>have:=hg.out;have:=U.out;omega
 case rel=>exact⟨k+1,by go_num,U.out,OY,rfl⟩
end Go.Proofs.YtdhmnlpfhfmpfaaGreat
