/-
  part
-/
import Derived.Test.YtdhmnlpfhfmpfaaGreatPk10
import Derived.BigRegion
import Derived.Deep.CutBlock
import Derived.Deep.DeepCutAuto
namespace Go.Proofs.YtdhmnlpfhfmpfaaGreat
open Go.RowKit
set_option linter.unusedVariables false
set_option maxRecDepth 100000
set_option maxHeartbeats 4000000
theorem lV.BF {w:World} {B n:Nat} {A:Option Addr} {l:List cu} (h:lV w B A n l) {k:Nat} (b:k<n):dT l k∈l:=by
 have a:k<l.length:=by rw[<-h.1];exact b
 have e:dT l k=l[k]:=by simp [dT,a]
 rw[e];exact cF a
theorem zS (w:World) (At:Option Addr) (nt ct:Nat) (aj:List cu) (E:lV w w.heap.size At nt aj) (L:nt<=4000000000000):
  Calls Tryz.prog 120 #[.slice At nt ct] w λe w'=>e= .returned (.int .i64 ((Ca aj:Nat):Int))/\Below w.heap.size w w':=by
 have I:=η (⟨E,E.1,L⟩ :_/\_/\_);have Q0:(0:Int)<=(nt:Int)/\(nt:Int)<=4000000000000:=ω;clear E L;go_enter Tryz.func120,Tryz.ntmps120
 go_wp2_with fail;go_loopg [3,14] nt (λ(gk:Nat) (v3 v14:Value) wx=>∃k s:Nat,v3= .int .i64 s/\v14= .int .i64 k/\k<=nt/\Hid (s=Ca (aj.take k))/\Hid (Below w.heap.size w wx)/\Hid (gk=nt-k))
 case atStart=>exact⟨0,0,rfl,rfl,aF _,rfl,aw _ _,rfl⟩
 obtain⟨k,s,rfl,rfl,hk,r,u,T⟩ :=hrel;by_cases c:k<nt
 rotate_left
 · obtain rfl:k=nt:=ω;have S:¬(k:Int)<(k:Int):=ω;have K:aj.take k=aj:=ay (by rw[<-I.out.2.1];exact ag _);have M:=r;rw[K]at M;clear c K r
   go_wp2_with fail;go_ret;exact⟨cn (by rw[M.out]),u.out⟩
 have S:(k:Int)<(nt:Int)/\(0:Int)<=(k:Int):=ω;obtain⟨q,hA,C,p⟩ :=(I.out.1.below u.out).2 ω;obtain⟨H,y,x⟩ :=p k c;rw[kV _ _ _ ω]at y x;have z:=Ti (l:=aj) (k:=k) (by rw[<-I.out.2.1];exact c);have B:=EK (aj.take k);have A:=Th (dT aj k);have R:(aj.take k).length<=k:=by rw[aA];exact eX _ _
 have o:Yn (dT aj k)=_:=rfl;obtain⟨⟨f,N,D⟩,ht⟩ :∃t:cu,dT aj k=t:= ⟨_,rfl⟩;rw[ht]at H y x z o A;replace H:wr.cell? (q.add (k*3))=some (.int .u8 f):=H;replace y:wr.cell? { block:=(q.add (k*3)).block,off:=(q.add (k*3)).off+1 }=some (.int .i64 N):=y;replace x:wr.cell? { block:=(q.add (k*3)).block,off:=(q.add (k*3)).off+2 }=some (.int .i64 D):=x;have P:Hid (∀v,kJ lB lE 3 258 257 28 N v->∃a b:Int,v= .tuple #[.int .i64 a, .int .i64 ((if 3<=N/\N<=258 then lE (jg N)else 0:Nat):Int), .int .i64 b]):=λv h=>P6 h;have Q:Hid (∀v,kJ dB dE 1 32768 0 29 D v->∃a b:Int,v= .tuple #[.int .i64 a, .int .i64 ((if 1<=D/\D<=32768 then dE (fk D)else 0:Nat):Int), .int .i64 b]):=λv h=>Ky h;obtain⟨j,G⟩ :=ν ((if 3<=N/\N<=258 then lE (jg N)else 0):Nat);obtain⟨g,F⟩ :=ν ((if 1<=D/\D<=32768 then dE (fk D)else 0):Nat);have d:Yn ⟨f,N,D⟩ =j+g:=by rw[<-G,<-F];rfl
 rw[G]at P;rw[F]at Q;have V:=η (show Ca (aj.take (k+1))=s+(j+g) by rw[z,r.out,d]);have rJ:(s:Int)<=100000000000000/\(0:Int)<=(s:Int)/\(0:Int)<=(j:Int)/\(0:Int)<=(g:Int)/\(j:Int)+(g:Int)<=18/\(j:Int)<=18/\(g:Int)<=18:=by have:=r.out;rw[d]at A;omega
 have Z:=η (sG N (wr.alloc (.cells #[.int .u8 f, .int .i64 N, .int .i64 D] 109)));have Y:Hid (∀W,Calls Tryz.prog 113 #[.int .i64 D] W (nW dB dE 1 32768 0 29 D W)):=λW=>qs D W;have O:=η c;have U:=η (u.out.alloc u.out.size (.cells #[.int .u8 f, .int .i64 N, .int .i64 D] 109));have n:=(BP wr f N D 109).cell (i:=2) ω;have X:=η n;subst hA;clear C p ht c z o B A R G F d n
 go_wp2_with fail;refine Z.out.mono ?_;rintro e w5 ⟨⟨v,rfl,hv⟩,rfl⟩;obtain⟨x1,y1,J⟩ :=P.out v hv;rw[J];clear hv J;have c2:=X.out;replace c2:(wr.alloc (.cells #[.int .u8 f, .int .i64 N, .int .i64 D] 109)).cell? { block:=wr.heap.size,off:=2 }=some (.int .i64 D):=c2
 go_wp2_with fail;refine(Y.out _).mono ?_;rintro e w6 ⟨⟨v,rfl,hv⟩,rfl⟩;obtain⟨x2,y2,m⟩ :=Q.out v hv;rw[m];clear hv m
 go_wp2_with fail;go_roundg (nt-(k+1))
 case measure=>have:=T.out;have:=O.out;omega
 case rel=>exact⟨k+1,s+(j+g),by go_num,by go_num,O.out,V.out.symm,U,rfl⟩
theorem Tz:(Tryz.prog.info? 3).map (λi=>(i.zero,i.size,i.bytes))=some (some (.int .i64 0),1,8):=by kernel_rfl
structure wK (w wx:World) (g1 g2:Nat) (p:List Int×List Int):Prop where
 lit:aW .i64 wx w.heap.size 3 (some ⟨g1,0,none⟩) 286 286 p.1
 bk:aW .i64 wx w.heap.size 3 (some ⟨g2,0,none⟩) 30 30 p.2
 ne:g1≠g2
 vp:Below w.heap.size w wx
theorem aW.zeros (w:World) {b0 g:Nat} (a:g=w.heap.size) (n:Nat) (e:TypeId) (b:b0<=w.heap.size) (c:n<=1000000):aW .i64 (w.alloc (.cells (eD n (.int .i64 0)) e)) b0 e (some ⟨g,0,none⟩) n n (List.replicate n 0):=by
 have h:=aW.lit (k:= .i64) (b0:=b0) (w:=w) a (List.replicate n 0) e b (by simp [maxLen];omega);rw[aQ,List.map_replicate]at h;have e:(List.replicate n (Value.int .i64 0)).toArray=eD n (.int .i64 0):=by simp [eD]
 rw[e]at h;exact h
theorem aW.head {k:IntKind} {w:World} {b0 g n c:Nat} {e:TypeId} {l:List Int} (h:aW k w b0 e (some ⟨g,0,none⟩) n c l) {i:Nat} (hi:i<n):w.cell? ⟨g,i,none⟩ =some (.int k (ix l i))/\w.frozen? ⟨g,i,none⟩ =false:=
 ⟨h.2.cell ω,h.2.frozen i⟩
section
variable {w wx:World} {g1 g2:Nat} {p:List Int×List Int}
theorem wK.b0C (w:World):wK w ((w.alloc (.cells (eD 286 (.int .i64 0)) 3)).alloc (.cells (eD 30 (.int .i64 0)) 3)) w.heap.size (w.heap.size+1) (List.replicate 286 0,List.replicate 30 0):=
 ⟨(aW.zeros w rfl 286 _ (ag _) ω).alloc _,aW.zeros _ σ 30 _ σ ω,ω,((aw _ _).alloc (ag _) _).alloc σ _⟩
theorem wK.b0D (w:World):wK w ((w.alloc (.cells (eD 30 (.int .i64 0)) 3)).alloc (.cells (eD 286 (.int .i64 0)) 3)) (w.heap.size+1) w.heap.size (List.replicate 286 0,List.replicate 30 0):=
 ⟨aW.zeros _ σ 286 _ σ ω,(aW.zeros w rfl 30 _ (ag _) ω).alloc _,ω,((aw _ _).alloc (ag _) _).alloc σ _⟩
theorem wK.drew (h:wK w wx g1 g2 p):wK w wx.drew g1 g2 p:= ⟨h.1,h.2,h.3, ⟨h.4.os,h.4.tape,h.4.output,h.4.size,h.4.block⟩⟩
theorem wK.alloc (h:wK w wx g1 g2 p) (o:Obj):wK w (wx.alloc o) g1 g2 p:= ⟨h.1.alloc o,h.2.alloc o,h.3,h.4.alloc h.4.size o⟩
theorem wK.lo (h:wK w wx g1 g2 p):w.heap.size<=g1/\w.heap.size<=g2:= ⟨(h.1.2.lt rfl).1,(h.2.2.lt rfl).1⟩
theorem wK.a4g (h:wK w wx g1 g2 p) {i:Nat} (hi:i<286) (v:Int):wK w (wx.setCell ⟨g1,i,none⟩ (.int .i64 v)) g1 g2 (p.1.set i v,p.2):=
 ⟨h.1.put hi v,h.2.far (λe=>h.3 (by injection e with e;exact e.symm)) _,h.3,h.4.setCell (show w.heap.size<=g1 from h.lo.1) _⟩
theorem wK.b0L (h:wK w wx g1 g2 p) {i:Nat} (hi:i<30) (v:Int):wK w (wx.setCell ⟨g2,i,none⟩ (.int .i64 v)) g1 g2 (p.1,p.2.set i v):=
 ⟨h.1.far (λe=>h.3 (by injection e)) _,h.2.put hi v,h.3,h.4.setCell (show w.heap.size<=g2 from h.lo.2) _⟩
end
def a1A (w:World) (aj:List cu) (e:Ending) (w':World):Prop:=∃g1 g2,e= .returned (.tuple #[.slice (some ⟨g1,0,none⟩) 286 286, .slice (some ⟨g2,0,none⟩) 30 30])/\wK w w' g1 g2 (jV aj)
theorem wW (w:World) (At:Option Addr) (nt ct:Nat) (aj:List cu) (hT:lV w w.heap.size At nt aj) (mL:nt<=4000000000000) (nA:∀t∈aj,cC t/\0<=t.lit/\t.lit<256):
  Calls Tryz.prog 114 #[.slice At nt ct] w (a1A w aj):=by
 obtain⟨i0,hi,r,o,m⟩ :=aJ Tz;have ab:∀W,(Instr.makeSlice 63 (.int .i64 286) (.int .i64 286)).run Tryz.prog W= .ok (.slice (some ⟨W.heap.size,0,none⟩) 286 286) (W.alloc (.cells (eD 286 (.int .i64 0)) 3)):=λW=>fQ (P:=Tryz.prog) 63 3 i0 (.int .i64 0) Tryz.underlying63 hi r o rfl .i64 .i64 286 (by rw[m];omega) ω W;have qC:∀W,(Instr.makeSlice 63 (.int .i64 30) (.int .i64 30)).run Tryz.prog W= .ok (.slice (some ⟨W.heap.size,0,none⟩) 30 30) (W.alloc (.cells (eD 30 (.int .i64 0)) 3)):=λW=>fQ (P:=Tryz.prog) 63 3 i0 (.int .i64 0) Tryz.underlying63 hi r o rfl .i64 .i64 30 (by rw[m];omega) ω W;have x:=η (⟨hT,hT.1,mL,nA⟩ :_/\_/\_/\_);have Q0:(0:Int)<=(nt:Int)/\(nt:Int)<=4000000000000:=ω;clear hT mL nA hi r o m;go_enter Tryz.func114,Tryz.ntmps114;go_upto_region 1 with fail
 go_cut [2,3] (λv2 v3 wx=>∃g1 g2,v2= .slice (some ⟨g1,0,none⟩) 286 286/\v3= .slice (some ⟨g2,0,none⟩) 30 30/\Hid (wK w wx g1 g2 (List.replicate 286 0,List.replicate 30 0)))
 case first=>
  go_wp2_with fail;go_region
  · go_wp2_with fail;go_meet;exact⟨_,_,rfl,rfl,(wK.b0C w).drew⟩
  go_wp2_with fail;go_meet;exact⟨_,_,rfl,rfl,(wK.b0D w).drew⟩
 clear ab qC;obtain⟨g1,g2,rfl,rfl,hM⟩ :=hcut;obtain⟨Kw,X⟩ :=hM.out.lit.head (i:=256) ω;have Cl:Hid (∀n:Nat,n=256->wK w (wc.setCell ⟨g1,n,none⟩ (.int .i64 1)) g1 g2 (jV [])):=λn hn=>by subst hn;exact hM.out.a4g ω 1
 go_wp2_with fail;have K:=η (Cl.out 256 rfl);clear Kw X hM Cl;go_loopg [15] nt (λ(gk:Nat) (v15:Value) wx=>∃k:Nat,v15= .int .i64 k/\k<=nt/\Hid (wK w wx g1 g2 (jV (aj.take k)))/\Hid (gk=nt-k))
 case atStart=>exact⟨0,rfl,aF _,K.out,rfl⟩
 clear K;obtain⟨k,rfl,hk,f,hg⟩ :=hrel;by_cases d:k<nt
 rotate_left
 · obtain rfl:k=nt:=ω;have qh:¬(k:Int)<(k:Int):=ω;have jF:aj.take k=aj:=ay (by rw[<-x.out.2.1];exact ag _);have K:=f;rw[jF]at K;clear d jF f
   go_wp2_with fail
   go_ret2
   exact⟨g1,g2,rfl,K.out⟩
 have qh:(k:Int)<(nt:Int)/\(0:Int)<=(k:Int):=ω;obtain⟨J,hA,al,G⟩ :=(x.out.1.below f.out.vp).2 ω;obtain⟨a0,T,S⟩ :=G k d;rw[kV _ _ _ ω]at T S;have Q:=Tx (l:=aj) (k:=k) (by rw[<-x.out.2.1];exact d);have B:=x.out.2.2.2 _ (x.out.1.BF d);have kf:=Da (aj.take k);have lq:=mB (aj.take k);have AG:(aj.take k).length<=k:=by rw[aA];exact eX _ _
 obtain⟨P,hP⟩ :=ν (jV (aj.take k));rw[hP]at f Q kf lq;obtain⟨⟨T0,N,D⟩,ht⟩ :∃t:cu,dT aj k=t:= ⟨_,rfl⟩;rw[ht]at a0 T S Q B;obtain⟨b,rfl⟩ :∃b:Nat,T0=(b:Int):= ⟨T0.toNat,by have:=B.2.1;have h:0<=T0:=this;omega⟩;replace a0:wr.cell? (J.add (k*3))=some (.int .u8 (b:Int)):=a0;replace T:wr.cell? { block:=(J.add (k*3)).block,off:=(J.add (k*3)).off+1 }=some (.int .i64 N):=T;replace S:wr.cell? { block:=(J.add (k*3)).block,off:=(J.add (k*3)).off+2 }=some (.int .i64 D):=S;have aE:(0:Int)<=(b:Int)/\(b:Int)<256:=B.2;have U:=η d;have s:=η (show∀i,(0<=ix P.1 i/\ix P.1 i<=4000000000001)/\0<=ix P.2 i/\ix P.2 i<=4000000000001 from λi=>by have:=kf i;have:=x.out.2.2.1;omega);have O:=η (f.out.alloc (.cells #[.int .u8 (b:Int), .int .i64 N, .int .i64 D] 109));have kP:=η (f.out.lo);have ac:Hid (g1<wr.heap.size/\g2<wr.heap.size):= ⟨(f.out.lit.2.lt rfl).2,(f.out.bk.2.lt rfl).2⟩;have y:=η Q;have ao:=η B;have Y:=η (BP wr (b:Int) N D 109);subst hA;clear al G ht d Q B kf lq AG hP;by_cases R:N=0
 · subst R;obtain⟨cl,zl⟩ :=O.out.lit.head (i:=b) ω;have ah:=(s.out b).1;obtain⟨V,hV⟩ :=ν (ix P.1 b);rw[hV]at cl ah
   have g:=η (show wK w ((wr.alloc (.cells #[.int .u8 (b:Int), .int .i64 0, .int .i64 D] 109)).setCell ⟨g1,b,none⟩ (.int .i64 (V+1))) g1 g2 (jV (aj.take (k+1))) from by
    rw[y.out];unfold Nh ub;rw[ae rfl];show wK _ _ _ _ (P.1.set b (ix P.1 b+1),P.2);rw[hV];exact O.out.a4g ω _)
   clear hV
   go_wp2_with fail;go_roundg (nt-(k+1))
   case measure=>have:=hg.out;have:=U.out;omega
   case rel=>exact⟨k+1,by go_num,U.out,g,rfl⟩
 obtain⟨⟨M,c⟩, ⟨d1,d2⟩,RR,RY⟩ :=sU ao.out.1 R;replace M:3<=N:=M;replace c:N<=258:=c;replace d1:1<=D:=d1;replace d2:D<=32768:=d2;have TT:jg N<=28:=RR;have TW:fk D<=29:=RY;have kz:=λv (h:kJ lB lE 3 258 257 28 N v)=>zK h ⟨M,c⟩;have Li:=λv (h:kJ dB dE 1 32768 0 29 D v)=>wS h ⟨d1,d2⟩;have E:Nh P ⟨(b:Int),N,D⟩ =(ub P.1 (257+jg N),ub P.2 (fk D)):=by unfold Nh;rw[aa R]
 rw[E]at y;obtain⟨j,hj⟩ :=ν (jg N);obtain⟨q,hq⟩ :=ν (fk D);rw[hj]at kz TT y;rw[hq]at Li TW y;obtain⟨E1,F⟩ :=ν (((lE j:Nat):Int):Int);obtain⟨E2,Up⟩ :=ν (((dE q:Nat):Int):Int);obtain⟨V1,oQ⟩ :=ν (N-((lB j:Nat):Int));obtain⟨V2,z⟩ :=ν (D-((dB q:Nat):Int));obtain⟨a,I⟩ :=ν (257+j);rw[I]at y;have TX:(257:Int)+(j:Int)=(a:Int):=ω;have Kc:Hid (∀v,kJ lB lE 3 258 257 28 N v->v= .tuple #[.int .i64 (a:Int), .int .i64 E1, .int .i64 V1]):=λv h=>by have:=kz v h;rw[this,oQ,F,TX]
 have Rh:Hid (∀v,kJ dB dE 1 32768 0 29 D v->v= .tuple #[.int .i64 (q:Int), .int .i64 E2, .int .i64 V2]):=λv h=>by have:=Li v h;rw[this,z,Up]
 have Et:=η (sG N (wr.alloc (.cells #[.int .u8 (b:Int), .int .i64 N, .int .i64 D] 109)));have xK:Hid (∀W,Calls Tryz.prog 113 #[.int .i64 D] W (nW dB dE 1 32768 0 29 D W)):=λW=>qs D W;have bi:(N==0)=false:=by simpa using R
 have be:(a:Int)<286/\(0:Int)<=(a:Int)/\(q:Int)<30/\(0:Int)<=(q:Int)/\a<286/\q<30:=ω;have am:=(s.out a).1;have an:=(s.out q).2;have Z:=O.out.a4g (i:=a) ω (ix P.1 a+1);have A:=Z.b0L (i:=q) ω (ix P.2 q+1);obtain⟨cl,zl⟩ :=O.out.lit.head (i:=a) ω;obtain⟨u,L⟩ :=Z.bk.head (i:=q) ω;have ct:=(Y.out.far (p:= ⟨g1,a,none⟩) (by have:=ac.out.1;show wr.heap.size≠g1;omega) (.int .i64 (ix P.1 a+1))).cell (i:=2) ω;have e1:(P.1.set a (ix P.1 a+1),P.2).2=P.2:=rfl;rw[e1]at u;have C:jV (aj.take (k+1))=((P.1.set a (ix P.1 a+1)),(P.2.set q (ix P.2 q+1))):=by rw[y.out];rfl
 have g:=A
 change wK w _ g1 g2 ((P.1.set a (ix P.1 a+1)),(P.2.set q (ix P.2 q+1)))at g
 rw[<-C]at g;obtain⟨X1,Xq⟩ :=ν (ix P.1 a);obtain⟨X2,H⟩ :=ν (ix P.2 q);rw[Xq]at g am cl u L ct;rw[H]at g an u;have Oz:=η g;replace ct:((wr.alloc (.cells #[.int .u8 (b:Int), .int .i64 N, .int .i64 D] 109)).setCell ⟨g1,a,none⟩ (.int .i64 (X1+1))).cell? ⟨wr.heap.size,2,none⟩ =some (.int .i64 D):=ct;have ap:=η (⟨ct,u,L⟩ :_/\_/\_);clear M c d1 d2 RR RY TT TW kz Li E hj hq F Up oQ z I TX Z A Xq H g ct u L e1 C
 go_wp2_with fail;refine Et.out.mono ?_;rintro e w5 ⟨⟨v,rfl,hv⟩,rfl⟩;rw[Kc.out v hv];clear hv;obtain⟨ct,u,L⟩ :=ap.out
 go_wp2_with fail;refine(xK.out _).mono ?_;rintro e w6 ⟨⟨v,rfl,hv⟩,rfl⟩;rw[Rh.out v hv];clear hv
 go_wp2_with fail;go_roundg (nt-(k+1))
 case measure=>have:=hg.out;have:=U.out;omega
 case rel=>exact⟨k+1,by go_num,U.out,Oz,rfl⟩
end Go.Proofs.YtdhmnlpfhfmpfaaGreat
