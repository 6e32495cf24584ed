/-
  part
-/
import Derived.Test.YtddhegejmkgmjaaGreatPk9
import Derived.BigRegion
import Derived.Deep.CutBlock
import Derived.Deep.DeepCutAuto
namespace Go.Proofs.YtddhegejmkgmjaaGreat
open Go.RowKit
set_option linter.unusedVariables false
set_option maxRecDepth 100000
set_option maxHeartbeats 4000000
theorem ig.vK {w:World} {B n:Nat} {A:Option Addr} {l:List aF} (h:ig w B A n l) {k:Nat} (b:k<n):bq l k∈l:=by
 have a:k<l.length:=by rw[<-h.1];exact b
 have e:bq l k=l[k]:=by simp [bq,a]
 rw[e];exact List.getElem_mem a
theorem uq (w:World) (At:Option Addr) (nt ct:Nat) (a8:List aF) (C:ig w w.heap.size At nt a8) (M:nt<=4000000000000):
  Calls Tryz.prog 97 #[.slice At nt ct] w λe w'=>e= .returned (.int .i64 ((wu a8:Nat):Int))/\Below w.heap.size w w':=by
 have I:=η (⟨C,C.1,M⟩ :_/\_/\_);have K8:(0:Int)<=(nt:Int)/\(nt:Int)<=4000000000000:=ω;clear C M;go_enter Tryz.func97,Tryz.ntmps97
 go_wp2_with fail
 go_loopg [3,14] nt (λ(gk:Nat) (v3 v14:Value) wx=>∃k s:Nat,v3= .int .i64 s/\v14= .int .i64 k/\k<=nt/\Hid (s=wu (a8.take k))/\Hid (Below w.heap.size w wx)/\Hid (gk=nt-k))
 case atStart=>exact⟨0,0,rfl,rfl,Nat.zero_le _,rfl,Below.refl _ _,rfl⟩
 case round=>
  obtain⟨k,s,rfl,rfl,hk,q,r,U⟩ :=hrel;by_cases c:k<nt
  · have T:(k:Int)<(nt:Int)/\(0:Int)<=(k:Int):=ω;obtain⟨p,hA,B,o⟩ :=(I.out.1.below r.out).2 ω;obtain⟨G,x,u⟩ :=o k c;rw[gp _ _ _ ω]at x u;have y:=MJ (l:=a8) (k:=k) (by rw[<-I.out.2.1];exact c);have A:=ze (a8.take k);have z:=MI (bq a8 k);have S:(a8.take k).length<=k:=by rw[List.length_take];exact Nat.min_le_left _ _
    have n:Rl (bq a8 k)=_:=rfl;obtain⟨⟨f,N,D⟩,ht⟩ :∃t:aF,bq a8 k=t:= ⟨_,rfl⟩;rw[ht]at G x u y n z;replace G:wr.cell? (p.add (k*3))=some (.int .u8 f):=G;replace x:wr.cell? { block:=(p.add (k*3)).block,off:=(p.add (k*3)).off+1 }=some (.int .i64 N):=x;replace u:wr.cell? { block:=(p.add (k*3)).block,off:=(p.add (k*3)).off+2 }=some (.int .i64 D):=u;have Q:Hid (∀v,eI lB lE 3 258 257 28 N v->∃a b:Int,v= .tuple #[.int .i64 a, .int .i64 ((if 3<=N/\N<=258 then lE (ej N)else 0:Nat):Int), .int .i64 b]):=λv h=>Jq h
    have R:Hid (∀v,eI dB dE 1 32768 0 29 D v->∃a b:Int,v= .tuple #[.int .i64 a, .int .i64 ((if 1<=D/\D<=32768 then dE (bO D)else 0:Nat):Int), .int .i64 b]):=λv h=>F3 h
    obtain⟨j,F⟩ :=ν ((if 3<=N/\N<=258 then lE (ej N)else 0):Nat);obtain⟨g,E⟩ :=ν ((if 1<=D/\D<=32768 then dE (bO D)else 0):Nat);have d:Rl ⟨f,N,D⟩ =j+g:=by rw[<-F,<-E];rfl
    rw[F]at Q;rw[E]at R;have X:=η (show wu (a8.take (k+1))=s+(j+g) by rw[y,q.out,d]);have nY:(s:Int)<=100000000000000/\(0:Int)<=(s:Int)/\(0:Int)<=(j:Int)/\(0:Int)<=(g:Int)/\(j:Int)+(g:Int)<=18/\(j:Int)<=18/\(g:Int)<=18:=by have:=q.out;rw[d]at z;omega
    have Z:=η (nA N (wr.alloc (.cells #[.int .u8 f, .int .i64 N, .int .i64 D] 90)));have Y:Hid (∀W,Calls Tryz.prog 90 #[.int .i64 D] W (jo dB dE 1 32768 0 29 D W)):=λW=>l9 D W
    have P:=η c;have V:=η (r.out.alloc r.out.size (.cells #[.int .u8 f, .int .i64 N, .int .i64 D] 90));have L:=(vO wr f N D 90).cell (i:=2) ω;have H:=η L;subst hA;clear B o ht c y n A z S F E d L
    go_wp2_with fail
    refine Z.out.mono ?_;rintro e w5 ⟨⟨v,rfl,hv⟩,rfl⟩;obtain⟨x1,y1,J⟩ :=Q.out v hv;rw[J];clear hv J;have c2:=H.out;replace c2:(wr.alloc (.cells #[.int .u8 f, .int .i64 N, .int .i64 D] 90)).cell? { block:=wr.heap.size,off:=2 }=some (.int .i64 D):=c2
    go_wp2_with fail
    refine(Y.out _).mono ?_;rintro e w6 ⟨⟨v,rfl,hv⟩,rfl⟩;obtain⟨x2,y2,m⟩ :=R.out v hv;rw[m];clear hv m
    go_wp2_with fail
    go_roundg (nt-(k+1))
    case measure=>have:=U.out;have:=P.out;omega
    case rel=>exact⟨k+1,s+(j+g),by go_num,by go_num,P.out,X.out.symm,V,rfl⟩
  · obtain rfl:k=nt:=ω;have T:¬(k:Int)<(k:Int):=ω;have K:a8.take k=a8:=List.take_of_length_le (by rw[<-I.out.2.1];exact Nat.le_refl _);have O:=q;rw[K]at O;clear c K q
    go_wp2_with fail
    go_ret
    exact⟨aK (by rw[O.out]),r.out⟩
theorem MT:(Tryz.prog.info? 3).map (λi=>(i.zero,i.size,i.bytes))=some (some (.int .i64 0),1,8):=by kernel_rfl
structure qR (w wx:World) (g1 g2:Nat) (p:List Int×List Int):Prop where
 lit:ag .i64 wx w.heap.size 3 (some ⟨g1,0,none⟩) 286 286 p.1
 ak:ag .i64 wx w.heap.size 3 (some ⟨g2,0,none⟩) 30 30 p.2
 ne:g1≠g2
 ou:Below w.heap.size w wx
theorem ag.zeros (w:World) {b0 g:Nat} (a:g=w.heap.size) (n:Nat) (e:TypeId) (b:b0<=w.heap.size) (c:n<=1000000):ag .i64 (w.alloc (.cells (cn n (.int .i64 0)) e)) b0 e (some ⟨g,0,none⟩) n n (List.replicate n 0):=by
 have h:=ag.lit (k:= .i64) (b0:=b0) (w:=w) a (List.replicate n 0) e b (by simp [maxLen];omega);rw[List.length_replicate,List.map_replicate]at h;have e:(List.replicate n (Value.int .i64 0)).toArray=cn n (.int .i64 0):=by simp [cn]
 rw[e]at h;exact h
theorem ag.head {k:IntKind} {w:World} {b0 g n c:Nat} {e:TypeId} {l:List Int} (h:ag k w b0 e (some ⟨g,0,none⟩) n c l) {i:Nat} (hi:i<n):w.cell? ⟨g,i,none⟩ =some (.int k (ix l i))/\w.frozen? ⟨g,i,none⟩ =false:=
 ⟨h.2.cell ω,h.2.frozen i⟩
section
variable {w wx:World} {g1 g2:Nat} {p:List Int×List Int}
theorem qR.a5u (w:World):qR w ((w.alloc (.cells (cn 286 (.int .i64 0)) 3)).alloc (.cells (cn 30 (.int .i64 0)) 3)) w.heap.size (w.heap.size+1) (List.replicate 286 0,List.replicate 30 0):=
 ⟨(ag.zeros w rfl 286 _ (Nat.le_refl _) ω).alloc _,ag.zeros _ σ 30 _ σ ω,ω,((Below.refl _ _).alloc (Nat.le_refl _) _).alloc σ _⟩
theorem qR.a5v (w:World):qR w ((w.alloc (.cells (cn 30 (.int .i64 0)) 3)).alloc (.cells (cn 286 (.int .i64 0)) 3)) (w.heap.size+1) w.heap.size (List.replicate 286 0,List.replicate 30 0):=
 ⟨ag.zeros _ σ 286 _ σ ω,(ag.zeros w rfl 30 _ (Nat.le_refl _) ω).alloc _,ω,((Below.refl _ _).alloc (Nat.le_refl _) _).alloc σ _⟩
theorem qR.drew (h:qR w wx g1 g2 p):qR w wx.drew g1 g2 p:= ⟨h.1,h.2,h.3, ⟨h.4.os,h.4.tape,h.4.output,h.4.size,h.4.block⟩⟩
theorem qR.alloc (h:qR w wx g1 g2 p) (o:Obj):qR w (wx.alloc o) g1 g2 p:= ⟨h.1.alloc o,h.2.alloc o,h.3,h.4.alloc h.4.size o⟩
theorem qR.lo (h:qR w wx g1 g2 p):w.heap.size<=g1/\w.heap.size<=g2:= ⟨(h.1.2.lt rfl).1,(h.2.2.lt rfl).1⟩
theorem qR.Y6 (h:qR w wx g1 g2 p) {i:Nat} (hi:i<286) (v:Int):qR w (wx.setCell ⟨g1,i,none⟩ (.int .i64 v)) g1 g2 (p.1.set i v,p.2):=
 ⟨h.1.put hi v,h.2.far (λe=>h.3 (by injection e with e;exact e.symm)) _,h.3,h.4.setCell (show w.heap.size<=g1 from h.lo.1) _⟩
theorem qR.a5D (h:qR w wx g1 g2 p) {i:Nat} (hi:i<30) (v:Int):qR w (wx.setCell ⟨g2,i,none⟩ (.int .i64 v)) g1 g2 (p.1,p.2.set i v):=
 ⟨h.1.far (λe=>h.3 (by injection e)) _,h.2.put hi v,h.3,h.4.setCell (show w.heap.size<=g2 from h.lo.2) _⟩
end
def UU (w:World) (a8:List aF) (e:Ending) (w':World):Prop:=∃g1 g2,e= .returned (.tuple #[.slice (some ⟨g1,0,none⟩) 286 286, .slice (some ⟨g2,0,none⟩) 30 30])/\qR w w' g1 g2 (fk a8)
theorem rp (w:World) (At:Option Addr) (nt ct:Nat) (a8:List aF) (hT:ig w w.heap.size At nt a8) (iI:nt<=4000000000000) (iZ:∀t∈a8,aH t/\0<=t.lit/\t.lit<256):
  Calls Tryz.prog 91 #[.slice At nt ct] w (UU w a8):=by
 obtain⟨i0,hi,r,o,m⟩ :=info_parts MT;have X6:∀W,(Instr.makeSlice 51 (.int .i64 286) (.int .i64 286)).run Tryz.prog W= .ok (.slice (some ⟨W.heap.size,0,none⟩) 286 286) (W.alloc (.cells (cn 286 (.int .i64 0)) 3)):=λW=>cF (P:=Tryz.prog) 51 3 i0 (.int .i64 0) Tryz.underlying51 hi r o rfl .i64 .i64 286 (by rw[m];omega) ω W
 have lD:∀W,(Instr.makeSlice 51 (.int .i64 30) (.int .i64 30)).run Tryz.prog W= .ok (.slice (some ⟨W.heap.size,0,none⟩) 30 30) (W.alloc (.cells (cn 30 (.int .i64 0)) 3)):=λW=>cF (P:=Tryz.prog) 51 3 i0 (.int .i64 0) Tryz.underlying51 hi r o rfl .i64 .i64 30 (by rw[m];omega) ω W
 have x:=η (⟨hT,hT.1,iI,iZ⟩ :_/\_/\_/\_);have K8:(0:Int)<=(nt:Int)/\(nt:Int)<=4000000000000:=ω;clear hT iI iZ hi r o m;go_enter Tryz.func91,Tryz.ntmps91
 go_upto_region 1 with fail
 go_cut [2,3] (λv2 v3 wx=>∃g1 g2,v2= .slice (some ⟨g1,0,none⟩) 286 286/\v3= .slice (some ⟨g2,0,none⟩) 30 30/\Hid (qR w wx g1 g2 (List.replicate 286 0,List.replicate 30 0)))
 case first=>
  go_wp2_with fail
  go_region
  · go_wp2_with fail
    go_meet
    exact⟨_,_,rfl,rfl,(qR.a5u w).drew⟩
  · go_wp2_with fail
    go_meet
    exact⟨_,_,rfl,rfl,(qR.a5v w).drew⟩
 case rest=>
  clear X6 lD;obtain⟨g1,g2,rfl,rfl,hM⟩ :=hcut;obtain⟨F0,R⟩ :=hM.out.lit.head (i:=256) ω;have wG:Hid (∀n:Nat,n=256->qR w (wc.setCell ⟨g1,n,none⟩ (.int .i64 1)) g1 g2 (fk [])):=λn hn=>by subst hn;exact hM.out.Y6 ω 1
  go_wp2_with fail
  have G:=η (wG.out 256 rfl);clear F0 R hM wG
  go_loopg [15] nt (λ(gk:Nat) (v15:Value) wx=>∃k:Nat,v15= .int .i64 k/\k<=nt/\Hid (qR w wx g1 g2 (fk (a8.take k)))/\Hid (gk=nt-k))
  case atStart=>exact⟨0,rfl,Nat.zero_le _,G.out,rfl⟩
  case round=>
   clear G;obtain⟨k,rfl,hk,f,hg⟩ :=hrel;by_cases d:k<nt
   · have mA:(k:Int)<(nt:Int)/\(0:Int)<=(k:Int):=ω;obtain⟨F,hA,Z,C⟩ :=(x.out.1.below f.out.ou).2 ω;obtain⟨a0,O,M⟩ :=C k d;rw[gp _ _ _ ω]at O M;have K:=MR (l:=a8) (k:=k) (by rw[<-x.out.2.1];exact d);have A:=x.out.2.2.2 _ (x.out.1.vK d);have fH:=xE (a8.take k);have gY:=iy (a8.take k);have uK:(a8.take k).length<=k:=by rw[List.length_take];exact Nat.min_le_left _ _
     obtain⟨P,hP⟩ :=ν (fk (a8.take k));rw[hP]at f K fH gY;obtain⟨⟨T0,N,D⟩,ht⟩ :∃t:aF,bq a8 k=t:= ⟨_,rfl⟩;rw[ht]at a0 O M K A;obtain⟨b,rfl⟩ :∃b:Nat,T0=(b:Int):= ⟨T0.toNat,by have:=A.2.1;have h:0<=T0:=this;omega⟩;replace a0:wr.cell? (F.add (k*3))=some (.int .u8 (b:Int)):=a0;replace O:wr.cell? { block:=(F.add (k*3)).block,off:=(F.add (k*3)).off+1 }=some (.int .i64 N):=O;replace M:wr.cell? { block:=(F.add (k*3)).block,off:=(F.add (k*3)).off+2 }=some (.int .i64 D):=M;have am:(0:Int)<=(b:Int)/\(b:Int)<256:=A.2;have Q:=η d;have s:=η (show∀i,(0<=ix P.1 i/\ix P.1 i<=4000000000001)/\0<=ix P.2 i/\ix P.2 i<=4000000000001 from λi=>by have:=fH i;have:=x.out.2.2.1;omega);have J:=η (f.out.alloc (.cells #[.int .u8 (b:Int), .int .i64 N, .int .i64 D] 90));have jI:=η (f.out.lo);have T:Hid (g1<wr.heap.size/\g2<wr.heap.size):= ⟨(f.out.lit.2.lt rfl).2,(f.out.ak.2.lt rfl).2⟩;have y:=η K;have ah:=η A;have XC:=η (vO wr (b:Int) N D 90);subst hA;clear Z C ht d K A fH gY uK hP;by_cases L:N=0
     · subst L;obtain⟨cl,zl⟩ :=J.out.lit.head (i:=b) ω;have Y:=(s.out b).1;obtain⟨V,hV⟩ :=ν (ix P.1 b);rw[hV]at cl Y
       have g:=η (show qR w ((wr.alloc (.cells #[.int .u8 (b:Int), .int .i64 0, .int .i64 D] 90)).setCell ⟨g1,b,none⟩ (.int .i64 (V+1))) g1 g2 (fk (a8.take (k+1))) from by
        rw[y.out];unfold I4 oN;rw[if_pos rfl];show qR _ _ _ _ (P.1.set b (ix P.1 b+1),P.2)
        rw[hV];exact J.out.Y6 ω _)
       clear hV
       go_wp2_with fail
       go_roundg (nt-(k+1))
       case measure=>have:=hg.out;have:=Q.out;omega
       case rel=>exact⟨k+1,by go_num,Q.out,g,rfl⟩
     · obtain⟨⟨I,c⟩, ⟨d1,d2⟩,LD,LI⟩ :=nO ah.out.1 L;replace I:3<=N:=I;replace c:N<=258:=c;replace d1:1<=D:=d1;replace d2:D<=32768:=d2;have N9:ej N<=28:=LD;have Nc:bO D<=29:=LI;have U:=λv (h:eI lB lE 3 258 257 28 N v)=>ug h ⟨I,c⟩
       have X:=λv (h:eI dB dE 1 32768 0 29 D v)=>qZ h ⟨d1,d2⟩
       have B:I4 P ⟨(b:Int),N,D⟩ =(oN P.1 (257+ej N),oN P.2 (bO D)):=by unfold I4;rw[if_neg L]
       rw[B]at y;obtain⟨j,hj⟩ :=ν (ej N);obtain⟨q,hq⟩ :=ν (bO D);rw[hj]at U N9 y;rw[hq]at X Nc y;obtain⟨E1,WE⟩ :=ν (((lE j:Nat):Int):Int);obtain⟨E2,NA⟩ :=ν (((dE q:Nat):Int):Int);obtain⟨V1,mi⟩ :=ν (N-((lB j:Nat):Int));obtain⟨V2,z⟩ :=ν (D-((dB q:Nat):Int));obtain⟨a,E⟩ :=ν (257+j);rw[E]at y;have Nf:(257:Int)+(j:Int)=(a:Int):=ω;have Bk:Hid (∀v,eI lB lE 3 258 257 28 N v->v= .tuple #[.int .i64 (a:Int), .int .i64 E1, .int .i64 V1]):=λv h=>by have:=U v h;rw[this,mi,WE,Nf]
       have Le:Hid (∀v,eI dB dE 1 32768 0 29 D v->v= .tuple #[.int .i64 (q:Int), .int .i64 E2, .int .i64 V2]):=λv h=>by have:=X v h;rw[this,z,NA]
       have BI:=η (nA N (wr.alloc (.cells #[.int .u8 (b:Int), .int .i64 N, .int .i64 D] 90)));have rY:Hid (∀W,Calls Tryz.prog 90 #[.int .i64 D] W (jo dB dE 1 32768 0 29 D W)):=λW=>l9 D W
       have ao:(N==0)=false:=by simpa using L
       have an:(a:Int)<286/\(0:Int)<=(a:Int)/\(q:Int)<30/\(0:Int)<=(q:Int)/\a<286/\q<30:=ω;have ab:=(s.out a).1;have ac:=(s.out q).2;have S:=J.out.Y6 (i:=a) ω (ix P.1 a+1);have UG:=S.a5D (i:=q) ω (ix P.2 q+1);obtain⟨cl,zl⟩ :=J.out.lit.head (i:=a) ω;obtain⟨u,H⟩ :=S.ak.head (i:=q) ω;have ct:=(XC.out.far (p:= ⟨g1,a,none⟩) (by have:=T.out.1;show wr.heap.size≠g1;omega) (.int .i64 (ix P.1 a+1))).cell (i:=2) ω;have e1:(P.1.set a (ix P.1 a+1),P.2).2=P.2:=rfl;rw[e1]at u;have Xn:fk (a8.take (k+1))=((P.1.set a (ix P.1 a+1)),(P.2.set q (ix P.2 q+1))):=by rw[y.out];rfl
       have g:=UG
       change qR w _ g1 g2 ((P.1.set a (ix P.1 a+1)),(P.2.set q (ix P.2 q+1)))at g
       rw[<-Xn]at g;obtain⟨X1,Qj⟩ :=ν (ix P.1 a);obtain⟨X2,Wh⟩ :=ν (ix P.2 q);rw[Qj]at g ab cl u H ct;rw[Wh]at g ac u;have J6:=η g;replace ct:((wr.alloc (.cells #[.int .u8 (b:Int), .int .i64 N, .int .i64 D] 90)).setCell ⟨g1,a,none⟩ (.int .i64 (X1+1))).cell? ⟨wr.heap.size,2,none⟩ =some (.int .i64 D):=ct;have al:=η (⟨ct,u,H⟩ :_/\_/\_);clear I c d1 d2 LD LI N9 Nc U X B hj hq WE NA mi z E Nf S UG Qj Wh g ct u H e1 Xn
       go_wp2_with fail
       refine BI.out.mono ?_;rintro e w5 ⟨⟨v,rfl,hv⟩,rfl⟩;rw[Bk.out v hv];clear hv;obtain⟨ct,u,H⟩ :=al.out
       go_wp2_with fail
       refine(rY.out _).mono ?_;rintro e w6 ⟨⟨v,rfl,hv⟩,rfl⟩;rw[Le.out v hv];clear hv
       go_wp2_with fail
       go_roundg (nt-(k+1))
       case measure=>have:=hg.out;have:=Q.out;omega
       case rel=>exact⟨k+1,by go_num,Q.out,J6,rfl⟩
   · obtain rfl:k=nt:=ω;have mA:¬(k:Int)<(k:Int):=ω;have eG:a8.take k=a8:=List.take_of_length_le (by rw[<-x.out.2.1];exact Nat.le_refl _);have G:=f;rw[eG]at G;clear d eG f
     go_wp2_with fail
     go_ret2
     exact⟨g1,g2,rfl,G.out⟩
end Go.Proofs.YtddhegejmkgmjaaGreat
