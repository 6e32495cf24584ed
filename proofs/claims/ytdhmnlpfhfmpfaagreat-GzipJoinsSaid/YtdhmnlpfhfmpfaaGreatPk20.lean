/-
  part
-/
import Derived.Test.YtdhmnlpfhfmpfaaGreatPk19
set_option linter.unusedVariables false
set_option maxRecDepth 100000
set_option maxHeartbeats 4000000
namespace Go.Proofs.YtdhmnlpfhfmpfaaGreat
open Go.RowKit
def Reads (M:Nat) (L all kinds stops:List Int) (aj:List cu):Prop:=
 dJ L/\all.length<=M/\∀y,dJ y->(L.length+y.length)%8=0->∃t,IS.Steps (start (L++y) M) t/\t.st=0/\t.x=y/\t.all=all/\t.rem=M-all.length/\t.kinds=kinds/\t.stops=stops/\t.aj=aj
def Ends (M:Nat) (L all kinds stops:List Int) (aj:List cu):Prop:=
 dJ L/\all.length<=M/\∀y,dJ y->(L.length+y.length)%8=0->∃t,IS.Steps (start (L++y) M) t/\t.st=8/\t.x=lD y/\t.all=all/\t.kinds=kinds/\t.stops=stops/\t.aj=aj
theorem Reads.nil (M:Nat):Reads M [] [] [] [] []:= ⟨dJ.dK,aF _,λy a _=> ⟨start y M, .refl _,rfl,rfl,rfl,rfl,rfl,rfl,rfl⟩⟩
def lF (kind:Int) (l:List cu) (raw all:List Int):List Int:=if kind=0 then all++raw else(expand all l).2
theorem FD:dv 0 2=[0,0]/\dv 1 2=[1,0]/\dv 2 2=[0,1]:=δ
theorem a7K {b c a:Int} (d:b=0\/b=1) (f:c=0\/c=1) (e:a=0\/a=1) (z:List Int):num ([b,c,a]++z) 3=(b+2*c+4*a).toNat:=by
 rw[sJ (x:=[b,c,a]) (n:=3) rfl];rcases d with rfl | rfl <;> rcases f with rfl | rfl <;> rcases e with rfl | rfl <;> rfl
theorem Qp (n:Nat) (h:n<=65535):dv (4294967295-(n:Int)) 16=dv (65535-(n:Int)) 16:=by
 rw[<-O0 (4294967295-(n:Int)),<-O0 (65535-(n:Int))];have e:(2:Int) ^ 16=65536:=δ;rw[e];congr 1;omega
theorem dJ.blk (lit bk:List Int) (l:List cu):dJ (jY lit bk l):=by
 unfold jY iQ;refine dJ.app (λx a=> ?_) (dJ.sym _ _);obtain⟨t,_,ht⟩ :=gJ.1 a;unfold sT at ht;split at ht
 · exact dJ.sym _ _ x ht
 exact(((dJ.sym _ _).app (dJ.dv _ _)).app (dJ.sym _ _)).app (dJ.dv _ _) x ht
theorem dJ.a7Y (l:List cu):dJ (lS l):=by
 unfold lS vU nR;refine((((dJ.dv _ _).app (dJ.dv _ _)).app (dJ.dv _ _)).app λx a=> ?_).app λx a=> ?_
 · obtain⟨t,_,ht⟩ :=gJ.1 a;exact dJ.dv _ _ x ht
 obtain⟨t,_,ht⟩ :=gJ.1 a;exact(dJ.sym _ _).app (dJ.dv _ _) x ht
theorem dJ.xX {L:List Int} (h:dJ L) (kind:Int) (last:Bool):dJ (xX kind last L):=(h.app (dJ.dv _ _)).app (dJ.dv _ _)
theorem dJ.out {L:List Int} (h:dJ L) (kind:Int) (l:List cu) (raw:List Int) (last:Bool):dJ (lu kind l raw last L):=by
 unfold lu;split
 · unfold CN;exact(((dJ.qy (h.xX _ _)).app (dJ.dv _ _)).app (dJ.dv _ _)).app (dJ.gG _)
 split
 · exact(h.xX _ _).app (dJ.blk _ _ _)
 exact((h.xX _ _).app (dJ.a7Y _)).app (dJ.blk _ _ _)
section
variable {M:Nat} {L all kinds stops:List Int} {aj:List cu} {kind:Int} {l:List cu} {raw:List Int} {last:Bool}
theorem Mh {t:IS} {y:List Int} (k:t.st=3) (A:t.x=lS l++y) (e:l.length<1048576):
  ∃c,IS.Steps t c/\Kg t c/\c.st=6/\c.lt=eY l/\c.ds=dm l/\c.x=y:=by
 have D:=kH l;have C:=lM l;have B:=uI l
 have h:t.x=dv (((fJ l-257:Nat):Int)) 5++(dv (((fT l-1:Nat):Int)) 5++(dv (((po l-4:Nat):Int)) 4++(vU (cV l) (po l)++(nR (cV l) (cY l)++y)))):=by
  rw[A];unfold lS;simp only [List.append_assoc]
 have p:=Mq k h ω ω ω;have s1:=IS.Steps.one (s:=t) (by rw[p]);rw[p]at s1;obtain⟨b,j⟩ :∃b:IS,b={ t with x:=vU (cV l) (po l)++(nR (cV l) (cY l)++y),c0:=fJ l-257+257,c1:=fT l-1+1,c2:=po l-4+4,lens:=[],st:=4 }:= ⟨_,rfl⟩;rw[<-j]at s1
 have P:Kg t b/\b.st=4/\b.c2=po l/\b.lens=[]/\b.x=Bf (cV l) 0 (po l)++(nR (cV l) (cY l)++y)/\b.c0=fJ l/\b.c1=fT l:=by
  rw[j,Qr];exact⟨⟨rfl,rfl,rfl,rfl,rfl,rfl⟩,rfl,by dsimp only;omega,rfl,rfl,by dsimp only;omega,by dsimp only;omega⟩
 clear j p;obtain⟨G,b1,b2,b3,b4,b5,b6⟩ :=P;obtain⟨g,s2,F,c1,c2,q,N,M,L⟩ :=xZ (hd:=cV l) (n:=po l) ω (vG l) (po l) 0 b ω (aF _) b1 b2 b3 b4;have m:=TM (n:=po l) (hd:=cV l) ω (mG l) (VS l);have o:=PK (hd:=cV l) c1 (by rw[q,vV _ ω,c2]) (by rw[q];exact m) (kt l) (by rw[q];exact VR e);have s3:=IS.Steps.one (s:=g) (by rw[o]);rw[o]at s3;obtain⟨a,i⟩ :∃a:IS,a={ g with hd:=cV l,lens:=[],st:=5 }:= ⟨_,rfl⟩;rw[<-i]at s3
 have O:Kg g a/\a.st=5/\a.hd=cV l/\a.lens=[]/\a.x=nR (cV l) (cY l)++y/\a.c0=fJ l/\a.c1=fT l:=by
  rw[i];exact⟨⟨rfl,rfl,rfl,rfl,rfl,rfl⟩,rfl,rfl,rfl,N,M.trans b5,L.trans b6⟩
 clear i o;obtain⟨E,d1,d2,d3,d4,d5,d6⟩ :=O;obtain⟨r,z⟩ :=Ji _ (eY l++dm l) rfl (ED e) [];have f:(cY l).foldl lj []=eY l++dm l:=by rw[aT]at r;exact r
 obtain⟨w,s4,h4,K,u,J,I,H⟩ :=Bz (kt l) (cY l) a [] d1 d2 d3 d4 z (Ih e) (by rw[f,af,nU,qN,d5,d6]);rw[f]at u;have v:=W4 (l:=eY l) (d:=dm l) K u (by rw[I,d5,nU]) (by rw[H,d6,qN]) (l4 e) (kr e) (NW e);have s5:=IS.Steps.one (s:=w) (by rw[v]);rw[v]at s5;exact⟨_,(((s1.trans s2).trans s3).trans s4).trans s5,((G.trans F).trans (E.trans h4)).trans ⟨rfl,rfl,rfl,rfl,rfl,rfl⟩,rfl,rfl,rfl,J⟩
theorem Reads.blk (h:Reads M L all kinds stops aj) (i:dN kind l raw.length=true) (I:∀x∈raw,0<=x/\x<256) (w:∀t∈l,0<=t.lit/\t.lit<256) (P:kind≠0->(expand all l).1=0) (C:(lF kind l raw all).length<=M) (y:List Int) (u:dJ y) (A:((lu kind l raw last L).length+y.length)%8=0):
  ∃t:IS,IS.Steps (start (lu kind l raw last L++y) M) t.over/\t.x=y/\t.last=last/\t.all=lF kind l raw all/\t.rem=M-(lF kind l raw all).length/\t.kinds=kinds++[kind]/\t.stops=stops/\t.aj=aj++(if kind=0 then [] else l):=by
 obtain⟨J,T,N⟩ :=h
 have e:kind=0\/kind=1\/kind=2:=by
  unfold dN at i;by_cases Q:kind=0
  · exact .inl Q
  rw[aa Q]at i;by_cases h:¬(kind=1\/kind=2)\/1048576<=l.length
  · rw[ae h]at i;exact absurd i δ
  omega
 obtain⟨mk,v⟩ :=ν ((if last=true then(1:Int)else 0):Int);have c:mk=0\/mk=1:=by cases last <;> simp at v <;> omega
 have G:decide (mk=1)=last:=by cases last <;> simp at v <;> subst v <;> rfl
 have H:dv mk 1=[mk]:=by rcases c with rfl | rfl <;> rfl
 have O:xX kind last L=L++([mk]++dv kind 2):=by unfold xX;rw[v,H,ak]
 rcases e with rfl | rfl | rfl
 · have n:raw.length<=65535:=by
    unfold dN at i;rw[ae rfl]at i;exact cM i
   have m:lu 0 l raw last L=qy (L++[mk,0,0])++dv raw.length 16++dv (65535-(raw.length:Int)) 16++gG raw:=by
    unfold lu;rw[ae rfl];unfold CN;rw[O,FD.1,Qp _ n];rfl
   obtain⟨pad,q,E⟩ :∃pad:List Int,qy (L++[mk,0,0])=L++[mk,0,0]++pad/\pad.length<8:= ⟨_,rfl,by rw[aQ];omega⟩;have S:dJ pad:=λx a=>(dJ.qy (J.app (b:=[mk,0,0]) (by intro x a;rcases aV.1 a with rfl | a;exact c;simp at a;omega))) x (by rw[q];exact bu _ a)
   have j:lu 0 l raw last L++y=L++([mk,0,0]++(pad++(dv raw.length 16++dv (65535-raw.length) 16++(gG raw++y)))):=by
    rw[m,q];simp only [List.append_assoc]
   have p:dJ ([mk,0,0]++(pad++(dv raw.length 16++dv (65535-(raw.length:Int)) 16++(gG raw++y)))):=
    dJ.app (by intro x a;rcases aV.1 a with rfl | a;exact c;simp at a;omega) (S.app (((dJ.dv _ _).app (dJ.dv _ _)).app ((dJ.gG _).app u)))
   obtain⟨t,s1,b1,b2,b3,b4,b5,b6,b7⟩ :=N _ p (by
    have:(lu 0 l raw last L++y).length%8=0:=by rw[af];exact A
    rw[j,af]at this;exact this)
   have D:y.length%8=0:=by
    rw[m,af,af,af,aP,aP,eT]at A;have:=pK (L++[mk,0,0]);omega
   have g:lF 0 l raw all=all++raw:=ae rfl;rw[g]at C⊢;rw[af]at C;have U:=G0 (s:=t) (B:=raw) (pad:=pad) (y:=y) (h:=mk) b1 c b2 E D u I n (by rw[b4];omega);rw[<-j]at s1;refine⟨_,s1.trans U,rfl,G, ?_, ?_, ?_,b6, ?_⟩
   · show t.all++raw=_;rw[b3]
   · show t.rem-raw.length=_;rw[b4,af];omega
   · show t.kinds++[0]=_;rw[b5]
   show t.aj=_;rw[b7,ae rfl,ax]
 · obtain⟨m1,m2⟩ :=Fz i
   have j:lu 1 l raw last L++y=L++([mk,1,0]++(jY ig iN l++y)):=by
    unfold lu;rw[aa δ,ae rfl,O,FD.2.1];simp only [List.append_assoc,List.cons_append,List.nil_append]
   have p:dJ ([mk,1,0]++(jY ig iN l++y)):=dJ.app (by intro x a;rcases aV.1 a with rfl | a;exact c;simp at a;omega) ((dJ.blk _ _ _).app u)
   obtain⟨t,s1,b1,b2,b3,b4,b5,b6,b7⟩ :=N _ p (by
    have:(lu 1 l raw last L++y).length%8=0:=by rw[af];exact A
    rw[j,af]at this;exact this)
   rw[<-j]at s1;have g:lF 1 l raw all=(expand all l).2:=aa δ;rw[g]at C⊢;have F:=a7K c (.inr rfl:(1:Int)=0\/(1:Int)=1) (.inl rfl:(0:Int)=0\/(0:Int)=1) (jY ig iN l++y)
   have r:t.step=({ t with last:=last,kinds:=t.kinds++[1],x:=jY ig iN l++y,lt:=ig,ds:=iN,st:=6 },0):=by
    unfold IS.step;rw[ae b1];unfold IS.block;rw[b2,F,aa (by rw[af];simp),aa (by rcases c with rfl | rfl <;> decide),ae (by rcases c with rfl | rfl <;> decide),lL (by rfl)];rw[<-G];rcases c with rfl | rfl <;> rfl
   have s2:=s1.tail (by rw[r]);rw[r]at s2;have K:Co ({ t with last:=last,kinds:=t.kinds++[1],x:=jY ig iN l++y,lt:=ig,ds:=iN,st:=6 }:IS) ig iN last (jY ig iN l++y) all (M-all.length) (kinds++[1]) stops aj:= ⟨rfl,rfl,rfl,rfl,rfl,b3,b4,by dsimp only;rw[b5],b6,b7⟩;have f:expand all l=(0,(expand all l).2):=by rw[<-P δ]
   obtain⟨o,s3,d⟩ :=CR K mA.1 mA.2 (by rw[pL];omega) (zV 256 ω) (λk e=> ⟨m2 k e,w k e,Yr (m2 k e) (w k e)⟩) f ω;refine⟨_,s2.trans s3,rfl,d.last,d.all, ?_,d.kinds,d.stops, ?_⟩
   · show o.rem=_;rw[d.rem];obtain⟨z,hz⟩ :=tv (out:=all) (l:=l) (by rw[f]);have:=aL List.length hz;rw[af]at this;omega
   show o.aj=_;rw[d.aj,aa δ]
 obtain⟨m1,m2⟩ :=zh i
 have j:lu 2 l raw last L++y=L++([mk,0,1]++(lS l++(jY (eY l) (dm l) l++y))):=by
  unfold lu;rw[aa δ,aa δ,O,FD.2.2];simp only [List.append_assoc,List.cons_append,List.nil_append]
 have p:dJ ([mk,0,1]++(lS l++(jY (eY l) (dm l) l++y))):=dJ.app (by intro x a;rcases aV.1 a with rfl | a;exact c;simp at a;omega) ((dJ.a7Y _).app ((dJ.blk _ _ _).app u))
 obtain⟨t,s1,b1,b2,b3,b4,b5,b6,b7⟩ :=N _ p (by
  have:(lu 2 l raw last L++y).length%8=0:=by rw[af];exact A
  rw[j,af]at this;exact this)
 rw[<-j]at s1;have g:lF 2 l raw all=(expand all l).2:=aa δ;rw[g]at C⊢;have F:=a7K c (.inl rfl:(0:Int)=0\/(0:Int)=1) (.inr rfl:(1:Int)=0\/(1:Int)=1) (lS l++(jY (eY l) (dm l) l++y))
 have r:t.step=({ t with last:=last,kinds:=t.kinds++[2],x:=lS l++(jY (eY l) (dm l) l++y),st:=3 },0):=by
  unfold IS.step;rw[ae b1];unfold IS.block;rw[b2,F,aa (by rw[af];simp),aa (by rcases c with rfl | rfl <;> decide),aa (by rcases c with rfl | rfl <;> decide),ae (by rcases c with rfl | rfl <;> decide),lL (by rfl)];rw[<-G];rcases c with rfl | rfl <;> rfl
 have s2:=s1.tail (by rw[r]);rw[r]at s2;obtain⟨R,s3,d,c1,c2,W,V⟩ :=Mh (t:={ t with last:=last,kinds:=t.kinds++[2],x:=lS l++(jY (eY l) (dm l) l++y),st:=3 }) rfl rfl m1;have K:Co R (eY l) (dm l) last (jY (eY l) (dm l) l++y) all (M-all.length) (kinds++[2]) stops aj:= ⟨c1,c2,W,d.last,V,d.all.trans b3,d.rem.trans b4,d.kinds.trans (by dsimp only;rw[b5]),d.stops.trans b6,d.aj.trans b7⟩;have f:expand all l=(0,(expand all l).2):=by rw[<-P δ]
 obtain⟨o,s4,h4⟩ :=CR K (l4 m1) (kr m1) (by rw[nU];have:=kH l;omega) (NW m1) (λk e=> ⟨m2 k e,w k e,Yl m1 e (m2 k e) (w k e)⟩) f ω;refine⟨_,(s2.trans s3).trans s4,rfl,h4.last,h4.all, ?_,h4.kinds,h4.stops, ?_⟩
 · show o.rem=_;rw[h4.rem];obtain⟨z,hz⟩ :=tv (out:=all) (l:=l) (by rw[f]);have:=aL List.length hz;rw[af]at this;omega
 show o.aj=_;rw[h4.aj,aa δ]
theorem Reads.next (h:Reads M L all kinds stops aj) (d:dN kind l raw.length=true) (a:∀x∈raw,0<=x/\x<256) (e:∀t∈l,0<=t.lit/\t.lit<256) (g:kind≠0->(expand all l).1=0) (b:(lF kind l raw all).length<=M):
  Reads M (lu kind l raw false L) (lF kind l raw all) (kinds++[kind]) (stops++[((lF kind l raw all).length:Int)]) (aj++(if kind=0 then [] else l)):=by
 refine⟨h.1.out _ _ _ _,b,λy c f=> ?_⟩;obtain⟨t,s,b1,b2,b3,b4,b5,b6,b7⟩ :=h.blk d a e g b y c f;refine⟨_,s, ?_⟩;unfold IS.over;rw[b2,aa δ];exact⟨rfl,b1,b3,b4,b5,by dsimp only;rw[b6,b3],b7⟩
theorem Reads.fin (h:Reads M L all kinds stops aj) (d:dN kind l raw.length=true) (a:∀x∈raw,0<=x/\x<256) (e:∀t∈l,0<=t.lit/\t.lit<256) (g:kind≠0->(expand all l).1=0) (b:(lF kind l raw all).length<=M):
  Ends M (lu kind l raw true L) (lF kind l raw all) (kinds++[kind]) (stops++[((lF kind l raw all).length:Int)]) (aj++(if kind=0 then [] else l)):=by
 refine⟨h.1.out _ _ _ _,b,λy c f=> ?_⟩;obtain⟨t,s,b1,b2,b3,b4,b5,b6,b7⟩ :=h.blk d a e g b y c f;refine⟨_,s, ?_⟩;unfold IS.over;rw[b2,ae rfl];exact⟨rfl,by dsimp only;rw[b1],b3,b5,by dsimp only;rw[b6,b3],b7⟩
theorem Ends.fin (h:Ends M L all kinds stops aj):∃t,(start (qy L) M).fin=(t,8)/\t.x=[]/\t.all=all/\t.kinds=kinds/\t.stops=stops/\t.aj=aj:=by
 obtain⟨b,c,hE⟩ :=h;obtain⟨t,s,b1,b2,b3,b4,b5,b6⟩ :=hE (List.replicate ((8-L.length%8)%8) 0) (dJ.zeros _) (by rw[aQ];omega);have e:L++List.replicate ((8-L.length%8)%8) 0=qy L:=rfl;rw[e]at s;refine⟨t, ?_, ?_,b3,b4,b5,b6⟩
 · rw[<-s.mr];have a:t.step=(t,8):=by unfold IS.step;rw[b1];rfl
   rw[IS.ir (by rw[a];simp),a]
 rw[b2];unfold lD;rw[aQ,dM (by rw[aQ];omega)]
end
def sQ (l f:List Int):Nat->Int
 | 0=>0
 | k+1=>sQ l f k+ix l k*ix f k
theorem rZ {l f:List Int} (a:∀i,0<=ix l i/\ix l i<=15) (hf:∀i,0<=ix f i/\ix f i<=1048576):∀k,eh l f k=sQ l f k
 | 0=>rfl
 | k+1=>by
   rw[eh,sQ,rZ a hf k];congr 1;have c:=a k;have b:=hf k;by_cases h:0<ix l k/\0<ix f k
   · exact ug h.1 h.2 b.2 ω
   rw[tj ω];have:ix l k=0\/ix f k=0:=ω;rcases this with h | h <;> rw[h] <;> simp
theorem sR (l f:List Int) (s:Nat):∀k,sQ l (ub f s) k=sQ l f k+if s<k/\s<f.length then ix l s else 0
 | 0=>by simp [sQ]
 | k+1=>by
   rw[sQ,sQ,sR l f s k,iK];by_cases b:s=k
   · subst b;rw[aa (show¬(s<s/\s<f.length) from λh=>Nat.lt_irrefl _ h.1)];by_cases a:s<f.length
     · rw[ae (show s=s/\s<f.length from⟨rfl,a⟩),ae (show s<s+1/\s<f.length from⟨iL _,a⟩),Int.mul_add];omega
     rw[aa (show¬(s=s/\s<f.length) from λh=>a h.2),aa (show¬(s<s+1/\s<f.length) from λh=>a h.2)];omega
   rw[aa (show¬(s=k/\k<f.length) from λh=>b h.1)];by_cases a:s<k/\s<f.length
   · rw[ae a,ae (show s<k+1/\s<f.length from⟨ω,a.2⟩)];omega
   rw[aa a,aa (show¬(s<k+1/\s<f.length) from λh=>a ⟨ω,h.2⟩)];omega
theorem xH (l:List Int) (n:Nat):∀k,sQ l (List.replicate n 0) k=0
 | 0=>rfl
 | k+1=>by
   rw[sQ,xH l n k]
   have:ix (List.replicate n (0:Int)) k=0:=by
    unfold ix;rw[aq,dC];split <;> rfl
   rw[this];simp
theorem Tw:fq0=(ub (List.replicate 286 0) 256,List.replicate 30 0):=by
 unfold fq0 fq0.zrI ub;rw[Fq _ ω];rfl
theorem Eh {lit bk:List Int} (c:∀i,0<=ix lit i) (hd:∀i,0<=ix bk i) (l:List cu):(∀t∈l,cC t/\(0<=t.lit/\t.lit<256))->sQ lit (jV l).1 286+sQ bk (jV l).2 30+((Ca l:Nat):Int)=((jY lit bk l).length:Int):=by
 refine ke (β:=Nat) (motive:=λl=>(∀t∈l,cC t/\(0<=t.lit/\t.lit<256))->sQ lit (jV l).1 286+sQ bk (jV l).2 30+((Ca l:Nat):Int)=((jY lit bk l).length:Int)) ?_ ?_ l
 · intro _;rw[ER,Tw];simp only;rw[sR,xH,xH,ae ⟨ω,by rw[aQ];omega⟩];unfold jY iQ Ca;rw[af,fU];have:=c 256;simp;omega
 intro l t d h;have n:=d λu e=>h u (cP _ e);obtain⟨s1,s2⟩ :=h t (bu _ (bg.2 rfl));have b:=mB l;have f:Ca (l++[t])=Ca l+Yn t:=by simp [Ca]
 have j:(jY lit bk (l++[t])).length=(jY lit bk l).length+(sT lit bk t).length:=by
  unfold jY;rw[Ef,Eg];simp only [List.length_append];omega
 rw[og,f,j];unfold Nh sT Yn;by_cases a:t.len=0
 · rw[ae a,ae a];simp only;rw[sR,ae ⟨ω,by rw[b.1];omega⟩,fU];have g:t.bk=0:=by unfold cC at s1;rw[ae a]at s1;exact s1
   rw[aa ω,aa ω];have:=c t.lit.toNat;omega
 rw[aa a,aa a];obtain⟨b1,b2,m,k⟩ :=sU s1 a;simp only;rw[sR,sR,ae ⟨ω,by rw[b.1];omega⟩,ae ⟨ω,by rw[b.2];omega⟩,ae b1,ae b2];simp only [List.length_append,fU,aP];have:=c (257+jg t.len);have:=hd (fk t.bk);omega
theorem NS {l:List Int} {m:Int} (a:0<=m) (h:∀i,i<l.length->0<=ix l i/\ix l i<=m) (i:Nat):0<=ix l i/\ix l i<=m:=by
 by_cases hi:i<l.length
 · exact h i hi
 have:ix l i=0:=by unfold ix;rw[aq,br ω];rfl
 rw[this];exact⟨df _,a⟩
theorem G1 {l f:List Int} {n:Nat} (h:∀i,n<=i->ix l i=0):∀k,sQ l f (n+k)=sQ l f n
 | 0=>rfl
 | k+1=>by rw[<-eZ,sQ,G1 h k,h (n+k) ω];simp
theorem NT {l:List Int} {i:Nat} (h:l.length<=i):ix l i=0:=by unfold ix;rw[aq,br h];rfl
theorem QA {l:List cu} (e:l.length<1048576):((lS l).length:Int)=RZ l:=by
 have f:=l7 e;have i:=uI l
 have h4:∀a:List Rn,(∀r∈a,yu r)->((nR (cV l) a).length:Int)=jn (cV l) a:=λa=>by
  induction a with
  | nil=>intro _;rfl
  | cons r a b=>
    intro h;have h5:=b λx d=>h x (aB _ d);have h6:=h r az;have h7:=vG l r.c.toNat (by have:=h6.1;omega);have g:=h6.2.2.1;show((Wh (cV l) r++nR (cV l) a).length:Int)=sP (cV l) r+jn (cV l) a;rw[af,<-h5];unfold Wh sP;rw[af,fU,aP];omega
 unfold lS RZ;simp only [List.length_append,aP];rw[sK _ _ ω];have:=h4 _ f;omega
theorem Ni {l:List cu} (a:l.length<1048576):(∀i,0<=ix (jV l).1 i/\ix (jV l).1 i<=1048576)/\∀i,0<=ix (jV l).2 i/\ix (jV l).2 i<=1048576:=
 ⟨λi=>by have:=(Da l i).1;omega,λi=>by have:=(Da l i).2;omega⟩
theorem EO:(∀i,0<=ix ig i/\ix ig i<=15)/\∀i,0<=ix iN i/\ix iN i<=15:=by
 have b:=(kX mA.1).2.1;have a:=(kX mA.2).2.1;exact⟨NS δ b,NS δ a⟩
theorem O6 {kind:Int} {l:List cu} {raw L:List Int} {last:Bool} (a:dN kind l raw.length=true) (g:∀t∈l,0<=t.lit/\t.lit<256) (p:kind=0->L.length%8=0):((lu kind l raw last L).length:Int)=(L.length:Int)+nB kind l raw.length:=by
 have k:kind=0\/kind=1\/kind=2:=by
  unfold dN at a;by_cases j:kind=0
  · exact .inl j
  rw[aa j]at a;by_cases h:¬(kind=1\/kind=2)\/1048576<=l.length
  · rw[ae h]at a;exact absurd a δ
  omega
 unfold lu nB;rcases k with rfl | rfl | rfl
 · rw[ae rfl,ae rfl];unfold CN;rw[af,af,af,aP,aP,eT,mq,nM];have:=p rfl;omega
 · obtain⟨m1,m2⟩ :=Fz a;rw[aa δ,ae rfl,aa δ,ae rfl,af,nM];have h:=Eh (λi=>(EO.1 i).1) (λi=>(EO.2 i).1) l λt ht=> ⟨m2 t ht,g t ht⟩;unfold N7;rw[rZ EO.1 (Ni m1).1,rZ EO.2 (Ni m1).2];omega
 obtain⟨m1,m2⟩ :=zh a;rw[aa δ,aa δ,aa δ,aa δ,af,af,nM];have c:=NS δ (rV (l4 m1));have b:=NS δ (rV (kr m1));have h:=Eh (λi=>(c i).1) (λi=>(b i).1) l λt ht=> ⟨m2 t ht,g t ht⟩;have e:=G1 (l:=eY l) (f:=(jV l).1) (n:=fJ l) (λi hi=>NT (by rw[nU];exact hi)) (286-fJ l);have d:=G1 (l:=dm l) (f:=(jV l).2) (n:=fT l) (λi hi=>NT (by rw[qN];exact hi)) (30-fT l);have o:=kH l;have m:=lM l;rw[show fJ l+(286-fJ l)=286 by omega]at e;rw[show fT l+(30-fT l)=30 by omega]at d;unfold He;rw[rZ c (Ni m1).1,rZ b (Ni m1).2,<-e,<-d];have:=QA m1;omega
theorem Ye {kind:Int} {l:List cu} {m:Nat} (a:dN kind l m=true) (k:∀t∈l,0<=t.lit/\t.lit<256):0<=nB kind l m/\nB kind l m<=60000000:=by
 by_cases b:kind=0
 · subst b;unfold nB;rw[ae rfl];unfold dN at a;rw[ae rfl]at a;have:=cM a;omega
 have c:l.length<1048576/\(∀t∈l,cC t)/\(kind=1\/kind=2):=by
  unfold dN at a;rw[aa b]at a;by_cases h:¬(kind=1\/kind=2)\/1048576<=l.length
  · rw[ae h]at a;exact absurd a δ
  rw[aa h,gI]at a;exact⟨ω,λt ht=>cM (a t ht),ω⟩
 have j:dN kind l ([]:List Int).length=true:=by
  unfold dN at a⊢;rw[aa b]at a⊢;exact a
 have e:=O6 (L:=[]) (raw:=[]) (last:=false) j k (λh=>absurd h b);have n:nB kind l ([]:List Int).length=nB kind l m:=by unfold nB;rw[aa b,aa b]
 rw[n]at e
 have g:∀lit bk:List Int,bb lit 15=0->bb bk 15=0->(jY lit bk l).length<=48*l.length+15:=λlit bk d i=>by
  have o:=zv (kX d).2.1 (kX i).2.1 l c.2.1;have h4:=py (kX d).2.1 256;unfold jY;rw[af];omega
 have hp:=J1 c.1;have d:=g ig iN mA.1 mA.2;have i:=g (eY l) (dm l) (l4 c.1) (kr c.1)
 have f:(lu kind l [] false []).length<=60000000:=by
  unfold lu;rw[aa b];split
  · rw[af,nM,List.length_nil];omega
  rw[af,af,nM,List.length_nil];omega
 simp only [List.length_nil]at e;omega
def iO (f:Nat->Int):Nat->Int×Int
 | 0=>(-1,0)
 | k+1=>if 0<=f k/\((iO f k).1<0\/f k<(iO f k).2)then((k:Int),f k)else iO f k
def oa (aj:List cu) (m:Nat) (k:Nat):Int:=if dN (k:Int) aj m=true then nB (k:Int) aj m else -1
theorem sO (f:Nat->Int):∀k,(iO f k).1= -1\/∃i:Nat,i<k/\(iO f k).1=(i:Int)/\(iO f k).2=f i/\0<=f i
 | 0=> .inl rfl
 | k+1=>by
   unfold iO;split
   · rename_i h
     exact .inr ⟨k,ω,rfl,rfl,h.1⟩
   rcases sO f k with h | ⟨i,b,a⟩
   · exact .inl h
   exact .inr ⟨i,ω,a⟩
theorem uH (f:Nat->Int):∀k i,i<k->0<=f i->0<=(iO f k).1/\(iO f k).2<=f i
 | 0,i,h,_=>ω
 | k+1,i,h,h0=>by
   unfold iO;have a:=sO f k;by_cases hi:i=k
   · subst hi;split
     · exact⟨σ,df _⟩
     rename_i b
     rcases a with c | ⟨j,_,c,h7,_⟩ <;> omega
   obtain⟨p1,p2⟩ :=uH f k i ω h0;split
   · rename_i b
     constructor
     · simp
     show f k<=f i;omega
   exact⟨p1,p2⟩
theorem a1V {aj:List cu} {m:Nat} (a:∀t∈aj,0<=t.lit/\t.lit<256) (k:Nat): -1<=oa aj m k/\oa aj m k<=60000000:=by
 unfold oa;by_cases h:dN (k:Int) aj m=true
 · rw[ae h];have:=Ye h a;omega
 rw[aa h];omega
theorem EG {aj:List cu} {m k:Nat} (h:0<=oa aj m k):dN (k:Int) aj m=true:=by
 unfold oa at h;by_cases a:dN (k:Int) aj m=true
 · exact a
 rw[aa a]at h;omega
def a1P (w:World) (b0 g:Nat) (A:Option Addr) (L raw:List Int) (aj:List cu) (m:Nat) (last:Bool) (e:Ending) (w':World):Prop:=
 e= .returned (.int .i64 (iO (oa aj m) 3).1)/\(((iO (oa aj m) 3).1= -1/\Below w.heap.size w w')\/(0<=(iO (oa aj m) 3).1/\kv w w' b0 g A (lu (iO (oa aj m) 3).1 aj raw last L)))
theorem Kv (w:World) (b0 g n c:Nat) (A:Option Addr) (L:List Int) (I:qf w b0 g A n c L) (At:Option Addr) (nt ct:Nat) (aj:List cu) (B:lV w w.heap.size At nt aj) (G:(nt:Int)<=4611686018427387904) (K:0<nt->∀E,At=some E->¬foot A g E.block) (u:∀t∈aj,0<=t.lit/\t.lit<256)
  (C:Option Addr) (m cr:Nat) (raw:List Int) (F:bU .u8 w w.heap.size C m raw) (J:0<m->∀E,C=some E->¬foot A g E.block) (d:∀x∈raw,0<=x/\x<256) (last:Bool) (a:L.length<=2000000000000):
  Calls Tryz.prog 66 #[.pointer (some ⟨g,0,none⟩), .slice At nt ct, .slice C m cr, .bool last] w (a1P w b0 g A L raw aj m last):=by
 have HH:=η (⟨I,B,G,K,u,F,J,d,a⟩ :_/\_/\_/\_/\_/\_/\_/\_/\_);obtain⟨f,hf⟩ :=ν (oa aj m);have HF:Hid ((∀k, -1<=f k/\f k<=60000000)/\∀k,0<=f k->dN (k:Int) aj m=true):=by rw[<-hf];exact⟨a1V u,λk h=>EG h⟩
 have al:Hid (∀(W:World) (k:Nat),Below w.heap.size w W->Calls Tryz.prog 93 #[.int .i64 (k:Int), .slice At nt ct, .slice C m cr] W λe w'=>e= .returned (.int .i64 (f k))/\Below W.heap.size W w'):=λW k h=>by
  have:=OQ W (k:Int) At nt ct aj ((B.below h).more h.size) G u C m cr;rw[show(if dN (k:Int) aj m=true then nB (k:Int) aj m else -1)=f k by rw[<-hf];rfl]at this;exact this
 have XQ:=η hf;clear I B G K u F J d a hf;go_enter Tryz.func66,Tryz.ntmps66
 go_wp2_with fail;go_loopg [9,10,11] 3 (λ(gk:Nat) (v9 v10 v11:Value) wx=>∃(k:Nat) (b c:Int),v9= .int .i64 b/\v10= .int .i64 c/\v11= .int .i64 k/\k<=3/\Hid (iO f k=(b,c))/\Hid (Below w.heap.size w wx)/\Hid (gk=3-k))
 case atStart=>exact⟨0, -1,0,rfl,rfl,rfl,ω,rfl,aw _ _,rfl⟩
 obtain⟨k,b,cc,rfl,rfl,rfl,hk,hp,l,U⟩ :=hrel;have q:=sO f k;rw[hp.out]at q;dsimp only at q;have xd: -1<=b/\b<=3:=by rcases q with h | ⟨i,h1,h2,_⟩ <;> omega
 by_cases M:k<=2
 rotate_left
 · obtain rfl:k=3:=ω;have HP:Hid ((iO (oa aj m) 3).1=b):=by show _=_;rw[XQ.out,hp.out]
   clear M;by_cases y:0<=b
   rotate_left
   · have Z:b= -1:=ω;subst Z;clear q hp
     go_wp2_with fail;go_ret;exact⟨by rw[HP.out];rfl, .inl ⟨HP.out,l.out⟩⟩
   obtain⟨i,hi,YY,Y,O⟩ :∃i:Nat,i<3/\b=(i:Int)/\cc=f i/\0<=f i:=by
    rcases q with h | ⟨i,h1,h2,h3,h4⟩
    · omega
    exact⟨i,h1,h2,h3,h4⟩
   have s:=HF.out.2 i O;rw[<-YY]at s;obtain⟨I,B,G,K,u,F,J,d,a⟩ :=HH.out;have hs:=kv.start I l.out;obtain⟨⟨A3,n3,c3,H,wG⟩,P⟩ :=hs
   have R:=Ej wr b0 g n3 c3 A3 _ H b At nt ct aj ((B.below l.out).more l.out.size) G (λD=>BA wG (λE e=>by
    obtain⟨MT,o,z,_⟩ :=B.2 D;rw[e]at o;injection o with o;rw[o];exact z) (K D)) u C m cr raw ((F.below l.out).more l.out.size) (λD=>BA wG (λE e=>by
    obtain⟨MT,o,z,_⟩ :=F.2 D;rw[e]at o;injection o with o;rw[o];exact z) (J D)) d last s a
   have ah:=η R;have T:=η (⟨wG,P⟩ :_/\_);clear I B G K u F J d a H wG P R hi YY Y O s q hp
   go_wp2_with fail;refine ah.out.mono ?_;rintro e w5 ⟨rfl,h5⟩;have H5:=η (kv.step T.out.2 T.out.1 h5);clear h5
   go_wp2_with fail;go_ret;exact⟨by rw[HP.out];rfl, .inr ⟨by rw[HP.out];exact y,by rw[HP.out];exact H5.out⟩⟩
 have qh:(k:Int)<=2/\(0:Int)<=(k:Int):=ω;have HC:=η (al.out wr k l.out);obtain⟨N,hN⟩ :=ν (f k);have ac:=HF.out.1 k;rw[hN]at HC ac
 have am: -1<=cc/\cc<=60000000:=by
  rcases q with h | ⟨i,_,_,h1,_⟩
  · have D:∀j,(iO f j).1= -1->(iO f j).2=0:=λj=>by
     induction j with
     | zero=>intro _;rfl
     | succ j ih=>
       intro V;unfold iO at V⊢;split at V
       · exfalso;dsimp only at V;omega
       rename_i h8;rw[aa h8];exact ih V
    have h7:=D k (by rw[hp.out];exact h);rw[hp.out]at h7;have h7:cc=0:=h7;omega
  have:=HF.out.1 i;omega
 have X:Hid (iO f (k+1)=if 0<=N/\(b<0\/N<cc)then((k:Int),N)else(b,cc)):=by
  show _=_;rw[show iO f (k+1)=if 0<=f k/\((iO f k).1<0\/f k<(iO f k).2)then((k:Int),f k)else iO f k from rfl,hp.out,hN]
 clear q hN hp M
 go_wp2_with fail;refine HC.out.mono ?_;rintro e w5 ⟨rfl,kY⟩;have p:=η (l.out.trans (kY.mono l.out.size));clear kY;by_cases Q:0<=N/\(b<0\/N<cc)
 · have r:=X.out;rw[ae Q]at r;have S:=η r;clear r X;obtain⟨an,v⟩ :=Q;by_cases y:b<0
   · clear v
     go_wp2_with fail;go_roundg (3-(k+1))
     case measure=>have:=U.out;omega
     case rel=>exact⟨k+1,(k:Int),N,rfl,rfl,by go_num,ω,S.out,p.out,rfl⟩
   have ab:decide (b<0)=false:=ξ;have UA:N<cc:=by rcases v with h | h;exact absurd h y;exact h
   clear v
   go_wp2_with fail;go_roundg (3-(k+1))
   case measure=>have:=U.out;omega
   case rel=>exact⟨k+1,(k:Int),N,rfl,rfl,by go_num,ω,S.out,p.out,rfl⟩
 have r:=X.out;rw[aa Q]at r;have S:=η r;clear r X;by_cases Lc:0<=N
 · have ab:decide (b<0)=false:=ξ;have UA:decide (N<cc)=false:=ξ;clear Q
   go_wp2_with fail;go_roundg (3-(k+1))
   case measure=>have:=U.out;omega
   case rel=>exact⟨k+1,b,cc,rfl,rfl,by go_num,ω,S.out,p.out,rfl⟩
 have ao:decide (0<=N)=false:=ξ;clear Q
 go_wp2_with fail;go_roundg (3-(k+1))
 case measure=>have:=U.out;omega
 case rel=>exact⟨k+1,b,cc,rfl,rfl,by go_num,ω,S.out,p.out,rfl⟩
theorem EJ {l:List cu}:∀{out:List Int},(expand out l).1=0->∀t∈l,cC t:=by
 induction l with
 | nil=>intro out _ t ht;simp at ht
 | cons k l c=>
   intro out h t ht;rw[jQ]at h;by_cases a:(step out k).1=0
   · rw[ae a]at h;rcases aV.1 ht with rfl | ht
     · unfold step at a;by_cases b:cC t
       · exact b
       rw[ae b]at a;simp at a
     exact c h t ht
   rw[aa a]at h;exact absurd h a
structure kK where
 lev:Int
 f:ja
 L:List Int
 raw:List Int
 aj:List cu
def mF (t:cu):Nat:=(max t.len 1).toNat
def bQ (l:List cu):Nat:=(l.map mF).sum
def iC (n i:Nat):List cu->Nat
 | []=>0
 | t::l=>if 16384<=n+mF t then i+1 else iC (n+mF t) (i+1) l
def bR (l:List cu):Nat:=iC 0 0 l
def pQ (lev:Int) (l:List cu):Int:=if lev<=0 then 0 else(iO (oa l (bQ l)) 3).1
def iV (d:kK) (count:Nat) (last:Bool):kK:=
 { d with
   L:=lu (pQ d.lev (d.aj.take count)) (if d.lev<=0 then [] else d.aj.take count) (d.raw.take (bQ (d.aj.take count))) last d.L
   raw:=d.raw.drop (bQ (d.aj.take count))
   aj:=d.aj.drop count }
def tN (e:oW) (left:Nat):Nat->ja->List cu×ja
 | 0,st=>([],st)
 | k+1,st=>if left<st.D.length-st.at_ then((fN e st).1::(tN e left k (fN e st).2).1,(tN e left k (fN e st).2).2)else([],st)
theorem JA {e:oW} {left:Nat}:∀(k:Nat) {st st':ja} {l:List cu},yQ e left st l st'->st'.D.length-st'.at_<=left->st.Ok st.at_->st.D.length-st.at_<=k->tN e left k st=(l,st')
 | 0,st,st',l,hr,he,kB,hk=>by
   rcases hr.inv with ⟨rfl,rfl⟩ | ⟨d,h,_⟩
   · rfl
   omega
 | k+1,st,st',l,hr,he,kB,hk=>by
   unfold tN;rcases hr.inv with ⟨rfl,rfl⟩ | ⟨d,h,rfl,f⟩
   · rw[aa ω]
   rw[ae h];obtain⟨N,m,j,i,c,b,a,g⟩ :=oU (e:=e) kB ω;rw[JA k f he (by rw[a];exact c) (by rw[b,a];omega)]
def jJ (left:Nat) (d:kK):kK:=
 { d with f:=(tN (gP d.lev) left (d.f.D.length-d.f.at_) d.f).2,aj:=d.aj++(tN (gP d.lev) left (d.f.D.length-d.f.at_) d.f).1 }
def lK:Nat->kK->kK
 | 0,d=>d
 | k+1,d=>if 0<bR d.aj then lK k (iV d (bR d.aj) false)else d
def fD:Nat->kK->kK
 | 0,d=>d
 | k+1,d=>if 0<bR d.aj/\bR d.aj<d.aj.length then fD k (iV d (bR d.aj) false)else d
def uf (d:kK) (x:List Int):kK:=
 let d1:=jJ 261 { d with raw:=d.raw++x,f:=jo d.f x }
 lK d1.aj.length d1
def iG:Nat->kK->List Int->kK
 | 0,d,_=>d
 | k+1,d,b=>if 0<b.length then iG k (uf d (b.take (min b.length 16384))) (b.drop (min b.length 16384))else d
def eK (d:kK):kK:=
 let d1:=jJ 0 d
 fD d1.aj.length d1
def na (d:kK):kK:=
 let d1:=eK d
 let d2:=iV d1 d1.aj.length true
 { d2 with L:=qy d2.L }
def Bc (lev:Int):kK:= ⟨lev,IQ,[],[],[]⟩
theorem wY:∀(l:List cu) (n i:Nat),iC n i l<=i+l.length/\(0<iC n i l->i<iC n i l)
 | [],n,i=> ⟨by simp [iC],λh=>by simp [iC]at h⟩
 | t::l,n,i=>by
   unfold iC;rw[bc];split
   · omega
   have:=wY l (n+mF t) (i+1);omega
theorem vS {t:cu} (h:cC t):1<=mF t/\mF t<=258:=by
 unfold mF;unfold cC at h;split at h
 · rename_i a;rw[a];decide
 omega
theorem zW:∀(l:List cu) (n i:Nat),(∀t∈l,cC t)->n<16384->0<iC n i l->16384<=n+bQ (l.take (iC n i l-i))/\n+bQ (l.take (iC n i l-i))<=16384+257
 | [],n,i,_,_,h=>by simp [iC]at h
 | t::l,n,i,hs,hn,h=>by
   have ht:=vS (hs t az);unfold iC at h⊢;by_cases b:16384<=n+mF t
   · rw[ae b,show i+1-i=1 by omega];have:bQ ((t::l).take 1)=mF t:=by simp [bQ]
     omega
   rw[aa b]at h⊢;have a:=zW l (n+mF t) (i+1) (λu c=>hs u (aB _ c)) ω h;have e:=(wY l (n+mF t) (i+1)).2 h;obtain⟨m,d⟩ :∃m,iC (n+mF t) (i+1) l=i+1+m:= ⟨_,(gO (by omega:i+1<=_)).symm⟩;rw[d]at a⊢;rw[show i+1+m-(i+1)=m by omega]at a;rw[show i+1+m-i=m+1 by omega];have:bQ ((t::l).take (m+1))=mF t+bQ (l.take m):=by simp [bQ]
   omega
theorem sk:∀(l:List cu) (n i:Nat),n<16384->iC n i l=0->n+bQ l<16384
 | [],n,i,hn,_=>by simp [bQ];exact hn
 | t::l,n,i,hn,h=>by
   unfold iC at h;by_cases a:16384<=n+mF t
   · rw[ae a]at h;omega
   rw[aa a]at h;have b:=sk l (n+mF t) (i+1) ω h;have:bQ (t::l)=mF t+bQ l:=by simp [bQ]
   omega
theorem sg:∀(l:List cu) (out z:List Int),expand out l=(0,z)->z.length=out.length+bQ l
 | [],out,z,h=>by
   have:(0,out)=((0:Int),z):=h;injection this with _ c;rw[<-c];simp [bQ]
 | t::l,out,z,h=>by
   rw[jQ]at h;by_cases a:(step out t).1=0
   rotate_left
   · rw[aa a]at h;rw[h]at a;exact absurd rfl a
   rw[ae a]at h;have e:=sg l _ z h
   have f:(step out t).2.length=out.length+mF t:=by
    unfold step at a⊢;unfold mF;by_cases d:¬cC t
    · rw[ae d]at a;simp at a
    rw[aa d]at a⊢;by_cases c:16777216<(out.length:Int)+max t.len 1
    · rw[ae c]at a;simp at a
    rw[aa c]at a⊢;by_cases b:t.len=0
    · rw[ae b,af,b];rfl
    rw[aa b]at a⊢;by_cases h4:(out.length:Int)<t.bk
    · rw[ae h4]at a;simp at a
    rw[aa h4,af,cG];unfold cC at d;rw[aa b]at d;omega
   have:bQ (t::l)=mF t+bQ l:=by simp [bQ]
   omega
theorem Nc {P L:List Int} (h:P.length%8=0):qy (P++L)=P++qy L:=by
 unfold qy;rw[af,ak,show(8-(P.length+L.length)%8)%8=(8-L.length%8)%8 by omega]
theorem F7 {P L:List Int} (kind:Int) (last:Bool):xX kind last (P++L)=P++xX kind last L:=by unfold xX;simp [List.append_assoc]
theorem IY {P L:List Int} (h:P.length%8=0) (kind:Int) (l:List cu) (raw:List Int) (last:Bool):lu kind l raw last (P++L)=P++lu kind l raw last L:=by
 unfold lu;split
 · rw[F7];unfold CN;rw[Nc h];simp [List.append_assoc]
 split
 · rw[F7,ak]
 rw[F7];simp [List.append_assoc]
structure tO (X P:List Int) (d:kK) (all kinds stops:List Int) (fS pre:List cu):Prop where
 big:X.length<=16777216
 jU:∀x∈X,0<=x/\x<256
 ev:P.length%8=0
 fd:d.f.D=X
 Tv:d.f.Ok d.f.at_
 XG:all++d.raw=X
 prx:expand [] pre=(0,all)
 tok:expand [] (pre++d.aj)=(0,X.take d.f.at_)
 lit:∀t∈d.aj,0<=t.lit/\t.lit<256
 rd:Reads 16777216 (P++d.L) all kinds stops fS
 st0:d.lev<=0->∀k∈kinds,k=0
 kl:kinds.length=stops.length/\∀s∈stops,0<=s/\s<=16777216
section
variable {X P:List Int} {d:kK} {all kinds stops:List Int} {fS pre:List cu}
theorem tO.G9 (h:tO X P d all kinds stops fS pre):expand all d.aj=(0,X.take d.f.at_):=by
 have a:=h.tok;rw[mK,h.prx,ae rfl]at a;exact a
theorem tO.lens (h:tO X P d all kinds stops fS pre):all.length+bQ d.aj=d.f.at_:=by
 have:=sg _ _ _ h.G9;rw[aA,<-h.fd,bw h.Tv.hi]at this;omega
theorem tO.sound (h:tO X P d all kinds stops fS pre):∀t∈d.aj,cC t:=EJ (by rw[h.G9])
theorem II:∀{l:List cu},(∀t∈l,cC t)->l.length<=bQ l
 | [],_=>σ
 | t::l,h=>by
   have c:=vS (h t az);have b:=II (l:=l) λu a=>h u (aB _ a);have:bQ (t::l)=mF t+bQ l:=by simp [bQ]
   rw[bc];omega
theorem tO.first (h:tO X P d all kinds stops fS pre) (count:Nat):expand all (d.aj.take count)=(0,all++d.raw.take (bQ (d.aj.take count)))/\bQ (d.aj.take count)<=d.raw.length:=by
 have a:=h.G9;rw[<-aM count d.aj,mK]at a;by_cases b:(expand all (d.aj.take count)).1=0
 rotate_left
 · rw[aa b]at a;rw[a]at b;exact absurd rfl b
 rw[ae b]at a;obtain⟨z,hz⟩ :=tv (out:=(expand all (d.aj.take count)).2) (l:=d.aj.drop count) (by rw[a]);rw[a]at hz;have c:expand all (d.aj.take count)=(0,(expand all (d.aj.take count)).2):=by rw[<-b]
 have i:=sg _ _ _ c;obtain⟨Y,k⟩ :=ν ((expand all (d.aj.take count)).2);rw[k]at hz i c;replace hz:X.take d.f.at_=Y++z:=hz
 have e:Y=X.take Y.length:=by
  have h5:(X.take d.f.at_).take Y.length=Y:=by rw[hz];simp
  have:Y.length<=(X.take d.f.at_).length:=by rw[hz,af];omega
  rw[aA]at this;rw[ft,bw ω]at h5;exact h5.symm
 have m:Y.length<=X.length:=by
  have:Y.length<=(X.take d.f.at_).length:=by rw[hz,af];omega
  rw[aA]at this;omega
 have g:=h.XG
 have j:bQ (d.aj.take count)<=d.raw.length:=by
  have:X.length=all.length+d.raw.length:=by rw[<-g,af]
  omega
 refine⟨?_,j⟩;rw[c,e,i,<-g,gK,ay ω,bS]
theorem Fu {lev:Int} {l:List cu} (e:∀t∈l,cC t) (f:∀t∈l,0<=t.lit/\t.lit<256) (c:bQ l<=65535):
  (lev<=0->pQ lev l=0)/\0<=pQ lev l/\dN (pQ lev l) (if lev<=0 then [] else l) (bQ l)=true:=by
 have a:∀q:List cu,dN 0 q (bQ l)=true:=λq=>by unfold dN;rw[ae rfl];exact aS c
 unfold pQ;by_cases h:lev<=0
 · rw[ae h,ae h];exact⟨λ_=>rfl,ω,a _⟩
 rw[aa h,aa h]
 have hp:=uH (oa l (bQ l)) 3 0 ω (by
  unfold oa;rw[show((0:Nat):Int)=0 from rfl,ae (a l)];unfold nB;rw[ae rfl];omega)
 refine⟨λb=>absurd b h,hp.1, ?_⟩;rcases sO (oa l (bQ l)) 3 with b | ⟨i,_,d,_,h4⟩
 · omega
 rw[d];exact EG h4
theorem tO.blk (h:tO X P d all kinds stops fS pre) (count:Nat) (l:bQ (d.aj.take count)<=65535):
  dN (pQ d.lev (d.aj.take count)) (if d.lev<=0 then [] else d.aj.take count) (d.raw.take (bQ (d.aj.take count))).length=true/\
  (∀x∈d.raw.take (bQ (d.aj.take count)),0<=x/\x<256)/\
  (∀t∈(if d.lev<=0 then [] else d.aj.take count),0<=t.lit/\t.lit<256)/\
  (pQ d.lev (d.aj.take count)≠0->(expand all (if d.lev<=0 then [] else d.aj.take count)).1=0)/\
  lF (pQ d.lev (d.aj.take count)) (if d.lev<=0 then [] else d.aj.take count) (d.raw.take (bQ (d.aj.take count))) all=all++d.raw.take (bQ (d.aj.take count))/\
  (all++d.raw.take (bQ (d.aj.take count))).length<=16777216:=by
 obtain⟨j,n⟩ :=h.first count
 have i:∀t∈d.aj.take count,0<=t.lit/\t.lit<256:=λt ht=>h.lit t (aH ht);obtain⟨f,m,k⟩ :=Fu (lev:=d.lev) (λt ht=>h.sound t (aH ht)) i l;have g:(d.raw.take (bQ (d.aj.take count))).length=bQ (d.aj.take count):=by rw[aA];omega
 have e:∀x∈d.raw,x∈X:=λx c=>by rw[<-h.XG];exact bu _ c
 refine⟨by rw[g];exact k,λx c=>h.jU x (e x (aH c)),λt ht=> ?_,λa=> ?_, ?_, ?_⟩
 · split at ht
   · simp at ht
   exact i t ht
 · by_cases b:d.lev<=0
   · exact absurd (f b) a
   rw[aa b,j]
 · unfold lF;by_cases a:pQ d.lev (d.aj.take count)=0
   · rw[ae a]
   rw[aa a,aa (λb=>a (f b)),j]
 have h5:X.length=all.length+d.raw.length:=by rw[<-h.XG,af]
 have:=h.big;rw[af,g];omega
theorem tO.lay (h:tO X P d all kinds stops fS pre) (count:Nat) (f:bQ (d.aj.take count)<=65535):
  ∃g,tO X P (iV d count false) (all++d.raw.take (bQ (d.aj.take count))) (kinds++[pQ d.lev (d.aj.take count)]) (stops++[((all++d.raw.take (bQ (d.aj.take count))).length:Int)]) g (pre++d.aj.take count):=by
 obtain⟨b1,b2,b3,b4,b5,b6⟩ :=h.blk count f;have e:=h.rd.next b1 b2 b3 b4 (by rw[b5];exact b6)
 rw[b5,IY h.ev]at e;refine⟨_,h.big,h.jU,h.ev,h.fd,h.Tv, ?_, ?_, ?_,λt ht=>h.lit t (aX ht),e,λc k b=> ?_, ?_⟩
 · show(all++_)++d.raw.drop _=X;rw[ak,aM];exact h.XG
 · rw[mK,h.prx,ae rfl];exact(h.first count).1
 · show expand [] ((pre++d.aj.take count)++d.aj.drop count)=_;rw[ak,aM];exact h.tok
 · rcases aN.1 b with b | b
   · exact h.st0 c k b
   rw[bg.1 b];unfold pQ;rw[ae (show d.lev<=0 from c)]
 refine⟨by rw[af,af,h.kl.1];rfl,λs a=> ?_⟩;rcases aN.1 a with a | a
 · exact h.kl.2 s a
 rw[bg.1 a];omega
theorem tO.last (h:tO X P d all kinds stops fS pre) (count:Nat) (b:bQ (d.aj.take count)<=65535):
  ∃c,Ends 16777216 (P++(iV d count true).L) (all++d.raw.take (bQ (d.aj.take count))) (kinds++[pQ d.lev (d.aj.take count)]) (stops++[((all++d.raw.take (bQ (d.aj.take count))).length:Int)]) c:=by
 obtain⟨b1,b2,b3,b4,b5,b6⟩ :=h.blk count b;have a:=h.rd.fin b1 b2 b3 b4 (by rw[b5];exact b6);rw[b5,IY h.ev]at a;exact⟨_,a⟩
theorem tO.tokens (h:tO X P d all kinds stops fS pre) (left:Nat) {l:List cu} {f:ja} (b:yQ (gP d.lev) left d.f l f) (hf:f.Ok f.at_) (hD:f.D=d.f.D) (c:∀t∈l,0<=t.lit/\t.lit<256):
  tO X P { d with f:=f,aj:=d.aj++l } all kinds stops fS pre:=by
 refine⟨h.big,h.jU,h.ev,hD.trans h.fd,hf,h.XG,h.prx, ?_,λt ht=> ?_,h.rd,h.st0,h.kl⟩
 · have a:=Mp b h.Tv (by rw[h.fd];exact h.big) [] (pre++d.aj) (by rw[h.fd];exact h.tok);rw[ak,hD,h.fd]at a;exact a
 rcases aN.1 ht with ht | ht
 · exact h.lit t ht
 exact c t ht
theorem tO.grow (h:tO X P d all kinds stops fS pre) (x:List Int) (c:(X++x).length<=16777216) (b:∀v∈x,0<=v/\v<256):
  tO (X++x) P { d with raw:=d.raw++x,f:=jo d.f x } all kinds stops fS pre:=by
 have a:d.f.at_<=X.length:=by rw[<-h.fd];exact h.Tv.hi
 refine⟨c,λv hv=> ?_,h.ev, ?_,h.Tv.write x, ?_,h.prx, ?_,h.lit,h.rd,h.st0,h.kl⟩
 · rcases aN.1 hv with hv | hv
   · exact h.jU v hv
   exact b v hv
 · show d.f.D++x=X++x;rw[h.fd]
 · show all++(d.raw++x)=X++x;rw[<-ak,h.XG]
 show _=(0,(X++x).take d.f.at_);rw[bP a];exact h.tok
theorem tO.new (lev:Int):tO [] [] (Bc lev) [] [] [] [] []:=
 ⟨σ,λx a=>by simp at a,rfl,rfl,Ok.new,rfl,rfl,rfl,λt ht=>by simp [Bc]at ht,Reads.nil _,λ_ k c=>by simp at c,rfl,λs b=>by simp at b⟩
end
theorem Qm {e:oW} {st:ja} (hD:∀x∈st.D,0<=x/\x<256) (a:st.at_<st.D.length):0<=(fN e st).1.lit/\(fN e st).1.lit<256:=by
 have b:0<=(rv st).lit/\(rv st).lit<256:=hD _ (xr a);unfold fN;split
 · exact b
 split
 · split
   · exact b
   exact⟨df 0,(by decide:(0:Int)<256)⟩
 exact⟨df 0,(by decide:(0:Int)<256)⟩
theorem Ee {e:oW} {left:Nat}:∀(k:Nat) (st:ja),st.Ok st.at_->(∀x∈st.D,0<=x/\x<256)->
  yQ e left st (tN e left k st).1 (tN e left k st).2/\(tN e left k st).2.Ok (tN e left k st).2.at_/\(tN e left k st).2.D=st.D/\(∀t∈(tN e left k st).1,0<=t.lit/\t.lit<256)/\
  (st.D.length-st.at_<=k->st.D.length-(tN e left k st).2.at_<=left)
 | 0,st,kB,hD=> ⟨.nil st,kB,rfl,λt ht=>by simp [tN]at ht,λh=>by have:(tN e left 0 st).2=st:=rfl;rw[this];omega⟩
 | k+1,st,kB,hD=>by
   unfold tN;by_cases h:left<st.D.length-st.at_
   · rw[ae h];obtain⟨N,m,l,j,c,a,b,i⟩ :=oU (e:=e) kB ω;obtain⟨g,f,d,h4,h5⟩ :=Ee (e:=e) (left:=left) k (fN e st).2 (by rw[b];exact c) (by rw[a];exact hD);refine⟨yQ.a4R h g,f,d.trans a,λt ht=> ?_,λn=> ?_⟩
     · rcases aV.1 ht with rfl | ht
       · exact Qm hD ω
       exact h4 t ht
     have:=h5 (by rw[a,b];omega);rw[a]at this;exact this
   rw[aa h];exact⟨.nil st,kB,rfl,λt ht=>by simp at ht,λ_=>by show st.D.length-st.at_<=left;omega⟩
theorem zO {I:kK->Prop} (h:∀d,I d->0<bR d.aj->I (iV d (bR d.aj) false)):∀k d,I d->I (lK k d)
 | 0,d,hd=>hd
 | k+1,d,hd=>by
   unfold lK;split
   · rename_i a;exact zO h k _ (h d hd a)
   exact hd
theorem qu {I:kK->Prop} (h:∀d,I d->0<bR d.aj->I (iV d (bR d.aj) false)):∀k d,I d->I (fD k d)
 | 0,d,hd=>hd
 | k+1,d,hd=>by
   unfold fD;split
   · rename_i a;exact qu h k _ (h d hd a.1)
   exact hd
theorem lO (l:List cu):bR l<=l.length:=by have:=(wY l 0 0).1;unfold bR;omega
theorem zP:∀k d,d.aj.length<=k->bR (fD k d).aj=0\/(fD k d).aj.length<=bR (fD k d).aj
 | 0,d,h=>by have:=lO d.aj;exact .inl (by show bR d.aj=0;omega)
 | k+1,d,h=>by
   unfold fD;split
   · refine zP k _ ?_;show(d.aj.drop _).length<=k;rw[av];omega
   omega
theorem Ho:∀k d,(fD k d).lev=d.lev/\(fD k d).f=d.f:=λk d=>by
 have:=qu (I:=λx=>x.lev=d.lev/\x.f=d.f) (λx a _=>a) k d ⟨rfl,rfl⟩;exact this
def oV (X P:List Int) (d:kK):Prop:=∃all kinds stops fS pre,tO X P d all kinds stops fS pre
theorem KY {X P:List Int} {d:kK} {all kinds stops:List Int} {fS pre:List cu} (h:tO X P d all kinds stops fS pre) (hf:0<bR d.aj):16384<=bQ (d.aj.take (bR d.aj))/\bQ (d.aj.take (bR d.aj))<=16641:=by
 have:=zW d.aj 0 0 h.sound ω hf;rw[jz,bZ]at this;exact this
theorem oV.lay {X P:List Int} {d:kK} (h:oV X P d) (hf:0<bR d.aj):oV X P (iV d (bR d.aj) false):=by
 obtain⟨all,kinds,stops,fS,pre,h⟩ :=h;obtain⟨b,a⟩ :=h.lay (bR d.aj) (by have:=KY h hf;omega);exact⟨_,_,_,_,_,a⟩
theorem B3 {X P:List Int} {d:kK} {all kinds stops:List Int} {fS pre:List cu} (h:tO X P d all kinds stops fS pre) (count:Nat) (last:Bool) (k:bQ (d.aj.take count)<=65535):
  (iV d count last).L.length<=d.L.length+8*bQ (d.aj.take count)+42:=by
 have m:∀t∈d.aj.take count,0<=t.lit/\t.lit<256:=λt ht=>h.lit t (aH ht);have a:(d.raw.take (bQ (d.aj.take count))).length=bQ (d.aj.take count):=by rw[aA];have:=(h.first count).2;omega
 obtain⟨o,s,j⟩ :=Fu (lev:=d.lev) (λt ht=>h.sound t (aH ht)) m k;show(lu _ _ _ _ _).length<=_;by_cases e:pQ d.lev (d.aj.take count)=0
 · rw[e];unfold lu;rw[ae rfl];unfold CN;rw[af,af,af,aP,aP,mq,nM,eT,a];omega
 have c:¬d.lev<=0:=λg=>e (o g);rw[aa c];rw[aa c]at j;have p:=O6 (kind:=pQ d.lev (d.aj.take count)) (l:=d.aj.take count) (raw:=d.raw.take (bQ (d.aj.take count))) (L:=d.L) (last:=last) (by rw[a];exact j) m (λg=>absurd g e);rw[a]at p
 have u:nB (pQ d.lev (d.aj.take count)) (d.aj.take count) (bQ (d.aj.take count))<=40+8*(bQ (d.aj.take count):Int):=by
  have n:oa (d.aj.take count) (bQ (d.aj.take count)) 0=40+8*(bQ (d.aj.take count):Int):=by
   unfold oa;have f:dN ((0:Nat):Int) (d.aj.take count) (bQ (d.aj.take count))=true:=by unfold dN;rw[ae (show((0:Nat):Int)=0 from rfl)];exact aS k
   rw[ae f];unfold nB;rw[ae (show((0:Nat):Int)=0 from rfl)]
  obtain⟨p1,p2⟩ :=uH (oa (d.aj.take count) (bQ (d.aj.take count))) 3 0 ω (by rw[n];omega);rw[n]at p2;have b:pQ d.lev (d.aj.take count)=(iO (oa (d.aj.take count) (bQ (d.aj.take count))) 3).1:=by unfold pQ;rw[aa c]
  rcases sO (oa (d.aj.take count) (bQ (d.aj.take count))) 3 with v | ⟨i,_,q,h4,h5⟩
  · omega
  rw[h4]at p2;have r:oa (d.aj.take count) (bQ (d.aj.take count)) i=nB (i:Int) (d.aj.take count) (bQ (d.aj.take count)):=by unfold oa;rw[ae (EG h5)]
  rw[r]at p2;rw[b,q];exact p2
 omega
section
variable {X P:List Int} {d:kK} {all kinds stops:List Int} {fS pre:List cu}
theorem tO.jJ (h:tO X P d all kinds stops fS pre) (left:Nat):tO X P (jJ left d) all kinds stops fS pre/\X.length-(jJ left d).f.at_<=left:=by
 obtain⟨c,b,a,h4,h5⟩ :=Ee (e:=gP d.lev) (left:=left) (d.f.D.length-d.f.at_) d.f h.Tv (by rw[h.fd];exact h.jU);refine⟨h.tokens left c b a h4, ?_⟩;have h6:=h5 (ag _);have e:X.length=d.f.D.length:=by rw[h.fd]
 rw[e];exact h6
theorem oV.fD (h:oV X P d) (k:Nat):oV X P (fD k d):=qu (λ_ q hf=>q.lay hf) k d h
theorem Wd (h:tO X P (eK d) all kinds stops fS pre) (g:X.length-(jJ 0 d).f.at_<=0):bQ (eK d).aj<=16641/\bQ (eK d).aj=(eK d).raw.length:=by
 have e:=Ho (jJ 0 d).aj.length (jJ 0 d);have a:bR (eK d).aj=0\/(eK d).aj.length<=bR (eK d).aj:=zP (jJ 0 d).aj.length (jJ 0 d) (ag _);have j:=h.lens;have i:X.length=all.length+(eK d).raw.length:=by rw[<-h.XG,af]
 have c:(eK d).f.at_<=X.length:=by have:=h.Tv.hi;rw[h.fd]at this;exact this
 have hf:(eK d).f.at_=(jJ 0 d).f.at_:=by show(fD _ _).f.at_=_;rw[e.2]
 refine⟨?_,ω⟩;rcases a with a | a
 · have:=sk (eK d).aj 0 0 ω a;omega
 by_cases b:0<bR (eK d).aj
 · have:=KY h b;rw[ay a]at this;omega
 have:=sk (eK d).aj 0 0 ω (show iC 0 0 (eK d).aj=0 by unfold bR at b;omega);omega
theorem oV.rest (h:oV X P d):∃all kinds stops fS pre,tO X P (eK d) all kinds stops fS pre/\bQ (eK d).aj<=16641/\bQ (eK d).aj=(eK d).raw.length:=by
 obtain⟨all,kinds,stops,fS,pre,h⟩ :=h;obtain⟨j,i⟩ :=h.jJ 0;obtain⟨a,b,c,e,f,g⟩ :=oV.fD ⟨all,kinds,stops,fS,pre,j⟩ (jJ 0 d).aj.length;exact⟨a,b,c,e,f,g,Wd g i⟩
theorem oV.close (h:oV X P d):∃t,(start (P++(na d).L) 16777216).fin=(t,8)/\t.x=[]/\t.all=X/\(P++(na d).L).length%8=0/\dJ (P++(na d).L):=by
 obtain⟨all,kinds,stops,fS,pre,h,i,f⟩ :=h.rest;have a:(eK d).aj.take (eK d).aj.length=(eK d).aj:=ay (ag _);obtain⟨j,hE⟩ :=h.last (eK d).aj.length (by rw[a];omega);rw[a,f,ay (ag _),h.XG]at hE;have g:P++(na d).L=qy (P++(iV (eK d) (eK d).aj.length true).L):=(Nc h.ev).symm;obtain⟨t,e,c,b,_⟩ :=hE.fin;rw[g];exact⟨t,e,c,b,pK _,dJ.qy hE.1⟩
end
end Go.Proofs.YtdhmnlpfhfmpfaaGreat
