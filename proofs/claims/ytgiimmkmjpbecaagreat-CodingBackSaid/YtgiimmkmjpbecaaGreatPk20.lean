/-
  part
-/
import Derived.Test.YtgiimmkmjpbecaaGreatPk19
set_option linter.unusedVariables false
set_option maxRecDepth 100000
set_option maxHeartbeats 4000000
namespace Go.Proofs.YtgiimmkmjpbecaaGreat
open Go.RowKit
def Reads (M:Nat) (L all kinds stops:ag) (aj:List bY):Prop:=
 dH L/\all.length<=M/\∀y,dH y->(L.length+y.length)%8=0->∃t,IS.Steps (start (L++y) M) t/\t.st=0/\t.x=y/\t.all=all/\t.rem=M-all.length/\t.kinds=kinds/\t.stops=stops/\t.aj=aj
def Ends (M:Nat) (L all kinds stops:ag) (aj:List bY):Prop:=
 dH L/\all.length<=M/\∀y,dH y->(L.length+y.length)%8=0->∃t,IS.Steps (start (L++y) M) t/\t.st=8/\t.x=ly y/\t.all=all/\t.kinds=kinds/\t.stops=stops/\t.aj=aj
theorem Reads.nil (M:Nat):Reads M [] [] [] [] []:= ⟨dH.di,aG _,λy a _=> ⟨start y M, .refl _,rfl,rfl,rfl,rfl,rfl,rfl,rfl⟩⟩
def lA (kind:Int) (l:List bY) (raw all:ag):ag:=if kind=0 then all++raw else(expand all l).2
theorem G6:dt 0 2=[0,0]/\dt 1 2=[1,0]/\dt 2 2=[0,1]:=δ
theorem a6H {b c a:Int} (d:b=0\/b=1) (f:c=0\/c=1) (e:a=0\/a=1) (z:ag):num ([b,c,a]++z) 3=(b+2*c+4*a).toNat:=by
 rw[sB (x:=[b,c,a]) (n:=3) rfl];rcases d with rfl | rfl <;> rcases f with rfl | rfl <;> rcases e with rfl | rfl <;> rfl
theorem RA (n:Nat) (h:n<=65535):dt (4294967295-(n:Int)) 16=dt (65535-(n:Int)) 16:=by
 rw[<-Pj (4294967295-(n:Int)),<-Pj (65535-(n:Int))];have e:(2:Int) ^ 16=65536:=δ;rw[e];congr 1;omega
theorem dH.blk (lit bn:ag) (l:List bY):dH (ke lit bn l):=by
 unfold ke iZ;refine dH.app (λx a=> ?_) (dH.sym _ _);obtain⟨t,_,ht⟩ :=iP.1 a;unfold sM at ht;split at ht
 · exact dH.sym _ _ x ht
 exact(((dH.sym _ _).app (dH.dt _ _)).app (dH.sym _ _)).app (dH.dt _ _) x ht
theorem dH.a6L (l:List bY):dH (lT l):=by
 unfold lT vN nQ;refine((((dH.dt _ _).app (dH.dt _ _)).app (dH.dt _ _)).app λx a=> ?_).app λx a=> ?_
 · obtain⟨t,_,ht⟩ :=iP.1 a;exact dH.dt _ _ x ht
 obtain⟨t,_,ht⟩ :=iP.1 a;exact(dH.sym _ _).app (dH.dt _ _) x ht
theorem dH.xW {L:ag} (h:dH L) (kind:Int) (last:Bool):dH (xW kind last L):=(h.app (dH.dt _ _)).app (dH.dt _ _)
theorem dH.out {L:ag} (h:dH L) (kind:Int) (l:List bY) (raw:ag) (last:Bool):dH (lq kind l raw last L):=by
 unfold lq;split
 · unfold D7;exact(((dH.qu (h.xW _ _)).app (dH.dt _ _)).app (dH.dt _ _)).app (dH.dT _)
 split
 · exact(h.xW _ _).app (dH.blk _ _ _)
 exact((h.xW _ _).app (dH.a6L _)).app (dH.blk _ _ _)
section
variable {M:Nat} {L all kinds stops:ag} {aj:List bY} {kind:Int} {l:List bY} {raw:ag} {last:Bool}
theorem Nl {t:IS} {y:ag} (o:t.st=3) (F:t.x=lT l++y) (e:l.length<1048576):
  ∃c,IS.Steps t c/\L6 t c/\c.st=6/\c.lt=eU l/\c.ds=dm l/\c.x=y:=by
 have I:=kI l;have H:=lK l;have G:=uD l
 have j:t.x=dt (((fP l-257:Nat):Int)) 5++(dt (((fX l-1:Nat):Int)) 5++(dt (((oZ l-4:Nat):Int)) 4++(vN (cU l) (oZ l)++(nQ (cU l) (cY l)++y)))):=by
  rw[F];unfold lT;simp only [List.append_assoc]
 have r:=Ny o j ω ω ω;have i:=IS.Steps.one (s:=t) (by rw[r]);rw[r]at i;obtain⟨b,m⟩ :∃b:IS,b={ t with x:=vN (cU l) (oZ l)++(nQ (cU l) (cY l)++y),c0:=fP l-257+257,c1:=fX l-1+1,c2:=oZ l-4+4,lens:=[],st:=4 }:= ⟨_,rfl⟩;rw[<-m]at i
 have U:L6 t b/\b.st=4/\b.c2=oZ l/\b.lens=[]/\b.x=Bk (cU l) 0 (oZ l)++(nQ (cU l) (cY l)++y)/\b.c0=fP l/\b.c1=fX l:=by
  rw[m,RD];exact⟨⟨rfl,rfl,rfl,rfl,rfl,rfl⟩,rfl,by dsimp only;omega,rfl,rfl,by dsimp only;omega,by dsimp only;omega⟩
 clear m r;obtain⟨L,b1,b2,b3,b4,b5,b6⟩ :=U;obtain⟨g,D,K,c1,c2,u,S,R,Q⟩ :=xY (hd:=cU l) (n:=oZ l) ω (vy l) (oZ l) 0 b ω (aG _) b1 b2 b3 b4;have p:=UC (n:=oZ l) (hd:=cU l) ω (mE l) (WK l);have q:=QQ (hd:=cU l) c1 (by rw[u,vO _ ω,c2]) (by rw[u];exact p) (kv l) (by rw[u];exact WJ e);have h:=IS.Steps.one (s:=g) (by rw[q]);rw[q]at h;obtain⟨a,k⟩ :∃a:IS,a={ g with hd:=cU l,lens:=[],st:=5 }:= ⟨_,rfl⟩;rw[<-k]at h
 have T:L6 g a/\a.st=5/\a.hd=cU l/\a.lens=[]/\a.x=nQ (cU l) (cY l)++y/\a.c0=fP l/\a.c1=fX l:=by
  rw[k];exact⟨⟨rfl,rfl,rfl,rfl,rfl,rfl⟩,rfl,rfl,rfl,S,R.trans b5,Q.trans b6⟩
 clear k q;obtain⟨J,d1,d2,d3,d4,d5,d6⟩ :=T;obtain⟨w,E⟩ :=JZ _ (eU l++dm l) rfl (F6 e) [];have f:(cY l).foldl l7 []=eU l++dm l:=by rw[ba]at w;exact w
 obtain⟨B,C,h4,P,z,O,N,M⟩ :=BC (kv l) (cY l) a [] d1 d2 d3 d4 E (J2 e) (by rw[f,ae,nR,qL,d5,d6]);rw[f]at z;have A:=WR (l:=eU l) (d:=dm l) P z (by rw[N,d5,nR]) (by rw[M,d6,qL]) (kX e) (ku e) (Pe e);have v:=IS.Steps.one (s:=B) (by rw[A]);rw[A]at v;exact⟨_,(((i.trans D).trans h).trans C).trans v,((L.trans K).trans (J.trans h4)).trans ⟨rfl,rfl,rfl,rfl,rfl,rfl⟩,rfl,rfl,rfl,O⟩
theorem Reads.blk (h:Reads M L all kinds stops aj) (i:dI kind l raw.length=true) (N:∀x∈raw,0<=x/\x<256) (C:∀t∈l,0<=t.lit/\t.lit<256) (S:kind≠0->(expand all l).1=0) (E:(lA kind l raw all).length<=M) (y:ag) (w:dH y) (D:((lq kind l raw last L).length+y.length)%8=0):
  ∃t:IS,IS.Steps (start (lq kind l raw last L++y) M) t.over/\t.x=y/\t.last=last/\t.all=lA kind l raw all/\t.rem=M-(lA kind l raw all).length/\t.kinds=kinds++[kind]/\t.stops=stops/\t.aj=aj++(if kind=0 then [] else l):=by
 obtain⟨O,X,Q⟩ :=h
 have e:kind=0\/kind=1\/kind=2:=by
  unfold dI at i;by_cases T:kind=0
  · exact .inl T
  rw[a8 T]at i;by_cases h:¬(kind=1\/kind=2)\/1048576<=l.length
  · rw[aa h]at i;exact absurd i δ
  omega
 obtain⟨mk,A⟩ :=ν ((if last=true then(1:Int)else 0):Int);have c:mk=0\/mk=1:=by cases last <;> simp at A <;> omega
 have J:decide (mk=1)=last:=by cases last <;> simp at A <;> subst A <;> rfl
 have K:dt mk 1=[mk]:=by rcases c with rfl | rfl <;> rfl
 have R:xW kind last L=L++([mk]++dt kind 2):=by unfold xW;rw[A,K,av]
 rcases e with rfl | rfl | rfl
 · have o:raw.length<=65535:=by
    unfold dI at i;rw[aa rfl]at i;exact cM i
   have n:lq 0 l raw last L=qu (L++[mk,0,0])++dt raw.length 16++dt (65535-(raw.length:Int)) 16++dT raw:=by
    unfold lq;rw[aa rfl];unfold D7;rw[R,G6.1,RA _ o];rfl
   obtain⟨pad,u,H⟩ :∃pad:ag,qu (L++[mk,0,0])=L++[mk,0,0]++pad/\pad.length<8:= ⟨_,rfl,by rw[aS];omega⟩;have W:dH pad:=λx a=>(dH.qu (O.app (b:=[mk,0,0]) (by intro x a;rcases aZ.1 a with rfl | a;exact c;simp at a;omega))) x (by rw[u];exact bz _ a)
   have m:lq 0 l raw last L++y=L++([mk,0,0]++(pad++(dt raw.length 16++dt (65535-raw.length) 16++(dT raw++y)))):=by
    rw[n,u];simp only [List.append_assoc]
   have r:dH ([mk,0,0]++(pad++(dt raw.length 16++dt (65535-(raw.length:Int)) 16++(dT raw++y)))):=
    dH.app (by intro x a;rcases aZ.1 a with rfl | a;exact c;simp at a;omega) (W.app (((dH.dt _ _).app (dH.dt _ _)).app ((dH.dT _).app w)))
   obtain⟨t,j,b1,b2,b3,b4,b5,b6,b7⟩ :=Q _ r (by
    have:(lq 0 l raw last L++y).length%8=0:=by rw[ae];exact D
    rw[m,ae]at this;exact this)
   have G:y.length%8=0:=by
    rw[n,ae,ae,ae,aR,aR,dQ]at D;have:=pE (L++[mk,0,0]);omega
   have g:lA 0 l raw all=all++raw:=aa rfl;rw[g]at E⊢;rw[ae]at E;have Y:=Gy (s:=t) (B:=raw) (pad:=pad) (y:=y) (h:=mk) b1 c b2 H G w N o (by rw[b4];omega);rw[<-m]at j;refine⟨_,j.trans Y,rfl,J, ?_, ?_, ?_,b6, ?_⟩
   · show t.all++raw=_;rw[b3]
   · show t.rem-raw.length=_;rw[b4,ae];omega
   · show t.kinds++[0]=_;rw[b5]
   show t.aj=_;rw[b7,aa rfl,ak]
 · obtain⟨m1,m2⟩ :=G3 i
   have m:lq 1 l raw last L++y=L++([mk,1,0]++(ke ij iV l++y)):=by
    unfold lq;rw[a8 δ,aa rfl,R,G6.2.1];simp only [List.append_assoc,List.cons_append,List.nil_append]
   have r:dH ([mk,1,0]++(ke ij iV l++y)):=dH.app (by intro x a;rcases aZ.1 a with rfl | a;exact c;simp at a;omega) ((dH.blk _ _ _).app w)
   obtain⟨t,j,b1,b2,b3,b4,b5,b6,b7⟩ :=Q _ r (by
    have:(lq 1 l raw last L++y).length%8=0:=by rw[ae];exact D
    rw[m,ae]at this;exact this)
   rw[<-m]at j;have g:lA 1 l raw all=(expand all l).2:=a8 δ;rw[g]at E⊢;have I:=a6H c (.inr rfl:(1:Int)=0\/(1:Int)=1) (.inl rfl:(0:Int)=0\/(0:Int)=1) (ke ij iV l++y)
   have v:t.step=({ t with last:=last,kinds:=t.kinds++[1],x:=ke ij iV l++y,lt:=ij,ds:=iV,st:=6 },0):=by
    unfold IS.step;rw[aa b1];unfold IS.block;rw[b2,I,a8 (by rw[ae];simp),a8 (by rcases c with rfl | rfl <;> decide),aa (by rcases c with rfl | rfl <;> decide),lJ (by rfl)];rw[<-J];rcases c with rfl | rfl <;> rfl
   have q:=j.tail (by rw[v]);rw[v]at q;have P:Cw ({ t with last:=last,kinds:=t.kinds++[1],x:=ke ij iV l++y,lt:=ij,ds:=iV,st:=6 }:IS) ij iV last (ke ij iV l++y) all (M-all.length) (kinds++[1]) stops aj:= ⟨rfl,rfl,rfl,rfl,rfl,b3,b4,by dsimp only;rw[b5],b6,b7⟩;have f:expand all l=(0,(expand all l).2):=by rw[<-S δ]
   obtain⟨p,F,d⟩ :=Dg P mn.1 mn.2 (by rw[pG];omega) (Aa 256 ω) (λk e=> ⟨m2 k e,C k e,Zm (m2 k e) (C k e)⟩) f ω;refine⟨_,q.trans F,rfl,d.last,d.all, ?_,d.kinds,d.stops, ?_⟩
   · show p.rem=_;rw[d.rem];obtain⟨z,hz⟩ :=sU (out:=all) (l:=l) (by rw[f]);have:=bf List.length hz;rw[ae]at this;omega
   show p.aj=_;rw[d.aj,a8 δ]
 obtain⟨m1,m2⟩ :=ze i
 have m:lq 2 l raw last L++y=L++([mk,0,1]++(lT l++(ke (eU l) (dm l) l++y))):=by
  unfold lq;rw[a8 δ,a8 δ,R,G6.2.2];simp only [List.append_assoc,List.cons_append,List.nil_append]
 have r:dH ([mk,0,1]++(lT l++(ke (eU l) (dm l) l++y))):=dH.app (by intro x a;rcases aZ.1 a with rfl | a;exact c;simp at a;omega) ((dH.a6L _).app ((dH.blk _ _ _).app w))
 obtain⟨t,j,b1,b2,b3,b4,b5,b6,b7⟩ :=Q _ r (by
  have:(lq 2 l raw last L++y).length%8=0:=by rw[ae];exact D
  rw[m,ae]at this;exact this)
 rw[<-m]at j;have g:lA 2 l raw all=(expand all l).2:=a8 δ;rw[g]at E⊢;have I:=a6H c (.inl rfl:(0:Int)=0\/(0:Int)=1) (.inr rfl:(1:Int)=0\/(1:Int)=1) (lT l++(ke (eU l) (dm l) l++y))
 have v:t.step=({ t with last:=last,kinds:=t.kinds++[2],x:=lT l++(ke (eU l) (dm l) l++y),st:=3 },0):=by
  unfold IS.step;rw[aa b1];unfold IS.block;rw[b2,I,a8 (by rw[ae];simp),a8 (by rcases c with rfl | rfl <;> decide),a8 (by rcases c with rfl | rfl <;> decide),aa (by rcases c with rfl | rfl <;> decide),lJ (by rfl)];rw[<-J];rcases c with rfl | rfl <;> rfl
 have q:=j.tail (by rw[v]);rw[v]at q;obtain⟨U,F,d,c1,c2,c3,Z⟩ :=Nl (t:={ t with last:=last,kinds:=t.kinds++[2],x:=lT l++(ke (eU l) (dm l) l++y),st:=3 }) rfl rfl m1;have P:Cw U (eU l) (dm l) last (ke (eU l) (dm l) l++y) all (M-all.length) (kinds++[2]) stops aj:= ⟨c1,c2,c3,d.last,Z,d.all.trans b3,d.rem.trans b4,d.kinds.trans (by dsimp only;rw[b5]),d.stops.trans b6,d.aj.trans b7⟩;have f:expand all l=(0,(expand all l).2):=by rw[<-S δ]
 obtain⟨p,V,h4⟩ :=Dg P (kX m1) (ku m1) (by rw[nR];have:=kI l;omega) (Pe m1) (λk e=> ⟨m2 k e,C k e,Zh m1 e (m2 k e) (C k e)⟩) f ω;refine⟨_,(q.trans F).trans V,rfl,h4.last,h4.all, ?_,h4.kinds,h4.stops, ?_⟩
 · show p.rem=_;rw[h4.rem];obtain⟨z,hz⟩ :=sU (out:=all) (l:=l) (by rw[f]);have:=bf List.length hz;rw[ae]at this;omega
 show p.aj=_;rw[h4.aj,a8 δ]
theorem Reads.next (h:Reads M L all kinds stops aj) (d:dI kind l raw.length=true) (a:∀x∈raw,0<=x/\x<256) (e:∀t∈l,0<=t.lit/\t.lit<256) (g:kind≠0->(expand all l).1=0) (b:(lA kind l raw all).length<=M):
  Reads M (lq kind l raw false L) (lA kind l raw all) (kinds++[kind]) (stops++[((lA kind l raw all).length:Int)]) (aj++(if kind=0 then [] else l)):=by
 refine⟨h.1.out _ _ _ _,b,λy c f=> ?_⟩;obtain⟨t,s,b1,b2,b3,b4,b5,b6,b7⟩ :=h.blk d a e g b y c f;refine⟨_,s, ?_⟩;unfold IS.over;rw[b2,a8 δ];exact⟨rfl,b1,b3,b4,b5,by dsimp only;rw[b6,b3],b7⟩
theorem Reads.fin (h:Reads M L all kinds stops aj) (d:dI kind l raw.length=true) (a:∀x∈raw,0<=x/\x<256) (e:∀t∈l,0<=t.lit/\t.lit<256) (g:kind≠0->(expand all l).1=0) (b:(lA kind l raw all).length<=M):
  Ends M (lq kind l raw true L) (lA kind l raw all) (kinds++[kind]) (stops++[((lA kind l raw all).length:Int)]) (aj++(if kind=0 then [] else l)):=by
 refine⟨h.1.out _ _ _ _,b,λy c f=> ?_⟩;obtain⟨t,s,b1,b2,b3,b4,b5,b6,b7⟩ :=h.blk d a e g b y c f;refine⟨_,s, ?_⟩;unfold IS.over;rw[b2,aa rfl];exact⟨rfl,by dsimp only;rw[b1],b3,b5,by dsimp only;rw[b6,b3],b7⟩
theorem Ends.fin (h:Ends M L all kinds stops aj):∃t,(start (qu L) M).fin=(t,8)/\t.x=[]/\t.all=all/\t.kinds=kinds/\t.stops=stops/\t.aj=aj:=by
 obtain⟨b,c,hE⟩ :=h;obtain⟨t,s,b1,b2,b3,b4,b5,b6⟩ :=hE (List.replicate ((8-L.length%8)%8) 0) (dH.zeros _) (by rw[aS];omega);have e:L++List.replicate ((8-L.length%8)%8) 0=qu L:=rfl;rw[e]at s;refine⟨t, ?_, ?_,b3,b4,b5,b6⟩
 · rw[<-s.lM];have a:t.step=(t,8):=by unfold IS.step;rw[b1];rfl
   rw[IS.gZ (by rw[a];simp),a]
 rw[b2];unfold ly;rw[aS,cV (by rw[aS];omega)]
end
def sK (l f:ag):Nat->Int
 | 0=>0
 | k+1=>sK l f k+ix l k*ix f k
theorem rS {l f:ag} (a:∀i,0<=ix l i/\ix l i<=15) (hf:∀i,0<=ix f i/\ix f i<=1048576):∀k,eX l f k=sK l f k
 | 0=>rfl
 | k+1=>by
   rw[eX,sK,rS a hf k];congr 1;have c:=a k;have b:=hf k;by_cases h:0<ix l k/\0<ix f k
   · exact zI h.1 h.2 b.2 ω
   rw[Dq ω];have:ix l k=0\/ix f k=0:=ω;rcases this with h | h <;> rw[h] <;> simp
theorem sL (l f:ag) (s:Nat):∀k,sK l (ue f s) k=sK l f k+if s<k/\s<f.length then ix l s else 0
 | 0=>by simp [sK]
 | k+1=>by
   rw[sK,sK,sL l f s k,iN];by_cases b:s=k
   · subst b;rw[a8 (show¬(s<s/\s<f.length) from λh=>j3 _ h.1)];by_cases a:s<f.length
     · rw[aa (show s=s/\s<f.length from⟨rfl,a⟩),aa (show s<s+1/\s<f.length from⟨iR _,a⟩),Int.mul_add];omega
     rw[a8 (show¬(s=s/\s<f.length) from λh=>a h.2),a8 (show¬(s<s+1/\s<f.length) from λh=>a h.2)];omega
   rw[a8 (show¬(s=k/\k<f.length) from λh=>b h.1)];by_cases a:s<k/\s<f.length
   · rw[aa a,aa (show s<k+1/\s<f.length from⟨ω,a.2⟩)];omega
   rw[a8 a,a8 (show¬(s<k+1/\s<f.length) from λh=>a ⟨ω,h.2⟩)];omega
theorem xF (l:ag) (n:Nat):∀k,sK l (List.replicate n 0) k=0
 | 0=>rfl
 | k+1=>by
   rw[sK,xF l n k]
   have:ix (List.replicate n (0:Int)) k=0:=by
    unfold ix;rw[au,dC];split <;> rfl
   rw[this];simp
theorem Uk:fq0=(ue (List.replicate 286 0) 256,List.replicate 30 0):=by
 unfold fq0 fq0.zrI ue;rw[FU _ ω];rfl
theorem Ey {lit bn:ag} (d:∀i,0<=ix lit i) (hd:∀i,0<=ix bn i) (l:List bY):(∀t∈l,cn t/\(0<=t.lit/\t.lit<256))->sK lit (jY l).1 286+sK bn (jY l).2 30+((Cg l:Nat):Int)=((ke lit bn l).length:Int):=by
 refine kg (β:=Nat) (motive:=λl=>(∀t∈l,cn t/\(0<=t.lit/\t.lit<256))->sK lit (jY l).1 286+sK bn (jY l).2 30+((Cg l:Nat):Int)=((ke lit bn l).length:Int)) ?_ ?_ l
 · intro _;rw[Fm,Uk];simp only;rw[sL,xF,xF,aa ⟨ω,by rw[aS];omega⟩];unfold ke iZ Cg;rw[ae,fZ];have:=d 256;simp;omega
 intro l t e h;have p:=e λu f=>h u (cP _ f);obtain⟨b,m⟩ :=h t (bz _ (bk.2 rfl));have c:=mq l;have g:Cg (l++[t])=Cg l+Zj t:=by simp [Cg]
 have k:(ke lit bn (l++[t])).length=(ke lit bn l).length+(sM lit bn t).length:=by
  unfold ke;rw[Ew,Ex];simp only [List.length_append];omega
 rw[oc,g,k];unfold OD sM Zj;by_cases a:t.len=0
 · rw[aa a,aa a];simp only;rw[sL,aa ⟨ω,by rw[c.1];omega⟩,fZ];have j:t.bn=0:=by unfold cn at b;rw[aa a]at b;exact b
   rw[a8 ω,a8 ω];have:=d t.lit.toNat;omega
 rw[a8 a,a8 a];obtain⟨b1,b2,o,n⟩ :=sN b a;simp only;rw[sL,sL,aa ⟨ω,by rw[c.1];omega⟩,aa ⟨ω,by rw[c.2];omega⟩,aa b1,aa b2];simp only [List.length_append,fZ,aR];have:=d (257+jq t.len);have:=hd (fe t.bn);omega
theorem Pb {l:ag} {m:Int} (a:0<=m) (h:∀i,i<l.length->0<=ix l i/\ix l i<=m) (i:Nat):0<=ix l i/\ix l i<=m:=by
 by_cases hi:i<l.length
 · exact h i hi
 have:ix l i=0:=by unfold ix;rw[au,bq ω];rfl
 rw[this];exact⟨ei _,a⟩
theorem Gz {l f:ag} {n:Nat} (h:∀i,n<=i->ix l i=0):∀k,sK l f (n+k)=sK l f n
 | 0=>rfl
 | k+1=>by rw[<-dD,sK,Gz h k,h (n+k) ω];simp
theorem Pc {l:ag} {i:Nat} (h:l.length<=i):ix l i=0:=by unfold ix;rw[au,bq h];rfl
theorem RP {l:List bY} (e:l.length<1048576):((lT l).length:Int)=Th l:=by
 have f:=kY e;have i:=uD l
 have h4:∀a:List Rn,(∀r∈a,yo r)->((nQ (cU l) a).length:Int)=ju (cU l) a:=λa=>by
  induction a with
  | nil=>intro _;rfl
  | cons r a b=>
    intro h;have h5:=b λx d=>h x (aJ _ d);have h6:=h r aI;have h7:=vy l r.c.toNat (τ h6.1);have g:=h6.2.2.1;show((X9 (cU l) r++nQ (cU l) a).length:Int)=sJ (cU l) r+ju (cU l) a;rw[ae,<-h5];unfold X9 sJ;rw[ae,fZ,aR];omega
 unfold lT Th;simp only [List.length_append,aR];rw[sD _ _ ω];have:=h4 _ f;omega
theorem OE {l:List bY} (a:l.length<1048576):(∀i,0<=ix (jY l).1 i/\ix (jY l).1 i<=1048576)/\∀i,0<=ix (jY l).2 i/\ix (jY l).2 i<=1048576:=
 ⟨λi=>by have:=(DG l i).1;omega,λi=>by have:=(DG l i).2;omega⟩
theorem Fl:(∀i,0<=ix ij i/\ix ij i<=15)/\∀i,0<=ix iV i/\ix iV i<=15:=by
 have b:=(kV mn.1).2.1;have a:=(kV mn.2).2.1;exact⟨Pb δ b,Pb δ a⟩
theorem Po {kind:Int} {l:List bY} {raw L:ag} {last:Bool} (a:dI kind l raw.length=true) (g:∀t∈l,0<=t.lit/\t.lit<256) (p:kind=0->L.length%8=0):((lq kind l raw last L).length:Int)=(L.length:Int)+nE kind l raw.length:=by
 have k:kind=0\/kind=1\/kind=2:=by
  unfold dI at a;by_cases j:kind=0
  · exact .inl j
  rw[a8 j]at a;by_cases h:¬(kind=1\/kind=2)\/1048576<=l.length
  · rw[aa h]at a;exact absurd a δ
  omega
 unfold lq nE;rcases k with rfl | rfl | rfl
 · rw[aa rfl,aa rfl];unfold D7;rw[ae,ae,ae,aR,aR,dQ,mj,nO];have:=p rfl;omega
 · obtain⟨m1,m2⟩ :=G3 a;rw[a8 δ,aa rfl,a8 δ,aa rfl,ae,nO];have h:=Ey (λi=>(Fl.1 i).1) (λi=>(Fl.2 i).1) l λt ht=> ⟨m2 t ht,g t ht⟩;unfold Oo;rw[rS Fl.1 (OE m1).1,rS Fl.2 (OE m1).2];omega
 obtain⟨m1,m2⟩ :=ze a;rw[a8 δ,a8 δ,a8 δ,a8 δ,ae,ae,nO];have c:=Pb δ (rP (kX m1));have b:=Pb δ (rP (ku m1));have h:=Ey (λi=>(c i).1) (λi=>(b i).1) l λt ht=> ⟨m2 t ht,g t ht⟩;have e:=Gz (l:=eU l) (f:=(jY l).1) (n:=fP l) (λi hi=>Pc (by rw[nR];exact hi)) (286-fP l);have d:=Gz (l:=dm l) (f:=(jY l).2) (n:=fX l) (λi hi=>Pc (by rw[qL];exact hi)) (30-fX l);have o:=kI l;have m:=lK l;rw[show fP l+(286-fP l)=286 by omega]at e;rw[show fX l+(30-fX l)=30 by omega]at d;unfold Ig;rw[rS c (OE m1).1,rS b (OE m1).2,<-e,<-d];have:=RP m1;omega
theorem Za {kind:Int} {l:List bY} {m:Nat} (a:dI kind l m=true) (k:∀t∈l,0<=t.lit/\t.lit<256):0<=nE kind l m/\nE kind l m<=60000000:=by
 by_cases b:kind=0
 · subst b;unfold nE;rw[aa rfl];unfold dI at a;rw[aa rfl]at a;have:=cM a;omega
 have c:l.length<1048576/\(∀t∈l,cn t)/\(kind=1\/kind=2):=by
  unfold dI at a;rw[a8 b]at a;by_cases h:¬(kind=1\/kind=2)\/1048576<=l.length
  · rw[aa h]at a;exact absurd a δ
  rw[a8 h,gK]at a;exact⟨ω,λt ht=>cM (a t ht),ω⟩
 have d:dI kind l ([]:ag).length=true:=by
  unfold dI at a⊢;rw[a8 b]at a⊢;exact a
 have f:=Po (L:=[]) (raw:=[]) (last:=false) d k (λh=>absurd h b);have n:nE kind l ([]:ag).length=nE kind l m:=by unfold nE;rw[a8 b,a8 b]
 rw[n]at f
 have i:∀lit bn:ag,bg lit 15=0->bg bn 15=0->(ke lit bn l).length<=48*l.length+15:=λlit bn e j=>by
  have o:=zo (kV e).2.1 (kV j).2.1 l c.2.1;have h4:=pd (kV e).2.1 256;unfold ke;rw[ae];omega
 have hp:=JH c.1;have e:=i ij iV mn.1 mn.2;have j:=i (eU l) (dm l) (kX c.1) (ku c.1)
 have g:(lq kind l [] false []).length<=60000000:=by
  unfold lq;rw[a8 b];split
  · rw[ae,nO,List.length_nil];omega
  rw[ae,ae,nO,List.length_nil];omega
 simp only [List.length_nil]at f;omega
def iX (f:Nat->Int):Nat->Int×Int
 | 0=>(-1,0)
 | k+1=>if 0<=f k/\((iX f k).1<0\/f k<(iX f k).2)then((k:Int),f k)else iX f k
def o0 (aj:List bY) (m:Nat) (k:Nat):Int:=if dI (k:Int) aj m=true then nE (k:Int) aj m else -1
theorem sI (f:Nat->Int):∀k,(iX f k).1= -1\/∃i:Nat,i<k/\(iX f k).1=(i:Int)/\(iX f k).2=f i/\0<=f i
 | 0=> .inl rfl
 | k+1=>by
   unfold iX;split
   · rename_i h
     exact .inr ⟨k,ω,rfl,rfl,h.1⟩
   rcases sI f k with h | ⟨i,b,a⟩
   · exact .inl h
   exact .inr ⟨i,ω,a⟩
theorem uC (f:Nat->Int):∀k i,i<k->0<=f i->0<=(iX f k).1/\(iX f k).2<=f i
 | 0,i,h,_=>ω
 | k+1,i,h,h0=>by
   unfold iX;have a:=sI f k;by_cases hi:i=k
   · subst hi;split
     · exact⟨σ,ei _⟩
     rename_i b
     rcases a with c | ⟨j,_,c,h7,_⟩ <;> omega
   obtain⟨p1,p2⟩ :=uC f k i ω h0;split
   · rename_i b
     constructor
     · simp
     show f k<=f i;omega
   exact⟨p1,p2⟩
theorem a2a {aj:List bY} {m:Nat} (a:∀t∈aj,0<=t.lit/\t.lit<256) (k:Nat): -1<=o0 aj m k/\o0 aj m k<=60000000:=by
 unfold o0;by_cases h:dI (k:Int) aj m=true
 · rw[aa h];have:=Za h a;omega
 rw[a8 h];omega
theorem Fb {aj:List bY} {m k:Nat} (h:0<=o0 aj m k):dI (k:Int) aj m=true:=by
 unfold o0 at h;by_cases a:dI (k:Int) aj m=true
 · exact a
 rw[a8 a]at h;omega
def a1W (w:World) (b0 g:Nat) (A:ax) (L raw:ag) (aj:List bY) (m:Nat) (last:Bool) (e:Ending) (w':World):Prop:=
 e= .returned (.int .i64 (iX (o0 aj m) 3).1)/\(((iX (o0 aj m) 3).1= -1/\Below w.heap.size w w')\/(0<=(iX (o0 aj m) 3).1/\ky w w' b0 g A (lq (iX (o0 aj m) 3).1 aj raw last L)))
theorem Ll (w:World) (b0 g n c:Nat) (A:ax) (L:ag) (I:pX w b0 g A n c L) (At:ax) (nt ct:Nat) (aj:List bY) (B:lW w w.heap.size At nt aj) (G:(nt:Int)<=4611686018427387904) (K:0<nt->∀E,At=some E->¬foot A g E.block) (u:∀t∈aj,0<=t.lit/\t.lit<256)
  (C:ax) (m cr:Nat) (raw:ag) (F:bT .u8 w w.heap.size C m raw) (J:0<m->∀E,C=some E->¬foot A g E.block) (d:∀x∈raw,0<=x/\x<256) (last:Bool) (a:L.length<=2000000000000):
  Calls Tryz.prog 102 #[.pointer (some ⟨g,0,none⟩), .slice At nt ct, .slice C m cr, .bool last] w (a1W w b0 g A L raw aj m last):=by
 have HH:=η (⟨I,B,G,K,u,F,J,d,a⟩ :_/\_/\_/\_/\_/\_/\_/\_/\_);obtain⟨f,hf⟩ :=ν (o0 aj m);have HF:Hid ((∀k, -1<=f k/\f k<=60000000)/\∀k,0<=f k->dI (k:Int) aj m=true):=by rw[<-hf];exact⟨a2a u,λk h=>Fb h⟩
 have al:Hid (∀(W:World) (k:Nat),Below w.heap.size w W->Calls Tryz.prog 112 #[.int .i64 (k:Int), .slice At nt ct, .slice C m cr] W λe w'=>e= .returned (.int .i64 (f k))/\Below W.heap.size W w'):=λW k h=>by
  have:=Q1 W (k:Int) At nt ct aj ((B.below h).more h.size) G u C m cr;rw[show(if dI (k:Int) aj m=true then nE (k:Int) aj m else -1)=f k by rw[<-hf];rfl]at this;exact this
 have YG:=η hf;clear I B G K u F J d a hf
 go_in
 go_wp2_with fail;go_loopg [9,10,11] 3 (λ(gk:Nat) (v9 v10 v11:Value) wx=>∃(k:Nat) (b c:Int),v9= .int .i64 b/\v10= .int .i64 c/\v11= .int .i64 k/\k<=3/\Hid (iX f k=(b,c))/\Hid (Below w.heap.size w wx)/\Hid (gk=3-k))
 case atStart=>exact⟨0, -1,0,rfl,rfl,rfl,ω,rfl,aw _ _,rfl⟩
 obtain⟨k,b,cc,rfl,rfl,rfl,hk,hp,l,U⟩ :=hrel;have q:=sI f k;rw[hp.out]at q;dsimp only at q;have vu: -1<=b/\b<=3:=by rcases q with h | ⟨i,h1,h2,_⟩ <;> omega
 by_cases M:k<=2
 rotate_left
 · obtain rfl:k=3:=ω;have HP:Hid ((iX (o0 aj m) 3).1=b):=by show _=_;rw[YG.out,hp.out]
   clear M;by_cases y:0<=b
   rotate_left
   · have Z:b= -1:=ω;subst Z;clear q hp
     go_wp2_with fail;go_ret;exact⟨by rw[HP.out];rfl, .inl ⟨HP.out,l.out⟩⟩
   obtain⟨i,hi,ZN,Y,O⟩ :∃i:Nat,i<3/\b=(i:Int)/\cc=f i/\0<=f i:=by
    rcases q with h | ⟨i,h1,h2,h3,h4⟩
    · omega
    exact⟨i,h1,h2,h3,h4⟩
   have s:=HF.2 i O;rw[<-ZN]at s;obtain⟨I,B,G,K,u,F,J,d,a⟩ :=HH.out;have hs:=ky.start I l.out;obtain⟨⟨A3,n3,c3,H,wC⟩,P⟩ :=hs
   have R:=EA wr b0 g n3 c3 A3 _ H b At nt ct aj ((B.below l.out).more l.out.size) G (λD=>BF wC (λE e=>by
    obtain⟨PT,o,z,_⟩ :=B.2 D;rw[e]at o;injection o with o;rw[o];exact z) (K D)) u C m cr raw ((F.below l.out).more l.out.size) (λD=>BF wC (λE e=>by
    obtain⟨PT,o,z,_⟩ :=F.2 D;rw[e]at o;injection o with o;rw[o];exact z) (J D)) d last s a
   have ah:=η R;have T:=η (⟨wC,P⟩ :_/\_);clear I B G K u F J d a H wC P R hi ZN Y O s q hp
   go_wp2_with fail;refine ah.mono ?_;rintro e w5 ⟨rfl,h5⟩;have H5:=η (ky.step T.2 T.1 h5);clear h5
   go_wp2_with fail;go_ret;exact⟨by rw[HP.out];rfl, .inr ⟨by rw[HP.out];exact y,by rw[HP.out];exact H5⟩⟩
 have qB:(k:Int)<=2/\(0:Int)<=(k:Int):=ω;have HC:=η (al wr k l.out);obtain⟨N,hN⟩ :=ν (f k);have ac:=HF.1 k;rw[hN]at HC ac
 have am: -1<=cc/\cc<=60000000:=by
  rcases q with h | ⟨i,_,_,h1,_⟩
  · have D:∀j,(iX f j).1= -1->(iX f j).2=0:=λj=>by
     induction j with
     | zero=>intro _;rfl
     | succ j ih=>
       intro V;unfold iX at V⊢;split at V
       · exfalso;dsimp only at V;omega
       rename_i h8;rw[a8 h8];exact ih V
    have h7:=D k (by rw[hp.out];exact h);rw[hp.out]at h7;have h7:cc=0:=h7;omega
  have:=HF.1 i;omega
 have X:Hid (iX f (k+1)=if 0<=N/\(b<0\/N<cc)then((k:Int),N)else(b,cc)):=by
  show _=_;rw[show iX f (k+1)=if 0<=f k/\((iX f k).1<0\/f k<(iX f k).2)then((k:Int),f k)else iX f k from rfl,hp.out,hN]
 clear q hN hp M
 go_wp2_with fail;refine HC.mono ?_;rintro e w5 ⟨rfl,lZ⟩;have p:=η (l.out.trans (lZ.mono l.out.size));clear lZ;by_cases Q:0<=N/\(b<0\/N<cc)
 · have r:=X.out;rw[aa Q]at r;have S:=η r;clear r X;obtain⟨an,v⟩ :=Q;by_cases y:b<0
   · clear v
     go_wp2_with fail;go_roundg (3-(k+1))
     case measure=>have:=U.out;omega
     case rel=>exact⟨k+1,(k:Int),N,rfl,rfl,by go_num,ω,S.out,p.out,rfl⟩
   have ab:decide (b<0)=false:=ξ;have Vr:N<cc:=by rcases v with h | h;exact absurd h y;exact h
   clear v
   go_wp2_with fail;go_roundg (3-(k+1))
   case measure=>have:=U.out;omega
   case rel=>exact⟨k+1,(k:Int),N,rfl,rfl,by go_num,ω,S.out,p.out,rfl⟩
 have r:=X.out;rw[a8 Q]at r;have S:=η r;clear r X;by_cases Mh:0<=N
 · have ab:decide (b<0)=false:=ξ;have Vr:decide (N<cc)=false:=ξ;clear Q
   go_wp2_with fail;go_roundg (3-(k+1))
   case measure=>have:=U.out;omega
   case rel=>exact⟨k+1,b,cc,rfl,rfl,by go_num,ω,S.out,p.out,rfl⟩
 have ao:decide (0<=N)=false:=ξ;clear Q
 go_wp2_with fail;go_roundg (3-(k+1))
 case measure=>have:=U.out;omega
 case rel=>exact⟨k+1,b,cc,rfl,rfl,by go_num,ω,S.out,p.out,rfl⟩
theorem Fh {l:List bY}:∀{out:ag},(expand out l).1=0->∀t∈l,cn t:=by
 induction l with
 | nil=>intro out _ t ht;simp at ht
 | cons k l c=>
   intro out h t ht;rw[jR]at h;by_cases a:(step out k).1=0
   · rw[aa a]at h;rcases aZ.1 ht with rfl | ht
     · unfold step at a;by_cases b:cn t
       · exact b
       rw[aa b]at a;simp at a
     exact c h t ht
   rw[a8 a]at h;exact absurd h a
structure jO where
 lev:Int
 f:jk
 L:ag
 raw:ag
 aj:List bY
def mD (t:bY):Nat:=(max t.len 1).toNat
def bN (l:List bY):Nat:=(l.map mD).sum
def iG (n i:Nat):List bY->Nat
 | []=>0
 | t::l=>if 16384<=n+mD t then i+1 else iG (n+mD t) (i+1) l
def bO (l:List bY):Nat:=iG 0 0 l
def pM (lev:Int) (l:List bY):Int:=if lev<=0 then 0 else(iX (o0 l (bN l)) 3).1
def jb (d:jO) (count:Nat) (last:Bool):jO:=
 { d with
   L:=lq (pM d.lev (d.aj.take count)) (if d.lev<=0 then [] else d.aj.take count) (d.raw.take (bN (d.aj.take count))) last d.L
   raw:=d.raw.drop (bN (d.aj.take count))
   aj:=d.aj.drop count }
def tO (e:oP) (left:Nat):Nat->jk->List bY×jk
 | 0,st=>([],st)
 | k+1,st=>if left<st.D.length-st.at_ then((fT e st).1::(tO e left k (fT e st).2).1,(tO e left k (fT e st).2).2)else([],st)
theorem Km {e:oP} {left:Nat}:∀(k:Nat) {st st':jk} {l:List bY},yN e left st l st'->st'.D.length-st'.at_<=left->st.Ok st.at_->st.D.length-st.at_<=k->tO e left k st=(l,st')
 | 0,st,st',l,hr,he,jT,hk=>by
   rcases hr.inv with ⟨rfl,rfl⟩ | ⟨d,h,_⟩
   · rfl
   omega
 | k+1,st,st',l,hr,he,jT,hk=>by
   unfold tO;rcases hr.inv with ⟨rfl,rfl⟩ | ⟨d,h,rfl,f⟩
   · rw[a8 ω]
   rw[aa h];obtain⟨N,m,j,i,c,b,a,g⟩ :=oO (e:=e) jT ω;rw[Km k f he (by rw[a];exact c) (by rw[b,a];omega)]
def jN (left:Nat) (d:jO):jO:=
 { d with f:=(tO (gR d.lev) left (d.f.D.length-d.f.at_) d.f).2,aj:=d.aj++(tO (gR d.lev) left (d.f.D.length-d.f.at_) d.f).1 }
def lI:Nat->jO->jO
 | 0,d=>d
 | k+1,d=>if 0<bO d.aj then lI k (jb d (bO d.aj) false)else d
def fF:Nat->jO->jO
 | 0,d=>d
 | k+1,d=>if 0<bO d.aj/\bO d.aj<d.aj.length then fF k (jb d (bO d.aj) false)else d
def ug (d:jO) (x:ag):jO:=
 let d1:=jN 261 { d with raw:=d.raw++x,f:=jv d.f x }
 lI d1.aj.length d1
def iJ:Nat->jO->ag->jO
 | 0,d,_=>d
 | k+1,d,b=>if 0<b.length then iJ k (ug d (b.take (min b.length 16384))) (b.drop (min b.length 16384))else d
def eH (d:jO):jO:=
 let d1:=jN 0 d
 fF d1.aj.length d1
def ng (d:jO):jO:=
 let d1:=eH d
 let d2:=jb d1 d1.aj.length true
 { d2 with L:=qu d2.L }
def CV (lev:Int):jO:= ⟨lev,Jy,[],[],[]⟩
theorem x6:∀(l:List bY) (n i:Nat),iG n i l<=i+l.length/\(0<iG n i l->i<iG n i l)
 | [],n,i=> ⟨by simp [iG],λh=>by simp [iG]at h⟩
 | t::l,n,i=>by
   unfold iG;rw[br];split
   · omega
   have:=x6 l (n+mD t) (i+1);omega
theorem vL {t:bY} (h:cn t):1<=mD t/\mD t<=258:=by
 unfold mD;unfold cn at h;split at h
 · rename_i a;rw[a];decide
 omega
theorem Aj:∀(l:List bY) (n i:Nat),(∀t∈l,cn t)->n<16384->0<iG n i l->16384<=n+bN (l.take (iG n i l-i))/\n+bN (l.take (iG n i l-i))<=16384+257
 | [],n,i,_,_,h=>by simp [iG]at h
 | t::l,n,i,hs,hn,h=>by
   have ht:=vL (hs t aI);unfold iG at h⊢;by_cases b:16384<=n+mD t
   · rw[aa b,show i+1-i=1 by omega];have:bN ((t::l).take 1)=mD t:=by simp [bN]
     omega
   rw[a8 b]at h⊢;have a:=Aj l (n+mD t) (i+1) (λu c=>hs u (aJ _ c)) ω h;have e:=(x6 l (n+mD t) (i+1)).2 h;obtain⟨m,d⟩ :∃m,iG (n+mD t) (i+1) l=i+1+m:= ⟨_,(gQ (by omega:i+1<=_)).symm⟩;rw[d]at a⊢;rw[show i+1+m-(i+1)=m by omega]at a;rw[show i+1+m-i=m+1 by omega];have:bN ((t::l).take (m+1))=mD t+bN (l.take m):=by simp [bN]
   omega
theorem rZ:∀(l:List bY) (n i:Nat),n<16384->iG n i l=0->n+bN l<16384
 | [],n,i,hn,_=>by simp [bN];exact hn
 | t::l,n,i,hn,h=>by
   unfold iG at h;by_cases a:16384<=n+mD t
   · rw[aa a]at h;omega
   rw[a8 a]at h;have b:=rZ l (n+mD t) (i+1) ω h;have:bN (t::l)=mD t+bN l:=by simp [bN]
   omega
theorem rV:∀(l:List bY) (out z:ag),expand out l=(0,z)->z.length=out.length+bN l
 | [],out,z,h=>by
   have:(0,out)=((0:Int),z):=h;injection this with _ c;rw[<-c];simp [bN]
 | t::l,out,z,h=>by
   rw[jR]at h;by_cases a:(step out t).1=0
   rotate_left
   · rw[a8 a]at h;rw[h]at a;exact absurd rfl a
   rw[aa a]at h;have e:=rV l _ z h
   have f:(step out t).2.length=out.length+mD t:=by
    unfold step at a⊢;unfold mD;by_cases d:¬cn t
    · rw[aa d]at a;simp at a
    rw[a8 d]at a⊢;by_cases c:16777216<(out.length:Int)+max t.len 1
    · rw[aa c]at a;simp at a
    rw[a8 c]at a⊢;by_cases b:t.len=0
    · rw[aa b,ae,b];rfl
    rw[a8 b]at a⊢;by_cases h4:(out.length:Int)<t.bn
    · rw[aa h4]at a;simp at a
    rw[a8 h4,ae,cG];unfold cn at d;rw[a8 b]at d;omega
   have:bN (t::l)=mD t+bN l:=by simp [bN]
   omega
theorem OA {P L:ag} (h:P.length%8=0):qu (P++L)=P++qu L:=by
 unfold qu;rw[ae,av,show(8-(P.length+L.length)%8)%8=(8-L.length%8)%8 by omega]
theorem FB {P L:ag} (kind:Int) (last:Bool):xW kind last (P++L)=P++xW kind last L:=by unfold xW;simp [List.append_assoc]
theorem JD {P L:ag} (h:P.length%8=0) (kind:Int) (l:List bY) (raw:ag) (last:Bool):lq kind l raw last (P++L)=P++lq kind l raw last L:=by
 unfold lq;split
 · rw[FB];unfold D7;rw[OA h];simp [List.append_assoc]
 split
 · rw[FB,av]
 rw[FB];simp [List.append_assoc]
structure rL (X P:ag) (d:jO) (all kinds stops:ag) (fz pre:List bY):Prop where
 big:X.length<=16777216
 jc:∀x∈X,0<=x/\x<256
 ev:P.length%8=0
 fd:d.f.D=X
 SK:d.f.Ok d.f.at_
 Xi:all++d.raw=X
 prx:expand [] pre=(0,all)
 tok:expand [] (pre++d.aj)=(0,X.take d.f.at_)
 lit:∀t∈d.aj,0<=t.lit/\t.lit<256
 rd:Reads 16777216 (P++d.L) all kinds stops fz
 st0:d.lev<=0->∀k∈kinds,k=0
 kl:kinds.length=stops.length/\∀s∈stops,0<=s/\s<=16777216
section
variable {X P:ag} {d:jO} {all kinds stops:ag} {fz pre:List bY}
theorem rL.GH (h:rL X P d all kinds stops fz pre):expand all d.aj=(0,X.take d.f.at_):=by
 have a:=h.tok;rw[mI,h.prx,aa rfl]at a;exact a
theorem rL.lens (h:rL X P d all kinds stops fz pre):all.length+bN d.aj=d.f.at_:=by
 have:=rV _ _ _ h.GH;rw[aD,<-h.fd,bF h.SK.hi]at this;omega
theorem rL.sound (h:rL X P d all kinds stops fz pre):∀t∈d.aj,cn t:=Fh (by rw[h.GH])
theorem Jr:∀{l:List bY},(∀t∈l,cn t)->l.length<=bN l
 | [],_=>σ
 | t::l,h=>by
   have c:=vL (h t aI);have b:=Jr (l:=l) λu a=>h u (aJ _ a);have:bN (t::l)=mD t+bN l:=by simp [bN]
   rw[br];omega
theorem rL.first (h:rL X P d all kinds stops fz pre) (count:Nat):expand all (d.aj.take count)=(0,all++d.raw.take (bN (d.aj.take count)))/\bN (d.aj.take count)<=d.raw.length:=by
 have a:=h.GH;rw[<-aO count d.aj,mI]at a;by_cases b:(expand all (d.aj.take count)).1=0
 rotate_left
 · rw[a8 b]at a;rw[a]at b;exact absurd rfl b
 rw[aa b]at a;obtain⟨z,hz⟩ :=sU (out:=(expand all (d.aj.take count)).2) (l:=d.aj.drop count) (by rw[a]);rw[a]at hz;have c:expand all (d.aj.take count)=(0,(expand all (d.aj.take count)).2):=by rw[<-b]
 have i:=rV _ _ _ c;obtain⟨Y,k⟩ :=ν ((expand all (d.aj.take count)).2);rw[k]at hz i c;replace hz:X.take d.f.at_=Y++z:=hz
 have e:Y=X.take Y.length:=by
  have h5:(X.take d.f.at_).take Y.length=Y:=by rw[hz];simp
  have:Y.length<=(X.take d.f.at_).length:=by rw[hz,ae];omega
  rw[aD]at this;rw[iC,bF ω]at h5;exact h5.symm
 have m:Y.length<=X.length:=by
  have:Y.length<=(X.take d.f.at_).length:=by rw[hz,ae];omega
  rw[aD]at this;omega
 have g:=h.Xi
 have j:bN (d.aj.take count)<=d.raw.length:=by
  have:X.length=all.length+d.raw.length:=by rw[<-g,ae]
  omega
 refine⟨?_,j⟩;rw[c,e,i,<-g,iQ,aA ω,bP]
theorem FV {lev:Int} {l:List bY} (e:∀t∈l,cn t) (f:∀t∈l,0<=t.lit/\t.lit<256) (c:bN l<=65535):
  (lev<=0->pM lev l=0)/\0<=pM lev l/\dI (pM lev l) (if lev<=0 then [] else l) (bN l)=true:=by
 have a:∀q:List bY,dI 0 q (bN l)=true:=λq=>by unfold dI;rw[aa rfl];exact aX c
 unfold pM;by_cases h:lev<=0
 · rw[aa h,aa h];exact⟨λ_=>rfl,ω,a _⟩
 rw[a8 h,a8 h]
 have hp:=uC (o0 l (bN l)) 3 0 ω (by
  unfold o0;rw[show((0:Nat):Int)=0 from rfl,aa (a l)];unfold nE;rw[aa rfl];omega)
 refine⟨λb=>absurd b h,hp.1, ?_⟩;rcases sI (o0 l (bN l)) 3 with b | ⟨i,_,d,_,h4⟩
 · omega
 rw[d];exact Fb h4
theorem rL.blk (h:rL X P d all kinds stops fz pre) (count:Nat) (l:bN (d.aj.take count)<=65535):
  dI (pM d.lev (d.aj.take count)) (if d.lev<=0 then [] else d.aj.take count) (d.raw.take (bN (d.aj.take count))).length=true/\
  (∀x∈d.raw.take (bN (d.aj.take count)),0<=x/\x<256)/\
  (∀t∈(if d.lev<=0 then [] else d.aj.take count),0<=t.lit/\t.lit<256)/\
  (pM d.lev (d.aj.take count)≠0->(expand all (if d.lev<=0 then [] else d.aj.take count)).1=0)/\
  lA (pM d.lev (d.aj.take count)) (if d.lev<=0 then [] else d.aj.take count) (d.raw.take (bN (d.aj.take count))) all=all++d.raw.take (bN (d.aj.take count))/\
  (all++d.raw.take (bN (d.aj.take count))).length<=16777216:=by
 obtain⟨j,n⟩ :=h.first count
 have i:∀t∈d.aj.take count,0<=t.lit/\t.lit<256:=λt ht=>h.lit t (aN ht);obtain⟨f,m,k⟩ :=FV (lev:=d.lev) (λt ht=>h.sound t (aN ht)) i l;have g:(d.raw.take (bN (d.aj.take count))).length=bN (d.aj.take count):=by rw[aD];omega
 have e:∀x∈d.raw,x∈X:=λx c=>by rw[<-h.Xi];exact bz _ c
 refine⟨by rw[g];exact k,λx c=>h.jc x (e x (aN c)),λt ht=> ?_,λa=> ?_, ?_, ?_⟩
 · split at ht
   · simp at ht
   exact i t ht
 · by_cases b:d.lev<=0
   · exact absurd (f b) a
   rw[a8 b,j]
 · unfold lA;by_cases a:pM d.lev (d.aj.take count)=0
   · rw[aa a]
   rw[a8 a,a8 (λb=>a (f b)),j]
 have h5:X.length=all.length+d.raw.length:=by rw[<-h.Xi,ae]
 have:=h.big;rw[ae,g];omega
theorem rL.lay (h:rL X P d all kinds stops fz pre) (count:Nat) (f:bN (d.aj.take count)<=65535):
  ∃g,rL X P (jb d count false) (all++d.raw.take (bN (d.aj.take count))) (kinds++[pM d.lev (d.aj.take count)]) (stops++[((all++d.raw.take (bN (d.aj.take count))).length:Int)]) g (pre++d.aj.take count):=by
 obtain⟨b1,b2,b3,b4,b5,b6⟩ :=h.blk count f;have e:=h.rd.next b1 b2 b3 b4 (by rw[b5];exact b6)
 rw[b5,JD h.ev]at e;refine⟨_,h.big,h.jc,h.ev,h.fd,h.SK, ?_, ?_, ?_,λt ht=>h.lit t (aW ht),e,λc k b=> ?_, ?_⟩
 · show(all++_)++d.raw.drop _=X;rw[av,aO];exact h.Xi
 · rw[mI,h.prx,aa rfl];exact(h.first count).1
 · show expand [] ((pre++d.aj.take count)++d.aj.drop count)=_;rw[av,aO];exact h.tok
 · rcases aQ.1 b with b | b
   · exact h.st0 c k b
   rw[bk.1 b];unfold pM;rw[aa (show d.lev<=0 from c)]
 refine⟨by rw[ae,ae,h.kl.1];rfl,λs a=> ?_⟩;rcases aQ.1 a with a | a
 · exact h.kl.2 s a
 rw[bk.1 a];omega
theorem rL.last (h:rL X P d all kinds stops fz pre) (count:Nat) (b:bN (d.aj.take count)<=65535):
  ∃c,Ends 16777216 (P++(jb d count true).L) (all++d.raw.take (bN (d.aj.take count))) (kinds++[pM d.lev (d.aj.take count)]) (stops++[((all++d.raw.take (bN (d.aj.take count))).length:Int)]) c:=by
 obtain⟨b1,b2,b3,b4,b5,b6⟩ :=h.blk count b;have a:=h.rd.fin b1 b2 b3 b4 (by rw[b5];exact b6);rw[b5,JD h.ev]at a;exact⟨_,a⟩
theorem rL.tokens (h:rL X P d all kinds stops fz pre) (left:Nat) {l:List bY} {f:jk} (b:yN (gR d.lev) left d.f l f) (hf:f.Ok f.at_) (hD:f.D=d.f.D) (c:∀t∈l,0<=t.lit/\t.lit<256):
  rL X P { d with f:=f,aj:=d.aj++l } all kinds stops fz pre:=by
 refine⟨h.big,h.jc,h.ev,hD.trans h.fd,hf,h.Xi,h.prx, ?_,λt ht=> ?_,h.rd,h.st0,h.kl⟩
 · have a:=Nw b h.SK (by rw[h.fd];exact h.big) [] (pre++d.aj) (by rw[h.fd];exact h.tok);rw[av,hD,h.fd]at a;exact a
 rcases aQ.1 ht with ht | ht
 · exact h.lit t ht
 exact c t ht
theorem rL.grow (h:rL X P d all kinds stops fz pre) (x:ag) (c:(X++x).length<=16777216) (b:∀v∈x,0<=v/\v<256):
  rL (X++x) P { d with raw:=d.raw++x,f:=jv d.f x } all kinds stops fz pre:=by
 have a:d.f.at_<=X.length:=by rw[<-h.fd];exact h.SK.hi
 refine⟨c,λv hv=> ?_,h.ev, ?_,h.SK.write x, ?_,h.prx, ?_,h.lit,h.rd,h.st0,h.kl⟩
 · rcases aQ.1 hv with hv | hv
   · exact h.jc v hv
   exact b v hv
 · show d.f.D++x=X++x;rw[h.fd]
 · show all++(d.raw++x)=X++x;rw[<-av,h.Xi]
 show _=(0,(X++x).take d.f.at_);rw[cQ a];exact h.tok
theorem rL.taken (h:rL X P d all kinds stops fz pre) {Q R:ag} (a:d.L=Q++R) (b:Q.length%8=0):rL X (P++Q) { d with L:=R } all kinds stops fz pre:=by
 refine⟨h.big,h.jc,by rw[ae];have:=h.ev;omega,h.fd,h.SK,h.Xi,h.prx,h.tok,h.lit, ?_,h.st0,h.kl⟩;have:=h.rd;rw[a]at this;show Reads _ ((P++Q)++R) _ _ _ _;rw[av];exact this
theorem rL.new (lev:Int):rL [] [] (CV lev) [] [] [] [] []:=
 ⟨σ,λx a=>by simp at a,rfl,rfl,Ok.new,rfl,rfl,rfl,λt ht=>by simp [CV]at ht,Reads.nil _,λ_ k c=>by simp at c,rfl,λs b=>by simp at b⟩
end
theorem Rx {e:oP} {st:jk} (hD:∀x∈st.D,0<=x/\x<256) (a:st.at_<st.D.length):0<=(fT e st).1.lit/\(fT e st).1.lit<256:=by
 have b:0<=(ri st).lit/\(ri st).lit<256:=hD _ (sq a);unfold fT;split
 · exact b
 split
 · split
   · exact b
   exact⟨ei 0,(by decide:(0:Int)<256)⟩
 exact⟨ei 0,(by decide:(0:Int)<256)⟩
theorem Ev {e:oP} {left:Nat}:∀(k:Nat) (st:jk),st.Ok st.at_->(∀x∈st.D,0<=x/\x<256)->
  yN e left st (tO e left k st).1 (tO e left k st).2/\(tO e left k st).2.Ok (tO e left k st).2.at_/\(tO e left k st).2.D=st.D/\(∀t∈(tO e left k st).1,0<=t.lit/\t.lit<256)/\
  (st.D.length-st.at_<=k->st.D.length-(tO e left k st).2.at_<=left)
 | 0,st,jT,hD=> ⟨.nil st,jT,rfl,λt ht=>by simp [tO]at ht,λh=>by have:(tO e left 0 st).2=st:=rfl;rw[this];omega⟩
 | k+1,st,jT,hD=>by
   unfold tO;by_cases h:left<st.D.length-st.at_
   · rw[aa h];obtain⟨N,m,l,j,c,a,b,i⟩ :=oO (e:=e) jT ω;obtain⟨g,f,d,h4,h5⟩ :=Ev (e:=e) (left:=left) k (fT e st).2 (by rw[b];exact c) (by rw[a];exact hD);refine⟨yN.a4r h g,f,d.trans a,λt ht=> ?_,λn=> ?_⟩
     · rcases aZ.1 ht with rfl | ht
       · exact Rx hD ω
       exact h4 t ht
     have:=h5 (by rw[a,b];omega);rw[a]at this;exact this
   rw[a8 h];exact⟨.nil st,jT,rfl,λt ht=>by simp at ht,λ_=>by show st.D.length-st.at_<=left;omega⟩
theorem zN {I:jO->Prop} (h:∀d,I d->0<bO d.aj->I (jb d (bO d.aj) false)):∀k d,I d->I (lI k d)
 | 0,d,hd=>hd
 | k+1,d,hd=>by
   unfold lI;split
   · rename_i a;exact zN h k _ (h d hd a)
   exact hd
theorem qo {I:jO->Prop} (h:∀d,I d->0<bO d.aj->I (jb d (bO d.aj) false)):∀k d,I d->I (fF k d)
 | 0,d,hd=>hd
 | k+1,d,hd=>by
   unfold fF;split
   · rename_i a;exact qo h k _ (h d hd a.1)
   exact hd
theorem lN (l:List bY):bO l<=l.length:=by have:=(x6 l 0 0).1;unfold bO;omega
theorem zO:∀k d,d.aj.length<=k->bO (fF k d).aj=0\/(fF k d).aj.length<=bO (fF k d).aj
 | 0,d,h=>by have:=lN d.aj;exact .inl (by show bO d.aj=0;omega)
 | k+1,d,h=>by
   unfold fF;split
   · refine zO k _ ?_;show(d.aj.drop _).length<=k;rw[ay];omega
   omega
theorem Iq:∀k d,(fF k d).lev=d.lev/\(fF k d).f=d.f:=λk d=>by
 have:=qo (I:=λx=>x.lev=d.lev/\x.f=d.f) (λx a _=>a) k d ⟨rfl,rfl⟩;exact this
def nU (X P:ag) (d:jO):Prop:=∃all kinds stops fz pre,rL X P d all kinds stops fz pre
theorem LU {X P:ag} {d:jO} {all kinds stops:ag} {fz pre:List bY} (h:rL X P d all kinds stops fz pre) (hf:0<bO d.aj):16384<=bN (d.aj.take (bO d.aj))/\bN (d.aj.take (bO d.aj))<=16641:=by
 have:=Aj d.aj 0 0 h.sound ω hf;rw[Nat.sub_zero,bX]at this;exact this
theorem nU.lay {X P:ag} {d:jO} (h:nU X P d) (hf:0<bO d.aj):nU X P (jb d (bO d.aj) false):=by
 obtain⟨all,kinds,stops,fz,pre,h⟩ :=h;obtain⟨b,a⟩ :=h.lay (bO d.aj) (τ (LU h hf));exact⟨_,_,_,_,_,a⟩
theorem Be {X P:ag} {d:jO} {all kinds stops:ag} {fz pre:List bY} (h:rL X P d all kinds stops fz pre) (count:Nat) (last:Bool) (k:bN (d.aj.take count)<=65535):
  (jb d count last).L.length<=d.L.length+8*bN (d.aj.take count)+42:=by
 have m:∀t∈d.aj.take count,0<=t.lit/\t.lit<256:=λt ht=>h.lit t (aN ht);have a:(d.raw.take (bN (d.aj.take count))).length=bN (d.aj.take count):=by rw[aD];have:=(h.first count).2;omega
 obtain⟨o,s,j⟩ :=FV (lev:=d.lev) (λt ht=>h.sound t (aN ht)) m k;show(lq _ _ _ _ _).length<=_;by_cases e:pM d.lev (d.aj.take count)=0
 · rw[e];unfold lq;rw[aa rfl];unfold D7;rw[ae,ae,ae,aR,aR,mj,nO,dQ,a];omega
 have c:¬d.lev<=0:=λg=>e (o g);rw[a8 c];rw[a8 c]at j;have p:=Po (kind:=pM d.lev (d.aj.take count)) (l:=d.aj.take count) (raw:=d.raw.take (bN (d.aj.take count))) (L:=d.L) (last:=last) (by rw[a];exact j) m (λg=>absurd g e);rw[a]at p
 have u:nE (pM d.lev (d.aj.take count)) (d.aj.take count) (bN (d.aj.take count))<=40+8*(bN (d.aj.take count):Int):=by
  have n:o0 (d.aj.take count) (bN (d.aj.take count)) 0=40+8*(bN (d.aj.take count):Int):=by
   unfold o0;have f:dI ((0:Nat):Int) (d.aj.take count) (bN (d.aj.take count))=true:=by unfold dI;rw[aa (show((0:Nat):Int)=0 from rfl)];exact aX k
   rw[aa f];unfold nE;rw[aa (show((0:Nat):Int)=0 from rfl)]
  obtain⟨p1,p2⟩ :=uC (o0 (d.aj.take count) (bN (d.aj.take count))) 3 0 ω (by rw[n];omega);rw[n]at p2;have b:pM d.lev (d.aj.take count)=(iX (o0 (d.aj.take count) (bN (d.aj.take count))) 3).1:=by unfold pM;rw[a8 c]
  rcases sI (o0 (d.aj.take count) (bN (d.aj.take count))) 3 with v | ⟨i,_,q,h4,h5⟩
  · omega
  rw[h4]at p2;have r:o0 (d.aj.take count) (bN (d.aj.take count)) i=nE (i:Int) (d.aj.take count) (bN (d.aj.take count)):=by unfold o0;rw[aa (Fb h5)]
  rw[r]at p2;rw[b,q];exact p2
 omega
section
variable {X P:ag} {d:jO} {all kinds stops:ag} {fz pre:List bY}
theorem rL.jN (h:rL X P d all kinds stops fz pre) (left:Nat):rL X P (jN left d) all kinds stops fz pre/\X.length-(jN left d).f.at_<=left:=by
 obtain⟨c,b,a,h4,h5⟩ :=Ev (e:=gR d.lev) (left:=left) (d.f.D.length-d.f.at_) d.f h.SK (by rw[h.fd];exact h.jc);refine⟨h.tokens left c b a h4, ?_⟩;have h6:=h5 (af _);have e:X.length=d.f.D.length:=by rw[h.fd]
 rw[e];exact h6
theorem nU.fF (h:nU X P d) (k:Nat):nU X P (fF k d):=qo (λ_ q hf=>q.lay hf) k d h
theorem X6 (h:rL X P (eH d) all kinds stops fz pre) (g:X.length-(jN 0 d).f.at_<=0):bN (eH d).aj<=16641/\bN (eH d).aj=(eH d).raw.length:=by
 have e:=Iq (jN 0 d).aj.length (jN 0 d);have a:bO (eH d).aj=0\/(eH d).aj.length<=bO (eH d).aj:=zO (jN 0 d).aj.length (jN 0 d) (af _);have j:=h.lens;have i:X.length=all.length+(eH d).raw.length:=by rw[<-h.Xi,ae]
 have c:(eH d).f.at_<=X.length:=by have:=h.SK.hi;rw[h.fd]at this;exact this
 have hf:(eH d).f.at_=(jN 0 d).f.at_:=by show(fF _ _).f.at_=_;rw[e.2]
 refine⟨?_,ω⟩;rcases a with a | a
 · have:=rZ (eH d).aj 0 0 ω a;omega
 by_cases b:0<bO (eH d).aj
 · have:=LU h b;rw[aA a]at this;omega
 have:=rZ (eH d).aj 0 0 ω (show iG 0 0 (eH d).aj=0 by unfold bO at b;omega);omega
theorem nU.rest (h:nU X P d):∃all kinds stops fz pre,rL X P (eH d) all kinds stops fz pre/\bN (eH d).aj<=16641/\bN (eH d).aj=(eH d).raw.length:=by
 obtain⟨all,kinds,stops,fz,pre,h⟩ :=h;obtain⟨j,i⟩ :=h.jN 0;obtain⟨a,b,c,e,f,g⟩ :=nU.fF ⟨all,kinds,stops,fz,pre,j⟩ (jN 0 d).aj.length;exact⟨a,b,c,e,f,g,X6 g i⟩
theorem nU.close (h:nU X P d):∃t,(start (P++(ng d).L) 16777216).fin=(t,8)/\t.x=[]/\t.all=X/\(P++(ng d).L).length%8=0/\dH (P++(ng d).L):=by
 obtain⟨all,kinds,stops,fz,pre,h,i,f⟩ :=h.rest;have a:(eH d).aj.take (eH d).aj.length=(eH d).aj:=aA (af _);obtain⟨j,hE⟩ :=h.last (eH d).aj.length (by rw[a];omega);rw[a,f,aA (af _),h.Xi]at hE;have g:P++(ng d).L=qu (P++(jb (eH d) (eH d).aj.length true).L):=(OA h.ev).symm;obtain⟨t,e,c,b,_⟩ :=hE.fin;rw[g];exact⟨t,e,c,b,pE _,dH.qu hE.1⟩
end
end Go.Proofs.YtgiimmkmjpbecaaGreat
