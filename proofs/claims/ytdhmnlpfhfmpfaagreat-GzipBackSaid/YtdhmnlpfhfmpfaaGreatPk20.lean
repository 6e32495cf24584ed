/-
  part
-/
import Derived.Test.YtdhmnlpfhfmpfaaGreatPk19
set_option linter.unusedVariables false
set_option maxRecDepth 100000
set_option maxHeartbeats 4000000
namespace Go.Proofs.YtdhmnlpfhfmpfaaGreat
open Go.RowKit
def Reads (M:Nat) (L all kinds stops:aj) (au:List cy):Prop:=
 dO L/\all.length<=M/\∀y,dO y->(L.length+y.length)%8=0->∃t,IS.Steps (start (L++y) M) t/\t.st=0/\t.x=y/\t.all=all/\t.rem=M-all.length/\t.kinds=kinds/\t.stops=stops/\t.au=au
def Ends (M:Nat) (L all kinds stops:aj) (au:List cy):Prop:=
 dO L/\all.length<=M/\∀y,dO y->(L.length+y.length)%8=0->∃t,IS.Steps (start (L++y) M) t/\t.st=8/\t.x=lN y/\t.all=all/\t.kinds=kinds/\t.stops=stops/\t.au=au
theorem Reads.nil (M:Nat):Reads M [] [] [] [] []:= ⟨dO.dN,aF _,λy a _=> ⟨start y M, .refl _,rfl,rfl,rfl,rfl,rfl,rfl,rfl⟩⟩
def lO (kind:Int) (l:List cy) (raw all:aj):aj:=if kind=0 then all++raw else(expand all l).2
theorem FL:dw 0 2=[0,0]/\dw 1 2=[1,0]/\dw 2 2=[0,1]:=δ
theorem a89 {b c a:Int} (d:b=0\/b=1) (f:c=0\/c=1) (e:a=0\/a=1) (z:aj):num ([b,c,a]++z) 3=(b+2*c+4*a).toNat:=by
 rw[sT (x:=[b,c,a]) (n:=3) rfl];rcases d with rfl | rfl <;> rcases f with rfl | rfl <;> rcases e with rfl | rfl <;> rfl
theorem QT (n:Nat) (h:n<=65535):dw (4294967295-(n:Int)) 16=dw (65535-(n:Int)) 16:=by
 rw[<-Om (4294967295-(n:Int)),<-Om (65535-(n:Int))];have e:(2:Int) ^ 16=65536:=δ;rw[e];congr 1;omega
theorem dO.blk (lit bm:aj) (l:List cy):dO (kr lit bm l):=by
 unfold kr iW;refine dO.app (λx a=> ?_) (dO.sym _ _);obtain⟨t,_,ht⟩ :=iQ.1 a;unfold tv at ht;split at ht
 · exact dO.sym _ _ x ht
 exact(((dO.sym _ _).app (dO.dw _ _)).app (dO.sym _ _)).app (dO.dw _ _) x ht
theorem dO.a8j (l:List cy):dO (mh l):=by
 unfold mh wC nZ;refine((((dO.dw _ _).app (dO.dw _ _)).app (dO.dw _ _)).app λx a=> ?_).app λx a=> ?_
 · obtain⟨t,_,ht⟩ :=iQ.1 a;exact dO.dw _ _ x ht
 obtain⟨t,_,ht⟩ :=iQ.1 a;exact(dO.sym _ _).app (dO.dw _ _) x ht
theorem dO.yv {L:aj} (h:dO L) (kind:Int) (last:Bool):dO (yv kind last L):=(h.app (dO.dw _ _)).app (dO.dw _ _)
theorem dO.out {L:aj} (h:dO L) (kind:Int) (l:List cy) (raw:aj) (last:Bool):dO (lK kind l raw last L):=by
 unfold lK;split
 · unfold CR;exact(((dO.qI (h.yv _ _)).app (dO.dw _ _)).app (dO.dw _ _)).app (dO.gK _)
 split
 · exact(h.yv _ _).app (dO.blk _ _ _)
 exact((h.yv _ _).app (dO.a8j _)).app (dO.blk _ _ _)
section
variable {M:Nat} {L all kinds stops:aj} {au:List cy} {kind:Int} {l:List cy} {raw:aj} {last:Bool}
theorem Mz {t:IS} {y:aj} (k:t.st=3) (A:t.x=mh l++y) (e:l.length<1048576):
  ∃c,IS.Steps t c/\Kt t c/\c.st=6/\c.lt=eX l/\c.ds=dn l/\c.x=y:=by
 have D:=kT l;have C:=lY l;have B:=uQ l
 have h:t.x=dw (((fP l-257:Nat):Int)) 5++(dw (((fX l-1:Nat):Int)) 5++(dw (((pI l-4:Nat):Int)) 4++(wC (cY l) (pI l)++(nZ (cY l) (dc l)++y)))):=by
  rw[A];unfold mh;simp only [List.append_assoc]
 have p:=MH k h ω ω ω;have s1:=IS.Steps.one (s:=t) (by rw[p]);rw[p]at s1;obtain⟨b,j⟩ :∃b:IS,b={ t with x:=wC (cY l) (pI l)++(nZ (cY l) (dc l)++y),c0:=fP l-257+257,c1:=fX l-1+1,c2:=pI l-4+4,lens:=[],st:=4 }:= ⟨_,rfl⟩;rw[<-j]at s1
 have P:Kt t b/\b.st=4/\b.c2=pI l/\b.lens=[]/\b.x=Br (cY l) 0 (pI l)++(nZ (cY l) (dc l)++y)/\b.c0=fP l/\b.c1=fX l:=by
  rw[j,QV];exact⟨⟨rfl,rfl,rfl,rfl,rfl,rfl⟩,rfl,by dsimp only;omega,rfl,rfl,by dsimp only;omega,by dsimp only;omega⟩
 clear j p;obtain⟨G,b1,b2,b3,b4,b5,b6⟩ :=P;obtain⟨g,s2,F,c1,c2,q,N,M,L⟩ :=yy (hd:=cY l) (n:=pI l) ω (vT l) (pI l) 0 b ω (aF _) b1 b2 b3 b4;have m:=Un (n:=pI l) (hd:=cY l) ω (mO l) (Wz l);have o:=Qk (hd:=cY l) c1 (by rw[q,wE _ ω,c2]) (by rw[q];exact m) (kF l) (by rw[q];exact Wy e);have s3:=IS.Steps.one (s:=g) (by rw[o]);rw[o]at s3;obtain⟨a,i⟩ :∃a:IS,a={ g with hd:=cY l,lens:=[],st:=5 }:= ⟨_,rfl⟩;rw[<-i]at s3
 have O:Kt g a/\a.st=5/\a.hd=cY l/\a.lens=[]/\a.x=nZ (cY l) (dc l)++y/\a.c0=fP l/\a.c1=fX l:=by
  rw[i];exact⟨⟨rfl,rfl,rfl,rfl,rfl,rfl⟩,rfl,rfl,rfl,N,M.trans b5,L.trans b6⟩
 clear i o;obtain⟨E,d1,d2,d3,d4,d5,d6⟩ :=O;obtain⟨r,z⟩ :=Jy _ (eX l++dn l) rfl (EF e) [];have f:(dc l).foldl lC []=eX l++dn l:=by rw[aZ]at r;exact r
 obtain⟨w,s4,h4,K,u,J,I,H⟩ :=BJ (kF l) (dc l) a [] d1 d2 d3 d4 z (IB e) (by rw[f,ag,o9,qZ,d5,d6]);rw[f]at u;have v:=WH (l:=eX l) (d:=dn l) K u (by rw[I,d5,o9]) (by rw[H,d6,qZ]) (lr e) (kE e) (Oh e);have s5:=IS.Steps.one (s:=w) (by rw[v]);rw[v]at s5;exact⟨_,(((s1.trans s2).trans s3).trans s4).trans s5,((G.trans F).trans (E.trans h4)).trans ⟨rfl,rfl,rfl,rfl,rfl,rfl⟩,rfl,rfl,rfl,J⟩
theorem Reads.blk (h:Reads M L all kinds stops au) (i:dS kind l raw.length=true) (I:∀x∈raw,0<=x/\x<256) (w:∀t∈l,0<=t.lit/\t.lit<256) (P:kind≠0->(expand all l).1=0) (C:(lO kind l raw all).length<=M) (y:aj) (u:dO y) (A:((lK kind l raw last L).length+y.length)%8=0):
  ∃t:IS,IS.Steps (start (lK kind l raw last L++y) M) t.over/\t.x=y/\t.last=last/\t.all=lO kind l raw all/\t.rem=M-(lO kind l raw all).length/\t.kinds=kinds++[kind]/\t.stops=stops/\t.au=au++(if kind=0 then [] else l):=by
 obtain⟨J,T,N⟩ :=h
 have e:kind=0\/kind=1\/kind=2:=by
  unfold dS at i;by_cases Q:kind=0
  · exact .inl Q
  rw[aa Q]at i;by_cases h:¬(kind=1\/kind=2)\/1048576<=l.length
  · rw[af h]at i;exact absurd i δ
  omega
 obtain⟨mk,v⟩ :=ν ((if last=true then(1:Int)else 0):Int);have c:mk=0\/mk=1:=by cases last <;> simp at v <;> omega
 have G:decide (mk=1)=last:=by cases last <;> simp at v <;> subst v <;> rfl
 have H:dw mk 1=[mk]:=by rcases c with rfl | rfl <;> rfl
 have O:yv kind last L=L++([mk]++dw kind 2):=by unfold yv;rw[v,H,av]
 rcases e with rfl | rfl | rfl
 · have n:raw.length<=65535:=by
    unfold dS at i;rw[af rfl]at i;exact cP i
   have m:lK 0 l raw last L=qI (L++[mk,0,0])++dw raw.length 16++dw (65535-(raw.length:Int)) 16++gK raw:=by
    unfold lK;rw[af rfl];unfold CR;rw[O,FL.1,QT _ n];rfl
   obtain⟨pad,q,E⟩ :∃pad:aj,qI (L++[mk,0,0])=L++[mk,0,0]++pad/\pad.length<8:= ⟨_,rfl,by rw[aT];omega⟩;have S:dO pad:=λx a=>(dO.qI (J.app (b:=[mk,0,0]) (by intro x a;rcases aY.1 a with rfl | a;exact c;simp at a;omega))) x (by rw[q];exact bD _ a)
   have j:lK 0 l raw last L++y=L++([mk,0,0]++(pad++(dw raw.length 16++dw (65535-raw.length) 16++(gK raw++y)))):=by
    rw[m,q];simp only [List.append_assoc]
   have p:dO ([mk,0,0]++(pad++(dw raw.length 16++dw (65535-(raw.length:Int)) 16++(gK raw++y)))):=
    dO.app (by intro x a;rcases aY.1 a with rfl | a;exact c;simp at a;omega) (S.app (((dO.dw _ _).app (dO.dw _ _)).app ((dO.gK _).app u)))
   obtain⟨t,s1,b1,b2,b3,b4,b5,b6,b7⟩ :=N _ p (by
    have:(lK 0 l raw last L++y).length%8=0:=by rw[ag];exact A
    rw[j,ag]at this;exact this)
   have D:y.length%8=0:=by
    rw[m,ag,ag,ag,aR,aR,eT]at A;have:=pS (L++[mk,0,0]);omega
   have g:lO 0 l raw all=all++raw:=af rfl;rw[g]at C⊢;rw[ag]at C;have U:=G6 (s:=t) (B:=raw) (pad:=pad) (y:=y) (h:=mk) b1 c b2 E D u I n (by rw[b4];omega);rw[<-j]at s1;refine⟨_,s1.trans U,rfl,G, ?_, ?_, ?_,b6, ?_⟩
   · show t.all++raw=_;rw[b3]
   · show t.rem-raw.length=_;rw[b4,ag];omega
   · show t.kinds++[0]=_;rw[b5]
   show t.au=_;rw[b7,af rfl,aA]
 · obtain⟨m1,m2⟩ :=FH i
   have j:lK 1 l raw last L++y=L++([mk,1,0]++(kr im iU l++y)):=by
    unfold lK;rw[aa δ,af rfl,O,FL.2.1];simp only [List.append_assoc,List.cons_append,List.nil_append]
   have p:dO ([mk,1,0]++(kr im iU l++y)):=dO.app (by intro x a;rcases aY.1 a with rfl | a;exact c;simp at a;omega) ((dO.blk _ _ _).app u)
   obtain⟨t,s1,b1,b2,b3,b4,b5,b6,b7⟩ :=N _ p (by
    have:(lK 1 l raw last L++y).length%8=0:=by rw[ag];exact A
    rw[j,ag]at this;exact this)
   rw[<-j]at s1;have g:lO 1 l raw all=(expand all l).2:=aa δ;rw[g]at C⊢;have F:=a89 c (.inr rfl:(1:Int)=0\/(1:Int)=1) (.inl rfl:(0:Int)=0\/(0:Int)=1) (kr im iU l++y)
   have r:t.step=({ t with last:=last,kinds:=t.kinds++[1],x:=kr im iU l++y,lt:=im,ds:=iU,st:=6 },0):=by
    unfold IS.step;rw[af b1];unfold IS.block;rw[b2,F,aa (by rw[ag];simp),aa (by rcases c with rfl | rfl <;> decide),af (by rcases c with rfl | rfl <;> decide),lX (by rfl)];rw[<-G];rcases c with rfl | rfl <;> rfl
   have s2:=s1.tail (by rw[r]);rw[r]at s2;have K:Cv ({ t with last:=last,kinds:=t.kinds++[1],x:=kr im iU l++y,lt:=im,ds:=iU,st:=6 }:IS) im iU last (kr im iU l++y) all (M-all.length) (kinds++[1]) stops au:= ⟨rfl,rfl,rfl,rfl,rfl,b3,b4,by dsimp only;rw[b5],b6,b7⟩;have f:expand all l=(0,(expand all l).2):=by rw[<-P δ]
   obtain⟨o,s3,d⟩ :=CY K mI.1 mI.2 (by rw[pT];omega) (AJ 256 ω) (λk e=> ⟨m2 k e,w k e,Zd (m2 k e) (w k e)⟩) f ω;refine⟨_,s2.trans s3,rfl,d.last,d.all, ?_,d.kinds,d.stops, ?_⟩
   · show o.rem=_;rw[d.rem];obtain⟨z,hz⟩ :=tH (out:=all) (l:=l) (by rw[f]);have:=aN List.length hz;rw[ag]at this;omega
   show o.au=_;rw[d.au,aa δ]
 obtain⟨m1,m2⟩ :=zC i
 have j:lK 2 l raw last L++y=L++([mk,0,1]++(mh l++(kr (eX l) (dn l) l++y))):=by
  unfold lK;rw[aa δ,aa δ,O,FL.2.2];simp only [List.append_assoc,List.cons_append,List.nil_append]
 have p:dO ([mk,0,1]++(mh l++(kr (eX l) (dn l) l++y))):=dO.app (by intro x a;rcases aY.1 a with rfl | a;exact c;simp at a;omega) ((dO.a8j _).app ((dO.blk _ _ _).app u))
 obtain⟨t,s1,b1,b2,b3,b4,b5,b6,b7⟩ :=N _ p (by
  have:(lK 2 l raw last L++y).length%8=0:=by rw[ag];exact A
  rw[j,ag]at this;exact this)
 rw[<-j]at s1;have g:lO 2 l raw all=(expand all l).2:=aa δ;rw[g]at C⊢;have F:=a89 c (.inl rfl:(0:Int)=0\/(0:Int)=1) (.inr rfl:(1:Int)=0\/(1:Int)=1) (mh l++(kr (eX l) (dn l) l++y))
 have r:t.step=({ t with last:=last,kinds:=t.kinds++[2],x:=mh l++(kr (eX l) (dn l) l++y),st:=3 },0):=by
  unfold IS.step;rw[af b1];unfold IS.block;rw[b2,F,aa (by rw[ag];simp),aa (by rcases c with rfl | rfl <;> decide),aa (by rcases c with rfl | rfl <;> decide),af (by rcases c with rfl | rfl <;> decide),lX (by rfl)];rw[<-G];rcases c with rfl | rfl <;> rfl
 have s2:=s1.tail (by rw[r]);rw[r]at s2;obtain⟨R,s3,d,c1,c2,W,V⟩ :=Mz (t:={ t with last:=last,kinds:=t.kinds++[2],x:=mh l++(kr (eX l) (dn l) l++y),st:=3 }) rfl rfl m1;have K:Cv R (eX l) (dn l) last (kr (eX l) (dn l) l++y) all (M-all.length) (kinds++[2]) stops au:= ⟨c1,c2,W,d.last,V,d.all.trans b3,d.rem.trans b4,d.kinds.trans (by dsimp only;rw[b5]),d.stops.trans b6,d.au.trans b7⟩;have f:expand all l=(0,(expand all l).2):=by rw[<-P δ]
 obtain⟨o,s4,h4⟩ :=CY K (lr m1) (kE m1) (by rw[o9];have:=kT l;omega) (Oh m1) (λk e=> ⟨m2 k e,w k e,Z6 m1 e (m2 k e) (w k e)⟩) f ω;refine⟨_,(s2.trans s3).trans s4,rfl,h4.last,h4.all, ?_,h4.kinds,h4.stops, ?_⟩
 · show o.rem=_;rw[h4.rem];obtain⟨z,hz⟩ :=tH (out:=all) (l:=l) (by rw[f]);have:=aN List.length hz;rw[ag]at this;omega
 show o.au=_;rw[h4.au,aa δ]
theorem Reads.next (h:Reads M L all kinds stops au) (d:dS kind l raw.length=true) (a:∀x∈raw,0<=x/\x<256) (e:∀t∈l,0<=t.lit/\t.lit<256) (g:kind≠0->(expand all l).1=0) (b:(lO kind l raw all).length<=M):
  Reads M (lK kind l raw false L) (lO kind l raw all) (kinds++[kind]) (stops++[((lO kind l raw all).length:Int)]) (au++(if kind=0 then [] else l)):=by
 refine⟨h.1.out _ _ _ _,b,λy c f=> ?_⟩;obtain⟨t,s,b1,b2,b3,b4,b5,b6,b7⟩ :=h.blk d a e g b y c f;refine⟨_,s, ?_⟩;unfold IS.over;rw[b2,aa δ];exact⟨rfl,b1,b3,b4,b5,by dsimp only;rw[b6,b3],b7⟩
theorem Reads.fin (h:Reads M L all kinds stops au) (d:dS kind l raw.length=true) (a:∀x∈raw,0<=x/\x<256) (e:∀t∈l,0<=t.lit/\t.lit<256) (g:kind≠0->(expand all l).1=0) (b:(lO kind l raw all).length<=M):
  Ends M (lK kind l raw true L) (lO kind l raw all) (kinds++[kind]) (stops++[((lO kind l raw all).length:Int)]) (au++(if kind=0 then [] else l)):=by
 refine⟨h.1.out _ _ _ _,b,λy c f=> ?_⟩;obtain⟨t,s,b1,b2,b3,b4,b5,b6,b7⟩ :=h.blk d a e g b y c f;refine⟨_,s, ?_⟩;unfold IS.over;rw[b2,af rfl];exact⟨rfl,by dsimp only;rw[b1],b3,b5,by dsimp only;rw[b6,b3],b7⟩
theorem Ends.fin (h:Ends M L all kinds stops au):∃t,(start (qI L) M).fin=(t,8)/\t.x=[]/\t.all=all/\t.kinds=kinds/\t.stops=stops/\t.au=au:=by
 obtain⟨b,c,hE⟩ :=h;obtain⟨t,s,b1,b2,b3,b4,b5,b6⟩ :=hE (List.replicate ((8-L.length%8)%8) 0) (dO.zeros _) (by rw[aT];omega);have e:L++List.replicate ((8-L.length%8)%8) 0=qI L:=rfl;rw[e]at s;refine⟨t, ?_, ?_,b3,b4,b5,b6⟩
 · rw[<-s.mG];have a:t.step=(t,8):=by unfold IS.step;rw[b1];rfl
   rw[IS.iA (by rw[a];simp),a]
 rw[b2];unfold lN;rw[aT,dP (by rw[aT];omega)]
end
def tj (l f:aj):Nat->Int
 | 0=>0
 | k+1=>tj l f k+ix l k*ix f k
theorem sr {l f:aj} (a:∀i,0<=ix l i/\ix l i<=15) (hf:∀i,0<=ix f i/\ix f i<=1048576):∀k,fc l f k=tj l f k
 | 0=>rfl
 | k+1=>by
   rw[fc,tj,sr a hf k];congr 1;have c:=a k;have b:=hf k;by_cases h:0<ix l k/\0<ix f k
   · exact Am h.1 h.2 b.2 ω
   rw[D8 ω];have:ix l k=0\/ix f k=0:=ω;rcases this with h | h <;> rw[h] <;> simp
theorem tq (l f:aj) (s:Nat):∀k,tj l (ur f s) k=tj l f k+if s<k/\s<f.length then ix l s else 0
 | 0=>by simp [tj]
 | k+1=>by
   rw[tj,tj,tq l f s k,iP];by_cases b:s=k
   · subst b;rw[aa (show¬(s<s/\s<f.length) from λh=>Nat.lt_irrefl _ h.1)];by_cases a:s<f.length
     · rw[af (show s=s/\s<f.length from⟨rfl,a⟩),af (show s<s+1/\s<f.length from⟨iR _,a⟩),Int.mul_add];omega
     rw[aa (show¬(s=s/\s<f.length) from λh=>a h.2),aa (show¬(s<s+1/\s<f.length) from λh=>a h.2)];omega
   rw[aa (show¬(s=k/\k<f.length) from λh=>b h.1)];by_cases a:s<k/\s<f.length
   · rw[af a,af (show s<k+1/\s<f.length from⟨ω,a.2⟩)];omega
   rw[aa a,aa (show¬(s<k+1/\s<f.length) from λh=>a ⟨ω,h.2⟩)];omega
theorem ya (l:aj) (n:Nat):∀k,tj l (List.replicate n 0) k=0
 | 0=>rfl
 | k+1=>by
   rw[tj,ya l n k]
   have:ix (List.replicate n (0:Int)) k=0:=by
    unfold ix;rw[aq,dI];split <;> rfl
   rw[this];simp
theorem U4:fq0=(ur (List.replicate 286 0) 256,List.replicate 30 0):=by
 unfold fq0 fq0.zrI ur;rw[Fz _ ω];rfl
theorem Ek {lit bm:aj} (c:∀i,0<=ix lit i) (hd:∀i,0<=ix bm i) (l:List cy):(∀t∈l,cF t/\(0<=t.lit/\t.lit<256))->tj lit (kf l).1 286+tj bm (kf l).2 30+((Cj l:Nat):Int)=((kr lit bm l).length:Int):=by
 refine kx (β:=Nat) (motive:=λl=>(∀t∈l,cF t/\(0<=t.lit/\t.lit<256))->tj lit (kf l).1 286+tj bm (kf l).2 30+((Cj l:Nat):Int)=((kr lit bm l).length:Int)) ?_ ?_ l
 · intro _;rw[ES,U4];simp only;rw[tq,ya,ya,af ⟨ω,by rw[aT];omega⟩];unfold kr iW Cj;rw[ag,fY];have:=c 256;simp;omega
 intro l t d h;have n:=d λu e=>h u (cI _ e);obtain⟨s1,s2⟩ :=h t (bD _ (bf.2 rfl));have b:=mJ l;have f:Cj (l++[t])=Cj l+Z8 t:=by simp [Cj]
 have j:(kr lit bm (l++[t])).length=(kr lit bm l).length+(tv lit bm t).length:=by
  unfold kr;rw[Ei,Ej];simp only [List.length_append];omega
 rw[ox,f,j];unfold NF tv Z8;by_cases a:t.len=0
 · rw[af a,af a];simp only;rw[tq,af ⟨ω,by rw[b.1];omega⟩,fY];have g:t.bm=0:=by unfold cF at s1;rw[af a]at s1;exact s1
   rw[aa ω,aa ω];have:=c t.lit.toNat;omega
 rw[aa a,aa a];obtain⟨b1,b2,m,k⟩ :=tz s1 a;simp only;rw[tq,tq,af ⟨ω,by rw[b.1];omega⟩,af ⟨ω,by rw[b.2];omega⟩,af b1,af b2];simp only [List.length_append,fY,aR];have:=c (257+jm t.len);have:=hd (fj t.bm);omega
theorem Oe {l:aj} {m:Int} (a:0<=m) (h:∀i,i<l.length->0<=ix l i/\ix l i<=m) (i:Nat):0<=ix l i/\ix l i<=m:=by
 by_cases hi:i<l.length
 · exact h i hi
 have:ix l i=0:=by unfold ix;rw[aq,bw ω];rfl
 rw[this];exact⟨ez _,a⟩
theorem G9 {l f:aj} {n:Nat} (h:∀i,n<=i->ix l i=0):∀k,tj l f (n+k)=tj l f n
 | 0=>rfl
 | k+1=>by rw[<-eY,tj,G9 h k,h (n+k) ω];simp
theorem Og {l:aj} {i:Nat} (h:l.length<=i):ix l i=0:=by unfold ix;rw[aq,bw h];rfl
theorem R8 {l:List cy} (e:l.length<1048576):((mh l).length:Int)=SI l:=by
 have f:=lu e;have i:=uQ l
 have h4:∀a:List Rn,(∀r∈a,yQ r)->((nZ (cY l) a).length:Int)=jq (cY l) a:=λa=>by
  induction a with
  | nil=>intro _;rfl
  | cons r a b=>
    intro h;have h5:=b λx d=>h x (aI _ d);have h6:=h r aH;have h7:=vT l r.c.toNat (τ h6.1);have g:=h6.2.2.1;show((WV (cY l) r++nZ (cY l) a).length:Int)=sZ (cY l) r+jq (cY l) a;rw[ag,<-h5];unfold WV sZ;rw[ag,fY,aR];omega
 unfold mh SI;simp only [List.length_append,aR];rw[sV _ _ ω];have:=h4 _ f;omega
theorem NG {l:List cy} (a:l.length<1048576):(∀i,0<=ix (kf l).1 i/\ix (kf l).1 i<=1048576)/\∀i,0<=ix (kf l).2 i/\ix (kf l).2 i<=1048576:=
 ⟨λi=>τ ((Di l i).1),λi=>τ ((Di l i).2)⟩
theorem ER:(∀i,0<=ix im i/\ix im i<=15)/\∀i,0<=ix iU i/\ix iU i<=15:=by
 have b:=(ln mI.1).2.1;have a:=(ln mI.2).2.1;exact⟨Oe δ b,Oe δ a⟩
theorem Ow {kind:Int} {l:List cy} {raw L:aj} {last:Bool} (a:dS kind l raw.length=true) (g:∀t∈l,0<=t.lit/\t.lit<256) (p:kind=0->L.length%8=0):((lK kind l raw last L).length:Int)=(L.length:Int)+nM kind l raw.length:=by
 have k:kind=0\/kind=1\/kind=2:=by
  unfold dS at a;by_cases j:kind=0
  · exact .inl j
  rw[aa j]at a;by_cases h:¬(kind=1\/kind=2)\/1048576<=l.length
  · rw[af h]at a;exact absurd a δ
  omega
 unfold lK nM;rcases k with rfl | rfl | rfl
 · rw[af rfl,af rfl];unfold CR;rw[ag,ag,ag,aR,aR,eT,mF,nU];have:=p rfl;omega
 · obtain⟨m1,m2⟩ :=FH a;rw[aa δ,af rfl,aa δ,af rfl,ag,nU];have h:=Ek (λi=>(ER.1 i).1) (λi=>(ER.2 i).1) l λt ht=> ⟨m2 t ht,g t ht⟩;unfold Nt;rw[sr ER.1 (NG m1).1,sr ER.2 (NG m1).2];omega
 obtain⟨m1,m2⟩ :=zC a;rw[aa δ,aa δ,aa δ,aa δ,ag,ag,nU];have c:=Oe δ (sj (lr m1));have b:=Oe δ (sj (kE m1));have h:=Ek (λi=>(c i).1) (λi=>(b i).1) l λt ht=> ⟨m2 t ht,g t ht⟩;have e:=G9 (l:=eX l) (f:=(kf l).1) (n:=fP l) (λi hi=>Og (by rw[o9];exact hi)) (286-fP l);have d:=G9 (l:=dn l) (f:=(kf l).2) (n:=fX l) (λi hi=>Og (by rw[qZ];exact hi)) (30-fX l);have o:=kT l;have m:=lY l;rw[show fP l+(286-fP l)=286 by omega]at e;rw[show fX l+(30-fX l)=30 by omega]at d;unfold Hr;rw[sr c (NG m1).1,sr b (NG m1).2,<-e,<-d];have:=R8 m1;omega
theorem YX {kind:Int} {l:List cy} {m:Nat} (a:dS kind l m=true) (k:∀t∈l,0<=t.lit/\t.lit<256):0<=nM kind l m/\nM kind l m<=60000000:=by
 by_cases b:kind=0
 · subst b;unfold nM;rw[af rfl];unfold dS at a;rw[af rfl]at a;have:=cP a;omega
 have c:l.length<1048576/\(∀t∈l,cF t)/\(kind=1\/kind=2):=by
  unfold dS at a;rw[aa b]at a;by_cases h:¬(kind=1\/kind=2)\/1048576<=l.length
  · rw[af h]at a;exact absurd a δ
  rw[aa h,gM]at a;exact⟨ω,λt ht=>cP (a t ht),ω⟩
 have d:dS kind l ([]:aj).length=true:=by
  unfold dS at a⊢;rw[aa b]at a⊢;exact a
 have f:=Ow (L:=[]) (raw:=[]) (last:=false) d k (λh=>absurd h b);have n:nM kind l ([]:aj).length=nM kind l m:=by unfold nM;rw[aa b,aa b]
 rw[n]at f
 have i:∀lit bm:aj,bg lit 15=0->bg bm 15=0->(kr lit bm l).length<=48*l.length+15:=λlit bm e j=>by
  have o:=zK (ln e).2.1 (ln j).2.1 l c.2.1;have h4:=pK (ln e).2.1 256;unfold kr;rw[ag];omega
 have hp:=Jh c.1;have e:=i im iU mI.1 mI.2;have j:=i (eX l) (dn l) (lr c.1) (kE c.1)
 have g:(lK kind l [] false []).length<=60000000:=by
  unfold lK;rw[aa b];split
  · rw[ag,nU,List.length_nil];omega
  rw[ag,ag,nU,List.length_nil];omega
 simp only [List.length_nil]at f;omega
def iV (f:Nat->Int):Nat->Int×Int
 | 0=>(-1,0)
 | k+1=>if 0<=f k/\((iV f k).1<0\/f k<(iV f k).2)then((k:Int),f k)else iV f k
def ou (au:List cy) (m:Nat) (k:Nat):Int:=if dS (k:Int) au m=true then nM (k:Int) au m else -1
theorem sY (f:Nat->Int):∀k,(iV f k).1= -1\/∃i:Nat,i<k/\(iV f k).1=(i:Int)/\(iV f k).2=f i/\0<=f i
 | 0=> .inl rfl
 | k+1=>by
   unfold iV;split
   · rename_i h
     exact .inr ⟨k,ω,rfl,rfl,h.1⟩
   rcases sY f k with h | ⟨i,b,a⟩
   · exact .inl h
   exact .inr ⟨i,ω,a⟩
theorem uP (f:Nat->Int):∀k i,i<k->0<=f i->0<=(iV f k).1/\(iV f k).2<=f i
 | 0,i,h,_=>ω
 | k+1,i,h,h0=>by
   unfold iV;have a:=sY f k;by_cases hi:i=k
   · subst hi;split
     · exact⟨σ,ez _⟩
     rename_i b
     rcases a with c | ⟨j,_,c,h7,_⟩ <;> omega
   obtain⟨p1,p2⟩ :=uP f k i ω h0;split
   · rename_i b
     constructor
     · simp
     show f k<=f i;omega
   exact⟨p1,p2⟩
theorem a2C {au:List cy} {m:Nat} (a:∀t∈au,0<=t.lit/\t.lit<256) (k:Nat): -1<=ou au m k/\ou au m k<=60000000:=by
 unfold ou;by_cases h:dS (k:Int) au m=true
 · rw[af h];have:=YX h a;omega
 rw[aa h];omega
theorem EI {au:List cy} {m k:Nat} (h:0<=ou au m k):dS (k:Int) au m=true:=by
 unfold ou at h;by_cases a:dS (k:Int) au m=true
 · exact a
 rw[aa a]at h;omega
def a2v (w:World) (b0 g:Nat) (A:ay) (L raw:aj) (au:List cy) (m:Nat) (last:Bool) (e:Ending) (w':World):Prop:=
 e= .returned (.int .i64 (iV (ou au m) 3).1)/\(((iV (ou au m) 3).1= -1/\Below w.heap.size w w')\/(0<=(iV (ou au m) 3).1/\kH w w' b0 g A (lK (iV (ou au m) 3).1 au raw last L)))
theorem KH (w:World) (b0 g n c:Nat) (A:ay) (L:aj) (I:qw w b0 g A n c L) (At:ay) (nt ct:Nat) (au:List cy) (B:mn w w.heap.size At nt au) (G:(nt:Int)<=4611686018427387904) (K:0<nt->∀E,At=some E->¬foot A g E.block) (u:∀t∈au,0<=t.lit/\t.lit<256)
  (C:ay) (m cr:Nat) (raw:aj) (F:bT .u8 w w.heap.size C m raw) (J:0<m->∀E,C=some E->¬foot A g E.block) (d:∀x∈raw,0<=x/\x<256) (last:Bool) (a:L.length<=2000000000000):
  Calls Tryz.prog 66 #[.pointer (some ⟨g,0,none⟩), .slice At nt ct, .slice C m cr, .bool last] w (a2v w b0 g A L raw au m last):=by
 have HH:=η (⟨I,B,G,K,u,F,J,d,a⟩ :_/\_/\_/\_/\_/\_/\_/\_/\_);obtain⟨f,hf⟩ :=ν (ou au m);have HF:Hid ((∀k, -1<=f k/\f k<=60000000)/\∀k,0<=f k->dS (k:Int) au m=true):=by rw[<-hf];exact⟨a2C u,λk h=>EI h⟩
 have ah:Hid (∀(W:World) (k:Nat),Below w.heap.size w W->Calls Tryz.prog 93 #[.int .i64 (k:Int), .slice At nt ct, .slice C m cr] W λe w'=>e= .returned (.int .i64 (f k))/\Below W.heap.size W w'):=λW k h=>by
  have:=Ph W (k:Int) At nt ct au ((B.below h).more h.size) G u C m cr;rw[show(if dS (k:Int) au m=true then nM (k:Int) au m else -1)=f k by rw[<-hf];rfl]at this;exact this
 have Yw:=η hf;clear I B G K u F J d a hf;go_enter Tryz.func66,Tryz.ntmps66
 go_wp2_with fail;go_loopg [9,10,11] 3 (λ(gk:Nat) (v9 v10 v11:Value) wx=>∃(k:Nat) (b c:Int),v9= .int .i64 b/\v10= .int .i64 c/\v11= .int .i64 k/\k<=3/\Hid (iV f k=(b,c))/\Hid (Below w.heap.size w wx)/\Hid (gk=3-k))
 case atStart=>exact⟨0, -1,0,rfl,rfl,rfl,ω,rfl,ax _ _,rfl⟩
 obtain⟨k,b,cc,rfl,rfl,rfl,hk,hp,l,U⟩ :=hrel;have q:=sY f k;rw[hp.out]at q;dsimp only at q;have zx: -1<=b/\b<=3:=by rcases q with h | ⟨i,h1,h2,_⟩ <;> omega
 by_cases M:k<=2
 rotate_left
 · obtain rfl:k=3:=ω;have HP:Hid ((iV (ou au m) 3).1=b):=by show _=_;rw[Yw.out,hp.out]
   clear M;by_cases y:0<=b
   rotate_left
   · have Z:b= -1:=ω;subst Z;clear q hp
     go_wp2_with fail;go_ret;exact⟨by rw[HP.out];rfl, .inl ⟨HP.out,l.out⟩⟩
   obtain⟨i,hi,ZO,Y,O⟩ :∃i:Nat,i<3/\b=(i:Int)/\cc=f i/\0<=f i:=by
    rcases q with h | ⟨i,h1,h2,h3,h4⟩
    · omega
    exact⟨i,h1,h2,h3,h4⟩
   have s:=HF.out.2 i O;rw[<-ZO]at s;obtain⟨I,B,G,K,u,F,J,d,a⟩ :=HH.out;have hs:=kH.start I l.out;obtain⟨⟨A3,n3,c3,H,wW⟩,P⟩ :=hs
   have R:=En wr b0 g n3 c3 A3 _ H b At nt ct au ((B.below l.out).more l.out.size) G (λD=>BL wW (λE e=>by
    obtain⟨Cw,o,z,_⟩ :=B.2 D;rw[e]at o;injection o with o;rw[o];exact z) (K D)) u C m cr raw ((F.below l.out).more l.out.size) (λD=>BL wW (λE e=>by
    obtain⟨Cw,o,z,_⟩ :=F.2 D;rw[e]at o;injection o with o;rw[o];exact z) (J D)) d last s a
   have ae:=η R;have T:=η (⟨wW,P⟩ :_/\_);clear I B G K u F J d a H wW P R hi ZO Y O s q hp
   go_wp2_with fail;refine ae.out.mono ?_;rintro e w5 ⟨rfl,h5⟩;have H5:=η (kH.step T.out.2 T.out.1 h5);clear h5
   go_wp2_with fail;go_ret;exact⟨by rw[HP.out];rfl, .inr ⟨by rw[HP.out];exact y,by rw[HP.out];exact H5.out⟩⟩
 have pM:(k:Int)<=2/\(0:Int)<=(k:Int):=ω;have HC:=η (ah.out wr k l.out);obtain⟨N,hN⟩ :=ν (f k);have ac:=HF.out.1 k;rw[hN]at HC ac
 have al: -1<=cc/\cc<=60000000:=by
  rcases q with h | ⟨i,_,_,h1,_⟩
  · have D:∀j,(iV f j).1= -1->(iV f j).2=0:=λj=>by
     induction j with
     | zero=>intro _;rfl
     | succ j ih=>
       intro V;unfold iV at V⊢;split at V
       · exfalso;dsimp only at V;omega
       rename_i h8;rw[aa h8];exact ih V
    have h7:=D k (by rw[hp.out];exact h);rw[hp.out]at h7;have h7:cc=0:=h7;omega
  have:=HF.out.1 i;omega
 have X:Hid (iV f (k+1)=if 0<=N/\(b<0\/N<cc)then((k:Int),N)else(b,cc)):=by
  show _=_;rw[show iV f (k+1)=if 0<=f k/\((iV f k).1<0\/f k<(iV f k).2)then((k:Int),f k)else iV f k from rfl,hp.out,hN]
 clear q hN hp M
 go_wp2_with fail;refine HC.out.mono ?_;rintro e w5 ⟨rfl,mr⟩;have p:=η (l.out.trans (mr.mono l.out.size));clear mr;by_cases Q:0<=N/\(b<0\/N<cc)
 · have r:=X.out;rw[af Q]at r;have S:=η r;clear r X;obtain⟨am,v⟩ :=Q;by_cases y:b<0
   · clear v
     go_wp2_with fail;go_roundg (3-(k+1))
     case measure=>have:=U.out;omega
     case rel=>exact⟨k+1,(k:Int),N,rfl,rfl,by go_num,ω,S.out,p.out,rfl⟩
   have ab:decide (b<0)=false:=ξ;have Vg:N<cc:=by rcases v with h | h;exact absurd h y;exact h
   clear v
   go_wp2_with fail;go_roundg (3-(k+1))
   case measure=>have:=U.out;omega
   case rel=>exact⟨k+1,(k:Int),N,rfl,rfl,by go_num,ω,S.out,p.out,rfl⟩
 have r:=X.out;rw[aa Q]at r;have S:=η r;clear r X;by_cases Lp:0<=N
 · have ab:decide (b<0)=false:=ξ;have Vg:decide (N<cc)=false:=ξ;clear Q
   go_wp2_with fail;go_roundg (3-(k+1))
   case measure=>have:=U.out;omega
   case rel=>exact⟨k+1,b,cc,rfl,rfl,by go_num,ω,S.out,p.out,rfl⟩
 have an:decide (0<=N)=false:=ξ;clear Q
 go_wp2_with fail;go_roundg (3-(k+1))
 case measure=>have:=U.out;omega
 case rel=>exact⟨k+1,b,cc,rfl,rfl,by go_num,ω,S.out,p.out,rfl⟩
theorem EN {l:List cy}:∀{out:aj},(expand out l).1=0->∀t∈l,cF t:=by
 induction l with
 | nil=>intro out _ t ht;simp at ht
 | cons k l c=>
   intro out h t ht;rw[jV]at h;by_cases a:(step out k).1=0
   · rw[af a]at h;rcases aY.1 ht with rfl | ht
     · unfold step at a;by_cases b:cF t
       · exact b
       rw[af b]at a;simp at a
     exact c h t ht
   rw[aa a]at h;exact absurd h a
structure kM where
 lev:Int
 f:jf
 L:aj
 raw:aj
 au:List cy
def iu (t:cy):Nat:=(max t.len 1).toNat
def bO (l:List cy):Nat:=(l.map iu).sum
def iJ (n i:Nat):List cy->Nat
 | []=>0
 | t::l=>if 16384<=n+iu t then i+1 else iJ (n+iu t) (i+1) l
def bP (l:List cy):Nat:=iJ 0 0 l
def qa (lev:Int) (l:List cy):Int:=if lev<=0 then 0 else(iV (ou l (bO l)) 3).1
def j3 (d:kM) (count:Nat) (last:Bool):kM:=
 { d with
   L:=lK (qa d.lev (d.au.take count)) (if d.lev<=0 then [] else d.au.take count) (d.raw.take (bO (d.au.take count))) last d.L
   raw:=d.raw.drop (bO (d.au.take count))
   au:=d.au.drop count }
def ua (e:px) (left:Nat):Nat->jf->List cy×jf
 | 0,st=>([],st)
 | k+1,st=>if left<st.D.length-st.at_ then((fS e st).1::(ua e left k (fS e st).2).1,(ua e left k (fS e st).2).2)else([],st)
theorem JP {e:px} {left:Nat}:∀(k:Nat) {st st':jf} {l:List cy},zm e left st l st'->st'.D.length-st'.at_<=left->st.Ok st.at_->st.D.length-st.at_<=k->ua e left k st=(l,st')
 | 0,st,st',l,hr,he,ky,hk=>by
   rcases hr.inv with ⟨rfl,rfl⟩ | ⟨d,h,_⟩
   · rfl
   omega
 | k+1,st,st',l,hr,he,ky,hk=>by
   unfold ua;rcases hr.inv with ⟨rfl,rfl⟩ | ⟨d,h,rfl,f⟩
   · rw[aa ω]
   rw[af h];obtain⟨N,m,j,i,c,b,a,g⟩ :=po (e:=e) ky ω;rw[JP k f he (by rw[a];exact c) (by rw[b,a];omega)]
def jN (left:Nat) (d:kM):kM:=
 { d with f:=(ua (gS d.lev) left (d.f.D.length-d.f.at_) d.f).2,au:=d.au++(ua (gS d.lev) left (d.f.D.length-d.f.at_) d.f).1 }
def lW:Nat->kM->kM
 | 0,d=>d
 | k+1,d=>if 0<bP d.au then lW k (j3 d (bP d.au) false)else d
def fH:Nat->kM->kM
 | 0,d=>d
 | k+1,d=>if 0<bP d.au/\bP d.au<d.au.length then fH k (j3 d (bP d.au) false)else d
def uv (d:kM) (x:aj):kM:=
 let d1:=jN 261 { d with raw:=d.raw++x,f:=js d.f x }
 lW d1.au.length d1
def dZ:Nat->kM->aj->kM
 | 0,d,_=>d
 | k+1,d,b=>if 0<b.length then dZ k (uv d (b.take (min b.length 16384))) (b.drop (min b.length 16384))else d
def eL (d:kM):kM:=
 let d1:=jN 0 d
 fH d1.au.length d1
def ot (d:kM):kM:=
 let d1:=eL d
 let d2:=j3 d1 d1.au.length true
 { d2 with L:=qI d2.L }
def oO (lev:Int):kM:= ⟨lev,J9,[],[],[]⟩
theorem xv:∀(l:List cy) (n i:Nat),iJ n i l<=i+l.length/\(0<iJ n i l->i<iJ n i l)
 | [],n,i=> ⟨by simp [iJ],λh=>by simp [iJ]at h⟩
 | t::l,n,i=>by
   unfold iJ;rw[bc];split
   · omega
   have:=xv l (n+iu t) (i+1);omega
theorem wA {t:cy} (h:cF t):1<=iu t/\iu t<=258:=by
 unfold iu;unfold cF at h;split at h
 · rename_i a;rw[a];decide
 omega
theorem AK:∀(l:List cy) (n i:Nat),(∀t∈l,cF t)->n<16384->0<iJ n i l->16384<=n+bO (l.take (iJ n i l-i))/\n+bO (l.take (iJ n i l-i))<=16384+257
 | [],n,i,_,_,h=>by simp [iJ]at h
 | t::l,n,i,hs,hn,h=>by
   have ht:=wA (hs t aH);unfold iJ at h⊢;by_cases b:16384<=n+iu t
   · rw[af b,show i+1-i=1 by omega];have:bO ((t::l).take 1)=iu t:=by simp [bO]
     omega
   rw[aa b]at h⊢;have a:=AK l (n+iu t) (i+1) (λu c=>hs u (aI _ c)) ω h;have e:=(xv l (n+iu t) (i+1)).2 h;obtain⟨m,d⟩ :∃m,iJ (n+iu t) (i+1) l=i+1+m:= ⟨_,(gR (by omega:i+1<=_)).symm⟩;rw[d]at a⊢;rw[show i+1+m-(i+1)=m by omega]at a;rw[show i+1+m-i=m+1 by omega];have:bO ((t::l).take (m+1))=iu t+bO (l.take m):=by simp [bO]
   omega
theorem sH:∀(l:List cy) (n i:Nat),n<16384->iJ n i l=0->n+bO l<16384
 | [],n,i,hn,_=>by simp [bO];exact hn
 | t::l,n,i,hn,h=>by
   unfold iJ at h;by_cases a:16384<=n+iu t
   · rw[af a]at h;omega
   rw[aa a]at h;have b:=sH l (n+iu t) (i+1) ω h;have:bO (t::l)=iu t+bO l:=by simp [bO]
   omega
theorem sB:∀(l:List cy) (out z:aj),expand out l=(0,z)->z.length=out.length+bO l
 | [],out,z,h=>by
   have:(0,out)=((0:Int),z):=h;injection this with _ c;rw[<-c];simp [bO]
 | t::l,out,z,h=>by
   rw[jV]at h;by_cases a:(step out t).1=0
   rotate_left
   · rw[aa a]at h;rw[h]at a;exact absurd rfl a
   rw[af a]at h;have e:=sB l _ z h
   have f:(step out t).2.length=out.length+iu t:=by
    unfold step at a⊢;unfold iu;by_cases d:¬cF t
    · rw[af d]at a;simp at a
    rw[aa d]at a⊢;by_cases c:16777216<(out.length:Int)+max t.len 1
    · rw[af c]at a;simp at a
    rw[aa c]at a⊢;by_cases b:t.len=0
    · rw[af b,ag,b];rfl
    rw[aa b]at a⊢;by_cases h4:(out.length:Int)<t.bm
    · rw[af h4]at a;simp at a
    rw[aa h4,ag,cK];unfold cF at d;rw[aa b]at d;omega
   have:bO (t::l)=iu t+bO l:=by simp [bO]
   omega
theorem Nz {P L:aj} (h:P.length%8=0):qI (P++L)=P++qI L:=by
 unfold qI;rw[ag,av,show(8-(P.length+L.length)%8)%8=(8-L.length%8)%8 by omega]
theorem Fa {P L:aj} (kind:Int) (last:Bool):yv kind last (P++L)=P++yv kind last L:=by unfold yv;simp [List.append_assoc]
theorem Je {P L:aj} (h:P.length%8=0) (kind:Int) (l:List cy) (raw:aj) (last:Bool):lK kind l raw last (P++L)=P++lK kind l raw last L:=by
 unfold lK;split
 · rw[Fa];unfold CR;rw[Nz h];simp [List.append_assoc]
 split
 · rw[Fa,av]
 rw[Fa];simp [List.append_assoc]
structure se (X P:aj) (d:kM) (all kinds stops:aj) (fA pre:List cy):Prop where
 big:X.length<=16777216
 jR:∀x∈X,0<=x/\x<256
 ev:P.length%8=0
 fd:d.f.D=X
 RZ:d.f.Ok d.f.at_
 X6:all++d.raw=X
 prx:expand [] pre=(0,all)
 tok:expand [] (pre++d.au)=(0,X.take d.f.at_)
 lit:∀t∈d.au,0<=t.lit/\t.lit<256
 rd:Reads 16777216 (P++d.L) all kinds stops fA
 st0:d.lev<=0->∀k∈kinds,k=0
 kl:kinds.length=stops.length/\∀s∈stops,0<=s/\s<=16777216
section
variable {X P:aj} {d:kM} {all kinds stops:aj} {fA pre:List cy}
theorem se.Gg (h:se X P d all kinds stops fA pre):expand all d.au=(0,X.take d.f.at_):=by
 have a:=h.tok;rw[mR,h.prx,af rfl]at a;exact a
theorem se.lens (h:se X P d all kinds stops fA pre):all.length+bO d.au=d.f.at_:=by
 have:=sB _ _ _ h.Gg;rw[aD,<-h.fd,bH h.RZ.hi]at this;omega
theorem se.sound (h:se X P d all kinds stops fA pre):∀t∈d.au,cF t:=EN (by rw[h.Gg])
theorem J3:∀{l:List cy},(∀t∈l,cF t)->l.length<=bO l
 | [],_=>σ
 | t::l,h=>by
   have c:=wA (h t aH);have b:=J3 (l:=l) λu a=>h u (aI _ a);have:bO (t::l)=iu t+bO l:=by simp [bO]
   rw[bc];omega
theorem se.first (h:se X P d all kinds stops fA pre) (count:Nat):expand all (d.au.take count)=(0,all++d.raw.take (bO (d.au.take count)))/\bO (d.au.take count)<=d.raw.length:=by
 have a:=h.Gg;rw[<-aU count d.au,mR]at a;by_cases b:(expand all (d.au.take count)).1=0
 rotate_left
 · rw[aa b]at a;rw[a]at b;exact absurd rfl b
 rw[af b]at a;obtain⟨z,hz⟩ :=tH (out:=(expand all (d.au.take count)).2) (l:=d.au.drop count) (by rw[a]);rw[a]at hz;have c:expand all (d.au.take count)=(0,(expand all (d.au.take count)).2):=by rw[<-b]
 have i:=sB _ _ _ c;obtain⟨Y,k⟩ :=ν ((expand all (d.au.take count)).2);rw[k]at hz i c;replace hz:X.take d.f.at_=Y++z:=hz
 have e:Y=X.take Y.length:=by
  have h5:(X.take d.f.at_).take Y.length=Y:=by rw[hz];simp
  have:Y.length<=(X.take d.f.at_).length:=by rw[hz,ag];omega
  rw[aD]at this;rw[iD,bH ω]at h5;exact h5.symm
 have m:Y.length<=X.length:=by
  have:Y.length<=(X.take d.f.at_).length:=by rw[hz,ag];omega
  rw[aD]at this;omega
 have g:=h.X6
 have j:bO (d.au.take count)<=d.raw.length:=by
  have:X.length=all.length+d.raw.length:=by rw[<-g,ag]
  omega
 refine⟨?_,j⟩;rw[c,e,i,<-g,List.take_append,aC ω,bQ]
theorem FA {lev:Int} {l:List cy} (e:∀t∈l,cF t) (f:∀t∈l,0<=t.lit/\t.lit<256) (c:bO l<=65535):
  (lev<=0->qa lev l=0)/\0<=qa lev l/\dS (qa lev l) (if lev<=0 then [] else l) (bO l)=true:=by
 have a:∀q:List cy,dS 0 q (bO l)=true:=λq=>by unfold dS;rw[af rfl];exact aS c
 unfold qa;by_cases h:lev<=0
 · rw[af h,af h];exact⟨λ_=>rfl,ω,a _⟩
 rw[aa h,aa h]
 have hp:=uP (ou l (bO l)) 3 0 ω (by
  unfold ou;rw[show((0:Nat):Int)=0 from rfl,af (a l)];unfold nM;rw[af rfl];omega)
 refine⟨λb=>absurd b h,hp.1, ?_⟩;rcases sY (ou l (bO l)) 3 with b | ⟨i,_,d,_,h4⟩
 · omega
 rw[d];exact EI h4
theorem se.blk (h:se X P d all kinds stops fA pre) (count:Nat) (l:bO (d.au.take count)<=65535):
  dS (qa d.lev (d.au.take count)) (if d.lev<=0 then [] else d.au.take count) (d.raw.take (bO (d.au.take count))).length=true/\
  (∀x∈d.raw.take (bO (d.au.take count)),0<=x/\x<256)/\
  (∀t∈(if d.lev<=0 then [] else d.au.take count),0<=t.lit/\t.lit<256)/\
  (qa d.lev (d.au.take count)≠0->(expand all (if d.lev<=0 then [] else d.au.take count)).1=0)/\
  lO (qa d.lev (d.au.take count)) (if d.lev<=0 then [] else d.au.take count) (d.raw.take (bO (d.au.take count))) all=all++d.raw.take (bO (d.au.take count))/\
  (all++d.raw.take (bO (d.au.take count))).length<=16777216:=by
 obtain⟨j,n⟩ :=h.first count
 have i:∀t∈d.au.take count,0<=t.lit/\t.lit<256:=λt ht=>h.lit t (aO ht);obtain⟨f,m,k⟩ :=FA (lev:=d.lev) (λt ht=>h.sound t (aO ht)) i l;have g:(d.raw.take (bO (d.au.take count))).length=bO (d.au.take count):=by rw[aD];omega
 have e:∀x∈d.raw,x∈X:=λx c=>by rw[<-h.X6];exact bD _ c
 refine⟨by rw[g];exact k,λx c=>h.jR x (e x (aO c)),λt ht=> ?_,λa=> ?_, ?_, ?_⟩
 · split at ht
   · simp at ht
   exact i t ht
 · by_cases b:d.lev<=0
   · exact absurd (f b) a
   rw[aa b,j]
 · unfold lO;by_cases a:qa d.lev (d.au.take count)=0
   · rw[af a]
   rw[aa a,aa (λb=>a (f b)),j]
 have h5:X.length=all.length+d.raw.length:=by rw[<-h.X6,ag]
 have:=h.big;rw[ag,g];omega
theorem se.lay (h:se X P d all kinds stops fA pre) (count:Nat) (f:bO (d.au.take count)<=65535):
  ∃g,se X P (j3 d count false) (all++d.raw.take (bO (d.au.take count))) (kinds++[qa d.lev (d.au.take count)]) (stops++[((all++d.raw.take (bO (d.au.take count))).length:Int)]) g (pre++d.au.take count):=by
 obtain⟨b1,b2,b3,b4,b5,b6⟩ :=h.blk count f;have e:=h.rd.next b1 b2 b3 b4 (by rw[b5];exact b6)
 rw[b5,Je h.ev]at e;refine⟨_,h.big,h.jR,h.ev,h.fd,h.RZ, ?_, ?_, ?_,λt ht=>h.lit t (bu ht),e,λc k b=> ?_, ?_⟩
 · show(all++_)++d.raw.drop _=X;rw[av,aU];exact h.X6
 · rw[mR,h.prx,af rfl];exact(h.first count).1
 · show expand [] ((pre++d.au.take count)++d.au.drop count)=_;rw[av,aU];exact h.tok
 · rcases aP.1 b with b | b
   · exact h.st0 c k b
   rw[bf.1 b];unfold qa;rw[af (show d.lev<=0 from c)]
 refine⟨by rw[ag,ag,h.kl.1];rfl,λs a=> ?_⟩;rcases aP.1 a with a | a
 · exact h.kl.2 s a
 rw[bf.1 a];omega
theorem se.last (h:se X P d all kinds stops fA pre) (count:Nat) (b:bO (d.au.take count)<=65535):
  ∃c,Ends 16777216 (P++(j3 d count true).L) (all++d.raw.take (bO (d.au.take count))) (kinds++[qa d.lev (d.au.take count)]) (stops++[((all++d.raw.take (bO (d.au.take count))).length:Int)]) c:=by
 obtain⟨b1,b2,b3,b4,b5,b6⟩ :=h.blk count b;have a:=h.rd.fin b1 b2 b3 b4 (by rw[b5];exact b6);rw[b5,Je h.ev]at a;exact⟨_,a⟩
theorem se.tokens (h:se X P d all kinds stops fA pre) (left:Nat) {l:List cy} {f:jf} (b:zm (gS d.lev) left d.f l f) (hf:f.Ok f.at_) (hD:f.D=d.f.D) (c:∀t∈l,0<=t.lit/\t.lit<256):
  se X P { d with f:=f,au:=d.au++l } all kinds stops fA pre:=by
 refine⟨h.big,h.jR,h.ev,hD.trans h.fd,hf,h.X6,h.prx, ?_,λt ht=> ?_,h.rd,h.st0,h.kl⟩
 · have a:=MG b h.RZ (by rw[h.fd];exact h.big) [] (pre++d.au) (by rw[h.fd];exact h.tok);rw[av,hD,h.fd]at a;exact a
 rcases aP.1 ht with ht | ht
 · exact h.lit t ht
 exact c t ht
theorem se.grow (h:se X P d all kinds stops fA pre) (x:aj) (c:(X++x).length<=16777216) (b:∀v∈x,0<=v/\v<256):
  se (X++x) P { d with raw:=d.raw++x,f:=js d.f x } all kinds stops fA pre:=by
 have a:d.f.at_<=X.length:=by rw[<-h.fd];exact h.RZ.hi
 refine⟨c,λv hv=> ?_,h.ev, ?_,h.RZ.write x, ?_,h.prx, ?_,h.lit,h.rd,h.st0,h.kl⟩
 · rcases aP.1 hv with hv | hv
   · exact h.jR v hv
   exact b v hv
 · show d.f.D++x=X++x;rw[h.fd]
 · show all++(d.raw++x)=X++x;rw[<-av,h.X6]
 show _=(0,(X++x).take d.f.at_);rw[cU a];exact h.tok
theorem se.taken (h:se X P d all kinds stops fA pre) {Q R:aj} (a:d.L=Q++R) (b:Q.length%8=0):se X (P++Q) { d with L:=R } all kinds stops fA pre:=by
 refine⟨h.big,h.jR,by rw[ag];have:=h.ev;omega,h.fd,h.RZ,h.X6,h.prx,h.tok,h.lit, ?_,h.st0,h.kl⟩;have:=h.rd;rw[a]at this;show Reads _ ((P++Q)++R) _ _ _ _;rw[av];exact this
theorem se.new (lev:Int):se [] [] (oO lev) [] [] [] [] []:=
 ⟨σ,λx a=>by simp at a,rfl,rfl,Ok.new,rfl,rfl,rfl,λt ht=>by simp [oO]at ht,Reads.nil _,λ_ k c=>by simp at c,rfl,λs b=>by simp at b⟩
end
theorem QQ {e:px} {st:jf} (hD:∀x∈st.D,0<=x/\x<256) (a:st.at_<st.D.length):0<=(fS e st).1.lit/\(fS e st).1.lit<256:=by
 have b:0<=(rO st).lit/\(rO st).lit<256:=hD _ (Bh a);unfold fS;split
 · exact b
 split
 · split
   · exact b
   exact⟨ez 0,(by decide:(0:Int)<256)⟩
 exact⟨ez 0,(by decide:(0:Int)<256)⟩
theorem Eh {e:px} {left:Nat}:∀(k:Nat) (st:jf),st.Ok st.at_->(∀x∈st.D,0<=x/\x<256)->
  zm e left st (ua e left k st).1 (ua e left k st).2/\(ua e left k st).2.Ok (ua e left k st).2.at_/\(ua e left k st).2.D=st.D/\(∀t∈(ua e left k st).1,0<=t.lit/\t.lit<256)/\
  (st.D.length-st.at_<=k->st.D.length-(ua e left k st).2.at_<=left)
 | 0,st,ky,hD=> ⟨.nil st,ky,rfl,λt ht=>by simp [ua]at ht,λh=>by have:(ua e left 0 st).2=st:=rfl;rw[this];omega⟩
 | k+1,st,ky,hD=>by
   unfold ua;by_cases h:left<st.D.length-st.at_
   · rw[af h];obtain⟨N,m,l,j,c,a,b,i⟩ :=po (e:=e) ky ω;obtain⟨g,f,d,h4,h5⟩ :=Eh (e:=e) (left:=left) k (fS e st).2 (by rw[b];exact c) (by rw[a];exact hD);refine⟨zm.a5s h g,f,d.trans a,λt ht=> ?_,λn=> ?_⟩
     · rcases aY.1 ht with rfl | ht
       · exact QQ hD ω
       exact h4 t ht
     have:=h5 (by rw[a,b];omega);rw[a]at this;exact this
   rw[aa h];exact⟨.nil st,ky,rfl,λt ht=>by simp at ht,λ_=>by show st.D.length-st.at_<=left;omega⟩
theorem Av {I:kM->Prop} (h:∀d,I d->0<bP d.au->I (j3 d (bP d.au) false)):∀k d,I d->I (lW k d)
 | 0,d,hd=>hd
 | k+1,d,hd=>by
   unfold lW;split
   · rename_i a;exact Av h k _ (h d hd a)
   exact hd
theorem qF {I:kM->Prop} (h:∀d,I d->0<bP d.au->I (j3 d (bP d.au) false)):∀k d,I d->I (fH k d)
 | 0,d,hd=>hd
 | k+1,d,hd=>by
   unfold fH;split
   · rename_i a;exact qF h k _ (h d hd a.1)
   exact hd
theorem ma (l:List cy):bP l<=l.length:=by have:=(xv l 0 0).1;unfold bP;omega
theorem Ay:∀k d,d.au.length<=k->bP (fH k d).au=0\/(fH k d).au.length<=bP (fH k d).au
 | 0,d,h=>by have:=ma d.au;exact .inl (by show bP d.au=0;omega)
 | k+1,d,h=>by
   unfold fH;split
   · refine Ay k _ ?_;show(d.au.drop _).length<=k;rw[az];omega
   omega
theorem Hy:∀k d,(fH k d).lev=d.lev/\(fH k d).f=d.f:=λk d=>by
 have:=qF (I:=λx=>x.lev=d.lev/\x.f=d.f) (λx a _=>a) k d ⟨rfl,rfl⟩;exact this
def od (X P:aj) (d:kM):Prop:=∃all kinds stops fA pre,se X P d all kinds stops fA pre
theorem Ld {X P:aj} {d:kM} {all kinds stops:aj} {fA pre:List cy} (h:se X P d all kinds stops fA pre) (hf:0<bP d.au):16384<=bO (d.au.take (bP d.au))/\bO (d.au.take (bP d.au))<=16641:=by
 have:=AK d.au 0 0 h.sound ω hf;rw[Nat.sub_zero,bS]at this;exact this
theorem od.lay {X P:aj} {d:kM} (h:od X P d) (hf:0<bP d.au):od X P (j3 d (bP d.au) false):=by
 obtain⟨all,kinds,stops,fA,pre,h⟩ :=h;obtain⟨b,a⟩ :=h.lay (bP d.au) (τ (Ld h hf));exact⟨_,_,_,_,_,a⟩
theorem Bi {X P:aj} {d:kM} {all kinds stops:aj} {fA pre:List cy} (h:se X P d all kinds stops fA pre) (count:Nat) (last:Bool) (k:bO (d.au.take count)<=65535):
  (j3 d count last).L.length<=d.L.length+8*bO (d.au.take count)+42:=by
 have m:∀t∈d.au.take count,0<=t.lit/\t.lit<256:=λt ht=>h.lit t (aO ht);have a:(d.raw.take (bO (d.au.take count))).length=bO (d.au.take count):=by rw[aD];have:=(h.first count).2;omega
 obtain⟨o,s,j⟩ :=FA (lev:=d.lev) (λt ht=>h.sound t (aO ht)) m k;show(lK _ _ _ _ _).length<=_;by_cases e:qa d.lev (d.au.take count)=0
 · rw[e];unfold lK;rw[af rfl];unfold CR;rw[ag,ag,ag,aR,aR,mF,nU,eT,a];omega
 have c:¬d.lev<=0:=λg=>e (o g);rw[aa c];rw[aa c]at j;have p:=Ow (kind:=qa d.lev (d.au.take count)) (l:=d.au.take count) (raw:=d.raw.take (bO (d.au.take count))) (L:=d.L) (last:=last) (by rw[a];exact j) m (λg=>absurd g e);rw[a]at p
 have u:nM (qa d.lev (d.au.take count)) (d.au.take count) (bO (d.au.take count))<=40+8*(bO (d.au.take count):Int):=by
  have n:ou (d.au.take count) (bO (d.au.take count)) 0=40+8*(bO (d.au.take count):Int):=by
   unfold ou;have f:dS ((0:Nat):Int) (d.au.take count) (bO (d.au.take count))=true:=by unfold dS;rw[af (show((0:Nat):Int)=0 from rfl)];exact aS k
   rw[af f];unfold nM;rw[af (show((0:Nat):Int)=0 from rfl)]
  obtain⟨p1,p2⟩ :=uP (ou (d.au.take count) (bO (d.au.take count))) 3 0 ω (by rw[n];omega);rw[n]at p2;have b:qa d.lev (d.au.take count)=(iV (ou (d.au.take count) (bO (d.au.take count))) 3).1:=by unfold qa;rw[aa c]
  rcases sY (ou (d.au.take count) (bO (d.au.take count))) 3 with v | ⟨i,_,q,h4,h5⟩
  · omega
  rw[h4]at p2;have r:ou (d.au.take count) (bO (d.au.take count)) i=nM (i:Int) (d.au.take count) (bO (d.au.take count)):=by unfold ou;rw[af (EI h5)]
  rw[r]at p2;rw[b,q];exact p2
 omega
section
variable {X P:aj} {d:kM} {all kinds stops:aj} {fA pre:List cy}
theorem se.jN (h:se X P d all kinds stops fA pre) (left:Nat):se X P (jN left d) all kinds stops fA pre/\X.length-(jN left d).f.at_<=left:=by
 obtain⟨c,b,a,h4,h5⟩ :=Eh (e:=gS d.lev) (left:=left) (d.f.D.length-d.f.at_) d.f h.RZ (by rw[h.fd];exact h.jR);refine⟨h.tokens left c b a h4, ?_⟩;have h6:=h5 (ai _);have e:X.length=d.f.D.length:=by rw[h.fd]
 rw[e];exact h6
theorem od.fH (h:od X P d) (k:Nat):od X P (fH k d):=qF (λ_ q hf=>q.lay hf) k d h
theorem WS (h:se X P (eL d) all kinds stops fA pre) (g:X.length-(jN 0 d).f.at_<=0):bO (eL d).au<=16641/\bO (eL d).au=(eL d).raw.length:=by
 have e:=Hy (jN 0 d).au.length (jN 0 d);have a:bP (eL d).au=0\/(eL d).au.length<=bP (eL d).au:=Ay (jN 0 d).au.length (jN 0 d) (ai _);have j:=h.lens;have i:X.length=all.length+(eL d).raw.length:=by rw[<-h.X6,ag]
 have c:(eL d).f.at_<=X.length:=by have:=h.RZ.hi;rw[h.fd]at this;exact this
 have hf:(eL d).f.at_=(jN 0 d).f.at_:=by show(fH _ _).f.at_=_;rw[e.2]
 refine⟨?_,ω⟩;rcases a with a | a
 · have:=sH (eL d).au 0 0 ω a;omega
 by_cases b:0<bP (eL d).au
 · have:=Ld h b;rw[aC a]at this;omega
 have:=sH (eL d).au 0 0 ω (show iJ 0 0 (eL d).au=0 by unfold bP at b;omega);omega
theorem od.rest (h:od X P d):∃all kinds stops fA pre,se X P (eL d) all kinds stops fA pre/\bO (eL d).au<=16641/\bO (eL d).au=(eL d).raw.length:=by
 obtain⟨all,kinds,stops,fA,pre,h⟩ :=h;obtain⟨j,i⟩ :=h.jN 0;obtain⟨a,b,c,e,f,g⟩ :=od.fH ⟨all,kinds,stops,fA,pre,j⟩ (jN 0 d).au.length;exact⟨a,b,c,e,f,g,WS g i⟩
theorem od.close (h:od X P d):∃t,(start (P++(ot d).L) 16777216).fin=(t,8)/\t.x=[]/\t.all=X/\(P++(ot d).L).length%8=0/\dO (P++(ot d).L):=by
 obtain⟨all,kinds,stops,fA,pre,h,i,f⟩ :=h.rest;have a:(eL d).au.take (eL d).au.length=(eL d).au:=aC (ai _);obtain⟨j,hE⟩ :=h.last (eL d).au.length (by rw[a];omega);rw[a,f,aC (ai _),h.X6]at hE;have g:P++(ot d).L=qI (P++(j3 (eL d) (eL d).au.length true).L):=(Nz h.ev).symm;obtain⟨t,e,c,b,_⟩ :=hE.fin;rw[g];exact⟨t,e,c,b,pS _,dO.qI hE.1⟩
end
end Go.Proofs.YtdhmnlpfhfmpfaaGreat
