/-
  part
-/
import Derived.Test.YtddhegejmkgmjaaGreatPk18
set_option linter.unusedVariables false
set_option maxRecDepth 100000
set_option maxHeartbeats 4000000
namespace Go.Proofs.YtddhegejmkgmjaaGreat
open Go.RowKit
def Reads (M:Nat) (L all kinds stops:List Int) (a8:List aF):Prop:=
 bc L/\all.length<=M/\∀y,bc y->(L.length+y.length)%8=0->∃t,IS.Steps (start (L++y) M) t/\t.st=0/\t.x=y/\t.all=all/\t.rem=M-all.length/\t.kinds=kinds/\t.stops=stops/\t.a8=a8
def Ends (M:Nat) (L all kinds stops:List Int) (a8:List aF):Prop:=
 bc L/\all.length<=M/\∀y,bc y->(L.length+y.length)%8=0->∃t,IS.Steps (start (L++y) M) t/\t.st=8/\t.x=gO y/\t.all=all/\t.kinds=kinds/\t.stops=stops/\t.a8=a8
theorem Reads.nil (M:Nat):Reads M [] [] [] [] []:= ⟨bc.br,Nat.zero_le _,λy a _=> ⟨start y M, .refl _,rfl,rfl,rfl,rfl,rfl,rfl,rfl⟩⟩
def gP (kind:Int) (l:List aF) (raw all:List Int):List Int:=if kind=0 then all++raw else(expand all l).2
theorem AE:aX 0 2=[0,0]/\aX 1 2=[1,0]/\aX 2 2=[0,1]:=δ
theorem a2H {b c a:Int} (d:b=0\/b=1) (f:c=0\/c=1) (e:a=0\/a=1) (z:List Int):num ([b,c,a]++z) 3=(b+2*c+4*a).toNat:=by
 rw[nE (x:=[b,c,a]) (n:=3) rfl];rcases d with rfl | rfl <;> rcases f with rfl | rfl <;> rcases e with rfl | rfl <;> rfl
theorem Ks (n:Nat) (h:n<=65535):aX (4294967295-(n:Int)) 16=aX (65535-(n:Int)) 16:=by
 rw[<-IG (4294967295-(n:Int)),<-IG (65535-(n:Int))];have e:(2:Int) ^ 16=65536:=δ;rw[e];congr 1;omega
theorem bc.blk (lit ak:List Int) (l:List aF):bc (fp lit ak l):=by
 unfold fp dS;refine bc.app (λx a=> ?_) (bc.sym _ _);obtain⟨t,_,ht⟩ :=List.mem_flatMap.1 a;unfold nN at ht
 split at ht
 · exact bc.sym _ _ x ht
 · exact(((bc.sym _ _).app (bc.aX _ _)).app (bc.sym _ _)).app (bc.aX _ _) x ht
theorem bc.a2K (l:List aF):bc (ib l):=by
 unfold ib qy jk;refine((((bc.aX _ _).app (bc.aX _ _)).app (bc.aX _ _)).app λx a=> ?_).app λx a=> ?_
 · obtain⟨t,_,ht⟩ :=List.mem_flatMap.1 a;exact bc.aX _ _ x ht
 · obtain⟨t,_,ht⟩ :=List.mem_flatMap.1 a;exact(bc.sym _ _).app (bc.aX _ _) x ht
theorem bc.ru {L:List Int} (h:bc L) (kind:Int) (last:Bool):bc (ru kind last L):=(h.app (bc.aX _ _)).app (bc.aX _ _)
theorem bc.out {L:List Int} (h:bc L) (kind:Int) (l:List aF) (raw:List Int) (last:Bool):bc (gI kind l raw last L):=by
 unfold gI
 split
 · unfold xj;exact(((bc.kE (h.ru _ _)).app (bc.aX _ _)).app (bc.aX _ _)).app (bc.bV _)
 · split
   · exact(h.ru _ _).app (bc.blk _ _ _)
   · exact((h.ru _ _).app (bc.a2K _)).app (bc.blk _ _ _)
section
variable {M:Nat} {L all kinds stops:List Int} {a8:List aF} {kind:Int} {l:List aF} {raw:List Int} {last:Bool}
theorem Gx {t:IS} {y:List Int} (o:t.st=3) (F:t.x=ib l++y) (e:l.length<1048576):
  ∃c,IS.Steps t c/\EG t c/\c.st=6/\c.lt=bM l/\c.ds=aV l/\c.x=y:=by
 have I:=fQ l;have H:=gV l;have G:=py l
 have j:t.x=aX (((bZ l-257:Nat):Int)) 5++(aX (((cG l-1:Nat):Int)) 5++(aX (((ko l-4:Nat):Int)) 4++(qy (aO l) (ko l)++(jk (aO l) (aP l)++y)))):=by
  rw[F];unfold ib;simp only [List.append_assoc]
 have r:=GH o j ω ω ω;have i:=IS.Steps.one (s:=t) (by rw[r]);rw[r]at i;obtain⟨b,m⟩ :∃b:IS,b={ t with x:=qy (aO l) (ko l)++(jk (aO l) (aP l)++y),c0:=bZ l-257+257,c1:=cG l-1+1,c2:=ko l-4+4,lens:=[],st:=4 }:= ⟨_,rfl⟩;rw[<-m]at i
 have Z:EG t b/\b.st=4/\b.c2=ko l/\b.lens=[]/\b.x=vg (aO l) 0 (ko l)++(jk (aO l) (aP l)++y)/\b.c0=bZ l/\b.c1=cG l:=by
  rw[m,Ku];exact⟨⟨rfl,rfl,rfl,rfl,rfl,rfl⟩,rfl,by dsimp only;omega,rfl,rfl,by dsimp only;omega,by dsimp only;omega⟩
 clear m r;obtain⟨L,b1,X,W,V,U,T⟩ :=Z;obtain⟨g,D,K,c1,c2,u,S,R,Q⟩ :=su (hd:=aO l) (n:=ko l) ω (qh l) (ko l) 0 b ω (Nat.zero_le _) b1 X W V;have p:=N4 (n:=ko l) (hd:=aO l) ω (iD l) (OY l);have q:=JZ (hd:=aO l) c1 (by rw[u,qz _ ω,c2]) (by rw[u];exact p) (fA l) (by rw[u];exact OX e);have h:=IS.Steps.one (s:=g) (by rw[q]);rw[q]at h;obtain⟨a,k⟩ :∃a:IS,a={ g with hd:=aO l,lens:=[],st:=5 }:= ⟨_,rfl⟩;rw[<-k]at h
 have Y:EG g a/\a.st=5/\a.hd=aO l/\a.lens=[]/\a.x=jk (aO l) (aP l)++y/\a.c0=bZ l/\a.c1=cG l:=by
  rw[k];exact⟨⟨rfl,rfl,rfl,rfl,rfl,rfl⟩,rfl,rfl,rfl,S,R.trans U,Q.trans T⟩
 clear k q;obtain⟨J,d1,d2,d3,d4,d5,d6⟩ :=Y;obtain⟨w,E⟩ :=DD _ (bM l++aV l) rfl (yT e) [];have f:(aP l).foldl gF []=bM l++aV l:=by rw[List.nil_append]at w;exact w
 obtain⟨B,C,h4,P,z,O,N,M⟩ :=vE (fA l) (aP l) a [] d1 d2 d3 d4 E (CD e) (by rw[f,List.length_append,jl,lT,d5,d6]);rw[f]at z;have A:=P8 (l:=bM l) (d:=aV l) P z (by rw[N,d5,jl]) (by rw[M,d6,lT]) (gz e) (fz e) (IC e);have v:=IS.Steps.one (s:=B) (by rw[A]);rw[A]at v;exact⟨_,(((i.trans D).trans h).trans C).trans v,((L.trans K).trans (J.trans h4)).trans ⟨rfl,rfl,rfl,rfl,rfl,rfl⟩,rfl,rfl,rfl,O⟩
theorem Reads.blk (h:Reads M L all kinds stops a8) (i:bh kind l raw.length=true) (T:∀x∈raw,0<=x/\x<256) (I:∀t∈l,0<=t.lit/\t.lit<256) (Y:kind≠0->(expand all l).1=0) (K:(gP kind l raw all).length<=M) (y:List Int) (G:bc y) (J:((gI kind l raw last L).length+y.length)%8=0):
  ∃t:IS,IS.Steps (start (gI kind l raw last L++y) M) t.over/\t.x=y/\t.last=last/\t.all=gP kind l raw all/\t.rem=M-(gP kind l raw all).length/\t.kinds=kinds++[kind]/\t.stops=stops/\t.a8=a8++(if kind=0 then [] else l):=by
 obtain⟨U,ab,W⟩ :=h
 have e:kind=0\/kind=1\/kind=2:=by
  unfold bh at i;by_cases Z:kind=0
  · exact .inl Z
  · rw[if_neg Z]at i;by_cases h:¬(kind=1\/kind=2)\/1048576<=l.length
    · rw[if_pos h]at i;exact absurd i δ
    · omega
 obtain⟨mk,H⟩ :=ν ((if last=true then(1:Int)else 0):Int);have c:mk=0\/mk=1:=by cases last <;> simp at H <;> omega
 have S:decide (mk=1)=last:=by cases last <;> simp at H <;> subst H <;> rfl
 have X6:aX mk 1=[mk]:=by rcases c with rfl | rfl <;> rfl
 have X:ru kind last L=L++([mk]++aX kind 2):=by unfold ru;rw[H,X6,List.append_assoc]
 rcases e with rfl | rfl | rfl
 · have o:raw.length<=65535:=by
    unfold bh at i;rw[if_pos rfl]at i;exact of_decide_eq_true i
   have n:gI 0 l raw last L=kE (L++[mk,0,0])++aX raw.length 16++aX (65535-(raw.length:Int)) 16++bV raw:=by
    unfold gI;rw[if_pos rfl];unfold xj;rw[X,AE.1,Ks _ o];rfl
   obtain⟨pad,v,Q⟩ :∃pad:List Int,kE (L++[mk,0,0])=L++[mk,0,0]++pad/\pad.length<8:= ⟨_,rfl,by rw[List.length_replicate];omega⟩;have Qu:bc pad:=λx a=>(bc.kE (U.app (b:=[mk,0,0]) (by intro x a;rcases List.mem_cons.1 a with rfl | a;exact c;simp at a;omega))) x (by rw[v];exact List.mem_append_right _ a)
   have m:gI 0 l raw last L++y=L++([mk,0,0]++(pad++(aX raw.length 16++aX (65535-raw.length) 16++(bV raw++y)))):=by
    rw[n,v];simp only [List.append_assoc]
   have u:bc ([mk,0,0]++(pad++(aX raw.length 16++aX (65535-(raw.length:Int)) 16++(bV raw++y)))):=
    bc.app (by intro x a;rcases List.mem_cons.1 a with rfl | a;exact c;simp at a;omega) (Qu.app (((bc.aX _ _).app (bc.aX _ _)).app ((bc.bV _).app G)))
   obtain⟨t,j,b1,F,E,p,D,C,A⟩ :=W _ u (by
    have:(gI 0 l raw last L++y).length%8=0:=by rw[List.length_append];exact J
    rw[m,List.length_append]at this;exact this)
   have P:y.length%8=0:=by
    rw[n,List.length_append,List.length_append,List.length_append,af,af,bD]at J;have:=jA (L++[mk,0,0]);omega
   have g:gP 0 l raw all=all++raw:=if_pos rfl;rw[g]at K⊢;rw[List.length_append]at K;have h2:=B6 (s:=t) (B:=raw) (pad:=pad) (y:=y) (h:=mk) b1 c F Q P G T o (by rw[p];omega);rw[<-m]at j;refine⟨_,j.trans h2,rfl,S, ?_, ?_, ?_,C, ?_⟩
   · show t.all++raw=_;rw[E]
   · show t.rem-raw.length=_;rw[p,List.length_append];omega
   · show t.kinds++[0]=_;rw[D]
   · show t.a8=_;rw[A,if_pos rfl,List.append_nil]
 · obtain⟨m1,m2⟩ :=Az i
   have m:gI 1 l raw last L++y=L++([mk,1,0]++(fp cY dP l++y)):=by
    unfold gI;rw[if_neg δ,if_pos rfl,X,AE.2.1];simp only [List.append_assoc,List.cons_append,List.nil_append]
   have u:bc ([mk,1,0]++(fp cY dP l++y)):=bc.app (by intro x a;rcases List.mem_cons.1 a with rfl | a;exact c;simp at a;omega) ((bc.blk _ _ _).app G)
   obtain⟨t,j,b1,F,E,p,D,C,A⟩ :=W _ u (by
    have:(gI 1 l raw last L++y).length%8=0:=by rw[List.length_append];exact J
    rw[m,List.length_append]at this;exact this)
   rw[<-m]at j;have g:gP 1 l raw all=(expand all l).2:=if_neg δ;rw[g]at K⊢;have R:=a2H c (.inr rfl:(1:Int)=0\/(1:Int)=1) (.inl rfl:(0:Int)=0\/(0:Int)=1) (fp cY dP l++y)
   have w:t.step=({ t with last:=last,kinds:=t.kinds++[1],x:=fp cY dP l++y,lt:=cY,ds:=dP,st:=6 },0):=by
    unfold IS.step;rw[if_pos b1];unfold IS.block;rw[F,R,if_neg (by rw[List.length_append];simp),if_neg (by rcases c with rfl | rfl <;> decide),if_pos (by rcases c with rfl | rfl <;> decide),gU (by rfl)];rw[<-S];rcases c with rfl | rfl <;> rfl
   have r:=j.tail (by rw[w]);rw[w]at r;have V:wH ({ t with last:=last,kinds:=t.kinds++[1],x:=fp cY dP l++y,lt:=cY,ds:=dP,st:=6 }:IS) cY dP last (fp cY dP l++y) all (M-all.length) (kinds++[1]) stops a8:= ⟨rfl,rfl,rfl,rfl,rfl,E,p,by dsimp only;rw[D],C,A⟩;have f:expand all l=(0,(expand all l).2):=by rw[<-Y δ]
   obtain⟨q,N,d⟩ :=xo V iw.1 iw.2 (by rw[kF];omega) (uv 256 ω) (λk e=> ⟨m2 k e,I k e,Rp (m2 k e) (I k e)⟩) f ω;refine⟨_,r.trans N,rfl,d.last,d.all, ?_,d.kinds,d.stops, ?_⟩
   · show q.rem=_
     rw[d.rem];obtain⟨z,O⟩ :=nU (out:=all) (l:=l) (by rw[f]);have:=congrArg List.length O;rw[List.length_append]at this;omega
   · show q.a8=_
     rw[d.a8,if_neg δ]
 · obtain⟨m1,m2⟩ :=tL i
   have m:gI 2 l raw last L++y=L++([mk,0,1]++(ib l++(fp (bM l) (aV l) l++y))):=by
    unfold gI;rw[if_neg δ,if_neg δ,X,AE.2.2];simp only [List.append_assoc,List.cons_append,List.nil_append]
   have u:bc ([mk,0,1]++(ib l++(fp (bM l) (aV l) l++y))):=bc.app (by intro x a;rcases List.mem_cons.1 a with rfl | a;exact c;simp at a;omega) ((bc.a2K _).app ((bc.blk _ _ _).app G))
   obtain⟨t,j,b1,F,E,p,D,C,A⟩ :=W _ u (by
    have:(gI 2 l raw last L++y).length%8=0:=by rw[List.length_append];exact J
    rw[m,List.length_append]at this;exact this)
   rw[<-m]at j;have g:gP 2 l raw all=(expand all l).2:=if_neg δ;rw[g]at K⊢;have R:=a2H c (.inl rfl:(0:Int)=0\/(0:Int)=1) (.inr rfl:(1:Int)=0\/(1:Int)=1) (ib l++(fp (bM l) (aV l) l++y))
   have w:t.step=({ t with last:=last,kinds:=t.kinds++[2],x:=ib l++(fp (bM l) (aV l) l++y),st:=3 },0):=by
    unfold IS.step;rw[if_pos b1];unfold IS.block;rw[F,R,if_neg (by rw[List.length_append];simp),if_neg (by rcases c with rfl | rfl <;> decide),if_neg (by rcases c with rfl | rfl <;> decide),if_pos (by rcases c with rfl | rfl <;> decide),gU (by rfl)];rw[<-S];rcases c with rfl | rfl <;> rfl
   have r:=j.tail (by rw[w]);rw[w]at r;obtain⟨t1,N,d,c1,c2,c3,c4⟩ :=Gx (t:={ t with last:=last,kinds:=t.kinds++[2],x:=ib l++(fp (bM l) (aV l) l++y),st:=3 }) rfl rfl m1;have V:wH t1 (bM l) (aV l) last (fp (bM l) (aV l) l++y) all (M-all.length) (kinds++[2]) stops a8:= ⟨c1,c2,c3,d.last,c4,d.all.trans E,d.rem.trans p,d.kinds.trans (by dsimp only;rw[D]),d.stops.trans C,d.a8.trans A⟩;have f:expand all l=(0,(expand all l).2):=by rw[<-Y δ]
   obtain⟨q,s4,h4⟩ :=xo V (gz m1) (fz m1) (by rw[jl];have:=fQ l;omega) (IC m1) (λk e=> ⟨m2 k e,I k e,Rj m1 e (m2 k e) (I k e)⟩) f ω;refine⟨_,(r.trans N).trans s4,rfl,h4.last,h4.all, ?_,h4.kinds,h4.stops, ?_⟩
   · show q.rem=_
     rw[h4.rem];obtain⟨z,O⟩ :=nU (out:=all) (l:=l) (by rw[f]);have:=congrArg List.length O;rw[List.length_append]at this;omega
   · show q.a8=_
     rw[h4.a8,if_neg δ]
theorem Reads.next (h:Reads M L all kinds stops a8) (e:bh kind l raw.length=true) (a:∀x∈raw,0<=x/\x<256) (f:∀t∈l,0<=t.lit/\t.lit<256) (i:kind≠0->(expand all l).1=0) (b:(gP kind l raw all).length<=M):
  Reads M (gI kind l raw false L) (gP kind l raw all) (kinds++[kind]) (stops++[((gP kind l raw all).length:Int)]) (a8++(if kind=0 then [] else l)):=by
 refine⟨h.1.out _ _ _ _,b,λy d g=> ?_⟩;obtain⟨t,s,b1,o,c,n,m,k,j⟩ :=h.blk e a f i b y d g;refine⟨_,s, ?_⟩;unfold IS.over;rw[o,if_neg δ];exact⟨rfl,b1,c,n,m,by dsimp only;rw[k,c],j⟩
theorem Reads.fin (h:Reads M L all kinds stops a8) (e:bh kind l raw.length=true) (a:∀x∈raw,0<=x/\x<256) (f:∀t∈l,0<=t.lit/\t.lit<256) (i:kind≠0->(expand all l).1=0) (b:(gP kind l raw all).length<=M):
  Ends M (gI kind l raw true L) (gP kind l raw all) (kinds++[kind]) (stops++[((gP kind l raw all).length:Int)]) (a8++(if kind=0 then [] else l)):=by
 refine⟨h.1.out _ _ _ _,b,λy d g=> ?_⟩;obtain⟨t,s,b1,n,c,o,m,k,j⟩ :=h.blk e a f i b y d g;refine⟨_,s, ?_⟩;unfold IS.over;rw[n,if_pos rfl];exact⟨rfl,by dsimp only;rw[b1],c,m,by dsimp only;rw[k,c],j⟩
theorem Ends.fin (h:Ends M L all kinds stops a8):∃t,(start (kE L) M).fin=(t,8)/\t.x=[]/\t.all=all/\t.kinds=kinds/\t.stops=stops/\t.a8=a8:=by
 obtain⟨j,k,b⟩ :=h;obtain⟨t,s,b1,i,g,f,d,c⟩ :=b (List.replicate ((8-L.length%8)%8) 0) (bc.zeros _) (by rw[List.length_replicate];omega);have e:L++List.replicate ((8-L.length%8)%8) 0=kE L:=rfl;rw[e]at s;refine⟨t, ?_, ?_,g,f,d,c⟩
 · rw[<-s.iv];have a:t.step=(t,8):=by unfold IS.step;rw[b1];rfl
   rw[IS.dn (by rw[a];simp),a]
 · rw[i];unfold gO;rw[List.length_replicate,List.drop_of_length_le (by rw[List.length_replicate];omega)]
end
def nL (l f:List Int):Nat->Int
 | 0=>0
 | k+1=>nL l f k+ix l k*ix f k
theorem mR {l f:List Int} (a:∀i,0<=ix l i/\ix l i<=15) (b:∀i,0<=ix f i/\ix f i<=1048576):∀k,aZ l f k=nL l f k
 | 0=>rfl
 | k+1=>by
   rw[aZ,nL,mR a b k];congr 1;have d:=a k;have c:=b k;by_cases h:0<ix l k/\0<ix f k
   · exact oP h.1 h.2 c.2 ω
   · rw[nS ω];have:ix l k=0\/ix f k=0:=ω;rcases this with h | h <;> rw[h] <;> simp
theorem nM (l f:List Int) (s:Nat):∀k,nL l (oN f s) k=nL l f k+if s<k/\s<f.length then ix l s else 0
 | 0=>by simp [nL]
 | k+1=>by
   rw[nL,nL,nM l f s k,dL];by_cases b:s=k
   · subst b;rw[if_neg (show¬(s<s/\s<f.length) from λh=>Nat.lt_irrefl _ h.1)];by_cases a:s<f.length
     · rw[if_pos (show s=s/\s<f.length from⟨rfl,a⟩),if_pos (show s<s+1/\s<f.length from⟨Nat.lt_succ_self _,a⟩),Int.mul_add];omega
     · rw[if_neg (show¬(s=s/\s<f.length) from λh=>a h.2),if_neg (show¬(s<s+1/\s<f.length) from λh=>a h.2)];omega
   · rw[if_neg (show¬(s=k/\k<f.length) from λh=>b h.1)];by_cases a:s<k/\s<f.length
     · rw[if_pos a,if_pos (show s<k+1/\s<f.length from⟨ω,a.2⟩)];omega
     · rw[if_neg a,if_neg (show¬(s<k+1/\s<f.length) from λh=>a ⟨ω,h.2⟩)];omega
theorem rU (l:List Int) (n:Nat):∀k,nL l (List.replicate n 0) k=0
 | 0=>rfl
 | k+1=>by
   rw[nL,rU l n k]
   have:ix (List.replicate n (0:Int)) k=0:=by
    unfold ix;rw[List.getD_eq_getElem?_getD,List.getElem?_replicate]
    split <;> rfl
   rw[this];simp
theorem MQ:VK=(oN (List.replicate 286 0) 256,List.replicate 30 0):=by
 unfold VK VK.zrI oN;rw[Am _ ω];rfl
theorem yx {lit ak:List Int} (d:∀i,0<=ix lit i) (hd:∀i,0<=ix ak i) (l:List aF):(∀t∈l,aH t/\(0<=t.lit/\t.lit<256))->nL lit (fk l).1 286+nL ak (fk l).2 30+((wu l:Nat):Int)=((fp lit ak l).length:Int):=by
 refine fu (β:=Nat) (motive:=λl=>(∀t∈l,aH t/\(0<=t.lit/\t.lit<256))->nL lit (fk l).1 286+nL ak (fk l).2 30+((wu l:Nat):Int)=((fp lit ak l).length:Int)) ?_ ?_ l
 · intro _;rw[zn,MQ];simp only;rw[nM,rU,rU,if_pos ⟨ω,by rw[List.length_replicate];omega⟩];unfold fp dS wu;rw[List.length_append,cI];have:=d 256;simp;omega
 · intro l t e h;have q:=e λu f=>h u (List.mem_append_left _ f)
   obtain⟨b,n⟩ :=h t (List.mem_append_right _ (List.mem_singleton.2 rfl));have c:=iy l;have g:wu (l++[t])=wu l+Rl t:=by simp [wu]
   have k:(fp lit ak (l++[t])).length=(fp lit ak l).length+(nN lit ak t).length:=by
    unfold fp;rw[yu,yv];simp only [List.length_append];omega
   rw[jB,g,k];unfold I4 nN Rl;by_cases a:t.len=0
   · rw[if_pos a,if_pos a];simp only;rw[nM,if_pos ⟨ω,by rw[c.1];omega⟩,cI];have j:t.ak=0:=by unfold aH at b;rw[if_pos a]at b;exact b
     rw[if_neg ω,if_neg ω];have:=d t.lit.toNat;omega
   · rw[if_neg a,if_neg a];obtain⟨b1,m,p,o⟩ :=nO b a;simp only;rw[nM,nM,if_pos ⟨ω,by rw[c.1];omega⟩,if_pos ⟨ω,by rw[c.2];omega⟩,if_pos b1,if_pos m];simp only [List.length_append,cI,af];have:=d (257+ej t.len);have:=hd (bO t.ak);omega
theorem IA {l:List Int} {m:Int} (a:0<=m) (h:∀i,i<l.length->0<=ix l i/\ix l i<=m) (i:Nat):0<=ix l i/\ix l i<=m:=by
 by_cases hi:i<l.length
 · exact h i hi
 · have:ix l i=0:=by unfold ix;rw[List.getD_eq_getElem?_getD,List.getElem?_eq_none ω];rfl
   rw[this];exact⟨Int.le_refl _,a⟩
theorem B7 {l f:List Int} {n:Nat} (h:∀i,n<=i->ix l i=0):∀k,nL l f (n+k)=nL l f n
 | 0=>rfl
 | k+1=>by rw[<-Nat.add_assoc,nL,B7 h k,h (n+k) ω];simp
theorem IB {l:List Int} {i:Nat} (h:l.length<=i):ix l i=0:=by unfold ix;rw[List.getD_eq_getElem?_getD,List.getElem?_eq_none h];rfl
theorem KE {l:List aF} (e:l.length<1048576):((ib l).length:Int)=LJ l:=by
 have f:=gB e;have i:=py l
 have h4:∀a:List Rn,(∀r∈a,sS r)->((jk (aO l) a).length:Int)=eB (aO l) a:=λa=>by
  induction a with
  | nil=>intro _;rfl
  | cons r a b=>
    intro h;have h5:=b λx d=>h x (List.mem_cons_of_mem _ d)
    have h6:=h r List.mem_cons_self;have h7:=qh l r.c.toNat (by have:=h6.1;omega);have g:=h6.2.2.1;show((Ph (aO l) r++jk (aO l) a).length:Int)=nK (aO l) r+eB (aO l) a
    rw[List.length_append,<-h5];unfold Ph nK;rw[List.length_append,cI,af];omega
 unfold ib LJ;simp only [List.length_append,af];rw[nG _ _ ω];have:=h4 _ f;omega
theorem I5 {l:List aF} (a:l.length<1048576):(∀i,0<=ix (fk l).1 i/\ix (fk l).1 i<=1048576)/\∀i,0<=ix (fk l).2 i/\ix (fk l).2 i<=1048576:=
 ⟨λi=>by have:=(xE l i).1;omega,λi=>by have:=(xE l i).2;omega⟩
theorem zm:(∀i,0<=ix cY i/\ix cY i<=15)/\∀i,0<=ix dP i/\ix dP i<=15:=by
 have b:=(gu iw.1).2.1;have a:=(gu iw.2).2.1;exact⟨IA δ b,IA δ a⟩
theorem IK {kind:Int} {l:List aF} {raw L:List Int} {last:Bool} (a:bh kind l raw.length=true) (g:∀t∈l,0<=t.lit/\t.lit<256) (p:kind=0->L.length%8=0):((gI kind l raw last L).length:Int)=(L.length:Int)+j3 kind l raw.length:=by
 have k:kind=0\/kind=1\/kind=2:=by
  unfold bh at a;by_cases j:kind=0
  · exact .inl j
  · rw[if_neg j]at a;by_cases h:¬(kind=1\/kind=2)\/1048576<=l.length
    · rw[if_pos h]at a;exact absurd a δ
    · omega
 unfold gI j3;rcases k with rfl | rfl | rfl
 · rw[if_pos rfl,if_pos rfl];unfold xj;rw[List.length_append,List.length_append,List.length_append,af,af,bD,fV,jg];have:=p rfl;omega
 · obtain⟨m1,m2⟩ :=Az a;rw[if_neg δ,if_pos rfl,if_neg δ,if_pos rfl,List.length_append,jg];have h:=yx (λi=>(zm.1 i).1) (λi=>(zm.2 i).1) l λt ht=> ⟨m2 t ht,g t ht⟩
   unfold Hy;rw[mR zm.1 (I5 m1).1,mR zm.2 (I5 m1).2];omega
 · obtain⟨m1,m2⟩ :=tL a;rw[if_neg δ,if_neg δ,if_neg δ,if_neg δ,List.length_append,List.length_append,jg];have c:=IA δ (mO (gz m1));have b:=IA δ (mO (fz m1));have h:=yx (λi=>(c i).1) (λi=>(b i).1) l λt ht=> ⟨m2 t ht,g t ht⟩
   have e:=B7 (l:=bM l) (f:=(fk l).1) (n:=bZ l) (λi hi=>IB (by rw[jl];exact hi)) (286-bZ l);have d:=B7 (l:=aV l) (f:=(fk l).2) (n:=cG l) (λi hi=>IB (by rw[lT];exact hi)) (30-cG l);have o:=fQ l;have m:=gV l;rw[show bZ l+(286-bZ l)=286 by omega]at e;rw[show cG l+(30-cG l)=30 by omega]at d;unfold Cc;rw[mR c (I5 m1).1,mR b (I5 m1).2,<-e,<-d];have:=KE m1;omega
theorem Rc {kind:Int} {l:List aF} {m:Nat} (a:bh kind l m=true) (k:∀t∈l,0<=t.lit/\t.lit<256):0<=j3 kind l m/\j3 kind l m<=60000000:=by
 by_cases b:kind=0
 · subst b;unfold j3;rw[if_pos rfl];unfold bh at a;rw[if_pos rfl]at a;have:=of_decide_eq_true a;omega
 · have c:l.length<1048576/\(∀t∈l,aH t)/\(kind=1\/kind=2):=by
    unfold bh at a;rw[if_neg b]at a;by_cases h:¬(kind=1\/kind=2)\/1048576<=l.length
    · rw[if_pos h]at a;exact absurd a δ
    · rw[if_neg h,List.all_eq_true]at a;exact⟨ω,λt ht=>of_decide_eq_true (a t ht),ω⟩
   have j:bh kind l ([]:List Int).length=true:=by
    unfold bh at a⊢;rw[if_neg b]at a⊢;exact a
   have e:=IK (L:=[]) (raw:=[]) (last:=false) j k (λh=>absurd h b);have n:j3 kind l ([]:List Int).length=j3 kind l m:=by unfold j3;rw[if_neg b,if_neg b]
   rw[n]at e
   have g:∀lit ak:List Int,ai lit 15=0->ai ak 15=0->(fp lit ak l).length<=48*l.length+15:=λlit ak d i=>by
    have o:=tU (gu d).2.1 (gu i).2.1 l c.2.1;have h4:=kt (gu d).2.1 256;unfold fp;rw[List.length_append];omega
   have hp:=Dn c.1;have d:=g cY dP iw.1 iw.2;have i:=g (bM l) (aV l) (gz c.1) (fz c.1)
   have f:(gI kind l [] false []).length<=60000000:=by
    unfold gI;rw[if_neg b]
    split
    · rw[List.length_append,jg,List.length_nil];omega
    · rw[List.length_append,List.length_append,jg,List.length_nil];omega
   simp only [List.length_nil]at e;omega
def dR (f:Nat->Int):Nat->Int×Int
 | 0=>(-1,0)
 | k+1=>if 0<=f k/\((dR f k).1<0\/f k<(dR f k).2)then((k:Int),f k)else dR f k
def jw (a8:List aF) (m:Nat) (k:Nat):Int:=if bh (k:Int) a8 m=true then j3 (k:Int) a8 m else -1
theorem nJ (f:Nat->Int):∀k,(dR f k).1= -1\/∃i:Nat,i<k/\(dR f k).1=(i:Int)/\(dR f k).2=f i/\0<=f i
 | 0=> .inl rfl
 | k+1=>by
   unfold dR
   split
   · rename_i h
     exact .inr ⟨k,ω,rfl,rfl,h.1⟩
   · rcases nJ f k with h | ⟨i,b,a⟩
     · exact .inl h
     · exact .inr ⟨i,ω,a⟩
theorem px (f:Nat->Int):∀k i,i<k->0<=f i->0<=(dR f k).1/\(dR f k).2<=f i
 | 0,i,h,_=>ω
 | k+1,i,h,h0=>by
   unfold dR;have c:=nJ f k;by_cases hi:i=k
   · subst hi
     split
     · exact⟨σ,Int.le_refl _⟩
     · rename_i d
       rcases c with e | ⟨j,_,e,h7,_⟩ <;> omega
   · obtain⟨b,a⟩ :=px f k i ω h0
     split
     · rename_i d
       constructor
       · simp
       · show f k<=f i;omega
     · exact⟨b,a⟩
theorem VE {a8:List aF} {m:Nat} (a:∀t∈a8,0<=t.lit/\t.lit<256) (k:Nat): -1<=jw a8 m k/\jw a8 m k<=60000000:=by
 unfold jw;by_cases h:bh (k:Int) a8 m=true
 · rw[if_pos h];have:=Rc h a;omega
 · rw[if_neg h];omega
theorem yX {a8:List aF} {m k:Nat} (h:0<=jw a8 m k):bh (k:Int) a8 m=true:=by
 unfold jw at h;by_cases a:bh (k:Int) a8 m=true
 · exact a
 · rw[if_neg a]at h;omega
def Vz (w:World) (b0 g:Nat) (A:Option Addr) (L raw:List Int) (a8:List aF) (m:Nat) (last:Bool) (e:Ending) (w':World):Prop:=
 e= .returned (.int .i64 (dR (jw a8 m) 3).1)/\(((dR (jw a8 m) 3).1= -1/\Below w.heap.size w w')\/(0<=(dR (jw a8 m) 3).1/\eR w w' b0 g A (gI (dR (jw a8 m) 3).1 a8 raw last L)))
theorem EY (w:World) (b0 g n c:Nat) (A:Option Addr) (L:List Int) (H:kv w b0 g A n c L) (At:Option Addr) (nt ct:Nat) (a8:List aF) (z:ig w w.heap.size At nt a8) (F:(nt:Int)<=4611686018427387904) (J:0<nt->∀D,At=some D->¬foot A g D.block) (s:∀t∈a8,0<=t.lit/\t.lit<256)
  (C:Option Addr) (m cr:Nat) (raw:List Int) (E:aT .u8 w w.heap.size C m raw) (I:0<m->∀D,C=some D->¬foot A g D.block) (d:∀x∈raw,0<=x/\x<256) (last:Bool) (a:L.length<=2000000000000):
  Calls Tryz.prog 52 #[.pointer (some ⟨g,0,none⟩), .slice At nt ct, .slice C m cr, .bool last] w (Vz w b0 g A L raw a8 m last):=by
 have HH:=η (⟨H,z,F,J,s,E,I,d,a⟩ :_/\_/\_/\_/\_/\_/\_/\_/\_);obtain⟨f,U⟩ :=ν (jw a8 m);have HF:Hid ((∀k, -1<=f k/\f k<=60000000)/\∀k,0<=f k->bh (k:Int) a8 m=true):=by rw[<-U];exact⟨VE s,λk h=>yX h⟩
 have V7:Hid (∀(W:World) (k:Nat),Below w.heap.size w W->Calls Tryz.prog 75 #[.int .i64 (k:Int), .slice At nt ct, .slice C m cr] W λe w'=>e= .returned (.int .i64 (f k))/\Below W.heap.size W w'):=λW k h=>by
  have:=Jg W (k:Int) At nt ct a8 ((z.below h).more h.size) F s C m cr;rw[show(if bh (k:Int) a8 m=true then j3 (k:Int) a8 m else -1)=f k by rw[<-U];rfl]at this;exact this
 have QM:=η U;clear H z F J s E I d a U;go_enter Tryz.func52,Tryz.ntmps52
 go_wp2_with fail
 go_loopg [9,10,11] 3 (λ(gk:Nat) (v9 v10 v11:Value) wx=>∃(k:Nat) (b c:Int),v9= .int .i64 b/\v10= .int .i64 c/\v11= .int .i64 k/\k<=3/\Hid (dR f k=(b,c))/\Hid (Below w.heap.size w wx)/\Hid (gk=3-k))
 case atStart=>exact⟨0, -1,0,rfl,rfl,rfl,ω,rfl,Below.refl _ _,rfl⟩
 case round=>
  obtain⟨k,b,cc,rfl,rfl,rfl,hk,hp,l,T⟩ :=hrel;have q:=nJ f k;rw[hp.out]at q;dsimp only at q;have uz: -1<=b/\b<=3:=by rcases q with h | ⟨i,h1,h2,_⟩ <;> omega
  by_cases K:k<=2
  · have mA:(k:Int)<=2/\(0:Int)<=(k:Int):=ω;have HC:=η (V7.out wr k l.out);obtain⟨N,hN⟩ :=ν (f k);have ah:=HF.out.1 k;rw[hN]at HC ah
    have am: -1<=cc/\cc<=60000000:=by
     rcases q with h | ⟨i,_,_,h1,_⟩
     · have B:∀j,(dR f j).1= -1->(dR f j).2=0:=λj=>by
        induction j with
        | zero=>intro _;rfl
        | succ j ih=>
          intro V;unfold dR at V⊢
          split at V
          · exfalso;dsimp only at V;omega
          · rename_i h8;rw[if_neg h8];exact ih V
       have h7:=B k (by rw[hp.out];exact h);rw[hp.out]at h7;have h7:cc=0:=h7;omega
     · have:=HF.out.1 i;omega
    have X:Hid (dR f (k+1)=if 0<=N/\(b<0\/N<cc)then((k:Int),N)else(b,cc)):=by
     show _=_
     rw[show dR f (k+1)=if 0<=f k/\((dR f k).1<0\/f k<(dR f k).2)then((k:Int),f k)else dR f k from rfl,hp.out,hN]
    clear q hN hp K
    go_wp2_with fail
    refine HC.out.mono ?_;rintro e w5 ⟨rfl,fN⟩;have p:=η (l.out.trans (fN.mono l.out.size));clear fN;by_cases P:0<=N/\(b<0\/N<cc)
    · have r:=X.out;rw[if_pos P]at r;have S:=η r;clear r X;obtain⟨an,u⟩ :=P;by_cases v:b<0
      · clear u
        go_wp2_with fail
        go_roundg (3-(k+1))
        case measure=>have:=T.out;omega
        case rel=>exact⟨k+1,(k:Int),N,rfl,rfl,by go_num,ω,S.out,p.out,rfl⟩
      · have ac:decide (b<0)=false:=ξ;have NP:N<cc:=by rcases u with h | h;exact absurd h v;exact h
        clear u
        go_wp2_with fail
        go_roundg (3-(k+1))
        case measure=>have:=T.out;omega
        case rel=>exact⟨k+1,(k:Int),N,rfl,rfl,by go_num,ω,S.out,p.out,rfl⟩
    · have r:=X.out;rw[if_neg P]at r;have S:=η r;clear r X;by_cases FA:0<=N
      · have ac:decide (b<0)=false:=ξ;have NP:decide (N<cc)=false:=ξ;clear P
        go_wp2_with fail
        go_roundg (3-(k+1))
        case measure=>have:=T.out;omega
        case rel=>exact⟨k+1,b,cc,rfl,rfl,by go_num,ω,S.out,p.out,rfl⟩
      · have ao:decide (0<=N)=false:=ξ;clear P
        go_wp2_with fail
        go_roundg (3-(k+1))
        case measure=>have:=T.out;omega
        case rel=>exact⟨k+1,b,cc,rfl,rfl,by go_num,ω,S.out,p.out,rfl⟩
  · obtain rfl:k=3:=ω;have R:Hid ((dR (jw a8 m) 3).1=b):=by show _=_;rw[QM.out,hp.out]
    clear K;by_cases v:0<=b
    · obtain⟨i,hi,RL,Z,M⟩ :∃i:Nat,i<3/\b=(i:Int)/\cc=f i/\0<=f i:=by
       rcases q with h | ⟨i,h1,h2,h3,h4⟩
       · omega
       · exact⟨i,h1,h2,h3,h4⟩
      have Y:=HF.out.2 i M;rw[<-RL]at Y;obtain⟨H,z,F,J,s,E,I,d,a⟩ :=HH.out;have hs:=eR.start H l.out;obtain⟨⟨A3,n3,c3,G,qN⟩,O⟩ :=hs
      have Q:=yB wr b0 g n3 c3 A3 _ G b At nt ct a8 ((z.below l.out).more l.out.size) F (λB=>vG qN (λD e=>by
       obtain⟨EN,o,y,_⟩ :=z.2 B;rw[e]at o;injection o with o;rw[o];exact y) (J B)) s C m cr raw ((E.below l.out).more l.out.size) (λB=>vG qN (λD e=>by
       obtain⟨EN,o,y,_⟩ :=E.2 B;rw[e]at o;injection o with o;rw[o];exact y) (I B)) d last Y a
      have al:=η Q;have Tp:=η (⟨qN,O⟩ :_/\_);clear H z F J s E I d a G qN O Q hi RL Z M Y q hp
      go_wp2_with fail
      refine al.out.mono ?_;rintro e w5 ⟨rfl,h5⟩;have H5:=η (eR.step Tp.out.2 Tp.out.1 h5);clear h5
      go_wp2_with fail
      go_ret
      exact⟨by rw[R.out];rfl, .inr ⟨by rw[R.out];exact v,by rw[R.out];exact H5.out⟩⟩
    · have ab:b= -1:=ω;subst ab;clear q hp
      go_wp2_with fail
      go_ret
      exact⟨by rw[R.out];rfl, .inl ⟨R.out,l.out⟩⟩
theorem zb {l:List aF}:∀{out:List Int},(expand out l).1=0->∀t∈l,aH t:=by
 induction l with
 | nil=>intro out _ t ht;simp at ht
 | cons k l c=>
   intro out h t ht;rw[eY]at h;by_cases a:(step out k).1=0
   · rw[if_pos a]at h;rcases List.mem_cons.1 ht with rfl | ht
     · unfold step at a;by_cases b:aH t
       · exact b
       · rw[if_pos b]at a;simp at a
     · exact c h t ht
   · rw[if_neg a]at h;exact absurd h a
structure TB (w w2 wx:World) (b0 g:Nat) (L:List Int):Prop where
 bk:eR w2 wx b0 g none L
 lo:w.heap.size<=w2.heap.size
 ou:Below w.heap.size w w2
 MV:w.heap.size<=g
section
variable {w w2 wx w':World} {b0 g:Nat} {L L':List Int}
theorem TB.below (h:TB w w2 wx b0 g L):Below w.heap.size w wx:=h.ou.trans (h.bk.cv.below (λk a=>by
 rcases a with a | a
 · rw[a];exact h.MV
 · simp [aa]at a) h.lo)
theorem TB.keeps (h:TB w w2 wx b0 g L) (a:Below wx.heap.size wx w'):TB w w2 w' b0 g L:= ⟨h.bk.keeps a,h.lo,h.ou,h.MV⟩
theorem TB.get (h:TB w w2 wx b0 g L):∃A n c,kv wx b0 g A n c L/\(∀k,foot A g k->w.heap.size<=k)/\∀(W:World) (L':List Int),eR wx W b0 g A L'->TB w w2 W b0 g L':=by
 obtain⟨⟨A,n,c,f,b⟩,e⟩ :=h.bk;refine⟨A,n,c,f,λk a=> ?_,λW L' d=> ⟨eR.step e b d,h.lo,h.ou,h.MV⟩⟩;rcases a with a | a
 · rw[a];exact h.MV
 · rcases b k a with h4 | h4
   · simp [aa]at h4
   · exact Nat.le_trans h.lo h4
end
theorem eR.of {w w':World} {b0 g:Nat} {A:Option Addr} {L:List Int} {A':Option Addr} {n' c':Nat} (a:kv w' b0 g A' n' c' L) (b:aq w w' (foot A g)) (hA:∀k,aa A'=some k->aa A=some k\/w.heap.size<=k):eR w w' b0 g A L:= ⟨⟨A',n',c',a,hA⟩,b⟩
structure eU where
 lev:Int
 f:ed
 L:List Int
 raw:List Int
 a8:List aF
def iC (t:aF):Nat:=(max t.len 1).toNat
def ay (l:List aF):Nat:=(l.map iC).sum
def dC (n i:Nat):List aF->Nat
 | []=>0
 | t::l=>if 16384<=n+iC t then i+1 else dC (n+iC t) (i+1) l
def ax (l:List aF):Nat:=dC 0 0 l
def km (lev:Int) (l:List aF):Int:=if lev<=0 then 0 else(dR (jw l (ay l)) 3).1
def dJ (d:eU) (count:Nat) (last:Bool):eU:=
 { d with
   L:=gI (km d.lev (d.a8.take count)) (if d.lev<=0 then [] else d.a8.take count) (d.raw.take (ay (d.a8.take count))) last d.L
   raw:=d.raw.drop (ay (d.a8.take count))
   a8:=d.a8.drop count }
def oB (e:jY) (left:Nat):Nat->ed->List aF×ed
 | 0,st=>([],st)
 | k+1,st=>if left<st.D.length-st.at_ then((cy e st).1::(oB e left k (cy e st).2).1,(oB e left k (cy e st).2).2)else([],st)
theorem E0 {e:jY} {left:Nat}:∀(k:Nat) {st st':ed} {l:List aF},tA e left st l st'->st'.D.length-st'.at_<=left->st.Ok st.at_->st.D.length-st.at_<=k->oB e left k st=(l,st')
 | 0,st,st',l,hr,he,fJ,hk=>by
   rcases hr.inv with ⟨rfl,rfl⟩ | ⟨d,h,_⟩
   · rfl
   · omega
 | k+1,st,st',l,hr,he,fJ,hk=>by
   unfold oB;rcases hr.inv with ⟨rfl,rfl⟩ | ⟨d,h,rfl,f⟩
   · rw[if_neg ω]
   · rw[if_pos h];obtain⟨N,m,j,i,c,b,a,g⟩ :=jX (e:=e) fJ ω;rw[E0 k f he (by rw[a];exact c) (by rw[b,a];omega)]
def dI (left:Nat) (d:eU):eU:=
 { d with f:=(oB (cT d.lev) left (d.f.D.length-d.f.at_) d.f).2,a8:=d.a8++(oB (cT d.lev) left (d.f.D.length-d.f.at_) d.f).1 }
def fE:Nat->eU->eU
 | 0,d=>d
 | k+1,d=>if 0<ax d.a8 then fE k (dJ d (ax d.a8) false)else d
def bJ:Nat->eU->eU
 | 0,d=>d
 | k+1,d=>if 0<ax d.a8/\ax d.a8<d.a8.length then bJ k (dJ d (ax d.a8) false)else d
def jv (d:eU) (x:List Int):eU:=
 let d1:=dI 261 { d with raw:=d.raw++x,f:=eC d.f x }
 fE d1.a8.length d1
def bL:Nat->eU->List Int->eU
 | 0,d,_=>d
 | k+1,d,b=>if 0<b.length then bL k (jv d (b.take (min b.length 16384))) (b.drop (min b.length 16384))else d
def aY (d:eU):eU:=
 let d1:=dI 0 d
 bJ d1.a8.length d1
def cN (d:eU):eU:=
 let d1:=aY d
 let d2:=dJ d1 d1.a8.length true
 { d2 with L:=kE d2.L }
def vd (lev:Int):eU:= ⟨lev,Dc,[],[],[]⟩
theorem rq:∀(l:List aF) (n i:Nat),dC n i l<=i+l.length/\(0<dC n i l->i<dC n i l)
 | [],n,i=> ⟨by simp [dC],λh=>by simp [dC]at h⟩
 | t::l,n,i=>by
   unfold dC;rw[List.length_cons]
   split
   · omega
   · have:=rq l (n+iC t) (i+1);omega
theorem qw {t:aF} (h:aH t):1<=iC t/\iC t<=258:=by
 unfold iC;unfold aH at h
 split at h
 · rename_i a;rw[a];decide
 · omega
theorem ux:∀(l:List aF) (n i:Nat),(∀t∈l,aH t)->n<16384->0<dC n i l->16384<=n+ay (l.take (dC n i l-i))/\n+ay (l.take (dC n i l-i))<=16384+257
 | [],n,i,_,_,h=>by simp [dC]at h
 | t::l,n,i,hs,hn,h=>by
   have ht:=qw (hs t List.mem_cons_self);unfold dC at h⊢;by_cases b:16384<=n+iC t
   · rw[if_pos b,show i+1-i=1 by omega];have:ay ((t::l).take 1)=iC t:=by simp [ay]
     omega
   · rw[if_neg b]at h⊢;have a:=ux l (n+iC t) (i+1) (λu c=>hs u (List.mem_cons_of_mem _ c)) ω h;have e:=(rq l (n+iC t) (i+1)).2 h;obtain⟨m,d⟩ :∃m,dC (n+iC t) (i+1) l=i+1+m:= ⟨_,(Nat.add_sub_cancel' (by omega:i+1<=_)).symm⟩;rw[d]at a⊢;rw[show i+1+m-(i+1)=m by omega]at a;rw[show i+1+m-i=m+1 by omega];have:ay ((t::l).take (m+1))=iC t+ay (l.take m):=by simp [ay]
     omega
theorem mX:∀(l:List aF) (n i:Nat),n<16384->dC n i l=0->n+ay l<16384
 | [],n,i,hn,_=>by simp [ay];exact hn
 | t::l,n,i,hn,h=>by
   unfold dC at h;by_cases a:16384<=n+iC t
   · rw[if_pos a]at h;omega
   · rw[if_neg a]at h;have b:=mX l (n+iC t) (i+1) ω h;have:ay (t::l)=iC t+ay l:=by simp [ay]
     omega
theorem mU:∀(l:List aF) (out z:List Int),expand out l=(0,z)->z.length=out.length+ay l
 | [],out,z,h=>by
   have:(0,out)=((0:Int),z):=h;injection this with _ c;rw[<-c];simp [ay]
 | t::l,out,z,h=>by
   rw[eY]at h;by_cases a:(step out t).1=0
   · rw[if_pos a]at h;have e:=mU l _ z h
     have f:(step out t).2.length=out.length+iC t:=by
      unfold step at a⊢;unfold iC;by_cases d:¬aH t
      · rw[if_pos d]at a;simp at a
      · rw[if_neg d]at a⊢;by_cases c:16777216<(out.length:Int)+max t.len 1
        · rw[if_pos c]at a;simp at a
        · rw[if_neg c]at a⊢;by_cases b:t.len=0
          · rw[if_pos b,List.length_append,b];rfl
          · rw[if_neg b]at a⊢;by_cases h4:(out.length:Int)<t.ak
            · rw[if_pos h4]at a;simp at a
            · rw[if_neg h4,List.length_append,aJ];unfold aH at d;rw[if_neg b]at d;omega
     have:ay (t::l)=iC t+ay l:=by simp [ay]
     omega
   · rw[if_neg a]at h;rw[h]at a;exact absurd rfl a
theorem za {P L:List Int} (h:P.length%8=0):kE (P++L)=P++kE L:=by
 unfold kE;rw[List.length_append,List.append_assoc,show(8-(P.length+L.length)%8)%8=(8-L.length%8)%8 by omega]
theorem zI {P L:List Int} (kind:Int) (last:Bool):ru kind last (P++L)=P++ru kind last L:=by unfold ru;simp [List.append_assoc]
theorem Di {P L:List Int} (h:P.length%8=0) (kind:Int) (l:List aF) (raw:List Int) (last:Bool):gI kind l raw last (P++L)=P++gI kind l raw last L:=by
 unfold gI
 split
 · rw[zI];unfold xj;rw[za h];simp [List.append_assoc]
 · split
   · rw[zI,List.append_assoc]
   · rw[zI];simp [List.append_assoc]
structure m8 (X P:List Int) (d:eU) (all kinds stops:List Int) (bn pre:List aF):Prop where
 big:X.length<=16777216
 fC:∀x∈X,0<=x/\x<256
 ev:P.length%8=0
 fd:d.f.D=X
 Lh:d.f.Ok d.f.at_
 KQ:all++d.raw=X
 prx:expand [] pre=(0,all)
 tok:expand [] (pre++d.a8)=(0,X.take d.f.at_)
 lit:∀t∈d.a8,0<=t.lit/\t.lit<256
 rd:Reads 16777216 (P++d.L) all kinds stops bn
 st0:d.lev<=0->∀k∈kinds,k=0
 kl:kinds.length=stops.length/\∀s∈stops,0<=s/\s<=16777216
section
variable {X P:List Int} {d:eU} {all kinds stops:List Int} {bn pre:List aF}
theorem m8.Bc (h:m8 X P d all kinds stops bn pre):expand all d.a8=(0,X.take d.f.at_):=by
 have a:=h.tok;rw[iH,h.prx,if_pos rfl]at a;exact a
theorem m8.lens (h:m8 X P d all kinds stops bn pre):all.length+ay d.a8=d.f.at_:=by
 have:=mU _ _ _ h.Bc;rw[List.length_take,<-h.fd,Nat.min_eq_left h.Lh.hi]at this;omega
theorem m8.sound (h:m8 X P d all kinds stops bn pre):∀t∈d.a8,aH t:=zb (by rw[h.Bc])
theorem D6:∀{l:List aF},(∀t∈l,aH t)->l.length<=ay l
 | [],_=>σ
 | t::l,h=>by
   have c:=qw (h t List.mem_cons_self);have b:=D6 (l:=l) λu a=>h u (List.mem_cons_of_mem _ a)
   have:ay (t::l)=iC t+ay l:=by simp [ay]
   rw[List.length_cons];omega
theorem m8.first (h:m8 X P d all kinds stops bn pre) (count:Nat):expand all (d.a8.take count)=(0,all++d.raw.take (ay (d.a8.take count)))/\ay (d.a8.take count)<=d.raw.length:=by
 have b:=h.Bc;rw[<-List.take_append_drop count d.a8,iH]at b;by_cases c:(expand all (d.a8.take count)).1=0
 · rw[if_pos c]at b;obtain⟨z,a⟩ :=nU (out:=(expand all (d.a8.take count)).2) (l:=d.a8.drop count) (by rw[b]);rw[b]at a;have e:expand all (d.a8.take count)=(0,(expand all (d.a8.take count)).2):=by rw[<-c]
   have j:=mU _ _ _ e;obtain⟨Y,m⟩ :=ν ((expand all (d.a8.take count)).2);rw[m]at a j e;replace a:X.take d.f.at_=Y++z:=a
   have g:Y=X.take Y.length:=by
    have h5:(X.take d.f.at_).take Y.length=Y:=by rw[a];simp
    have:Y.length<=(X.take d.f.at_).length:=by rw[a,List.length_append];omega
    rw[List.length_take]at this;rw[List.take_take,Nat.min_eq_left ω]at h5;exact h5.symm
   have n:Y.length<=X.length:=by
    have:Y.length<=(X.take d.f.at_).length:=by rw[a,List.length_append];omega
    rw[List.length_take]at this;omega
   have i:=h.KQ
   have k:ay (d.a8.take count)<=d.raw.length:=by
    have:X.length=all.length+d.raw.length:=by rw[<-i,List.length_append]
    omega
   refine⟨?_,k⟩;rw[e,g,j,<-i,List.take_append,List.take_of_length_le ω,Nat.add_sub_cancel_left]
 · rw[if_neg c]at b;rw[b]at c;exact absurd rfl c
theorem Aq {lev:Int} {l:List aF} (e:∀t∈l,aH t) (f:∀t∈l,0<=t.lit/\t.lit<256) (c:ay l<=65535):
  (lev<=0->km lev l=0)/\0<=km lev l/\bh (km lev l) (if lev<=0 then [] else l) (ay l)=true:=by
 have a:∀q:List aF,bh 0 q (ay l)=true:=λq=>by unfold bh;rw[if_pos rfl];exact decide_eq_true c
 unfold km;by_cases h:lev<=0
 · rw[if_pos h,if_pos h];exact⟨λ_=>rfl,ω,a _⟩
 · rw[if_neg h,if_neg h]
   have hp:=px (jw l (ay l)) 3 0 ω (by
    unfold jw;rw[show((0:Nat):Int)=0 from rfl,if_pos (a l)];unfold j3;rw[if_pos rfl];omega)
   refine⟨λb=>absurd b h,hp.1, ?_⟩;rcases nJ (jw l (ay l)) 3 with b | ⟨i,_,d,_,h4⟩
   · omega
   · rw[d];exact yX h4
theorem m8.blk (h:m8 X P d all kinds stops bn pre) (count:Nat) (l:ay (d.a8.take count)<=65535):
  bh (km d.lev (d.a8.take count)) (if d.lev<=0 then [] else d.a8.take count) (d.raw.take (ay (d.a8.take count))).length=true/\
  (∀x∈d.raw.take (ay (d.a8.take count)),0<=x/\x<256)/\
  (∀t∈(if d.lev<=0 then [] else d.a8.take count),0<=t.lit/\t.lit<256)/\
  (km d.lev (d.a8.take count)≠0->(expand all (if d.lev<=0 then [] else d.a8.take count)).1=0)/\
  gP (km d.lev (d.a8.take count)) (if d.lev<=0 then [] else d.a8.take count) (d.raw.take (ay (d.a8.take count))) all=all++d.raw.take (ay (d.a8.take count))/\
  (all++d.raw.take (ay (d.a8.take count))).length<=16777216:=by
 obtain⟨j,n⟩ :=h.first count;have i:∀t∈d.a8.take count,0<=t.lit/\t.lit<256:=λt ht=>h.lit t (List.mem_of_mem_take ht)
 obtain⟨f,m,k⟩ :=Aq (lev:=d.lev) (λt ht=>h.sound t (List.mem_of_mem_take ht)) i l;have g:(d.raw.take (ay (d.a8.take count))).length=ay (d.a8.take count):=by rw[List.length_take];omega
 have e:∀x∈d.raw,x∈X:=λx c=>by rw[<-h.KQ];exact List.mem_append_right _ c
 refine⟨by rw[g];exact k,λx c=>h.fC x (e x (List.mem_of_mem_take c)),λt ht=> ?_,λa=> ?_, ?_, ?_⟩
 · split at ht
   · simp at ht
   · exact i t ht
 · by_cases b:d.lev<=0
   · exact absurd (f b) a
   · rw[if_neg b,j]
 · unfold gP;by_cases a:km d.lev (d.a8.take count)=0
   · rw[if_pos a]
   · rw[if_neg a,if_neg (λb=>a (f b)),j]
 · have h5:X.length=all.length+d.raw.length:=by rw[<-h.KQ,List.length_append]
   have:=h.big;rw[List.length_append,g];omega
theorem m8.lay (h:m8 X P d all kinds stops bn pre) (count:Nat) (g:ay (d.a8.take count)<=65535):
  ∃i,m8 X P (dJ d count false) (all++d.raw.take (ay (d.a8.take count))) (kinds++[km d.lev (d.a8.take count)]) (stops++[((all++d.raw.take (ay (d.a8.take count))).length:Int)]) i (pre++d.a8.take count):=by
 obtain⟨b1,n,m,l,f,j⟩ :=h.blk count g;have e:=h.rd.next b1 n m l (by rw[f];exact j);rw[f,Di h.ev]at e;refine⟨_,h.big,h.fC,h.ev,h.fd,h.Lh, ?_, ?_, ?_,λt ht=>h.lit t (List.mem_of_mem_drop ht),e,λc k b=> ?_, ?_⟩
 · show(all++_)++d.raw.drop _=X
   rw[List.append_assoc,List.take_append_drop];exact h.KQ
 · rw[iH,h.prx,if_pos rfl];exact(h.first count).1
 · show expand [] ((pre++d.a8.take count)++d.a8.drop count)=_
   rw[List.append_assoc,List.take_append_drop];exact h.tok
 · rcases List.mem_append.1 b with b | b
   · exact h.st0 c k b
   · rw[List.mem_singleton.1 b];unfold km;rw[if_pos (show d.lev<=0 from c)]
 · refine⟨by rw[List.length_append,List.length_append,h.kl.1];rfl,λs a=> ?_⟩;rcases List.mem_append.1 a with a | a
   · exact h.kl.2 s a
   · rw[List.mem_singleton.1 a];omega
theorem m8.last (h:m8 X P d all kinds stops bn pre) (count:Nat) (c:ay (d.a8.take count)<=65535):
  ∃e,Ends 16777216 (P++(dJ d count true).L) (all++d.raw.take (ay (d.a8.take count))) (kinds++[km d.lev (d.a8.take count)]) (stops++[((all++d.raw.take (ay (d.a8.take count))).length:Int)]) e:=by
 obtain⟨b1,j,i,g,b,f⟩ :=h.blk count c;have a:=h.rd.fin b1 j i g (by rw[b];exact f);rw[b,Di h.ev]at a;exact⟨_,a⟩
theorem m8.tokens (h:m8 X P d all kinds stops bn pre) (left:Nat) {l:List aF} {f:ed} (b:tA (cT d.lev) left d.f l f) (e:f.Ok f.at_) (hD:f.D=d.f.D) (c:∀t∈l,0<=t.lit/\t.lit<256):
  m8 X P { d with f:=f,a8:=d.a8++l } all kinds stops bn pre:=by
 refine⟨h.big,h.fC,h.ev,hD.trans h.fd,e,h.KQ,h.prx, ?_,λt ht=> ?_,h.rd,h.st0,h.kl⟩
 · have a:=GG b h.Lh (by rw[h.fd];exact h.big) [] (pre++d.a8) (by rw[h.fd];exact h.tok);rw[List.append_assoc,hD,h.fd]at a;exact a
 · rcases List.mem_append.1 ht with ht | ht
   · exact h.lit t ht
   · exact c t ht
theorem m8.grow (h:m8 X P d all kinds stops bn pre) (x:List Int) (c:(X++x).length<=16777216) (b:∀v∈x,0<=v/\v<256):
  m8 (X++x) P { d with raw:=d.raw++x,f:=eC d.f x } all kinds stops bn pre:=by
 have a:d.f.at_<=X.length:=by rw[<-h.fd];exact h.Lh.hi
 refine⟨c,λv hv=> ?_,h.ev, ?_,h.Lh.write x, ?_,h.prx, ?_,h.lit,h.rd,h.st0,h.kl⟩
 · rcases List.mem_append.1 hv with hv | hv
   · exact h.fC v hv
   · exact b v hv
 · show d.f.D++x=X++x
   rw[h.fd]
 · show all++(d.raw++x)=X++x
   rw[<-List.append_assoc,h.KQ]
 · show _=(0,(X++x).take d.f.at_)
   rw[List.take_append_of_le_length a];exact h.tok
theorem m8.taken (h:m8 X P d all kinds stops bn pre) {Q R:List Int} (a:d.L=Q++R) (b:Q.length%8=0):m8 X (P++Q) { d with L:=R } all kinds stops bn pre:=by
 refine⟨h.big,h.fC,by rw[List.length_append];have:=h.ev;omega,h.fd,h.Lh,h.KQ,h.prx,h.tok,h.lit, ?_,h.st0,h.kl⟩;have:=h.rd;rw[a]at this;show Reads _ ((P++Q)++R) _ _ _ _
 rw[List.append_assoc];exact this
theorem m8.new (lev:Int):m8 [] [] (vd lev) [] [] [] [] []:=
 ⟨σ,λx a=>by simp at a,rfl,rfl,Ok.new,rfl,rfl,rfl,λt ht=>by simp [vd]at ht,Reads.nil _,λ_ k c=>by simp at c,rfl,λs b=>by simp at b⟩
end
theorem Kp {e:jY} {st:ed} (hD:∀x∈st.D,0<=x/\x<256) (a:st.at_<st.D.length):0<=(cy e st).1.lit/\(cy e st).1.lit<256:=by
 have b:0<=(mj st).lit/\(mj st).lit<256:=hD _ (lJ a);unfold cy
 split
 · exact b
 · split
   · split
     · exact b
     · exact⟨Int.le_refl 0,(by decide:(0:Int)<256)⟩
   · exact⟨Int.le_refl 0,(by decide:(0:Int)<256)⟩
theorem yt {e:jY} {left:Nat}:∀(k:Nat) (st:ed),st.Ok st.at_->(∀x∈st.D,0<=x/\x<256)->
  tA e left st (oB e left k st).1 (oB e left k st).2/\(oB e left k st).2.Ok (oB e left k st).2.at_/\(oB e left k st).2.D=st.D/\(∀t∈(oB e left k st).1,0<=t.lit/\t.lit<256)/\
  (st.D.length-st.at_<=k->st.D.length-(oB e left k st).2.at_<=left)
 | 0,st,fJ,hD=> ⟨.nil st,fJ,rfl,λt ht=>by simp [oB]at ht,λh=>by have:(oB e left 0 st).2=st:=rfl;rw[this];omega⟩
 | k+1,st,fJ,hD=>by
   unfold oB;by_cases h:left<st.D.length-st.at_
   · rw[if_pos h];obtain⟨N,m,l,j,c,a,b,i⟩ :=jX (e:=e) fJ ω;obtain⟨g,f,d,h4,h5⟩ :=yt (e:=e) (left:=left) k (cy e st).2 (by rw[b];exact c) (by rw[a];exact hD);refine⟨tA.a06 h g,f,d.trans a,λt ht=> ?_,λn=> ?_⟩
     · rcases List.mem_cons.1 ht with rfl | ht
       · exact Kp hD ω
       · exact h4 t ht
     · have:=h5 (by rw[a,b];omega);rw[a]at this;exact this
   · rw[if_neg h];exact⟨.nil st,fJ,rfl,λt ht=>by simp at ht,λ_=>by show st.D.length-st.at_<=left;omega⟩
theorem lj {I:eU->Prop} (h:∀d,I d->0<ax d.a8->I (dJ d (ax d.a8) false)):∀k d,I d->I (fE k d)
 | 0,d,hd=>hd
 | k+1,d,hd=>by
   unfold fE
   split
   · rename_i a;exact lj h k _ (h d hd a)
   · exact hd
theorem jz {I:eU->Prop} (h:∀d,I d->0<ax d.a8->I (dJ d (ax d.a8) false)):∀k d,I d->I (bJ k d)
 | 0,d,hd=>hd
 | k+1,d,hd=>by
   unfold bJ
   split
   · rename_i a;exact jz h k _ (h d hd a.1)
   · exact hd
theorem gX (l:List aF):ax l<=l.length:=by have:=(rq l 0 0).1;unfold ax;omega
theorem uk:∀k d,d.a8.length<=k->ax (bJ k d).a8=0\/(bJ k d).a8.length<=ax (bJ k d).a8
 | 0,d,h=>by have:=gX d.a8;exact .inl (by show ax d.a8=0;omega)
 | k+1,d,h=>by
   unfold bJ
   split
   · refine uk k _ ?_;show(d.a8.drop _).length<=k
     rw[List.length_drop];omega
   · omega
theorem sg:∀k d,(bJ k d).lev=d.lev/\(bJ k d).f=d.f:=λk d=>by
 have:=jz (I:=λx=>x.lev=d.lev/\x.f=d.f) (λx a _=>a) k d ⟨rfl,rfl⟩;exact this
structure LK (P:List Int) (d:eU) (all stops:List Int):Prop where
 gap:∀i,i<stops.length->ix stops i-(if i=0 then 0 else ix stops (i-1))<=16642
 top:(if stops.length=0 then 0 else ix stops (stops.length-1))=(all.length:Int)
 size:P.length+d.L.length<=8*all.length+48*stops.length
 cnt:16384*stops.length<=all.length
def eT (X P:List Int) (d:eU):Prop:=∃all kinds stops bn pre,m8 X P d all kinds stops bn pre
def eM (X P:List Int) (d:eU):Prop:=∃all kinds stops bn pre,m8 X P d all kinds stops bn pre/\LK P d all stops
theorem zo {X P:List Int} {d:eU} {all kinds stops:List Int} {bn pre:List aF} (h:m8 X P d all kinds stops bn pre) (a:0<ax d.a8):16384<=ay (d.a8.take (ax d.a8))/\ay (d.a8.take (ax d.a8))<=16641:=by
 have:=ux d.a8 0 0 h.sound ω a;rw[Nat.sub_zero,Nat.zero_add]at this;exact this
theorem eT.lay {X P:List Int} {d:eU} (h:eT X P d) (a:0<ax d.a8):eT X P (dJ d (ax d.a8) false):=by
 obtain⟨all,kinds,stops,bn,pre,h⟩ :=h;obtain⟨c,b⟩ :=h.lay (ax d.a8) (by have:=zo h a;omega);exact⟨_,_,_,_,_,b⟩
theorem nz {X P:List Int} {d:eU} {all kinds stops:List Int} {bn pre:List aF} (h:m8 X P d all kinds stops bn pre) (count:Nat) (last:Bool) (m:ay (d.a8.take count)<=65535):
  (dJ d count last).L.length<=d.L.length+8*ay (d.a8.take count)+42:=by
 have n:∀t∈d.a8.take count,0<=t.lit/\t.lit<256:=λt ht=>h.lit t (List.mem_of_mem_take ht)
 have b:(d.raw.take (ay (d.a8.take count))).length=ay (d.a8.take count):=by rw[List.length_take];have:=(h.first count).2;omega
 obtain⟨p,v,k⟩ :=Aq (lev:=d.lev) (λt ht=>h.sound t (List.mem_of_mem_take ht)) n m;show(gI _ _ _ _ _).length<=_
 by_cases f:km d.lev (d.a8.take count)=0
 · rw[f];unfold gI;rw[if_pos rfl];unfold xj;rw[List.length_append,List.length_append,List.length_append,af,af,fV,jg,bD,b];omega
 · have e:¬d.lev<=0:=λj=>f (p j)
   rw[if_neg e];rw[if_neg e]at k;have q:=IK (kind:=km d.lev (d.a8.take count)) (l:=d.a8.take count) (raw:=d.raw.take (ay (d.a8.take count))) (L:=d.L) (last:=last) (by rw[b];exact k) n (λj=>absurd j f);rw[b]at q
   have w:j3 (km d.lev (d.a8.take count)) (d.a8.take count) (ay (d.a8.take count))<=40+8*(ay (d.a8.take count):Int):=by
    have o:jw (d.a8.take count) (ay (d.a8.take count)) 0=40+8*(ay (d.a8.take count):Int):=by
     unfold jw;have g:bh ((0:Nat):Int) (d.a8.take count) (ay (d.a8.take count))=true:=by unfold bh;rw[if_pos (show((0:Nat):Int)=0 from rfl)];exact decide_eq_true m
     rw[if_pos g];unfold j3;rw[if_pos (show((0:Nat):Int)=0 from rfl)]
    obtain⟨u,a⟩ :=px (jw (d.a8.take count) (ay (d.a8.take count))) 3 0 ω (by rw[o];omega);rw[o]at a;have c:km d.lev (d.a8.take count)=(dR (jw (d.a8.take count) (ay (d.a8.take count))) 3).1:=by unfold km;rw[if_neg e]
    rcases nJ (jw (d.a8.take count) (ay (d.a8.take count))) 3 with x | ⟨i,_,r,h4,h5⟩
    · omega
    · rw[h4]at a;have s:jw (d.a8.take count) (ay (d.a8.take count)) i=j3 (i:Int) (d.a8.take count) (ay (d.a8.take count)):=by unfold jw;rw[if_pos (yX h5)]
      rw[s]at a;rw[c,r];exact a
   omega
theorem eM.lay {X P:List Int} {d:eU} (h:eM X P d) (g:0<ax d.a8):eM X P (dJ d (ax d.a8) false):=by
 obtain⟨all,kinds,stops,bn,pre,h,b⟩ :=h;have m:=zo h g;obtain⟨n,j⟩ :=h.lay (ax d.a8) ω;have l:=nz h (ax d.a8) false ω;have f:(d.raw.take (ay (d.a8.take (ax d.a8)))).length=ay (d.a8.take (ax d.a8)):=by rw[List.length_take];have:=(h.first (ax d.a8)).2;omega
 have c:(all++d.raw.take (ay (d.a8.take (ax d.a8)))).length=all.length+ay (d.a8.take (ax d.a8)):=by rw[List.length_append,f]
 refine⟨_,_,_,_,_,j, ⟨λi hi=> ?_, ?_, ?_, ?_⟩⟩
 · rw[List.length_append,List.length_singleton]at hi;by_cases e:i<stops.length
   · have:=b.gap i e;rw[aL,if_pos e];by_cases a:i=0
     · rw[if_pos a]at this⊢;exact this
     · rw[if_neg a]at this⊢;rw[aL,if_pos ω];exact this
   · obtain rfl:i=stops.length:=ω;rw[aL,if_neg ω,Nat.sub_self];have k:ix [((all++d.raw.take (ay (d.a8.take (ax d.a8)))).length:Int)] 0=((all++d.raw.take (ay (d.a8.take (ax d.a8)))).length:Int):=rfl;rw[k,c];have ht:=b.top;by_cases a:stops.length=0
     · rw[if_pos a]at ht⊢;omega
     · rw[if_neg a]at ht⊢;rw[aL,if_pos ω,ht];omega
 · rw[List.length_append,List.length_singleton,if_neg ω,Nat.add_sub_cancel,aL,if_neg ω,Nat.sub_self];rfl
 · rw[c,List.length_append,List.length_singleton];have:=b.size;omega
 · rw[c,List.length_append,List.length_singleton];have:=b.cnt;omega
section
variable {X P:List Int} {d:eU} {all kinds stops:List Int} {bn pre:List aF}
theorem m8.dI (h:m8 X P d all kinds stops bn pre) (left:Nat):m8 X P (dI left d) all kinds stops bn pre/\X.length-(dI left d).f.at_<=left:=by
 obtain⟨c,b,a,h4,h5⟩ :=yt (e:=cT d.lev) (left:=left) (d.f.D.length-d.f.at_) d.f h.Lh (by rw[h.fd];exact h.fC);refine⟨h.tokens left c b a h4, ?_⟩;have h6:=h5 (Nat.le_refl _);have e:X.length=d.f.D.length:=by rw[h.fd]
 rw[e];exact h6
theorem LK.same {d2:eU} (h:LK P d all stops) (a:d2.L=d.L):LK P d2 all stops:= ⟨h.gap,h.top,by rw[a];exact h.size,h.cnt⟩
theorem eT.drain (h:eT X P d) (k:Nat):eT X P (fE k d):=lj (λ_ q a=>q.lay a) k d h
theorem eM.drain (h:eM X P d) (k:Nat):eM X P (fE k d):=lj (λ_ q a=>q.lay a) k d h
theorem eT.bJ (h:eT X P d) (k:Nat):eT X P (bJ k d):=jz (λ_ q a=>q.lay a) k d h
theorem eM.bJ (h:eM X P d) (k:Nat):eM X P (bJ k d):=jz (λ_ q a=>q.lay a) k d h
theorem eT.chunk (h:eT X P d) {x:List Int} (b:(X++x).length<=16777216) (a:∀v∈x,0<=v/\v<256):eT (X++x) P (jv d x):=by
 obtain⟨all,kinds,stops,bn,pre,h⟩ :=h;exact eT.drain ⟨all,kinds,stops,bn,pre,((h.grow x b a).dI 261).1⟩ _
theorem eM.chunk (h:eM X P d) {x:List Int} (b:(X++x).length<=16777216) (a:∀v∈x,0<=v/\v<256):eM (X++x) P (jv d x):=by
 obtain⟨all,kinds,stops,bn,pre,h,c⟩ :=h;exact eM.drain ⟨all,kinds,stops,bn,pre,((h.grow x b a).dI 261).1,c.same rfl⟩ _
theorem rX {I:List Int->eU->Prop} (c:∀X d x,I X d->(X++x).length<=16777216->(∀v∈x,0<=v/\v<256)->I (X++x) (jv d x)):
  ∀(k:Nat) (X:List Int) (d:eU) (b:List Int),b.length<=k->I X d->(X++b).length<=16777216->(∀v∈b,0<=v/\v<256)->I (X++b) (bL k d b)
 | 0,X,d,b,hk,h,_,_=>by
   have:b=[]:=List.eq_nil_of_length_eq_zero ω;subst this;rw[List.append_nil];exact h
 | k+1,X,d,b,hk,h,hl,hb=>by
   unfold bL
   split
   · rename_i e
     rw[List.length_append]at hl
     have a:=rX c k (X++b.take (min b.length 16384)) (jv d (b.take (min b.length 16384))) (b.drop (min b.length 16384)) (by rw[List.length_drop];omega)
      (c X d _ h (by rw[List.length_append,List.length_take];omega) λv hv=>hb v (List.mem_of_mem_take hv))
      (by rw[List.append_assoc,List.take_append_drop,List.length_append];exact hl) λv hv=>hb v (List.mem_of_mem_drop hv)
     rw[List.append_assoc,List.take_append_drop]at a;exact a
   · have:b=[]:=List.eq_nil_of_length_eq_zero ω;subst this;rw[List.append_nil];exact h
theorem eT.write (h:eT X P d) {b:List Int} (a:(X++b).length<=16777216) (e:∀v∈b,0<=v/\v<256) {k:Nat} (c:b.length<=k):eT (X++b) P (bL k d b):=
 rX (I:=λX d=>eT X P d) (λ_ _ _ q g f=>q.chunk g f) k X d b c h a e
theorem eM.write (h:eM X P d) {b:List Int} (a:(X++b).length<=16777216) (e:∀v∈b,0<=v/\v<256) {k:Nat} (c:b.length<=k):eM (X++b) P (bL k d b):=
 rX (I:=λX d=>eM X P d) (λ_ _ _ q g f=>q.chunk g f) k X d b c h a e
theorem Dv (h:m8 X P (aY d) all kinds stops bn pre) (g:X.length-(dI 0 d).f.at_<=0):ay (aY d).a8<=16641/\ay (aY d).a8=(aY d).raw.length:=by
 have e:=sg (dI 0 d).a8.length (dI 0 d);have a:ax (aY d).a8=0\/(aY d).a8.length<=ax (aY d).a8:=uk (dI 0 d).a8.length (dI 0 d) (Nat.le_refl _);have j:=h.lens;have i:X.length=all.length+(aY d).raw.length:=by rw[<-h.KQ,List.length_append]
 have c:(aY d).f.at_<=X.length:=by have:=h.Lh.hi;rw[h.fd]at this;exact this
 have k:(aY d).f.at_=(dI 0 d).f.at_:=by show(bJ _ _).f.at_=_;rw[e.2]
 refine⟨?_,ω⟩;rcases a with a | a
 · have:=mX (aY d).a8 0 0 ω a;omega
 · by_cases b:0<ax (aY d).a8
   · have:=zo h b;rw[List.take_of_length_le a]at this;omega
   · have:=mX (aY d).a8 0 0 ω (show dC 0 0 (aY d).a8=0 by unfold ax at b;omega);omega
theorem eT.rest (h:eT X P d):∃all kinds stops bn pre,m8 X P (aY d) all kinds stops bn pre/\ay (aY d).a8<=16641/\ay (aY d).a8=(aY d).raw.length:=by
 obtain⟨all,kinds,stops,bn,pre,h⟩ :=h;obtain⟨j,i⟩ :=h.dI 0;obtain⟨a,b,c,e,f,g⟩ :=eT.bJ ⟨all,kinds,stops,bn,pre,j⟩ (dI 0 d).a8.length;exact⟨a,b,c,e,f,g,Dv g i⟩
theorem eM.rest (h:eM X P d):∃all kinds stops bn pre,m8 X P (aY d) all kinds stops bn pre/\LK P (aY d) all stops/\ay (aY d).a8<=16641/\ay (aY d).a8=(aY d).raw.length:=by
 obtain⟨all,kinds,stops,bn,pre,h,i⟩ :=h;obtain⟨k,j⟩ :=h.dI 0;obtain⟨a,b,c,e,f,g,h4⟩ :=eM.bJ ⟨all,kinds,stops,bn,pre,k,i.same rfl⟩ (dI 0 d).a8.length;exact⟨a,b,c,e,f,g,h4,Dv g j⟩
theorem eT.close (h:eT X P d):∃t,(start (P++(cN d).L) 16777216).fin=(t,8)/\t.x=[]/\t.all=X/\(P++(cN d).L).length%8=0/\bc (P++(cN d).L):=by
 obtain⟨all,kinds,stops,bn,pre,h,j,g⟩ :=h.rest;have b:(aY d).a8.take (aY d).a8.length=(aY d).a8:=List.take_of_length_le (Nat.le_refl _);obtain⟨k,a⟩ :=h.last (aY d).a8.length (by rw[b];omega);rw[b,g,List.take_of_length_le (Nat.le_refl _),h.KQ]at a;have i:P++(cN d).L=kE (P++(dJ (aY d) (aY d).a8.length true).L):=(za h.ev).symm;obtain⟨t,f,e,c,_⟩ :=a.fin;rw[i];exact⟨t,f,e,c,jA _,bc.kE a.1⟩
theorem eM.close (h:eM X P d):∃t,(start (P++(cN d).L) 16777216).fin=(t,8)/\t.x=[]/\t.all=X/\(P++(cN d).L).length%8=0/\bc (P++(cN d).L)/\
  (d.lev<=0->∀k∈t.kinds,k=0)/\t.kinds.length=t.stops.length/\(∀i,i<t.stops.length->ix t.stops i-(if i=0 then 0 else ix t.stops (i-1))<=16642)/\(P++(cN d).L).length<=8*X.length+48*(X.length/16384+1)/\∀s∈t.stops,0<=s/\s<=16777216:=by
 obtain⟨all,kinds,stops,bn,pre,h,e,C,w⟩ :=h.rest;have f:(aY d).a8.take (aY d).a8.length=(aY d).a8:=List.take_of_length_le (Nat.le_refl _);obtain⟨D,j⟩ :=h.last (aY d).a8.length (by rw[f];omega);have a:=nz h (aY d).a8.length true (by rw[f];omega);rw[f]at a;have B:X.length=all.length+(aY d).raw.length:=by rw[<-h.KQ,List.length_append]
 rw[f,w,List.take_of_length_le (Nat.le_refl _),h.KQ]at j;have z:P++(cN d).L=kE (P++(dJ (aY d) (aY d).a8.length true).L):=(za h.ev).symm;have m:(aY d).lev=d.lev:=(sg _ _).1;obtain⟨t,r,q,p,l,g,_⟩ :=j.fin;rw[z];have v:=h.kl.1;have u:=e.size;have A:=e.cnt;refine⟨t,r,q,p,jA _,bc.kE j.1,λn k b=> ?_, ?_,λi hi=> ?_, ?_,λs a=> ?_⟩
 · rw[l]at b;rcases List.mem_append.1 b with b | b
   · exact h.st0 (by rw[m];exact n) k b
   · rw[List.mem_singleton.1 b];unfold km;rw[if_pos (by rw[m];exact n)]
 · rw[l,g,List.length_append,List.length_append,v];rfl
 · rw[g]at hi⊢;rw[List.length_append,List.length_singleton]at hi;by_cases o:i<stops.length
   · have:=e.gap i o;rw[aL,if_pos o];by_cases c:i=0
     · rw[if_pos c]at this⊢;exact this
     · rw[if_neg c]at this⊢;rw[aL,if_pos ω];exact this
   · obtain rfl:i=stops.length:=ω;rw[aL,if_neg ω,Nat.sub_self];have y:ix [((X.length:Nat):Int)] 0=((X.length:Nat):Int):=rfl;rw[y];have ht:=e.top;by_cases c:stops.length=0
     · rw[if_pos c]at ht⊢;omega
     · rw[if_neg c]at ht⊢;rw[aL,if_pos ω,ht];omega
 · rw[fV,List.length_append];omega
 · rw[g]at a;rcases List.mem_append.1 a with a | a
   · exact h.kl.2 s a
   · rw[List.mem_singleton.1 a];have:=h.big;omega
end
end Go.Proofs.YtddhegejmkgmjaaGreat
