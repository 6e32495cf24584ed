/-
  part
-/
import Derived.Test.YtgiimmkmjpbecaaGreatCdR
import Derived.Test.YtgiimmkmjpbecaaGreatPk40
namespace Go.Proofs.YtgiimmkmjpbecaaGreat
open Go.RowKit
set_option linter.unusedVariables false
set_option maxRecDepth 100000
set_option maxHeartbeats 8000000
theorem Da.file {w:World} {b0 q k N:Nat} {E:Nat->Prop} {X O:ag} (h:Da w b0 q E k 2 N X O):xI k O X/\O.length<=X.length+18+375000*N:=by
 obtain⟨_, ⟨rfl,g,A,n,c,l, -, -,a,h4, -⟩ | ⟨rfl,g,G,d,hd,tl, -, -,a, -⟩ | ⟨rfl,g,G,d,hd,tl, -, -,a, -⟩⟩ :=h
 · rw[h4 rfl,ak]at a;exact⟨.inl ⟨rfl,a⟩,by rw[a];omega⟩
 · obtain⟨b,e⟩ :=a.gz;exact⟨b,ω⟩
 obtain⟨b,e⟩ :=a.zl;exact⟨b,ω⟩
theorem TT {k:Nat} {F X:ag} (h:xI k F X) (b:∀v∈X,0<=v/\v<256):∀v∈F,0<=v/\v<256:=by
 rcases h with ⟨rfl,rfl⟩ | ⟨_,B,a, ⟨rfl,rfl⟩ | ⟨rfl,rfl⟩⟩
 · exact b
 · unfold KI;rw[B5];exact zB δ (zB (Lm a.bit) (M7 X))
 unfold lV;exact zB (zB δ (Lm a.bit)) (F5 (qf 1 X))
theorem JM {w:World} {n:Nat} {A:ax} {l:ag} {B:Nat} {E:Nat->Prop} (h:bT .u8 w B A n l) (hE:∀j,E j->B<=j):0<n->∀c,A=some c->¬E c.block:=λf c e b=>by
 obtain⟨g,a,d,_⟩ :=h.2 f;rw[e]at a;injection a with a;subst a;have:=hE _ b;omega
theorem cback_law (kk:Int) (A:ax) (n cp:Nat) (b:ag) (lev less:Int) (w:World) (AO:(Lit.int .u8 kk).wf=true) (T:InC .u8 w A n cp b) (z:(Lit.int .i64 lev).wf=true) (Vn:(Lit.int .u8 less).wf=true):
  Calls Tryz.prog 3 #[.int .u8 kk, .slice A n cp, .int .i64 lev, .int .u8 less] w λe w'=>e= .returned (.bool true)/\Below w.heap.size w w':=by
 have J6:=I7 z;obtain⟨L,X,Jh,eY,ab⟩ :=T;have B:=bounds_u8 AO;have qD:=bounds_u8 Vn;have C:∀v∈b,0<=v/\v<256:=λv hv=>bounds_u8 (Jh v hv);have pL:=L.1;by_cases kh:3000<n
 · have hc:(3000:Int)<(n:Int):=ω;clear L X Jh eY ab C pL kh B qD J6 AO z Vn
   go_in
   go_wp2_with fail;refine(Bi w).mono ?_;rintro e wa ⟨rfl,Mp⟩
   go_wp2_with fail;go_ret;exact⟨rfl,Mp⟩
 have tJ:¬(3000:Int)<n/\(0:Int)<=n:=ω;obtain⟨K,hK⟩ :=ν ((kk%3).toNat);have G:K<=2:=ω;have HK:=η (λW=>Wb W kk B);rw[hK]at HK;obtain⟨j,Z⟩ :=ν (n/3);have bs:(n:Int).tdiv 3=(j:Int):=by rw[Int.tdiv_eq_ediv_of_nonneg ω];omega
 have sZ:j<=n:=ω;obtain⟨i0,hi,am,f,al⟩ :=aL mG;have bp:=dR (P:=Tryz.prog) 22 5 Tryz.underlying22 hi f A n cp (j:=j) ω;have bo:=cK (P:=Tryz.prog) 22 5 Tryz.underlying22 hi f A n cp (j:=j) ω;have bt:(0:Int)<=j/\(j:Int)<=n:=ω;have U:bT .u8 w w.heap.size A j (b.take j):=bT.pre L sZ;have S:bT .u8 w w.heap.size (dw A cp j) (n-j) (b.drop j):=bT.dw L sZ eY;have HN:=η (Qc w K G lev J6);have a:=η (⟨L,eY,C,pL,kh,U,S,G,hi,f⟩ :_/\_/\_/\_/\_/\_/\_/\_/\_/\_);have HS:=η (⟨qD,sZ⟩ :_/\_);clear L X Jh eY ab C pL kh B qD J6 AO z Vn hK G Z U S sZ hi am f al
 go_in
 go_wp2_with fail;refine(HK w).mono ?_;rintro r w0 ⟨rfl,an⟩;obtain rfl:=an
 go_wp2_with fail;refine HN.mono ?_;rintro r w1 ⟨q,E,rfl,h1,p⟩;have HW:=η (xL h1 A j cp (b.take j) ((a.2.2.2.2.2.1.below p).more p.size) (ε HS.2 a.2.1) (JM a.2.2.2.2.2.1 λj Z=>(h1.qb j Z).1) (λv hv=>a.2.2.1 v (aN hv)) (by rw[ba,aD];have:=a.2.2.2.2.1;have:=HS.2;omega) (λv hv=>by cases hv));have H1:=η p;clear h1 p HN
 go_wp2_with fail;refine HW.mono ?_;rintro r w2 ⟨rfl,E2,h2,x2⟩;rw[ba]at h2;have o:=H1.trans x2.1;have H:=η (xL h2 (dw A cp j) (n-j) (cp-j) (b.drop j) ((a.2.2.2.2.2.2.1.below o).more o.size) (τ a.2.1) (JM a.2.2.2.2.2.2.1 λj Z=>(h2.qb j Z).1) (λv hv=>a.2.2.1 v (aW hv)) (by rw[aO];have:=a.2.2.2.1;have:=a.2.2.2.2.1;omega) (λv hv=>a.2.2.1 v (aN hv)));have H2:=η o;rw[aO]at H;clear h2 x2 o HW H1
 go_wp2_with fail;refine H.mono ?_;rintro r w3 ⟨rfl,E3,h3,x3⟩;have HC:=η (Ic h3 (ε a.2.2.2.1 a.2.2.2.2.1));have H3:=η (H2.trans x3.1);clear h3 x3 H H2
 go_wp2_with fail;refine HC.mono ?_;rintro r w4 ⟨rfl,E4,h4,x4⟩;have HT:=η (Lr h4 δ (ε a.2.2.2.1 a.2.2.2.2.1));have H4:=η (H3.trans x4.1);clear h4 x4 HC H3
 go_wp2_with fail;refine HT.mono ?_;rintro r w5 ⟨Ax,nx,cx,x,E5,rfl,lQ,R,h5,x5⟩;rw[ba,a8 δ]at h5;obtain⟨hf,ap⟩ :=h5.file;have FP:=TT hf a.2.2.1;have ln:x.length<=1000000:=by have:=a.2.2.2.1;have:=a.2.2.2.2.1;omega
 have lZ:=H4.trans x5.1;obtain⟨f1,f2⟩ :=xM (m:=n) hf a.2.2.1 (by rw[a.2.2.2.1];exact af _);have HD:=η (X3 w5 K a.2.2.2.2.2.2.2.1 Ax nx cx x n (lQ.rd) lQ.2.iT FP ln (τ a.2.2.2.2.1) ⟨wS hf a.2.2.1,wT hf⟩);unfold KY at HD;rw[f1,f2]at HD;have d:=η (⟨h5,lQ,R,hf,FP,ln,lZ,f1,f2⟩ :_/\_/\_/\_/\_/\_/\_/\_/\_);clear h5 lQ R hf ap FP ln lZ x5 f1 f2 HT H4
 go_wp2_with fail;refine(HK w5).mono ?_;rintro r wq ⟨rfl,l⟩;obtain rfl:=l
 go_wp2_with fail;refine HD.mono ?_;rintro r w6 ⟨Ap,np,bd,rfl,il,kE⟩;have h6:=d.1.keeps kE;have O:=η (⟨h6,(d.2.1.keeps kE),il.rd,d.2.2.2.2.2.2.1.trans (kE.mono d.2.2.2.2.2.2.1.size)⟩ :_/\_/\_/\_);clear h6 il kE HD
 go_wp2_with fail;refine(Bi w6).mono ?_;rintro r I ⟨rfl,M⟩;have ZM:=O.2.2.2.trans (M.mono O.2.2.2.size);have c:=η (⟨O.1.keeps M,O.2.1.keeps M,(O.2.2.1.below M).more M.size,ZM,(a.1.below ZM).more ZM.size⟩ :_/\_/\_/\_/\_);clear M ZM O;have i:=η (BD I I.heap.size np bd n cp Ap A b b c.2.2.1 c.2.2.2.2 (ε c.2.2.1.1 a.2.2.2.1) rfl)
 go_wp2_with fail;refine i.mono ?_;rintro r w8 ⟨rfl,q8,rfl⟩;have rE:Below I.heap.size I (I.drewN q8):=below_drewN (aw _ _) q8;have t:=η (⟨c.1.keeps rE,c.2.1.keeps rE,c.2.2.2.1.trans (rE.mono c.2.2.2.1.size)⟩ :_/\_/\_);revert t;clear rE i c;generalize I.drewN q8=w9;intro t
 go_wp2_with fail;refine(F9 t.1 _).mono ?_;rintro r wq ⟨rfl,l⟩;obtain rfl:=l
 go_wp2_with fail;refine(F8 t.1).mono ?_;rintro r wq ⟨rfl,l⟩;obtain rfl:=l
 go_wp2_with fail;refine(HK w9).mono ?_;rintro r wq ⟨rfl,l⟩;obtain rfl:=l;have nG:(n:Int)=max (n:Int) 0:=by have:=tJ.2;omega
 have B3:n<=3000:=by have:=a.2.2.2.2.1;omega
 have k:=η (Ib w9 K a.2.2.2.2.2.2.2.1 Ax nx cx x n n nG B3 (t.2.1.rd) d.2.2.2.2.1 d.2.2.2.2.2.1 (by rw[d.2.2.2.2.2.2.2.1,<-a.2.2.2.1];exact B3) ⟨wS d.2.2.2.1 a.2.2.1,wT d.2.2.2.1⟩);unfold KY at k;rw[d.2.2.2.2.2.2.2.1,d.2.2.2.2.2.2.2.2]at k;clear nG B3
 go_wp2_with fail;refine k.out.mono ?_;rintro r Sr ⟨Ay,ny,cy,rfl,V,F⟩;have ac:=t.2.2.trans (F.mono t.2.2.size);have YB:=η (⟨t.2.1.keeps F,V,ac⟩ :_/\_/\_);clear V F ac k t;obtain⟨D,hD⟩ :=ν (less.tmod 9);have bB:0<=D/\D<9:=by rw[<-hD,eJ HS.1.1];omega
 obtain⟨s,ZC⟩ :=ν ((n:Int)-1-D);have bx: -9<=s/\s<n:=ω;obtain⟨m3,ao⟩ :=ν (s.toNat);have y:(m3:Int)=max s 0:=ω;have Y:m3<=n:=by have:=tJ;omega
 have hY:(Dj K x m3).length<=3000/\(0<=s->Ol K x m3=6/\Dj K x m3=b.take m3):=by
  have V3:=a.2.2.2.1;have bv:=a.2.2.2.2.1;rcases aU m3 b.length with h | h
  · obtain⟨c1,c2⟩ :=Qd d.2.2.2.1 h;exact⟨by rw[c1,aD];omega,λ_=> ⟨c2,c1⟩⟩
  obtain⟨c1,c2⟩ :=xM d.2.2.2.1 a.2.2.1 h;exact⟨by rw[c1];omega,λh0=>ω⟩
 have k:=η (Ib Sr K a.2.2.2.2.2.2.2.1 Ax nx cx x s m3 y (τ a.2.2.2.2.1) (YB.1.rd) d.2.2.2.2.1 d.2.2.2.2.2.1 hY.1 ⟨wS d.2.2.2.1 a.2.2.1,wT d.2.2.2.1⟩);have HY:=η hY.2;have HM:=η (⟨Y,y⟩ :_/\_);clear ao y Y hY;unfold KY at k;revert k HY;generalize Dj K x m3=Y3;generalize Ol K x m3=e3;intro k HY
 go_wp2_with fail;refine(HK Sr).mono ?_;rintro r wq ⟨rfl,l⟩;obtain rfl:=l
 go_wp2_with fail;refine k.out.mono ?_;rintro r J ⟨Az,nz,cz,rfl,R6,Mo⟩;have FA:=YB.2.2.trans (Mo.mono YB.2.2.size);have u:=η (⟨(YB.2.1.rd.below Mo).more Mo.size,R6.rd,FA,(a.1.below FA).more FA.size⟩ :_/\_/\_/\_);clear R6 Mo FA k YB;have i:=η (BD J J.heap.size ny cy n cp Ay A b b u.1 u.2.2.2 (ε u.1.1 a.2.2.2.1) rfl)
 go_wp2_with fail;refine i.mono ?_;rintro r bl ⟨rfl,wH,rfl⟩;have N:Below J.heap.size J (J.drewN wH):=below_drewN (aw _ _) wH;have g:=η (⟨(u.2.1.below N).more N.size,u.2.2.1.trans (N.mono u.2.2.1.size),(u.2.2.2.below N).more N.size⟩ :_/\_/\_);revert g;clear N i u;generalize J.drewN wH=w13;intro g;by_cases h0:s<0
 · go_wp2_with fail;go_ret;exact⟨rfl,g.2.1⟩
 have aE:0<=s:=ω;obtain⟨e6,ey⟩ :=HY.out aE;subst e6;obtain⟨hi,f⟩ :=a.2.2.2.2.2.2.2.2;have ah:s=(m3:Int):=by have:=HM.out;omega
 have hs3:=dR (P:=Tryz.prog) 22 5 Tryz.underlying22 hi f A n cp (j:=m3) (ε HM.out a.2.1);rw[<-ah]at hs3;have tM:bT .u8 w13 w13.heap.size A m3 (b.take m3):=bT.pre g.2.2 HM.1;have be:=η (BD w13 w13.heap.size nz cz m3 cp Az A Y3 (b.take m3) g.1 tM (by have:=g.1.1;rw[ey,aD]at this;have:=HM.out;have:=a.2.2.2.2.1;omega) ey);clear hi f ah ey tM HY
 go_wp2_with fail;refine be.mono ?_;rintro r bi ⟨rfl,Q,rfl⟩;have ad:Below w.heap.size w (w13.drewN Q):=below_drewN g.2.1 Q;have HB:=η ad;clear ad
 go_wp2_with fail;go_ret;exact⟨rfl,HB.out⟩
end Go.Proofs.YtgiimmkmjpbecaaGreat
