/-
  part
-/
import Derived.Test.YtgiimmkmjpbecaaGreatPk32
import Derived.Test.YtgiimmkmjpbecaaGreatPk33
set_option linter.unusedVariables false
set_option maxRecDepth 100000
set_option maxHeartbeats 4000000
namespace Go.Proofs.YtgiimmkmjpbecaaGreat
open Go.RowKit
theorem five {P:Nat->Prop} (d:P 0) (c:P 1) (b:P 2) (a:P 3) (h4:P 4):∀i,i<5->P i:=λi hi=>by
 obtain rfl | rfl | rfl | rfl | rfl:i=0\/i=1\/i=2\/i=3\/i=4:=ω;all_goals assumption
section
variable {w:World} {b0 g:Nat} {E:Nat->Prop} {d:jO} {hd tl:ag} {s z:Int}
theorem IE (h:EK w b0 g E d false hd s z tl) {K:Nat} {X P:ag} (Y:DB K X P d) (C:ax) (m e:Nat) (x:ag) (D:bT .u8 w w.heap.size C m x) (SZ:m<=e) (L:0<m->∀j,C=some j->¬E j.block) (o:∀v∈x,0<=v/\v<256) (N:(X++x).length<=16777216) (W:K+100*m<=2000000000000) (hz:z+m<4294967296):
  Calls Tryz.prog 88 #[.pointer (some ⟨g,0,none⟩), .slice C m e] w λr w'=>r= .returned (.int .i64 0)/\∃E',EK w' b0 g E' (iJ m d x) false hd (zK s x) (z+m) tl/\Ext b0 w w' E E':=by
 obtain⟨b1,Z,c,M,H,T,F,rfl,rfl,rfl⟩ :=h;obtain⟨V,J,I,B,G⟩ :=F.cells
 have n:0<m->∀j,C=some j->c j.block=0:=λR j e=>by
  rcases bD (c j.block)with hz | hz
  · exact hz
  exact absurd (.inr (.inr (.inr ω))) (L R j e)
 have HW:=η (zR w b1 Z c M d F.enc Y C m e x D SZ n o N W);have hm:m<=1000000000:=by rw[ae]at N;have:=D.1;omega
 have J7:(0:Int)<=(m:Int)/\(m:Int)<=1000000000:=ω;have l:=η (⟨F,D,L,o,n,hz⟩ :_/\_/\_/\_/\_/\_);clear F D L o N W Y J I B G n hz
 go_in
 go_wp2_with fail;refine HW.mono ?_;rintro r w1 ⟨rfl,M1,c1,Q,y⟩;have a:=l.1.turn Q y;have f:=l.1.ext Q y;have u:=y.2.1.rp l.2.1 (af _) (λR j e hc=>hc (l.2.2.2.2.1 R j e));have O:=Ow s C m e w1.heap.size x w1 (u.more y.2.1.size) (af _) (yR l.2.2.2.1) a.sm.1 hm;obtain⟨V,J,I,B,G⟩ :=a.cells;have e1:nL (pD (nL s) x m)=zK s x:=by rw[l.2.1.1];rfl
 rw[e1]at O;have Y0:=η O;have A:=η (⟨a,f⟩ :_/\_);clear O e1 Q y a f u HW B
 go_wp2_with fail;refine Y0.mono ?_;rintro r w2 ⟨rfl,q⟩;have a:=A.1.keeps q;have f:=A.2.trans (Ext.of (bb.bC (S:=QC g c1 H T) q) (λk b=>(A.1.qb k b).1) A.1.low (λk b=> .inl b));obtain⟨V,J,I,B,G⟩ :=a.cells;have z2:=a.cell.aH 2;have z3:=a.cell.aH 3;have ah:IntKind.u32.wrap (m:Int)=(m:Int):=fq _ ω;have ac:=a.sm.2;have ab:IntKind.u32.wrap (z+(m:Int))=z+(m:Int):=fq _ (τ l.2.2.2.2.2);have i:bb w2 ((w2.setCell ⟨g,2,none⟩ (.int .u32 (zK s x))).setCell ⟨g,3,none⟩ (.int .u32 (z+m))) (λk=>k=g):=((bb.refl w2 (λk=>k=g)).setCell (p:= ⟨g,2,none⟩) (.inl rfl) _).setCell (p:= ⟨g,3,none⟩) (.inl rfl) _;have h4:=a.own (s':=zK s x) (z':=z+m) (H':=H) (T':=T) i (((a.cell.cE 2 _).cE 3 _).congr (five rfl rfl rfl rfl rfl)) (i.dJ a.hd (λk b e=>(a.ch k b).2 e)) (i.dJ a.tl (λk b e=>(a.ct k b).2 e)) a.ch a.ct a.ht ⟨LA a.sm.1 l.2.2.2.1,τ l.2.2.2.2.2⟩;have t:=f.trans (Ext.of (i.more λk b=>(.inl b:QC g c1 H T k)) (λk b=>(a.qb k b).1) a.low (λk b=> .inl b));have U:=η (⟨h4,t⟩ :_/\_);obtain⟨v,hv⟩ :=ν (zK s x);rw[hv]at U⊢;have YN:=η hv;clear h4 t i f a q A hv
 go_wp2_with fail;go_ret;exact⟨rfl,_, ⟨b1,Z,c1,M1,H,T,by rw[YN.out];exact U.1,rfl,rfl,rfl⟩,U.2⟩
theorem ID (h:EK w b0 g E d false hd s z tl) {K:Nat} {X P:ag} (hB:DB K X P d) (hK:K+100<=2000000000000):
  Calls Tryz.prog 85 #[.pointer (some ⟨g,0,none⟩)] w λr w'=>r= .returned (.int .i64 0)/\∃E',EK w' b0 g E' (ng d) true hd s z (tW 4 s++tW 4 z)/\Ext b0 w w' E E':=by
 obtain⟨i0,hi,x,u,t⟩ :=aL oa;have Hi:=η (⟨hi,x,u,t⟩ :_/\_/\_/\_);obtain⟨b1,ge,c,M,H,T,N,rfl,rfl,rfl⟩ :=h;obtain⟨k0,k1,k2,k3,k4⟩ :=N.cells;have HW:=η (zL w b1 ge c M d N.enc hB hK);have H1:=η N;clear N hK hB k1 k2 k3 k4 hi x u t
 go_in
 go_wp2_with fail;refine HW.mono ?_;rintro r w1 ⟨rfl,M1,c1,h2,V⟩;have I:=H1.turn h2 V;have y:=H1.ext h2 V;obtain⟨k0,k1,k2,k3,k4⟩ :=I.cells;have ot:∀v:Int,0<=v/\v<4294967296->∀W,Calls Tryz.prog 43 #[.int .u32 v, .int .i64 4] W λe w'=>∃A n c,e= .returned (.slice A n c)/\aT .u8 w' W.heap.size 5 A n c (tW 4 v)/\Below W.heap.size W w':=λv hv W=>Bg W v 4 hv ω;have HL:=η (ot s I.sm.1);have ab:=η (ot z I.sm.2);clear ot;have f:=η (⟨I,y⟩ :_/\_);clear h2 V I y HW
 go_wp2_with fail
 go_region_law
  (first
    | (have _g:=B;(refine eK .u8 w1.heap.size 5 i0 1 rfl (.tmp 18) (.tmp 23) _ rfl Tryz.underlying22 Hi.1 Hi.2.1 Hi.2.2.1 Hi.2.2.2 rfl C rfl B ω ω G ?_)
       intro J O o R jH fk;have Y:bb Q o (λk=>ai A=some k):=(bb.refl Q _).grown jH (λk a=> .inl a);have DI:∀k,ai A=some k->w1.heap.size<=k:=λk a=>(C.2.lt a).1;have nj:=Y.ar H5.1.cell (λe=>by have:=DI g e;have:=f.1.cell.lt;omega);have z4:=nj.aH 4;have ac:=nj.az 4)
    | (have _g:=b;go_simp;go_at_call 43;(refine(ab _).mono ?_)
       rintro r Q ⟨A2,n2,c2,rfl,U,i⟩;have h5:=b.1.keeps i;have je:=b.2.2.keeps i;have l:=b.2.1.trans (i.mono b.2.1.size);have F:=b.2.2.1;rw[jW]at F;have D:=U.1;rw[jW]at D;subst F D;have G:=l.size;have B:=U.rd;have C:aT .u8 Q w1.heap.size 5 A 4 c0 (tW 4 s):=je;have H5:=η (⟨h5,l⟩ :_/\_);clear h5 l i U je)
    | (go_simp;go_at_call 43;(refine(HL _).mono ?_)
       rintro r w2 ⟨A,n,c0,rfl,L,q⟩;have m:Below w1.heap.size w1 w2:= ⟨q.os,q.tape,q.output,q.size,q.block⟩;have L:aT .u8 w2 w1.heap.size 5 A n c0 (tW 4 s):=L;have h4:=f.1.keeps m;have ad:=h4.cells.2.2.2.1;have b:=η (⟨h4,m,L⟩ :_/\_/\_);clear h4 m L q))
 all_goals
  have hA:∀k,ai J=some k->w1.heap.size<=k:=λk a=>(R.2.lt a).1
  have hz:∀k,w1.heap.size<=k->c1 k=0/\k≠g:=λk a=>by
   refine⟨?_,τ f.1.cell.lt⟩;rcases bD (c1 k)with h | h
   · exact h
   have:=(f.1.enc.cb k ω).2;omega
  have Z:Below w1.heap.size w1 o:=H5.2.trans (Y.below (λk a=>DI k a) G);have h6:=f.1.keeps Z;have j:bb o (o.setCell ⟨g,4,none⟩ (.slice J (4+4) O)) (λk=>k=g):=bb.setCell (S:=λk=>k=g) (bb.refl o _) (p:= ⟨g,4,none⟩) (.inl rfl) _;have h7:=h6.own (s':=s) (z':=z) (H':=H) (T':= ⟨J,4+4,O,tW 4 s++tW 4 z⟩) j ((h6.cell.cE 4 _).congr (five rfl rfl rfl rfl rfl)) (j.dJ h6.hd (λk a e=>(h6.ch k a).2 e)) ((R.more f.1.low).far (p:= ⟨g,4,none⟩) (λe=>(hz g (hA g e)).2 rfl) _) h6.ch (λk a=>hz k (hA k a)) (λk a e=>by have h6:=hA k e;have h7:=(f.1.hd.2.lt a).2;omega) h6.sm
  have Ji:Ext b0 w (o.setCell ⟨g,4,none⟩ (.slice J (4+4) O)) (QC g c H T) (QC g c1 H ⟨J,4+4,O,tW 4 s++tW 4 z⟩):=f.2.trans (Ext.of (((bb.bC Z).setCell (p:= ⟨g,4,none⟩) (.inl (.inl rfl)) _)) (λk a=>(f.1.qb k a).1) f.1.low (λk a=>by
   rcases a with a | a | a | a
   · exact .inl (.inl a)
   · exact .inl (.inr (.inl a))
   · exact .inr (hA k a)
   exact .inl (.inr (.inr (.inr a)))))
  have HF:=η (⟨h7,Ji⟩ :_/\_);clear h6 h7 Ji j Z hA hz R jH fk Y DI nj
  go_wp2_with fail;go_ret;exact⟨rfl,_, ⟨b1,ge,c1,M1,H,_,HF.1,rfl,rfl,rfl⟩,HF.2⟩
end
def a3T (w:World) (b0 g:Nat) (E:Nat->Prop) (d:jO) (done:Bool) (hd:ag) (s z:Int) (tl:ag) (r:Ending) (w':World):Prop:=
 ∃A n k E',r= .returned (.slice A n k)/\aT .u8 w' b0 5 A n k (hd++gU d.L++tl)/\(∀q,ai A=some q->¬E' q)/\EK w' b0 g E' { d with L:=rest d.L } done [] s z []/\Ext b0 w w' E E'
theorem M4 {w:World} {b0 g:Nat} {E:Nat->Prop} {d:jO} {hd tl:ag} {s z:Int} {done:Bool} (h:EK w b0 g E d done hd s z tl) (K:hd.length<=100000/\tl.length<=100000/\d.L.length<=1000000000000):
  Calls Tryz.prog 87 #[.pointer (some ⟨g,0,none⟩)] w (a3T w b0 g E d done hd s z tl):=by
 obtain⟨i0,hi,D,C,B⟩ :=aL oa;have Hi:=η (⟨hi,D,C,B⟩ :_/\_/\_/\_);obtain⟨b1,N,c,M,H,T,y,rfl,rfl,rfl⟩ :=h;obtain⟨k0,k1,k2,k3,k4⟩ :=y.cells;have o:gH w.drew b1 N c M d done:=y.enc.keeps (aw _ _).drew;have HT:=η (DA w.drew b1 N c M d done o);have ac:H.n<=100000:=by rw[y.hd.1];exact K.1
 have ab:T.n<=100000:=by rw[y.tl.1];exact K.2.1
 have O:=η (⟨y,o,K⟩ :_/\_/\_);clear y o hi D C B k2 k3 K
 go_in
 go_wp2_with fail
 go_region_law
  (first
    | (go_simp;go_at_call 92;(refine HT.mono ?_)
       rintro r x ⟨rfl,v,J,I⟩;have V:=O.2.1.taken J I;obtain⟨b,X,CM⟩ :=V;have W:DE b1 w c x b:=DE.trans (⟨(aw _ _).drew,(bb.refl _ _).drew,λ_ _=>rfl⟩ :DE b1 w c w.drew c) CM;have h5:=O.1.turn X W;have Ji:=O.1.ext X W;have e1:=h5.cells.2.1;have e3:=h5.cells.2.2.2.2;have U:=h5.hd;have QY:M.nw<=125000000000:=by rw[v.1,jm];have:=O.2.2.2.2;omega
       have R:=h5.low)
    | (have _g:=U;(refine eK .u8 b0 5 i0 1 rfl (.tmp 9) (.tmp 14) _ rfl Tryz.underlying22 Hi.1 Hi.2.1 Hi.2.2.1 Hi.2.2.2 rfl U rfl v.rd ω ω R ?_)
       intro A6 c6 P il jH fk;have u:bb x P (λk=>ai H.A=some k):=(bb.refl x _).grown jH (λk a=> .inl a);have m:=u.dJ h5.tl (λk a e=>h5.ht k e a);have nj:=u.ar h5.cell (λe=>(h5.ch g e).2 rfl);have f3:=nj.az 4;have Q:=aq R u.size;clear U)
    | (have _g:=m;(refine eK .u8 b0 5 i0 1 rfl (.tmp 15) (.tmp 19) _ rfl Tryz.underlying22 Hi.1 Hi.2.1 Hi.2.2.1 Hi.2.2.2 rfl il rfl m.rd ω ω Q ?_)
       intro Z c7 j vG Hd xe;have f:bb P j (λk=>ai A6=some k):=(bb.refl P _).grown Hd (λk a=> .inl a)
       have DI:∀k,ai A6=some k->ai H.A=some k\/x.heap.size<=k:=λk a=>by
        rcases fk with e | e
        · exact .inl (e▸a)
        rw[e]at a;injection a with a;exact .inr ω
       have F:=f.ar nj (λe=>by
        rcases DI g e with e2 | e2
        · exact(h5.ch g e2).2 rfl
        have:=h5.cell.lt;omega)
       have y1:=F.aH 1;have y3:=F.aH 4;have g1:=F.az 1;have g3:=F.az 4))
 all_goals
  have hz:∀k,x.heap.size<=k->b k=0/\k≠g:=λk a=>by
   refine⟨?_,τ h5.cell.lt⟩;rcases bD (b k)with h | h
   · exact h
   have:=(h5.enc.cb k ω).2;omega
  have Y:∀k,ai A6=some k->b k=0/\k≠g:=λk a=>by
   rcases DI k a with e | e
   · exact h5.ch k e
   exact hz k e
  have G:∀k,ai Z=some k->b k=0/\k≠g:=λk a=>by
   rcases xe with e | e
   · exact Y k (e▸a)
   rw[e]at a;injection a with a;exact hz k (τ u.size)
  have UF:=(h5.enc.aside u (λk a=>(h5.ch k a).1)).aside f (λk a=>(Y k a).1);have t:bb j ((j.setCell ⟨g,1,none⟩ (.slice none 0 0)).setCell ⟨g,4,none⟩ (.slice none 0 0)) (λk=>k=g):=bb.setCell (S:=λk=>k=g) (bb.setCell (S:=λk=>k=g) (bb.refl j _) (p:= ⟨g,1,none⟩) (.inl rfl) _) (p:= ⟨g,4,none⟩) (.inl rfl) _
  have h8:EJ ((j.setCell ⟨g,1,none⟩ (.slice none 0 0)).setCell ⟨g,4,none⟩ (.slice none 0 0)) b0 b1 g N b _ { d with L:=rest d.L } done jP s z jP:=
   ⟨((F.cE 1 _).cE 4 _).congr (λi hi=>by
     obtain rfl | rfl | rfl | rfl | rfl:i=0\/i=1\/i=2\/i=3\/i=4:=ω;all_goals rfl),h5.lo,h5.lo1,UF.aside t (λk a=>by rw[a];exact h5.cg),aT.di,aT.di,h5.cg,λk a=>by simp [jP,ai]at a,λk a=>by simp [jP,ai]at a,λk a=>by simp [jP,ai]at a,h5.sm⟩
  have Mt:bb x ((j.setCell ⟨g,1,none⟩ (.slice none 0 0)).setCell ⟨g,4,none⟩ (.slice none 0 0)) (QC g b H T):=
   ((u.more λk a=>(.inr (.inl a):QC g b H T k)).trans f (λk a=>by
     rcases DI k a with e | e
     · exact .inl (.inr (.inl e))
     exact .inr e)).trans t (λk a=> .inl (.inl a))
  have FO:=Ji.trans (Ext.of Mt (λk a=>(h5.qb k a).1) R (E':=QC g b jP jP) (λk a=>by
   rcases a with a | a | a | a
   · exact .inl (.inl a)
   · simp [jP,ai]at a
   · simp [jP,ai]at a
   exact .inl (.inr (.inr (.inr a)))))
  have Vv:=(vG.far (p:= ⟨g,1,none⟩) (λe=>(G g e).2 rfl) (.slice none 0 0)).far (p:= ⟨g,4,none⟩) (λe=>(G g e).2 rfl) (.slice none 0 0)
  have HF:Hid (a3T w b0 g (QC g c H T) d done H.l s z T.l (.returned (.slice Z (H.n+M.nw+T.n) c7)) ((j.setCell ⟨g,1,none⟩ (.slice none 0 0)).setCell ⟨g,4,none⟩ (.slice none 0 0))):=
   ⟨Z,_,c7,_,rfl,Vv,λq hq hE=>by
     rcases hE with e | e | e | e
     · exact(G q hq).2 e
     · simp [jP,ai]at e
     · simp [jP,ai]at e
     exact e (G q hq).1, ⟨b1,N,b,_,jP,jP,h8,rfl,rfl,rfl⟩,FO⟩
  clear hz Y G UF t h8 Mt FO Vv u f v J I CM W h5 Ji m il vG X
  go_wp2_with fail;go_ret;exact HF
theorem Qo {X P:ag} {d:jO} (h:nU X P d):pA (P++(ng d).L) X:=by
 obtain⟨t,c,b,a,h4,h5⟩ :=h.close;exact⟨⟨t,c,b,a⟩,h4,h5⟩
theorem Zr (h:HP) (B o:ag):(KI h B o).length=h.p4.length+B.length/8+8:=by
 unfold KI;rw[ae,ae,jm,sX];omega
theorem I7 {x:Int} (h:(Lit.int .i64 x).wf=true): -9223372036854775808<=x/\x<=9223372036854775807:=by
 simp [Lit.wf,IntKind.min,IntKind.max,IntKind.signed,IntKind.bits]at h;omega
theorem M0 (lev:Int) (w:World) (u: -9223372036854775808<=lev/\lev<=9223372036854775807):
  Calls Tryz.prog 21 #[.int .i64 lev,hagg (vH.v (.slice none 0 0))] w λe w'=>∃g E,e= .returned (.tuple #[.pointer (some ⟨g,0,none⟩), .int .i64 0])/\EK w' w.heap.size g E (CV lev) false [31,139,8,0,0,0,0,0,0,0] 0 0 []/\Below w.heap.size w w':=by
 obtain⟨P4,n⟩ :=ν ([31,139,8,0,0,0,0,0,0,0]:ag);have HP_:=η (λ(o:Obj)=>Np (w.alloc o));have C:=η (λW=>Ix lev W u);rw[n]at HP_⊢;clear u n;unfold vH at HP_⊢;unfold hagg HP.v at HP_⊢;dsimp only at HP_⊢
 go_in
 go_wp2_with fail;refine(HP_.out _).mono ?_;rintro e w1 ⟨A,c0,rfl,s,l⟩;have z:∀o,Below w.heap.size w (w.alloc o):=λo=>(aw w.heap.size w).alloc (af _) o;have i:=η (⟨s.more (by simp:w.heap.size<=_),(z _).trans (l.mono σ)⟩ :_/\_);clear s l HP_
 go_wp2_with fail;refine(C _).mono ?_;rintro e w2 ⟨d,c,M,rfl,r,a⟩;have hA:=i.1.keeps a;have q:=i.2.trans (a.mono i.2.size);have t:w.heap.size<=w2.heap.size:=q.size
 have x:∀o,Hid (EK (w2.alloc (.cells #[.pointer (some ⟨d,0,none⟩), .slice A 10 c0, .int .u32 0, .int .u32 0, .slice none 0 0] o)) w.heap.size w2.heap.size (QC w2.heap.size c ⟨A,10,c0,P4⟩ jP) (CV lev) false P4 0 0 []/\Below w.heap.size w (w2.alloc (.cells #[.pointer (some ⟨d,0,none⟩), .slice A 10 c0, .int .u32 0, .int .u32 0, .slice none 0 0] o))):=λo=>by
  have p:=q.alloc t (.cells #[.pointer (some ⟨d,0,none⟩), .slice A 10 c0, .int .u32 0, .int .u32 0, .slice none 0 0] o);have j:=(aw w2.heap.size w2).alloc (af _) (.cells #[.pointer (some ⟨d,0,none⟩), .slice A 10 c0, .int .u32 0, .int .u32 0, .slice none 0 0] o)
  have hz:∀k,k<w1.heap.size\/w2.heap.size<=k->c k=0:=λk b=>by
   rcases bD (c k)with h | h
   · exact h
   have:=r.cb k ω;omega
  have y:∀k,ai A=some k->k<w1.heap.size:=λk b=>(i.1.2.lt b).2;have B:=Ar.new w2 #[.pointer (some ⟨d,0,none⟩), .slice A 10 c0, .int .u32 0, .int .u32 0, .slice none 0 0] o (m:=5) (f:=geF d ⟨A,10,c0,P4⟩ 0 0 jP) rfl (five rfl rfl rfl rfl rfl);refine⟨⟨w1.heap.size,d,c,M, ⟨A,10,c0,P4⟩,jP, ⟨B,t,i.2.size,r.keeps j,hA.keeps j,aT.di,hz _ (.inr (af _)),λk b=> ⟨hz k (.inl (y k b)),ε (y k b) a.size⟩,λk b=>by simp [jP,ai]at b,λk b=>by simp [jP,ai],δ⟩,rfl,rfl,rfl⟩,p⟩
 clear r a q hA i
 go_wp2_with fail;go_returns;exact⟨_,_,rfl,(x _).out.1,(x _).out.2⟩
end Go.Proofs.YtgiimmkmjpbecaaGreat
