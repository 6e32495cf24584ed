/-
  part
-/
import Derived.Test.YtgiimmkmjpbecaaGreatPk28
import Derived.Test.YtgiimmkmjpbecaaGreatRfF
namespace Go.Proofs.YtgiimmkmjpbecaaGreat
open Go.RowKit
set_option linter.unusedVariables false
set_option maxRecDepth 100000
set_option maxHeartbeats 4000000
section
variable {w w' w0 w2:World} {b0 g:Nat} {c c0:Nat->Nat} {M M':DM} {S S':DS} {s t t':IS} {b:ag} {v:Int}
def a1d (w0:World) (c0:Nat->Nat) (b0 g:Nat) (M:DM) (F:IS×Int) (a:ag) (n:Nat) (k:Nat) (c:Value) (wr:World):Prop:=
 ∃M' S' b v,c= .int .i64 v/\bA w0 c0 wr b0 g M' S'/\M'.out=M.out++b/\M'.out.length<=max M.out.length (n+70000)/\
  ((v=0/\∃s,py F (a++b) M' S' s/\Hid (k=s.mu+1))\/(v=5/\∃s,py F (a++b) M' S' s/\s.step.2=5)\/qV F (a++b) M' S')
def Hs (F:IS×Int) (a:ag) (M:DM) (S:DS) (n:Nat) (l:ag) (r:Int):Prop:=
 (r=0/\l.length=n/\((∃s,py F a M S s)\/qV F a M S))\/
 (r=5/\l.length<n/\M.out=[]/\((∃s,py F a M S s/\s.step.2=5)\/(0<l.length/\qV F a M S)))\/
 (r≠0/\r≠5/\r=F.2/\l=[]/\0<n/\M.out=[]/\qV F a M S)
def Tz (w0:World) (c0:Nat->Nat) (b0 g:Nat) (M:DM) (F:IS×Int) (a:ag) (n:Nat) (e:Ending) (w':World):Prop:=
 ∃A k cp r M' S' b l c,e= .returned (.tuple #[.slice A k cp, .int .i64 r])/\aT .u8 w' b0 5 A k cp l/\iy w' b0 g c M' S'/\DE b0 w0 c0 w' c/\(∀q,ai A=some q->c q=0)/\M.out++b=l++M'.out/\M'.out.length<=max M.out.length 70000/\Hs F (a++b) M' S' n l r
def a4k (a:World) (b:Nat) (l:ag) (c:Value) (wx:World):Prop:=
 ∃A cp,c= .slice A b cp/\aT .u8 wx a.heap.size 5 A b cp l/\Below a.heap.size a wx
def a4l (w0:World) (c0:Nat->Nat) (b0 g:Nat) (M:DM) (S:DS) (A:ax) (b cp:Nat) (l q:ag) (wx:World):Prop:=
 ∃c e a d,iy wx b0 g c { M with Ao:=e,no:=a,co:=d,out:=q } S/\DE b0 w0 c0 wx c/\aT .u8 wx b0 5 A b cp l/\∀q,ai A=some q->c q=0
theorem Dy {F:IS×Int} {a:ag} (h:bA w0 c0 w b0 g M S) (hR:(∃s,py F a M S s)\/qV F a M S) (N:Int) (n:Nat) (hN:(n:Int)=max N 0) (hn:n<=1000000000) (mg:M.out.length<=1000000000):
  Calls Tryz.prog 182 #[.pointer (some ⟨g,0,none⟩), .int .i64 N] w (Tz w0 c0 b0 g M F a n):=by
 obtain⟨i0,hi,ad,ac,ab⟩ :=aL gG;have Hi:=η hi;have gL:=η ad;have fN:=η ac;have gM:=η ab;clear hi ad ac ab
 have jz:∃k,a1d w0 c0 b0 g M F a n k (.int .i64 0) w:=by
  rcases hR with ⟨s,hs⟩ | hs
  · exact⟨s.mu+1,M,S,[],0,rfl,h,σ,ω, .inl ⟨rfl,s,by rw[ak];exact hs,rfl⟩⟩
  exact⟨0,M,S,[],0,rfl,h,σ,ω, .inr (.inr (by rw[ak];exact hs))⟩
 obtain⟨k0,jz⟩ :=jz;have HI:=η jz;have bp:w.heap.size=w.heap.size:=rfl;clear hR jz h bp;have tJ:(0:Int)<=n/\(n:Int)<=1000000000:=ω;have HN:=η hN;clear hN
 go_in
 go_upto_region 3 with fail
 go_cut [1] (λs1 wx=>s1= .int .i64 n/\wx=w)
 case first=>
  go_wp2_with fail;go_meet;exact⟨by rw[HN.out],rfl⟩
 obtain⟨rfl,rfl⟩ :=hcut
 go_wp2_with fail;go_loopg [6] k0 (a1d w0 c0 b0 g M F a n)
 case atStart=>exact HI
 clear HI;obtain⟨d,o,b,v,rfl,h,L,O,H⟩ :=hrel;obtain⟨-, -, -,k3,k4, -⟩ :=h.cells;have am:=h.out.1;have ch:(0:Int)<=d.no/\(d.no:Int)<=2000000000:=ω;have Ho:=η am;obtain⟨Bd,KM⟩ :=ν (decide ((d.no:Int)<n/\o.err=0/\v=0));have z:=η KM;have HO:=η L;have L4:=η O;have R:=η H;clear KM am L O H;go_upto_region 5 with fail
 go_cut [30] (λs wx=>s= .bool Bd/\wx=wr)
 case first=>
  by_cases l:(d.no:Int)<n
  rotate_left
  · have hd:Hid (false=Bd):=by show _=_;rw[<-z.out];exact(aP λh=>l h.1).symm
    clear z R
    go_wp2_with fail;go_meet;exact⟨bf Value.bool hd.out,rfl⟩
  by_cases m:o.err=0
  · by_cases y:v=0
    · have hd:Hid (true=Bd):=by show _=_;rw[<-z.out];exact(aX ⟨l,m,y⟩).symm
      rw[m]at k4;clear z R m;subst y
      go_wp2_with fail;go_meet;exact⟨bf Value.bool hd.out,rfl⟩
    have hd:Hid (false=Bd):=by show _=_;rw[<-z.out];exact(aP λh=>y h.2.2).symm
    rw[m]at k4;have ah:(v==0)=false:=by simpa using y
    clear z R m y
    go_wp2_with fail;go_meet;exact⟨bf Value.bool hd.out,rfl⟩
  have hd:Hid (false=Bd):=by show _=_;rw[<-z.out];exact(aP λh=>m h.2.1).symm
  have ah:(o.err==0)=false:=by simpa using m
  clear z R m
  go_wp2_with fail;go_meet;exact⟨bf Value.bool hd.out,rfl⟩
 obtain⟨rfl,rfl⟩ :=hcut;by_cases hB:(d.no:Int)<n/\o.err=0/\v=0
 · rw[<-z.out,aX hB];obtain⟨Md,bl,bM⟩ :=hB;subst bM
   have hA:∃s,py F (a++b) d o s/\Hid (gk=s.mu+1):=by
    rcases R.out with ⟨_,l⟩ | ⟨l,_⟩ | l
    · exact l
    · exact absurd l δ
    exact absurd (l.err.symm.trans bl) l.ne.1
   obtain⟨s,hA,t⟩ :=hA;have mM:IntKind.i64.wrap ((n:Int)-(d.no:Int))=(n:Int)-(d.no:Int):=aM _ ω;have al:=Qv h hA.live hA.ok ((n:Int)-(d.no:Int)) ω ω (by rw[<-Ho.out];omega) (τ hA.rem);have ca:=η al;clear z R al bl
   go_wp2_with fail;refine ca.mono ?_;rintro e w5 ⟨M2,S2,T,C,b2,rfl,m,Vd,ib,bd,bx,bv⟩
   have V:Hid (M2.out.length<=max M.out.length (n+70000)):=by
    show _<=_;rw[ib,ae];have:=Ho.out;omega
   have Yn:Hid (M2.out=M.out++(b++b2)):=by show _=_;rw[ib,HO.out,av]
   have X:Hid (T.all=a++(b++b2)):=by show _=_;rw[bd,hA.all,av]
   have SF:=η Vd;clear Vd ib bd bx;rcases bv with ⟨rfl,q1,q2,q3⟩ | ⟨rfl,q1,q2,q3⟩ | ⟨q1,q2,q3,q4⟩
   · have Q2:=η q2;clear q2
     go_wp2_with fail;go_roundg (T.mu+1)
     case measure=>have:=t.out;have:=Q2.out;omega
     case rel=>exact⟨M2,S2,b++b2,0,rfl,m,Yn.out,V.out, .inl ⟨rfl,T, ⟨q3,hA.ok.steps q1,q1.lM.trans hA.fin,X.out,by have:=q1.out;obtain⟨_,_,h⟩ :=this;have:=hA.rem;omega⟩,rfl⟩⟩
   · have Q2:=η q2;clear q2
     go_wp2_with fail;go_roundg 0
     case measure=>have:=t.out;omega
     case rel=>exact⟨M2,S2,b++b2,5,rfl,m,Yn.out,V.out, .inr (.inl ⟨rfl,T, ⟨q3,hA.ok.steps q1,q1.lM.trans hA.fin,X.out,by have:=q1.out;obtain⟨_,_,h⟩ :=this;have:=hA.rem;omega⟩,Q2.out⟩)⟩
   have ah:(C==0)=false:=by simpa using q1
   have ce:(C==5)=false:=by simpa using q2
   have z4:=m.cell.aH 4;have j4:=m.cell.az 4;have y:=m.put (i:=4) ω (.int .i64 C) { S2 with err:=C } (fc rfl rfl rfl rfl rfl rfl rfl rfl rfl rfl rfl rfl rfl rfl rfl rfl);have bG:Hid (F=(T,C)):=by show _=_;rw[<-hA.fin];exact q3
   have bI:qV F (a++(b++b2)) M2 { S2 with err:=C }:= ⟨by rw[bG.out],by rw[bG.out];exact⟨q1,q2⟩,by rw[bG.out];exact X,λe=>by
    rw[bG.out]at e⊢;have u:=q4 e;refine⟨⟨u.x,u.st,u.last,u.left,u.c0,u.c1,u.c2,u.lens,u.hd,u.lt,u.ds,u.len,u.tail,u.rem,rfl⟩, ?_⟩;have e8:C=8:=e;obtain⟨t3,Rf,bs⟩ :=IS.jD s;have:t3.step=(T,C):=by rw[bs,q3]
    have h8:=IS.step_done (s:=t3) (by rw[this];exact e8);have:T=t3:=by rw[<-h8.1,this]
    rw[this];exact hA.ok.steps Rf⟩
   clear q3 q4
   go_wp2_with fail;go_roundg 0
   case measure=>have:=t.out;omega
   case rel=>exact⟨M2,{ S2 with err:=C },b++b2,C,rfl,y,Yn.out,V.out, .inr (.inr bI)⟩
 rw[<-z.out,aP hB]
 have B:Hid ((n<=d.no/\((∃s,py F (a++b) d o s)\/qV F (a++b) d o))\/(∃s,py F (a++b) d o s/\s.step.2=5)\/qV F (a++b) d o):=by
  rcases R.out with ⟨l,s,m,_⟩ | ⟨_,l⟩ | l
  · exact .inl ⟨τ m.live.err, .inl ⟨s,m⟩⟩
  · exact .inr (.inl l)
  exact .inr (.inr l)
 obtain⟨f,AO⟩ :=ν (min n d.no);have qB:(0:Int)<=f/\(f:Int)<=n/\(f:Int)<=d.no:=ω;have Cb:Hid (min (n:Int) (d.no:Int)=(f:Int)):=by show _=_;omega
 have bo:Hid (f=n\/(f<n/\f=d.no)):=by show _\/_;omega
 clear z R hB AO;go_upto_region 9 with fail
 go_cut [7] (λs wx=>s= .int .i64 f/\wx=wc)
 case first=>
  go_wp2_with fail;go_meet;exact⟨by rw[Cb.out],rfl⟩
 rename World=>wq
 obtain⟨rfl,rfl⟩ :=hcut;have eY:=h.out.2.iT;have VM:=dR (P:=Tryz.prog) 22 5 Tryz.underlying22 Hi.out fN.out d.Ao d.no d.co (j:=f) ω;have Jf:=cK (P:=Tryz.prog) 22 5 Tryz.underlying22 Hi.out fN.out d.Ao d.no d.co (j:=f) ω;obtain⟨c,Q,hD⟩ :=h;have A:bT .u8 (wq.alloc (.cells #[] 5)) wq.heap.size d.Ao f (d.out.take f):=(Q.out.rd.pre ω).alloc (af _) _;have aE:=Q.lo;have cj:=Q.cell.lt;have ci:f<=1000000000/\f<=d.no/\d.no<=2000000000:=ω;go_upto_region 10 with fail
 go_cut [8] (λs8 wx=>a4k wq f (d.out.take f) s8 wx)
 case first=>
  go_wp2_with (at_builtin;(refine bm .u8 wq.heap.size 5 i0 1 rfl (.tmp 57) (.tmp 63) _ rfl Tryz.underlying22 Hi.out gL.out fN.out gM.out rfl (aT.lit rfl [] _ (af _) σ) rfl A ω ω σ ?_)
               intro A2 d2 w2 r hg bB)
  go_meet;rw[ba,bX]at r;exact⟨A2,d2,rfl,r,((aw _ wq).alloc (af _) _).grown hg σ (by simp [ai])⟩
 obtain⟨A8,d8,rfl,Vv,rE⟩ :=hcut;clear k3 k4 A VM;have D:=Q.keeps rE;have KN:=hD.step (c':=c) Q.lo (λk t=>(Q.cb k t).1) (bb.bC rE) (λ_ _=>rfl);have k3:=D.cell.az 3;rw[show dF d o 3= .slice d.Ao d.no d.co from rfl]at k3;have z3:=D.cell.aH 3;have A:bT .u8 (wc.alloc (.cells #[] 5)) wc.heap.size (dw d.Ao d.co f) (d.no-f) (d.out.drop f):=(D.out.rd.dw ω eY).alloc (af _) _;have og:=D.cell.lt
 have Ra:Hid (∀q,ai A8=some q->c q=0/\q<wc.heap.size/\q≠g):=λq Z=>by
  have l:=Vv.2.lt Z;refine⟨?_,l.2, ?_⟩
  · by_cases e:c q=0
    · exact e
    have:=(Q.cb q e).2;omega
  have:=Q.cell.lt;omega
 go_upto_region 11 with fail
 go_cut [] (λwx=>a4l w0 c0 b0 g d o A8 f d8 (d.out.take f) (d.out.drop f) wx)
 case first=>
  have mK:=D.cell
  go_wp2_with (at_builtin;(refine bm .u8 wc.heap.size 5 i0 1 rfl (.tmp 66) (.tmp 72) _ rfl Tryz.underlying22 Hi.out gL.out fN.out gM.out rfl (aT.lit rfl [] _ (af _) σ) rfl A ω ω σ ?_)
               intro A2 d2 w2 r hg bB;have lY:=(mK.alloc (.cells #[] 5)).grown hg (by simp [ai];omega);have x3:=lY.az 3;have y3:=lY.aH 3)
  go_meet;rw[ba,bX]at r;have Mo:Below wc.heap.size wc w2:=((aw _ wc).alloc (af _) _).grown hg σ (by simp [ai]);have B4:ai A2≠some g:=λe=>by have:=(r.2.lt e).1;omega
  have ap:bb wc (w2.setCell ⟨g,3,none⟩ (.slice A2 (d.no-f) d2)) (λk=>k=g\/ai d.Ao=some k):=((bb.bC Mo).setCell (p:= ⟨g,3,none⟩) (.inl (.inl rfl)) _);have I:=D.outs (S':=o) (l':=d.out.drop f) (A':=A2) (n':=d.no-f) (c':=d2) ap ((lY.cE 3 _).congr (fc rfl rfl rfl rfl rfl rfl rfl rfl rfl rfl rfl rfl rfl rfl rfl rfl)) ((r.far (p:= ⟨g,3,none⟩) B4 _).more (aq aE rE.size)) (λk t=> .inr (r.2.lt t).1);refine⟨cT c wc.heap.size (λk=>ai A2=some k) 4,A2,d.no-f,d2,I, ?_, ?_, ?_⟩
  · exact KN.step D.lo (λk t=>(D.cb k t).1) (ap.more λk t=>by
     rcases t with rfl | t
     · rw[D.cg];decide
     rw[D.co k t];decide) (λk t=>bZ t)
  · exact((Vv.keeps Mo).far (p:= ⟨g,3,none⟩) (λe=>(Ra _ e).2.2 rfl) _).more aE
  intro q Z;rw[bZ (Ra q Z).2.1];exact(Ra q Z).1
 obtain⟨J,A3,n3,c3,I,Zv,R6,U⟩ :=hcut;have E:Hid ((d.out.take f).length=f):=by show _=_;rw[aD,<-Ho.out];omega
 have CK:Hid (M.out++b=d.out.take f++d.out.drop f):=by show _=_;rw[aO,HO.out]
 have G:Hid ((d.out.drop f).length<=max M.out.length 70000):=by
  show _<=_;rw[ay];have:=L4.out;have:=bo.out;have:=Ho.out;omega
 have j4:=I.cell.az 4;rw[show dF { d with Ao:=A3,no:=n3,co:=c3,out:=d.out.drop f } o 4= .int .i64 o.err from rfl]at j4;have bi:∀s,py F (a++b) d o s->py F (a++b) { d with Ao:=A3,no:=n3,co:=c3,out:=d.out.drop f } o s:=λs h=> ⟨⟨h.live.x,h.live.st,h.live.last,h.live.left,h.live.c0,h.live.c1,h.live.c2,h.live.lens,h.live.hd,h.live.lt,h.live.ds,h.live.len,h.live.tail,h.live.rem,h.live.err⟩,h.ok,h.fin,h.all,h.rem⟩
 have be:qV F (a++b) d o->qV F (a++b) { d with Ao:=A3,no:=n3,co:=c3,out:=d.out.drop f } o:=λh=> ⟨h.err,h.ne,h.all,λe=>by
  obtain⟨l,m⟩ :=h.at8 e;exact⟨⟨l.x,l.st,l.last,l.left,l.c0,l.c1,l.c2,l.lens,l.hd,l.lt,l.ds,l.len,l.tail,l.rem,l.err⟩,m⟩⟩
 have Y:=η bi;have K:=η be;clear bi be k3 z3 A Jf;have H:f=n\/((f:Int)<n/\f=d.no):=by have:=bo.out;omega
 rcases H with l | ⟨l,m⟩
 · subst l
   go_wp2_with fail
   go_ret2
   refine⟨A8,_,d8,0,_,o,b,_,J,rfl,R6,I,Zv,U,CK.out,G.out, .inl ⟨rfl,E.out, ?_⟩⟩;rcases B.out with ⟨_, ⟨s,m⟩ | m⟩ | ⟨s,m,_⟩ | m
   · exact .inl ⟨s,Y.out s m⟩
   · exact .inr (K m)
   · exact .inl ⟨s,Y.out s m⟩
   exact .inr (K m)
 have Yl:((f:Int)==(n:Int))=false:=ξ;have W:Hid (d.out.drop f=[]):=by show _=_;rw[List.drop_eq_nil_iff,<-Ho.out];omega
 have bt:(∃s,py F (a++b) d o s/\s.step.2=5)\/qV F (a++b) d o:=by
  rcases B.out with ⟨y,_⟩ | y | y
  · omega
  · exact .inl y
  exact .inr y
 have AP:f<n:=ω;clear m;rcases bt with ⟨s,hA,rA⟩ | hE
 · have Hb:=hA.live.err;rw[Hb]at j4;have cd:=η rA;clear Hb rA
   go_wp2_with fail
   go_ret2
   exact⟨A8,_,d8,5,_,o,b,_,J,rfl,R6,I,Zv,U,CK.out,G.out, .inr (.inl ⟨rfl,by rw[E.out];exact AP,W.out, .inl ⟨s,Y.out s hA,cd.out⟩⟩)⟩
 obtain⟨QZ,an⟩ :=hE.ne;rw[<-hE.err]at QZ an;have ck:(o.err==0)=false:=by simpa using QZ
 by_cases wF:(0:Int)<f
 · go_wp2_with fail
   go_ret2
   exact⟨A8,_,d8,5,_,o,b,_,J,rfl,R6,I,Zv,U,CK.out,G.out, .inr (.inl ⟨rfl,by rw[E.out];exact AP,W.out, .inr ⟨by rw[E.out];omega,K.out hE⟩⟩)⟩
 have ao:f=0:=ω;have V7:Hid (M.out++b=[]++d.out.drop f):=by show _=_;rw[CK.out,ao];rfl
 have GU:=η QZ;have cc:=η an;clear ao
 go_wp2_with fail;go_region
 all_goals
  go_wp2_with fail
  go_ret2
  exact⟨none,0,0,o.err,_,o,b,[],J,rfl,aT.di,I.keeps (aw _ _).drew,Zv.step I.lo (λk t=>(I.cb k t).1) (bb.bC (aw _ _).drew) (λ_ _=>rfl),λq Z=>by simp [ai]at Z,V7.out,G.out, .inr (.inr ⟨GU.out,cc.out,hE.err,rfl,ω,W.out,K.out hE⟩)⟩
end
section
variable {w w' w0 w2:World} {b0 g:Nat} {c c0:Nat->Nat} {M M':DM} {S S':DS} {s t t':IS} {b:ag} {v:Int}
theorem iy.aside {F:Nat->Prop} (h:iy w b0 g c M S) (b:bb w w' F) (hF:∀k,F k->c k=0):iy w' b0 g c M S:=
 ⟨b.ar h.cell (λe=>by have:=hF g e;have:=h.cg;omega),h.cg,h.lX.dx b (λk a e=>by have:=hF k e;have:=h.cr k a;omega),h.cr,h.GI.dx b (λk a e=>by have:=hF k e;have:=h.cw k a;omega),h.cw,
   b.dJ h.out (λk a e=>by have:=hF k e;have:=h.co k a;omega),h.co,b.dJ h.lens (λk a e=>by have:=hF k e;have:=h.cl k a;omega),h.cl,
   λl d=>(h.th l d).dx b (λk a e=>by have:=hF k a;omega) (λ_ _=>rfl),λl d=>(h.tl l d).dx b (λk a e=>by have:=hF k a;omega) (λ_ _=>rfl),λl d=>(h.td l d).dx b (λk a e=>by have:=hF k a;omega) (λ_ _=>rfl),
   λk a=> ⟨(h.cb k a).1,aB (h.cb k a).2 b.size⟩,h.bB⟩
def Tw (w w0:World) (c0:Nat->Nat) (b0 g:Nat) (M:DM) (S:DS) (e:Ending) (w':World):Prop:=
 ∃A k cp,e= .returned (.slice A k cp)/\aT .u8 w' w.heap.size 5 A k cp (M.B.drop (M.a/8))/\∃c,iy w' b0 g c { M with a:=8*M.B.length } S/\DE b0 w0 c0 w' c/\∀q,ai A=some q->c q=0
theorem zP (h:bA w0 c0 w b0 g M S) (E:S.err=8) (P:M.a%8=0):
  Calls Tryz.prog 183 #[.pointer (some ⟨g,0,none⟩)] w (Tw w w0 c0 b0 g M S):=by
 obtain⟨U, -, -, -,J, -⟩ :=h.cells;rw[E]at J;have A:=h.lX.mW;have r:=h.lX.le;have X:=h.big;obtain⟨j,O⟩ :∃j,M.a=8*j:= ⟨M.a/8,ω⟩
 have C:∀W,bA w0 c0 W b0 g M S->Calls Tryz.prog 175 #[.pointer (some ⟨M.gi,0,none⟩)] W λe w'=>e= .returned (.int .i64 (8*((M.B.length-j:Nat):Int)))/\bA w0 c0 w' b0 g M S/\w'.cell? ⟨g,0,none⟩ =some (.pointer (some ⟨M.gi,0,none⟩))/\W.heap.size<=w'.heap.size:=λW f=>by
  refine(jg W _ _ _ _ _ _ _ f.lX (aq f.big ω)).mono ?_;rintro e w1 ⟨rfl,q,rfl⟩;refine⟨by rw[show 8*M.ni-M.a=8*(M.B.length-j) by omega];simp,f.drewN q, ?_⟩;obtain⟨k, -⟩ :=(f.drewN q).cells;exact⟨k,af _⟩
 have z:=λW (f:bA w0 c0 W b0 g M S)=>ya W _ _ _ _ _ _ _ f.lX (aq f.big ω) ((M.B.length-j:Nat):Int) (M.B.length-j) (by rw[A];omega);have a18:=η C;have Hp:=η z;obtain⟨K,G⟩ :=ν (M.B.length-j);have Q:(0:Int)<=K/\(K:Int)<=100000000000:=ω;have L:IntKind.i64.wrap (K:Int)=(K:Int):=aM _ ω
 have D:Hid ((M.B.drop ((M.a+7)/8)).take K=M.B.drop (M.a/8)/\(M.a+7)/8*8+8*K=8*M.B.length):=by
  refine⟨?_,ω⟩;rw[show(M.a+7)/8=M.a/8 by omega,aA (by rw[ay];omega)]
 rw[G]at a18 Hp;clear C z A r O G E P
 go_in
 go_wp2_with fail
 go_region_with
  (first
    | (go_at_call 175;(refine(a18 _ (by first | exact h.drew | exact h)).mono ?_);rintro e i ⟨rfl,t,V,s⟩)
    | (go_at_call 191;(refine(Hp _ (by first | exact t | exact t.drew)).mono ?_);rintro e o ⟨I,T,rfl,p,m,F⟩))
 all_goals
  rw[D.1]at p;rw[D.2]at m
  have l:Hid (∃c,iy o b0 g c { M with a:=8*M.B.length } S/\DE b0 w0 c0 o c/\∀q,ai I=some q->c q=0):=by
   obtain⟨y,b,x⟩ :=t;have u:y M.gi=2:=b.cr _ (.inl rfl);have v:iy o b0 g (cT y i.heap.size (foot M.Ai M.gi) 2) { M with a:=8*M.B.length } S:=b.reader (F.more λk d=> .inl d) m (λk d=> .inl d) b.bB;refine⟨_,v,x.step b.lo (λk d=>(b.cb k d).1) (F.more λk d=>by rw[d,u];decide) (λk d=>bZ d),λq N=> ?_⟩;have n:=(p.2.lt N).1;by_cases e:cT y i.heap.size (foot M.Ai M.gi) 2 q=0
   · exact e
   rcases gq e with ⟨H,_⟩ | ⟨_,H⟩
   · have n:i.heap.size<=q:=n;omega
   have R:=b.cr q H;have:=(b.cb q (by rw[R];decide)).2;have n:i.heap.size<=q:=n;omega
  go_wp2_with fail;go_ret;exact⟨I,K,T,rfl,p.more (by show w.heap.size<=i.heap.size;exact s),l.out⟩
end
def ZIn (F:IS×Int) (a:ag) (M:DM) (S:DS):Prop:=(∃s,py F a M S s)\/qV F a M S
theorem ZIn.pre {F:IS×Int} {a:ag} {M:DM} {S:DS} (h:ZIn F a M S):∃b,F.1.all=a++b:=by
 rcases h with ⟨s,h⟩ | h
 · obtain⟨b,c,_⟩ :=IS.Fj s;rw[h.fin,h.all]at c;exact⟨b,c⟩
 exact⟨[],by rw[h.all,ak]⟩
theorem C8 {F:IS×Int} {a:ag} {M:DM} {S:DS} {s:IS} (h:py F a M S s) (h5:s.step.2=5):F.2=5/\F.1.all=a:=by
 have e:=IS.gZ (s:=s) (by rw[h5];decide);rw[h.fin]at e;rw[e];exact⟨h5,by rw[IS.Ep h5,h.all]⟩
theorem IS.Sg {s:IS} (a:s.step.2≠0) (h6:s.step.2≠6):s.step.1.all=s.all:=by
 have c:∀(s:IS) b,(s.emit b).2=0\/(s.emit b).2=6:=λs b=>by unfold IS.emit;simp only;split <;> simp
 unfold IS.step at a h6⊢;by_cases l:s.st=0
 · rw[aa l]at a h6⊢;unfold IS.block at a h6⊢;revert a h6;repeat' split
   all_goals simp
 rw[a8 l]at a h6⊢;by_cases k:s.st=1
 · rw[aa k]at a h6⊢;unfold IS.size at a h6⊢;revert a h6;repeat' split
   all_goals simp
 rw[a8 k]at a h6⊢;by_cases j:s.st=2
 · rw[aa j]at a h6⊢;unfold IS.stored at a h6⊢;revert a h6;repeat' split
   · simp
   · simp
   intro a h6;rcases c { s with x:=s.x.drop 8,left:=s.left-1 } [(num s.x 8:Int)]with h | h
   · exact absurd h a
   exact absurd h h6
 rw[a8 j]at a h6⊢;by_cases i:s.st=3
 · rw[aa i]at a h6⊢;unfold IS.sizes at a h6⊢;revert a h6;repeat' split
   all_goals simp
 rw[a8 i]at a h6⊢;by_cases g:s.st=4
 · rw[aa g]at a h6⊢;unfold IS.heads at a h6⊢;revert a h6;repeat' split
   all_goals simp
 rw[a8 g]at a h6⊢;by_cases f:s.st=5
 · rw[aa f]at a h6⊢;unfold IS.lengths IS.length IS.kx at a h6⊢;revert a h6;repeat' split
   all_goals simp
 rw[a8 f]at a h6⊢;by_cases e:s.st=6
 · rw[aa e]at a h6⊢;unfold IS.token at a h6⊢;revert a h6;repeat' split
   all_goals first
    | (intro a h6;exact((c _ _).elim (λh=>absurd h a) (λh=>absurd h h6)))
    | simp
 rw[a8 e]at a h6⊢;by_cases d:s.st=7
 · rw[aa d]at a h6⊢;unfold IS.bn IS.text at a h6⊢;revert a h6;repeat' split
   all_goals first
    | (intro a h6;exact((c _ _).elim (λh=>absurd h a) (λh=>absurd h h6)))
    | simp
 rw[a8 d]at a h6⊢
theorem IS.DC {s:IS} (h:s.Ok):∀v∈s.fin.1.all,0<=v/\v<256:=by
 obtain⟨t,b,a⟩ :=IS.jD s;have ht:=h.steps b;rw[<-a];by_cases e:t.step.2=0\/t.step.2=6
 · exact(ht.step e).jc
 rw[IS.Sg (λh=>e (.inl h)) (λh=>e (.inr h))];exact ht.jc
theorem a1F {s:IS} (h:s.Ok) (e:s.fin.2=8):s.fin.1.st=8:=by
 obtain⟨t,c,b⟩ :=IS.jD s;rw[<-b]at e⊢;obtain⟨a,m,l,k,j,i,g,f,d⟩ :=IS.step_done e;rw[a];have:=(h.steps c).st8;omega
theorem ED {F:IS×Int} {a:ag} {M:DM} {S:DS} {n:Nat} {l:ag} {r:Int} (h:Hs F a M S n l r):l.length<=n:=by
 rcases h with ⟨_,h,_⟩ | ⟨_,h,_⟩ | ⟨_,_,_,h,_⟩
 · omega
 · omega
 rw[h];simp
theorem KA {F:IS×Int} {a:ag} {M:DM} {S:DS} {n:Nat} {l:ag} {r:Int} (h:Hs F a M S n l r):ZIn F a M S:=by
 rcases h with ⟨_,_,h⟩ | ⟨_,_,_, ⟨s,h,_⟩ | ⟨_,h⟩⟩ | ⟨_,_,_,_,_,_,h⟩
 · exact h
 · exact .inl ⟨s,h⟩
 · exact .inr h
 exact .inr h
theorem Xu {s t:IS} (h:IS.Steps s t):t.mu<=s.mu:=by
 induction h with
 | refl=>exact af _
 | tail _ h2 ih=>exact aq (bE (IS.jr h2)) ih
def gI (s:Int) (l:ag):Int:=Ce (iW s) (jK s) l l.length*65536+uW (iW s) l l.length
theorem Wm (s:Int):0<=iW s/\iW s<65521:=by unfold iW;omega
theorem OU (s:Int):0<=jK s/\jK s<65521:=by unfold jK;omega
theorem qf (s:Int) (l:ag):0<=gI s l/\gI s l<4294967296:=by
 have b:=TC (l:=l) (Wm s) l.length;have a:=TD (x:=iW s) (l:=l) (OU s) l.length;unfold gI;omega
theorem Hx (s:Int) (a b:ag):gI (gI s a) b=gI s (a++b):=by
 have h:=TC (l:=a) (Wm s) a.length;have g:=TD (x:=iW s) (l:=a) (OU s) a.length;have f:iW (gI s a)=uW (iW s) a a.length:=by unfold gI;unfold iW at*;omega
 have e:jK (gI s a)=Ce (iW s) (jK s) a a.length:=by unfold gI;unfold iW jK at*;omega
 have d:gI (gI s a) b=Ce (iW (gI s a)) (jK (gI s a)) b b.length*65536+uW (iW (gI s a)) b b.length:=rfl;have c:gI s (a++b)=Ce (iW s) (jK s) (a++b) (a++b).length*65536+uW (iW s) (a++b) (a++b).length:=rfl;rw[d,c,f,e,ae,zy,Ld]
def D8 (x:ag):Int:=
 if 1<=x.length/\(ix x 0%16≠8\/7<ix x 0/16)then 2 else if x.length<2 then 5 else if(256*ix x 0+ix x 1)%31≠0\/ix x 1/32%2≠0 then 2 else 0
def kD (x:ag) (m:Nat):IS×Int:=(start (dT (x.drop 2)) m).fin
def wQ (R:ag):Int:=ix R 0*16777216+ix R 1*65536+ix R 2*256+ix R 3
def Cr (R:ag) (s:Int) (en:Bool):Int:=if R.length<4 then 5 else if wQ R≠s then 4 else if 4<R.length then 2 else if en then 8 else 5
def zE (x:ag) (m:Nat) (en:Bool):Int:=
 if D8 x≠0 then D8 x else if(kD x m).2≠8 then(kD x m).2 else Cr (gU (kD x m).1.x) (gI 1 (kD x m).1.all) en
def kR (x:ag) (m:Nat):ag:=if D8 x≠0 then [] else(kD x m).1.all
theorem a6T (x:ag) (m:Nat) (en:Bool):zE x m en≠0:=by
 unfold zE;split
 · assumption
 split
 · exact IS.zV _
 unfold Cr;split
 · decide
 split
 · decide
 split
 · decide
 split <;> decide
theorem XV (x:ag) (m:Nat):(kR x m).length<=m:=by
 unfold kR;split
 · simp
 obtain⟨b,d,c⟩ :=IS.Fj (start (dT (x.drop 2)) m);have a:(start (dT (x.drop 2)) m).fin.1.all=[]++b:=d;have h4:(start (dT (x.drop 2)) m).fin.1.rem+b.length=m:=c;show(start (dT (x.drop 2)) m).fin.1.all.length<=m;rw[a,ba];omega
theorem F7 {l:ag} (h:∀v∈l,0<=v/\v<256) (i:Nat):0<=ix l i/\ix l i<256:=by
 by_cases hi:i<l.length
 · exact h _ (sq hi)
 unfold ix;rw[au,bq ω];decide
theorem EC {x:ag} (h:D8 x=0):2<=x.length/\ix x 0%16=8/\¬7<ix x 0/16/\(256*ix x 0+ix x 1)%31=0/\ix x 1/32%2=0:=by
 unfold D8 at h;by_cases b:1<=x.length/\(ix x 0%16≠8\/7<ix x 0/16)
 · rw[aa b]at h;exact absurd h δ
 rw[a8 b]at h;by_cases a:x.length<2
 · rw[aa a]at h;exact absurd h δ
 rw[a8 a]at h;by_cases c:(256*ix x 0+ix x 1)%31≠0\/ix x 1/32%2≠0
 · rw[aa c]at h;exact absurd h δ
 omega
theorem EE {R:ag} {s:Int} {en:Bool} (h:Cr R s en=8):R.length=4/\wQ R=s/\en=true:=by
 unfold Cr at h;by_cases c:R.length<4
 · rw[aa c]at h;exact absurd h δ
 rw[a8 c]at h;by_cases a:wQ R≠s
 · rw[aa a]at h;exact absurd h δ
 rw[a8 a]at h;by_cases b:4<R.length
 · rw[aa b]at h;exact absurd h δ
 rw[a8 b]at h;cases en
 · exact absurd h δ
 exact⟨ω,by simpa using a,rfl⟩
def ZGd (x:ag) (m:Nat) (en:Bool):Prop:=D8 x=0/\((kD x m).2=8->Cr (gU (kD x m).1.x) (gI 1 (kD x m).1.all) en=8)
theorem Kt:(Tryz.prog.info? 5).map (λi=>(i.zero,i.size,i.bytes))=some (some (.int .u8 0),1,1):=by kernel_rfl
def EZ (w:World) (x:ag) (m:Nat) (e:Ending) (w':World):Prop:=
 ∃A k c,e= .returned (.tuple #[.slice A k c, .int .i64 (zE x m true)])/\aT .u8 w' w.heap.size 5 A k c (kR x m)/\Below w.heap.size w w'
def uzN (T:ag):Nat->Int
 | 0=>0
 | i+1=>uzN T i*256+ix T i
theorem XQ (T:ag):uzN T 4=wQ T:=by
 show(((0*256+ix T 0)*256+ix T 1)*256+ix T 2)*256+ix T 3=ix T 0*16777216+ix T 1*65536+ix T 2*256+ix T 3;omega
theorem XR {b:Nat} {w w':World} (h:Below b w w') (q:Nat):Below b w (w'.drewN q):= ⟨h.os,h.tape,h.output,h.size,h.block⟩
theorem EZ.bad {w w':World} {x:ag} {m:Nat} {v:Int} (h:D8 x=v) (a:v≠0) (b:Below w.heap.size w w'):EZ w x m (.returned (.tuple #[.slice none 0 0, .int .i64 v])) w':=by
 have d:zE x m true=v:=by unfold zE;rw[h,aa a]
 have c:kR x m=[]:=by unfold kR;rw[h,aa a]
 exact⟨none,0,0,by rw[d],by rw[c];exact aT.di,b⟩
theorem K1 (w:World) (A:ax) (n cp:Nat) (x:ag) (most:Int) (m:Nat) (hr:bT .u8 w w.heap.size A n x) (eY:n<=cp) (l:∀v∈x,0<=v/\v<256) (bd:x.length<=1000000000) (hm:(m:Int)=max most 0) (Hf:m<=1000000000) (O:ZGd x m true):
  Calls Tryz.prog 24 #[.slice A n cp, .int .i64 most] w (EZ w x m):=by
 have ln:=hr.1;have PR:=η (EC O.1);have bp:=η O;clear O;have h0:¬n=0:=by have:=PR.1;omega
 obtain⟨p,rfl,hb,hc⟩ :=hr.2 ω;have c0:=hc 0 ω;replace c0:w.cell? (p.add 0)=some (.int .u8 (ix x 0)):=c0;obtain⟨f,d⟩ :=ν (ix x 0);have cr:0<=f/\f<256:=by rw[<-d];exact l _ (sq ω)
 rw[d]at c0;have ch:w.cell? p=some (.int .u8 f):=c0;have tJ:(0:Int)<(n:Int)/\(n:Int)<=1000000000/\0<n:=ω;have mz:¬(f%16≠8\/7<f/16):=by have B:=PR.2.1;have H:=PR.2.2.1;rw[d]at B H;omega
 have B:f%16=8:=ω;have H:¬7<f/16:=ω;have bx:¬(1<=x.length/\(ix x 0%16≠8\/7<ix x 0/16)):=λh=>mz (by rw[<-d];exact h.2);have rz:¬n=1:=by have:=PR.1;omega
 have c1:=hc 1 ω;obtain⟨a1,o⟩ :=ν (ix x 1);have cq:0<=a1/\a1<256:=by rw[<-o];exact l _ (sq ω)
 replace c1:w.cell? (p.add 1)=some (.int .u8 (ix x 1)):=c1;rw[o]at c1;have cg:w.cell? ⟨p.block,p.off+1,none⟩ =some (.int .u8 a1):=c1;have ow:¬(n:Int)<2/\(1:Int)<(n:Int)/\1<n:=ω;have bv:¬x.length<2:=ω;obtain⟨D,hD⟩ :=ν (f*256+a1);have cw:0<=D/\D<65536:=ω;obtain⟨Q,hQ⟩ :=ν (a1/32);have ct:0<=Q/\Q<8:=ω;have bM:IntKind.i64.wrap f=f:=aM _ ω;have mM:IntKind.i64.wrap a1=a1:=aM _ ω;have bI:IntKind.i64.wrap (f*256)=f*256:=aM _ ω;have bG:IntKind.i64.wrap D=D:=aM _ ω;have bo:(256*ix x 0+ix x 1)=D:=by rw[d,o];omega
 have hd:D%31=0:=by rw[<-bo];exact PR.2.2.2.1
 have hq:¬Q%2=1:=by have B:=PR.2.2.2.2;rw[o,hQ]at B;omega
 have hz:D8 x=0:=bp.1;have T5:(Q%2==1)=false:=by simpa using hq
 obtain⟨i0,hi,bB,am,bt⟩ :=aL Kt;have oh:∀(A:ax) (n c j:Nat),j<=n->∀W,_:=λA n c j hj W=>cK (P:=Tryz.prog) 22 5 Tryz.underlying22 hi am A n c hj W;have cl:∀W,(Instr.slice 22 (.slice (some p) n cp) (some (.int .i64 2)) none none).run Tryz.prog W= .ok (.slice (dw (some p) cp 2) (n-2) (cp-2)) W:=λW=>oh (some p) n cp 2 ω W;obtain⟨F,hF⟩ :=ν (kD x m)
 have HI:Hid (∀q,Calls Tryz.prog 35 #[.slice (dw (some p) cp 2) (n-2) (cp-2), .int .i64 most] (w.drewN q) (wK (w.drewN q) F (x.drop 2))):=λq=>
  vV (w.drewN q) w.heap.size _ (n-2) (cp-2) (x.drop 2) ((hr.dw (j:=2) ω eY).drewN q) (af _) (λv hv=>l v (aW hv)) (by rw[ay];omega) most m hm Hf F hF
 have e:=η (⟨hr,eY,l,hz,hF,ln⟩ :_/\_/\_/\_/\_/\_);have O7:=η oh;have cj:=η Hf;clear hr eY l bd hm Hf hz ln hc hb mz d bx o bv bo h0 rz hF oh hi bB am bt
 go_in
 go_wp2_with fail;go_quiet (fail);have YH:=η (HI nq);clear HI c0 ch c1 cg hd hq T5 hD hQ bM mM bI bG B H
 go_wp2_with fail;refine YH.mono ?_;rintro r w6 ⟨g,c,R,rfl,hM,U,hE,k,be,ap,jB,B9⟩;have kE:Below w.heap.size w w6:=(XR (aw w.heap.size w) nq).trans U;have x0:w6.cell? ⟨g,0,none⟩ =some (.slice R.Ao R.no R.co):=hM.cell.az 0;have x1:w6.cell? ⟨g,1,none⟩ =some (.int .i64 R.E):=hM.cell.az 1;have x2:w6.cell? ⟨g,2,none⟩ =some (.int .i64 R.rest):=hM.cell.az 2;have L:=hM.out;rw[k]at L;have a:kR x m=F.1.all:=by unfold kR;rw[a8 (by rw[e.2.2.2.1];decide),e.2.2.2.2.1]
 have u:zE x m true=if F.2≠8 then F.2 else Cr (gU F.1.x) (gI 1 F.1.all) true:=by unfold zE;rw[a8 (by rw[e.2.2.2.1];decide),e.2.2.2.2.1]
 have tV:∀v,v=zE x m true->Hid (∀q,EZ w x m (.returned (.tuple #[.slice R.Ao R.no R.co, .int .i64 v])) (w6.drewN q)):=λv hv q=>by
  subst hv;exact⟨_,_,_,rfl,by rw[a];exact⟨L.1,L.2.drewN q⟩,XR kE q⟩
 by_cases s:F.2=8
 rotate_left
 · have hv:=tV F.2 (by rw[u,aa s]);have bl:R.E=F.2:=by rw[hE];unfold LO;rw[a8 s]
   have aE:F.2≠0:=by rw[<-e.2.2.2.2.1];exact IS.zV _
   rw[bl]at x1;obtain⟨V,hV⟩ :=ν (F.2);rw[hV]at x1 hv aE;have B4:(V==0)=false:=by simpa using aE
   clear hM U hE k be ap jB B9 L a u tV s bl hV kE
   go_wp2_with fail;go_quiet (fail)
   go_wp2_with fail;go_returns;exact hv.out _
 have pn:R.E=0:=by rw[hE];unfold LO;rw[aa s]
 rw[pn]at x1;obtain⟨J,hJ⟩ :=ν (2+((x.drop 2).length-F.1.x.length/8));have S:=zW (b:=x.drop 2) (m:=m) (show(kD x m).2=8 by rw[e.2.2.2.2.1];exact s);have z:(start (dT (x.drop 2)) m).fin=F:=e.2.2.2.2.1;rw[z]at S;rw[B9 s]at x2;have Y:J<=n:=by rw[ay]at hJ;have:=e.2.2.2.2.2;omega
 obtain⟨T,hT⟩ :=ν (x.drop J);have CH:∀v∈T,0<=v/\v<256:=λv hv=>e.2.2.1 v (aW (by rw[hT];exact hv))
 have X:gU F.1.x=T:=by
  rw[<-S.2,bj,hJ,hT];exact lC CH
 have Yp:=(e.1.below kE).dw (j:=J) Y e.2.1;rw[hT]at Yp;have cb:=O7.out (some p) n cp J Y;obtain⟨A9,UB⟩ :=ν (dw (some p) cp J);obtain⟨G,N⟩ :=ν (n-J);obtain⟨c9,QN⟩ :=ν (cp-J);obtain⟨Rn,ZH⟩ :=ν ((x.drop 2).length-F.1.x.length/8);rw[UB,N,QN]at cb;rw[UB,N]at Yp;rw[ZH]at x2 hJ;have cv:(2:Int)+(Rn:Int)=(J:Int):=ω;have rI:=Yp.1;have qB:(0:Int)<=(G:Int)/\(G:Int)<=1000000000/\(J:Int)<=1000000000/\(J:Int)<=(n:Int)/\(0:Int)<=(J:Int)/\(0:Int)<=(Rn:Int):=ω;have ah:zE x m true=Cr T (gI 1 F.1.all) true:=by rw[u,a8 (by rw[s];decide),X]
 have Vw:∀i,0<=ix F.1.all i/\ix F.1.all i<256:=by
  refine F7 ?_;obtain⟨t,B,H⟩ :=IS.jD (start (dT (x.drop 2)) m);have e1:F.1=t:=by rw[<-z,<-H];exact(IS.step_done (by rw[H,z];exact s)).1
  rw[e1];exact((IS.Ok.start (dH.dT (x.drop 2)) m).steps B).jc
 have bi:R.no<=1000000000:=by
  have h9:=XV x m;rw[a]at h9;rw[L.1];have:=cj.out;omega
 have I:=η (⟨L,Vw,rI,CH,bi⟩ :_/\_/\_/\_/\_);have HP:=η (⟨tV,ah⟩ :_/\_);have H8:=η s;have ci:=η X;clear hM U hE k be ap jB B9 L a u tV s pn kE hJ ZH S z hT CH X rI ah Vw Y bi UB N QN;have Z:=bp.2 (by rw[e.2.2.2.2.1];exact H8);rw[e.2.2.2.2.1,ci.out]at Z;have ac:=η (EE Z);clear Z;have h4:¬G<4:=by have B:=ac.1;have H:=I.2.2.1;omega
 have cy:¬(G:Int)<4:=ω;have H4:=η h4;clear h4
 go_wp2_with fail;go_loopg [7,8] 4 (λ(gk:Nat) (v7 v8:Value) wx=>∃(i:Nat) (v:Int),v7= .int .u32 v/\v8= .int .i64 i/\i<=4/\wx=w6/\0<=v/\Hid (v<256 ^ i)/\Hid (v=uzN T i)/\Hid (gk=4-i))
 case atStart=>exact⟨0,0,rfl,rfl,ω,rfl,ω,by show(0:Int)<1;omega,rfl,rfl⟩
 obtain⟨i,v,rfl,rfl,hi,rfl,ck,ll,K,hg⟩ :=hrel;by_cases M:i<4
 · obtain⟨a9,cd,cs,QN⟩ :=Yp.at_ (i:=i) (τ H4.out);subst cd;have cm:(i:Int)<4/\(0:Int)<=(i:Int)/\(i:Int)<(G:Int):=ω;obtain⟨y,hy⟩ :=ν (ix T i);have Rm:0<=y/\y<256:=by rw[<-hy];exact F7 I.2.2.2.1 i
   rw[hy]at QN
   have ca:v<16777216:=by
    have h9:=ll.out
    have ce:(256:Int) ^ i<=16777216:=by
     obtain rfl | rfl | rfl | rfl:i=0\/i=1\/i=2\/i=3:=ω;all_goals decide
    omega
   have hn:Hid (uzN T (i+1)=v*256+y):=by show _=_;rw[K.out,<-hy];rfl
   have ow:Hid (v*256+y<256 ^ (i+1)):=by show _<_;have:=ll.out;rw[ep];omega
   have ot:=η M;clear M hy
   go_wp2_with fail;go_roundg (4-(i+1))
   case measure=>have:=hg.out;have:=ot.out;omega
   case rel=>exact⟨i+1,v*256+y,by go_num,by go_num,ot.out,rfl,ω,ow.out,hn.symm,rfl⟩
 obtain rfl:i=4:=ω;have ao:v=wQ T:=by rw[K.out];exact XQ T
 have ab:=η ao
 have ca:v<4294967296:=by have h9:=ll.out;have ce:(256:Int) ^ 4=4294967296:=δ
                          omega
 have C:=Nr 1 R.Ao R.no R.co wr.heap.size F.1.all wr I.1.rd I.2.1 δ I.2.2.2.2;have e1:Ce (iW 1) (jK 1) F.1.all R.no*65536+uW (iW 1) F.1.all R.no=gI 1 F.1.all:=by rw[I.1.1];rfl
 rw[e1]at C;obtain⟨AD,KL⟩ :=ν (gI 1 F.1.all);rw[KL]at C;have HA:=η C;have bs:=η KL;have cc:=I.2.2.1;have Cn:¬T.length<4:=by have:=H4.out;omega
 have al:v=AD->¬4<G->Hid (zE x m true=8):=λh h5=>by show _=_;rw[HP.2];unfold Cr;rw[a8 Cn,a8 (by rw[<-ab.out,bs.out];simpa using h),a8 ω,aa rfl]
 clear M hi ll K ao e1 C KL cc Cn;have an:v=AD:=by rw[ab.out,<-bs.out];exact ac.2.1
 have h5:¬4<G:=by have B:=ac.1;have H:=I.2.2.1;omega
 have hv:=HP.1 8 (al an h5).out.symm;have cx:¬(4:Int)<(G:Int):=ω;clear al h5 ab;subst an
 go_wp2_with fail;refine HA.mono ?_;rintro r w7 ⟨rfl,hx⟩;obtain rfl:=hx
 go_wp2_with fail;go_returns;exact hv.out 0
end Go.Proofs.YtgiimmkmjpbecaaGreat
