/-
  part
-/
import Derived.Test.YtdhmnlpfhfmpfaaGreatPk27
import Derived.Deep.DeepMust
namespace Go.Proofs.YtdhmnlpfhfmpfaaGreat
open Go.RowKit
set_option linter.unusedVariables false
set_option maxRecDepth 100000
set_option maxHeartbeats 4000000
section
variable {w w' w0 w2:World} {b0 g:Nat} {c c0:Nat->Nat} {M M':DM} {S S':DS} {s t t':IS} {b:aj} {v:Int}
def a1j (w0:World) (c0:Nat->Nat) (b0 g:Nat) (M:DM) (F:IS×Int) (a:aj) (n:Nat) (k:Nat) (c:Value) (wr:World):Prop:=
 ∃M' S' b v,c= .int .i64 v/\bF w0 c0 wr b0 g M' S'/\M'.out=M.out++b/\M'.out.length<=max M.out.length (n+70000)/\
  ((v=0/\∃s,pO F (a++b) M' S' s/\Hid (k=s.mu+1))\/(v=5/\∃s,pO F (a++b) M' S' s/\s.step.2=5)\/rE F (a++b) M' S')
def Ng (F:IS×Int) (a:aj) (M:DM) (S:DS) (n:Nat) (l:aj) (r:Int):Prop:=
 (r=0/\l.length=n/\((∃s,pO F a M S s)\/rE F a M S))\/
 (r=5/\l.length<n/\M.out=[]/\((∃s,pO F a M S s/\s.step.2=5)\/(0<l.length/\rE F a M S)))\/
 (r≠0/\r≠5/\r=F.2/\l=[]/\0<n/\M.out=[]/\rE F a M S)
def Td (w0:World) (c0:Nat->Nat) (b0 g:Nat) (M:DM) (F:IS×Int) (a:aj) (n:Nat) (e:Ending) (w':World):Prop:=
 ∃A k cp r M' S' b l c,e= .returned (.tuple #[.slice A k cp, .int .i64 r])/\ba .u8 w' b0 5 A k cp l/\jg w' b0 g c M' S'/\DE b0 w0 c0 w' c/\(∀q,ak A=some q->c q=0)/\M.out++b=l++M'.out/\M'.out.length<=max M.out.length 70000/\Ng F (a++b) M' S' n l r
def a5o (a:World) (b:Nat) (l:aj) (c:Value) (wx:World):Prop:=
 ∃A cp,c= .slice A b cp/\ba .u8 wx a.heap.size 5 A b cp l/\Below a.heap.size a wx
def a5p (w0:World) (c0:Nat->Nat) (b0 g:Nat) (M:DM) (S:DS) (A:ay) (b cp:Nat) (l q:aj) (wx:World):Prop:=
 ∃c e a d,jg wx b0 g c { M with Ao:=e,no:=a,co:=d,out:=q } S/\DE b0 w0 c0 wx c/\ba .u8 wx b0 5 A b cp l/\∀q,ak A=some q->c q=0
theorem PL {F:IS×Int} {a:aj} (h:bF w0 c0 w b0 g M S) (hR:(∃s,pO F a M S s)\/rE F a M S) (N:Int) (n:Nat) (hN:(n:Int)=max N 0) (hn:n<=1000000000) (kO:M.out.length<=1000000000):
  Calls Tryz.prog 79 #[.pointer (some ⟨g,0,none⟩), .int .i64 N] w (Td w0 c0 b0 g M F a n):=by
 obtain⟨i0,hi,ad,ac,ab⟩ :=aL jY;have Hi:=η hi;have i7:=η ad;have gp:=η ac;have i9:=η ab;clear hi ad ac ab
 have lq:∃k,a1j w0 c0 b0 g M F a n k (.int .i64 0) w:=by
  rcases hR with ⟨s,hs⟩ | hs
  · exact⟨s.mu+1,M,S,[],0,rfl,h,σ,ω, .inl ⟨rfl,s,by rw[aA];exact hs,rfl⟩⟩
  exact⟨0,M,S,[],0,rfl,h,σ,ω, .inr (.inr (by rw[aA];exact hs))⟩
 obtain⟨k0,lq⟩ :=lq;have HI:=η lq;have bs:w.heap.size=w.heap.size:=rfl;clear hR lq h bs;have x6:(0:Int)<=n/\(n:Int)<=1000000000:=ω;have HN:=η hN;clear hN;go_enter Tryz.func79,Tryz.ntmps79;go_upto_region 3 with fail
 go_cut [1] (λs1 wx=>s1= .int .i64 n/\wx=w)
 case first=>
  go_wp2_with fail;go_meet;exact⟨by rw[HN.out],rfl⟩
 obtain⟨rfl,rfl⟩ :=hcut
 go_wp2_with fail;go_loopg [6] k0 (a1j w0 c0 b0 g M F a n)
 case atStart=>exact HI.out
 clear HI;obtain⟨d,o,b,v,rfl,h,L,O,H⟩ :=hrel;obtain⟨-, -, -,k3,k4, -⟩ :=h.cells;have am:=h.out.1;have ci:(0:Int)<=d.no/\(d.no:Int)<=2000000000:=ω;have GK:=η am;obtain⟨Bd,K7⟩ :=ν (decide ((d.no:Int)<n/\o.err=0/\v=0));have z:=η K7;have HO:=η L;have Gs:=η O;have R:=η H;clear K7 am L O H;go_upto_region 5 with fail
 go_cut [30] (λs wx=>s= .bool Bd/\wx=wr)
 case first=>
  by_cases l:(d.no:Int)<n
  rotate_left
  · have hd:Hid (false=Bd):=by show _=_;rw[<-z.out];exact(aQ λh=>l h.1).symm
    clear z R
    go_wp2_with fail;go_meet;exact⟨aN Value.bool hd.out,rfl⟩
  by_cases m:o.err=0
  · by_cases y:v=0
    · have hd:Hid (true=Bd):=by show _=_;rw[<-z.out];exact(aS ⟨l,m,y⟩).symm
      rw[m]at k4;clear z R m;subst y
      go_wp2_with fail;go_meet;exact⟨aN Value.bool hd.out,rfl⟩
    have hd:Hid (false=Bd):=by show _=_;rw[<-z.out];exact(aQ λh=>y h.2.2).symm
    rw[m]at k4;have ae:(v==0)=false:=by simpa using y
    clear z R m y
    go_wp2_with fail;go_meet;exact⟨aN Value.bool hd.out,rfl⟩
  have hd:Hid (false=Bd):=by show _=_;rw[<-z.out];exact(aQ λh=>m h.2.1).symm
  have ae:(o.err==0)=false:=by simpa using m
  clear z R m
  go_wp2_with fail;go_meet;exact⟨aN Value.bool hd.out,rfl⟩
 obtain⟨rfl,rfl⟩ :=hcut;by_cases hB:(d.no:Int)<n/\o.err=0/\v=0
 · rw[<-z.out,aS hB];obtain⟨Lj,bo,ca⟩ :=hB;subst ca
   have hA:∃s,pO F (a++b) d o s/\Hid (gk=s.mu+1):=by
    rcases R.out with ⟨_,l⟩ | ⟨l,_⟩ | l
    · exact l
    · exact absurd l δ
    exact absurd (l.err.symm.trans bo) l.ne.1
   obtain⟨s,hA,t⟩ :=hA;have nW:IntKind.i64.wrap ((n:Int)-(d.no:Int))=(n:Int)-(d.no:Int):=aM _ ω;have ah:=PK h hA.live hA.ok ((n:Int)-(d.no:Int)) ω ω (by rw[<-GK.out];omega) (τ hA.rem);have cc:=η ah;clear z R ah bo
   go_wp2_with fail;refine cc.out.mono ?_;rintro e w5 ⟨Z,S2,s2,C,b2,rfl,m,V3,jB,be,bB,bx⟩
   have U:Hid (Z.out.length<=max M.out.length (n+70000)):=by
    show _<=_;rw[jB,ag];have:=GK.out;omega
   have Sv:Hid (Z.out=M.out++(b++b2)):=by show _=_;rw[jB,HO.out,av]
   have W:Hid (s2.all=a++(b++b2)):=by show _=_;rw[be,hA.all,av]
   have RQ:=η V3;clear V3 jB be bB;rcases bx with ⟨rfl,q1,q2,q3⟩ | ⟨rfl,q1,q2,q3⟩ | ⟨q1,q2,q3,q4⟩
   · have Q2:=η q2;clear q2
     go_wp2_with fail;go_roundg (s2.mu+1)
     case measure=>have:=t.out;have:=Q2.out;omega
     case rel=>exact⟨Z,S2,b++b2,0,rfl,m,Sv.out,U.out, .inl ⟨rfl,s2, ⟨q3,hA.ok.steps q1,q1.mG.trans hA.fin,W.out,by have:=q1.out;obtain⟨_,_,h⟩ :=this;have:=hA.rem;omega⟩,rfl⟩⟩
   · have Q2:=η q2;clear q2
     go_wp2_with fail;go_roundg 0
     case measure=>have:=t.out;omega
     case rel=>exact⟨Z,S2,b++b2,5,rfl,m,Sv.out,U.out, .inr (.inl ⟨rfl,s2, ⟨q3,hA.ok.steps q1,q1.mG.trans hA.fin,W.out,by have:=q1.out;obtain⟨_,_,h⟩ :=this;have:=hA.rem;omega⟩,Q2.out⟩)⟩
   have ae:(C==0)=false:=by simpa using q1
   have ch:(C==5)=false:=by simpa using q2
   have z4:=m.cell.frozen' (i:=4) ω;have j4:=m.cell.cell (i:=4) ω;have y:=m.put (i:=4) ω (.int .i64 C) { S2 with err:=C } (fg rfl rfl rfl rfl rfl rfl rfl rfl rfl rfl rfl rfl rfl rfl rfl rfl);have cu:Hid (F=(s2,C)):=by show _=_;rw[<-hA.fin];exact q3
   have bL:rE F (a++(b++b2)) Z { S2 with err:=C }:= ⟨by rw[cu.out],by rw[cu.out];exact⟨q1,q2⟩,by rw[cu.out];exact W.out,λe=>by
    rw[cu.out]at e⊢;have u:=q4 e;refine⟨⟨u.x,u.st,u.last,u.left,u.c0,u.c1,u.c2,u.lens,u.hd,u.lt,u.ds,u.len,u.tail,u.rem,rfl⟩, ?_⟩;have e8:C=8:=e;obtain⟨t3,QH,bt⟩ :=IS.mH s;have:t3.step=(s2,C):=by rw[bt,q3]
    have h8:=IS.step_done (s:=t3) (by rw[this];exact e8);have:s2=t3:=by rw[<-h8.1,this]
    rw[this];exact hA.ok.steps QH⟩
   clear q3 q4
   go_wp2_with fail;go_roundg 0
   case measure=>have:=t.out;omega
   case rel=>exact⟨Z,{ S2 with err:=C },b++b2,C,rfl,y,Sv.out,U.out, .inr (.inr bL)⟩
 rw[<-z.out,aQ hB]
 have B:Hid ((n<=d.no/\((∃s,pO F (a++b) d o s)\/rE F (a++b) d o))\/(∃s,pO F (a++b) d o s/\s.step.2=5)\/rE F (a++b) d o):=by
  rcases R.out with ⟨l,s,m,_⟩ | ⟨_,l⟩ | l
  · exact .inl ⟨τ m.live.err, .inl ⟨s,m⟩⟩
  · exact .inr (.inl l)
  exact .inr (.inr l)
 obtain⟨f,Du⟩ :=ν (min n d.no);have pM:(0:Int)<=f/\(f:Int)<=n/\(f:Int)<=d.no:=ω;have Ch:Hid (min (n:Int) (d.no:Int)=(f:Int)):=by show _=_;omega
 have bp:Hid (f=n\/(f<n/\f=d.no)):=by show _\/_;omega
 clear z R hB Du;go_upto_region 9 with fail
 go_cut [7] (λs wx=>s= .int .i64 f/\wx=wc)
 case first=>
  go_wp2_with fail;go_meet;exact⟨by rw[Ch.out],rfl⟩
 rename World=>wq
 obtain⟨rfl,rfl⟩ :=hcut;have fI:=h.out.2.jT;have QE:=dQ (P:=Tryz.prog) 22 5 Tryz.underlying22 Hi.out gp.out d.Ao d.no d.co (j:=f) ω;have Fq:=cZ (P:=Tryz.prog) 22 5 Tryz.underlying22 Hi.out gp.out d.Ao d.no d.co (j:=f) ω;obtain⟨c,Q,hD⟩ :=h;have A:bT .u8 (wq.alloc (.cells #[] 5)) wq.heap.size d.Ao f (d.out.take f):=(Q.out.rd.pre ω).alloc (ai _) _;have aE:=Q.lo;have ck:=Q.cell.lt;have cj:f<=1000000000/\f<=d.no/\d.no<=2000000000:=ω;go_upto_region 10 with fail
 go_cut [8] (λs8 wx=>a5o wq f (d.out.take f) s8 wx)
 case first=>
  go_wp2_with (at_builtin;(refine bq .u8 wq.heap.size 5 i0 1 rfl (.tmp 57) (.tmp 63) _ rfl Tryz.underlying22 Hi.out i7.out gp.out i9.out rfl (ba.lit rfl [] _ (ai _) σ) rfl A ω ω σ ?_)
               intro A2 d2 w2 r hg bI)
  go_meet;rw[aZ,bS]at r;exact⟨A2,d2,rfl,r,((ax _ wq).alloc (ai _) _).grown hg σ (by simp [ak])⟩
 obtain⟨A8,d8,rfl,al,uB⟩ :=hcut;clear k3 k4 A QE;have D:=Q.keeps uB;have Zu:=hD.step (c':=c) Q.lo (λk t=>(Q.cb k t).1) (bk.bJ uB) (λ_ _=>rfl);have k3:=D.cell.cell (i:=3) ω;rw[show dF d o 3= .slice d.Ao d.no d.co from rfl]at k3;have z3:=D.cell.frozen' (i:=3) ω;have A:bT .u8 (wc.alloc (.cells #[] 5)) wc.heap.size (dr d.Ao d.co f) (d.no-f) (d.out.drop f):=(D.out.rd.dr ω fI).alloc (ai _) _;have oX:=D.cell.lt
 have Yf:Hid (∀q,ak A8=some q->c q=0/\q<wc.heap.size/\q≠g):=λq Y=>by
  have l:=al.2.lt Y;refine⟨?_,l.2, ?_⟩
  · by_cases e:c q=0
    · exact e
    have:=(Q.cb q e).2;omega
  have:=Q.cell.lt;omega
 go_upto_region 11 with fail
 go_cut [] (λwx=>a5p w0 c0 b0 g d o A8 f d8 (d.out.take f) (d.out.drop f) wx)
 case first=>
  have jP:=D.cell
  go_wp2_with (at_builtin;(refine bq .u8 wc.heap.size 5 i0 1 rfl (.tmp 66) (.tmp 72) _ rfl Tryz.underlying22 Hi.out i7.out gp.out i9.out rfl (ba.lit rfl [] _ (ai _) σ) rfl A ω ω σ ?_)
               intro A2 d2 w2 r hg bI;have nI:=(jP.alloc (.cells #[] 5)).grown hg (by simp [ak];omega);have x3:=nI.cell (i:=3) ω;have y3:=nI.frozen' (i:=3) ω)
  go_meet;rw[aZ,bS]at r;have UK:Below wc.heap.size wc w2:=((ax _ wc).alloc (ai _) _).grown hg σ (by simp [ak]);have CF:ak A2≠some g:=λe=>by have:=(r.2.lt e).1;omega
  have ap:bk wc (w2.setCell ⟨g,3,none⟩ (.slice A2 (d.no-f) d2)) (λk=>k=g\/ak d.Ao=some k):=((bk.bJ UK).setCell (p:= ⟨g,3,none⟩) (.inl (.inl rfl)) _);have I:=D.outs (S':=o) (l':=d.out.drop f) (A':=A2) (n':=d.no-f) (c':=d2) ap ((nI.bK (i:=3) ω _).congr (fg rfl rfl rfl rfl rfl rfl rfl rfl rfl rfl rfl rfl rfl rfl rfl rfl)) ((r.far (p:= ⟨g,3,none⟩) CF _).more (aw aE uB.size)) (λk t=> .inr (r.2.lt t).1);refine⟨cW c wc.heap.size (λk=>ak A2=some k) 4,A2,d.no-f,d2,I, ?_, ?_, ?_⟩
  · exact Zu.step D.lo (λk t=>(D.cb k t).1) (ap.more λk t=>by
     rcases t with rfl | t
     · rw[D.cg];decide
     rw[D.co k t];decide) (λk t=>cC t)
  · exact((al.keeps UK).far (p:= ⟨g,3,none⟩) (λe=>(Yf.out _ e).2.2 rfl) _).more aE
  intro q Y;rw[cC (Yf.out q Y).2.1];exact(Yf.out q Y).1
 obtain⟨J,A3,n3,c3,I,Zt,Qx,T⟩ :=hcut;have E:Hid ((d.out.take f).length=f):=by show _=_;rw[aD,<-GK.out];omega
 have F9:Hid (M.out++b=d.out.take f++d.out.drop f):=by show _=_;rw[aU,HO.out]
 have G:Hid ((d.out.drop f).length<=max M.out.length 70000):=by
  show _<=_;rw[az];have:=Gs.out;have:=bp.out;have:=GK.out;omega
 have j4:=I.cell.cell (i:=4) ω;rw[show dF { d with Ao:=A3,no:=n3,co:=c3,out:=d.out.drop f } o 4= .int .i64 o.err from rfl]at j4;have bl:∀s,pO F (a++b) d o s->pO F (a++b) { d with Ao:=A3,no:=n3,co:=c3,out:=d.out.drop f } o s:=λs h=> ⟨⟨h.live.x,h.live.st,h.live.last,h.live.left,h.live.c0,h.live.c1,h.live.c2,h.live.lens,h.live.hd,h.live.lt,h.live.ds,h.live.len,h.live.tail,h.live.rem,h.live.err⟩,h.ok,h.fin,h.all,h.rem⟩
 have bi:rE F (a++b) d o->rE F (a++b) { d with Ao:=A3,no:=n3,co:=c3,out:=d.out.drop f } o:=λh=> ⟨h.err,h.ne,h.all,λe=>by
  obtain⟨l,m⟩ :=h.at8 e;exact⟨⟨l.x,l.st,l.last,l.left,l.c0,l.c1,l.c2,l.lens,l.hd,l.lt,l.ds,l.len,l.tail,l.rem,l.err⟩,m⟩⟩
 have X:=η bl;have K:=η bi;clear bl bi k3 z3 A Fq;have H:f=n\/((f:Int)<n/\f=d.no):=by have:=bp.out;omega
 rcases H with l | ⟨l,m⟩
 · subst l
   go_wp2_with fail
   go_ret2
   refine⟨A8,_,d8,0,_,o,b,_,J,rfl,Qx,I,Zt,T,F9.out,G.out, .inl ⟨rfl,E.out, ?_⟩⟩;rcases B.out with ⟨_, ⟨s,m⟩ | m⟩ | ⟨s,m,_⟩ | m
   · exact .inl ⟨s,X.out s m⟩
   · exact .inr (K.out m)
   · exact .inl ⟨s,X.out s m⟩
   exact .inr (K.out m)
 have Sr:((f:Int)==(n:Int))=false:=ξ;have V:Hid (d.out.drop f=[]):=by show _=_;rw[List.drop_eq_nil_iff,<-GK.out];omega
 have bv:(∃s,pO F (a++b) d o s/\s.step.2=5)\/rE F (a++b) d o:=by
  rcases B.out with ⟨y,_⟩ | y | y
  · omega
  · exact .inl y
  exact .inr y
 have Dv:f<n:=ω;clear m;rcases bv with ⟨s,hA,rI⟩ | hE
 · have Ke:=hA.live.err;rw[Ke]at j4;have ce:=η rI;clear Ke rI
   go_wp2_with fail
   go_ret2
   exact⟨A8,_,d8,5,_,o,b,_,J,rfl,Qx,I,Zt,T,F9.out,G.out, .inr (.inl ⟨rfl,by rw[E.out];exact Dv,V.out, .inl ⟨s,X.out s hA,ce.out⟩⟩)⟩
 obtain⟨Qt,an⟩ :=hE.ne;rw[<-hE.err]at Qt an;have cl:(o.err==0)=false:=by simpa using Qt
 by_cases Ds:(0:Int)<f
 · go_wp2_with fail
   go_ret2
   exact⟨A8,_,d8,5,_,o,b,_,J,rfl,Qx,I,Zt,T,F9.out,G.out, .inr (.inl ⟨rfl,by rw[E.out];exact Dv,V.out, .inr ⟨by rw[E.out];omega,K.out hE⟩⟩)⟩
 have ao:f=0:=ω;have UU:Hid (M.out++b=[]++d.out.drop f):=by show _=_;rw[F9.out,ao];rfl
 have Gr:=η Qt;have cd:=η an;clear ao
 go_wp2_with fail;go_region
 all_goals
  go_wp2_with fail
  go_ret2
  exact⟨none,0,0,o.err,_,o,b,[],J,rfl,ba.dN,I.keeps (ax _ _).drew,Zt.step I.lo (λk t=>(I.cb k t).1) (bk.bJ (ax _ _).drew) (λ_ _=>rfl),λq Y=>by simp [ak]at Y,UU.out,G.out, .inr (.inr ⟨Gr.out,cd.out,hE.err,rfl,ω,V.out,K.out hE⟩)⟩
end
section
variable {w w' w0 w2:World} {b0 g:Nat} {c c0:Nat->Nat} {M M':DM} {S S':DS} {s t t':IS} {b:aj} {v:Int}
theorem jg.aside {F:Nat->Prop} (h:jg w b0 g c M S) (b:bk w w' F) (hF:∀k,F k->c k=0):jg w' b0 g c M S:=
 ⟨b.ar h.cell (λe=>by have:=hF g e;have:=h.cg;omega),h.cg,h.mC.fC b (λk a e=>by have:=hF k e;have:=h.cr k a;omega),h.cr,h.Gj.fC b (λk a e=>by have:=hF k e;have:=h.cw k a;omega),h.cw,
   b.dX h.out (λk a e=>by have:=hF k e;have:=h.co k a;omega),h.co,b.dX h.lens (λk a e=>by have:=hF k e;have:=h.cl k a;omega),h.cl,
   λl d=>(h.th l d).fC b (λk a e=>by have:=hF k a;omega) (λ_ _=>rfl),λl d=>(h.tl l d).fC b (λk a e=>by have:=hF k a;omega) (λ_ _=>rfl),λl d=>(h.td l d).fC b (λk a e=>by have:=hF k a;omega) (λ_ _=>rfl),
   λk a=> ⟨(h.cb k a).1,aB (h.cb k a).2 b.size⟩,h.bB⟩
def Ta (w w0:World) (c0:Nat->Nat) (b0 g:Nat) (M:DM) (S:DS) (e:Ending) (w':World):Prop:=
 ∃A k cp,e= .returned (.slice A k cp)/\ba .u8 w' w.heap.size 5 A k cp (M.B.drop (M.a/8))/\∃c,jg w' b0 g c { M with a:=8*M.B.length } S/\DE b0 w0 c0 w' c/\∀q,ak A=some q->c q=0
theorem L0 (h:bF w0 c0 w b0 g M S) (E:S.err=8) (P:M.a%8=0):
  Calls Tryz.prog 80 #[.pointer (some ⟨g,0,none⟩)] w (Ta w w0 c0 b0 g M S):=by
 obtain⟨U, -, -, -,J, -⟩ :=h.cells;rw[E]at J;have A:=h.mC.nB;have p:=h.mC.le;have X:=h.big;obtain⟨j,O⟩ :∃j,M.a=8*j:= ⟨M.a/8,ω⟩
 have C:∀W,bF w0 c0 W b0 g M S->Calls Tryz.prog 104 #[.pointer (some ⟨M.gi,0,none⟩)] W λe w'=>e= .returned (.int .i64 (8*((M.B.length-j:Nat):Int)))/\bF w0 c0 w' b0 g M S/\w'.cell? ⟨g,0,none⟩ =some (.pointer (some ⟨M.gi,0,none⟩))/\W.heap.size<=w'.heap.size:=λW f=>by
  refine(jd W _ _ _ _ _ _ _ f.mC (aw f.big ω)).mono ?_;rintro e w1 ⟨rfl,q,rfl⟩;refine⟨by rw[show 8*M.ni-M.a=8*(M.B.length-j) by omega];simp,f.drewN q, ?_⟩;obtain⟨k, -⟩ :=(f.drewN q).cells;exact⟨k,ai _⟩
 have y:=λW (f:bF w0 c0 W b0 g M S)=>yG W _ _ _ _ _ _ _ f.mC (aw f.big ω) ((M.B.length-j:Nat):Int) (M.B.length-j) (by rw[A];omega);have a1e:=η C;have GP:=η y;obtain⟨K,G⟩ :=ν (M.B.length-j);have Q:(0:Int)<=K/\(K:Int)<=100000000000:=ω;have L:IntKind.i64.wrap (K:Int)=(K:Int):=aM _ ω
 have D:Hid ((M.B.drop ((M.a+7)/8)).take K=M.B.drop (M.a/8)/\(M.a+7)/8*8+8*K=8*M.B.length):=by
  refine⟨?_,ω⟩;rw[show(M.a+7)/8=M.a/8 by omega,aC (by rw[az];omega)]
 rw[G]at a1e GP;clear C y A p O G E P;go_enter Tryz.func80,Tryz.ntmps80
 go_wp2_with fail
 go_region_with
  (first
    | (go_at_call 104;(refine(a1e.out _ (by first | exact h.drew | exact h)).mono ?_);rintro e i ⟨rfl,s,V,r⟩)
    | (go_at_call 103;(refine(GP.out _ (by first | exact s | exact s.drew)).mono ?_);rintro e n ⟨I,T,rfl,o,z,F⟩))
 all_goals
  rw[D.out.1]at o;rw[D.out.2]at z
  have l:Hid (∃c,jg n b0 g c { M with a:=8*M.B.length } S/\DE b0 w0 c0 n c/\∀q,ak I=some q->c q=0):=by
   obtain⟨x,b,v⟩ :=s;have t:x M.gi=2:=b.cr _ (.inl rfl);have u:jg n b0 g (cW x i.heap.size (foot M.Ai M.gi) 2) { M with a:=8*M.B.length } S:=b.reader (F.more λk d=> .inl d) z (λk d=> .inl d) b.bB;refine⟨_,u,v.step b.lo (λk d=>(b.cb k d).1) (F.more λk d=>by rw[d,t];decide) (λk d=>cC d),λq N=> ?_⟩;have m:=(o.2.lt N).1;by_cases e:cW x i.heap.size (foot M.Ai M.gi) 2 q=0
   · exact e
   rcases gq e with ⟨H,_⟩ | ⟨_,H⟩
   · have m:i.heap.size<=q:=m;omega
   have R:=b.cr q H;have:=(b.cb q (by rw[R];decide)).2;have m:i.heap.size<=q:=m;omega
  go_wp2_with fail;go_ret;exact⟨I,K,T,rfl,o.more (by show w.heap.size<=i.heap.size;exact r),l.out⟩
end
def ZIn (F:IS×Int) (a:aj) (M:DM) (S:DS):Prop:=(∃s,pO F a M S s)\/rE F a M S
theorem ZIn.pre {F:IS×Int} {a:aj} {M:DM} {S:DS} (h:ZIn F a M S):∃b,F.1.all=a++b:=by
 rcases h with ⟨s,h⟩ | h
 · obtain⟨b,c,_⟩ :=IS.NA s;rw[h.fin,h.all]at c;exact⟨b,c⟩
 exact⟨[],by rw[h.all,aA]⟩
theorem N5 {F:IS×Int} {a:aj} {M:DM} {S:DS} {s:IS} (h:pO F a M S s) (h5:s.step.2=5):F.2=5/\F.1.all=a:=by
 have e:=IS.iA (s:=s) (by rw[h5];decide);rw[h.fin]at e;rw[e];exact⟨h5,by rw[IS.Ec h5,h.all]⟩
theorem IS.Rv {s:IS} (a:s.step.2≠0) (h6:s.step.2≠6):s.step.1.all=s.all:=by
 have c:∀(s:IS) b,(s.emit b).2=0\/(s.emit b).2=6:=λs b=>by unfold IS.emit;simp only;split <;> simp
 unfold IS.step at a h6⊢;by_cases l:s.st=0
 · rw[af l]at a h6⊢;unfold IS.block at a h6⊢;revert a h6;repeat' split
   all_goals simp
 rw[aa l]at a h6⊢;by_cases k:s.st=1
 · rw[af k]at a h6⊢;unfold IS.size at a h6⊢;revert a h6;repeat' split
   all_goals simp
 rw[aa k]at a h6⊢;by_cases j:s.st=2
 · rw[af j]at a h6⊢;unfold IS.stored at a h6⊢;revert a h6;repeat' split
   · simp
   · simp
   intro a h6;rcases c { s with x:=s.x.drop 8,left:=s.left-1 } [(num s.x 8:Int)]with h | h
   · exact absurd h a
   exact absurd h h6
 rw[aa j]at a h6⊢;by_cases i:s.st=3
 · rw[af i]at a h6⊢;unfold IS.sizes at a h6⊢;revert a h6;repeat' split
   all_goals simp
 rw[aa i]at a h6⊢;by_cases g:s.st=4
 · rw[af g]at a h6⊢;unfold IS.heads at a h6⊢;revert a h6;repeat' split
   all_goals simp
 rw[aa g]at a h6⊢;by_cases f:s.st=5
 · rw[af f]at a h6⊢;unfold IS.lengths IS.length IS.kG at a h6⊢;revert a h6;repeat' split
   all_goals simp
 rw[aa f]at a h6⊢;by_cases e:s.st=6
 · rw[af e]at a h6⊢;unfold IS.token at a h6⊢;revert a h6;repeat' split
   all_goals first
    | (intro a h6;exact((c _ _).elim (λh=>absurd h a) (λh=>absurd h h6)))
    | simp
 rw[aa e]at a h6⊢;by_cases d:s.st=7
 · rw[af d]at a h6⊢;unfold IS.bm IS.text at a h6⊢;revert a h6;repeat' split
   all_goals first
    | (intro a h6;exact((c _ _).elim (λh=>absurd h a) (λh=>absurd h h6)))
    | simp
 rw[aa d]at a h6⊢
theorem IS.PN {s:IS} (h:s.Ok):∀v∈s.fin.1.all,0<=v/\v<256:=by
 obtain⟨t,b,a⟩ :=IS.mH s;have ht:=h.steps b;rw[<-a];by_cases e:t.step.2=0\/t.step.2=6
 · exact(ht.step e).jR
 rw[IS.Rv (λh=>e (.inl h)) (λh=>e (.inr h))];exact ht.jR
theorem a8v {s:IS} (h:s.Ok) (e:s.fin.2=8):s.fin.1.st=8:=by
 obtain⟨t,c,b⟩ :=IS.mH s;rw[<-b]at e⊢;obtain⟨a,m,l,k,j,i,g,f,d⟩ :=IS.step_done e;rw[a];have:=(h.steps c).st8;omega
theorem RJ {F:IS×Int} {a:aj} {M:DM} {S:DS} {n:Nat} {l:aj} {r:Int} (h:Ng F a M S n l r):l.length<=n:=by
 rcases h with ⟨_,h,_⟩ | ⟨_,h,_⟩ | ⟨_,_,_,h,_⟩
 · omega
 · omega
 rw[h];simp
theorem XO {F:IS×Int} {a:aj} {M:DM} {S:DS} {n:Nat} {l:aj} {r:Int} (h:Ng F a M S n l r):ZIn F a M S:=by
 rcases h with ⟨_,_,h⟩ | ⟨_,_,_, ⟨s,h,_⟩ | ⟨_,h⟩⟩ | ⟨_,_,_,_,_,_,h⟩
 · exact h
 · exact .inl ⟨s,h⟩
 · exact .inr h
 exact .inr h
end Go.Proofs.YtdhmnlpfhfmpfaaGreat
