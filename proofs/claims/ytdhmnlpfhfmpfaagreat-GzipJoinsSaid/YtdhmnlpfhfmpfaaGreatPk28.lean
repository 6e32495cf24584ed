/-
  part
-/
import Derived.Test.YtdhmnlpfhfmpfaaGreatPk27
import Derived.Deep.DeepMust
namespace Go.Proofs.YtdhmnlpfhfmpfaaGreat
open Go.RowKit
set_option linter.unusedVariables false
set_option maxRecDepth 100000
set_option maxHeartbeats 4000000
section
variable {w w' w0 w2:World} {b0 g:Nat} {c c0:Nat->Nat} {M M':DM} {S S':DS} {s t t':IS} {b:List Int} {v:Int}
def a0P (w0:World) (c0:Nat->Nat) (b0 g:Nat) (M:DM) (F:IS×Int) (a:List Int) (n:Nat) (k:Nat) (c:Value) (wr:World):Prop:=
 ∃M' S' b v,c= .int .i64 v/\bz w0 c0 wr b0 g M' S'/\M'.out=M.out++b/\M'.out.length<=max M.out.length (n+70000)/\
  ((v=0/\∃s,pE F (a++b) M' S' s/\Hid (k=s.mu+1))\/(v=5/\∃s,pE F (a++b) M' S' s/\s.step.2=5)\/qY F (a++b) M' S')
def MS (F:IS×Int) (a:List Int) (M:DM) (S:DS) (n:Nat) (l:List Int) (r:Int):Prop:=
 (r=0/\l.length=n/\((∃s,pE F a M S s)\/qY F a M S))\/
 (r=5/\l.length<n/\M.out=[]/\((∃s,pE F a M S s/\s.step.2=5)\/(0<l.length/\qY F a M S)))\/
 (r≠0/\r≠5/\r=F.2/\l=[]/\0<n/\M.out=[]/\qY F a M S)
def Sv (w0:World) (c0:Nat->Nat) (b0 g:Nat) (M:DM) (F:IS×Int) (a:List Int) (n:Nat) (e:Ending) (w':World):Prop:=
 ∃A k cp r M' S' b l c,e= .returned (.tuple #[.slice A k cp, .int .i64 r])/\aW .u8 w' b0 5 A k cp l/\jb w' b0 g c M' S'/\DE b0 w0 c0 w' c/\(∀q,ai A=some q->c q=0)/\M.out++b=l++M'.out/\M'.out.length<=max M.out.length 70000/\MS F (a++b) M' S' n l r
def a4N (a:World) (b:Nat) (l:List Int) (c:Value) (wx:World):Prop:=
 ∃A cp,c= .slice A b cp/\aW .u8 wx a.heap.size 5 A b cp l/\Below a.heap.size a wx
def a4O (w0:World) (c0:Nat->Nat) (b0 g:Nat) (M:DM) (S:DS) (A:Option Addr) (b cp:Nat) (l q:List Int) (wx:World):Prop:=
 ∃c e a d,jb wx b0 g c { M with Ao:=e,no:=a,co:=d,out:=q } S/\DE b0 w0 c0 wx c/\aW .u8 wx b0 5 A b cp l/\∀q,ai A=some q->c q=0
theorem Pm {F:IS×Int} {a:List Int} (h:bz w0 c0 w b0 g M S) (hR:(∃s,pE F a M S s)\/qY F a M S) (N:Int) (n:Nat) (hN:(n:Int)=max N 0) (hn:n<=1000000000) (kP:M.out.length<=1000000000):
  Calls Tryz.prog 79 #[.pointer (some ⟨g,0,none⟩), .int .i64 N] w (Sv w0 c0 b0 g M F a n):=by
 obtain⟨i0,hi,ad,ac,ab⟩ :=aJ jl;have Hi:=η hi;have gV:=η ad;have fY:=η ac;have gW:=η ab;clear hi ad ac ab
 have kZ:∃k,a0P w0 c0 b0 g M F a n k (.int .i64 0) w:=by
  rcases hR with ⟨s,hs⟩ | hs
  · exact⟨s.mu+1,M,S,[],0,rfl,h,σ,ω, .inl ⟨rfl,s,by rw[ax];exact hs,rfl⟩⟩
  exact⟨0,M,S,[],0,rfl,h,σ,ω, .inr (.inr (by rw[ax];exact hs))⟩
 obtain⟨k0,kZ⟩ :=kZ;have HI:=η kZ;have bp:w.heap.size=w.heap.size:=rfl;clear hR kZ h bp;have xj:(0:Int)<=n/\(n:Int)<=1000000000:=ω;have HN:=η hN;clear hN;go_enter Tryz.func79,Tryz.ntmps79;go_upto_region 3 with fail
 go_cut [1] (λs1 wx=>s1= .int .i64 n/\wx=w)
 case first=>
  go_wp2_with fail;go_meet;exact⟨by rw[HN.out],rfl⟩
 obtain⟨rfl,rfl⟩ :=hcut
 go_wp2_with fail;go_loopg [6] k0 (a0P w0 c0 b0 g M F a n)
 case atStart=>exact HI.out
 clear HI;obtain⟨d,o,b,v,rfl,h,K,L,G⟩ :=hrel;obtain⟨-, -, -,k3,k4, -⟩ :=h.cells;have am:=h.out.1;have ch:(0:Int)<=d.no/\(d.no:Int)<=2000000000:=ω;have GF:=η am;obtain⟨Bd,JR⟩ :=ν (decide ((d.no:Int)<n/\o.err=0/\v=0));have z:=η JR;have HO:=η K;have ML:=η L;have Q:=η G;clear JR am K L G;go_upto_region 5 with fail
 go_cut [30] (λs wx=>s= .bool Bd/\wx=wr)
 case first=>
  by_cases l:(d.no:Int)<n
  rotate_left
  · have hd:Hid (false=Bd):=by show _=_;rw[<-z.out];exact(aO λh=>l h.1).symm
    clear z Q
    go_wp2_with fail;go_meet;exact⟨aL Value.bool hd.out,rfl⟩
  by_cases m:o.err=0
  · by_cases y:v=0
    · have hd:Hid (true=Bd):=by show _=_;rw[<-z.out];exact(aS ⟨l,m,y⟩).symm
      rw[m]at k4;clear z Q m;subst y
      go_wp2_with fail;go_meet;exact⟨aL Value.bool hd.out,rfl⟩
    have hd:Hid (false=Bd):=by show _=_;rw[<-z.out];exact(aO λh=>y h.2.2).symm
    rw[m]at k4;have ah:(v==0)=false:=by simpa using y
    clear z Q m y
    go_wp2_with fail;go_meet;exact⟨aL Value.bool hd.out,rfl⟩
  have hd:Hid (false=Bd):=by show _=_;rw[<-z.out];exact(aO λh=>m h.2.1).symm
  have ah:(o.err==0)=false:=by simpa using m
  clear z Q m
  go_wp2_with fail;go_meet;exact⟨aL Value.bool hd.out,rfl⟩
 obtain⟨rfl,rfl⟩ :=hcut;by_cases hB:(d.no:Int)<n/\o.err=0/\v=0
 · rw[<-z.out,aS hB];obtain⟨Gn,bl,bI⟩ :=hB;subst bI
   have hA:∃s,pE F (a++b) d o s/\Hid (gk=s.mu+1):=by
    rcases Q.out with ⟨_,l⟩ | ⟨l,_⟩ | l
    · exact l
    · exact absurd l δ
    exact absurd (l.err.symm.trans bl) l.ne.1
   obtain⟨s,hA,t⟩ :=hA;have nO:IntKind.i64.wrap ((n:Int)-(d.no:Int))=(n:Int)-(d.no:Int):=aK _ ω;have al:=Pl h hA.live hA.ok ((n:Int)-(d.no:Int)) ω ω (by rw[<-GF.out];omega) (by have:=hA.rem;omega);have ca:=η al;clear z Q al bl
   go_wp2_with fail;refine ca.out.mono ?_;rintro e w5 ⟨Z,S2,s2,B,b2,rfl,m,Up,jt,aE,bx,bv⟩
   have U:Hid (Z.out.length<=max M.out.length (n+70000)):=by
    show _<=_;rw[jt,af];have:=GF.out;omega
   have RI:Hid (Z.out=M.out++(b++b2)):=by show _=_;rw[jt,HO.out,ak]
   have W:Hid (s2.all=a++(b++b2)):=by show _=_;rw[aE,hA.all,ak]
   have Rj:=η Up;clear Up jt aE bx;rcases bv with ⟨rfl,q1,q2,q3⟩ | ⟨rfl,q1,q2,q3⟩ | ⟨q1,q2,q3,q4⟩
   · have Q2:=η q2;clear q2
     go_wp2_with fail;go_roundg (s2.mu+1)
     case measure=>have:=t.out;have:=Q2.out;omega
     case rel=>exact⟨Z,S2,b++b2,0,rfl,m,RI.out,U.out, .inl ⟨rfl,s2, ⟨q3,hA.ok.steps q1,q1.mr.trans hA.fin,W.out,by have:=q1.out;obtain⟨_,_,h⟩ :=this;have:=hA.rem;omega⟩,rfl⟩⟩
   · have Q2:=η q2;clear q2
     go_wp2_with fail;go_roundg 0
     case measure=>have:=t.out;omega
     case rel=>exact⟨Z,S2,b++b2,5,rfl,m,RI.out,U.out, .inr (.inl ⟨rfl,s2, ⟨q3,hA.ok.steps q1,q1.mr.trans hA.fin,W.out,by have:=q1.out;obtain⟨_,_,h⟩ :=this;have:=hA.rem;omega⟩,Q2.out⟩)⟩
   have ah:(B==0)=false:=by simpa using q1
   have ce:(B==5)=false:=by simpa using q2
   have z4:=m.cell.frozen' (i:=4) ω;have j4:=m.cell.cell (i:=4) ω;have y:=m.put (i:=4) ω (.int .i64 B) { S2 with err:=B } (fj rfl rfl rfl rfl rfl rfl rfl rfl rfl rfl rfl rfl rfl rfl rfl rfl);have bX:Hid (F=(s2,B)):=by show _=_;rw[<-hA.fin];exact q3
   have bE:qY F (a++(b++b2)) Z { S2 with err:=B }:= ⟨by rw[bX.out],by rw[bX.out];exact⟨q1,q2⟩,by rw[bX.out];exact W.out,λe=>by
    rw[bX.out]at e⊢;have u:=q4 e;refine⟨⟨u.x,u.st,u.last,u.left,u.c0,u.c1,u.c2,u.lens,u.hd,u.lt,u.ds,u.len,u.tail,u.rem,rfl⟩, ?_⟩;have e8:B=8:=e;obtain⟨t3,Qd,bs⟩ :=IS.mz s;have:t3.step=(s2,B):=by rw[bs,q3]
    have h8:=IS.step_done (s:=t3) (by rw[this];exact e8);have:s2=t3:=by rw[<-h8.1,this]
    rw[this];exact hA.ok.steps Qd⟩
   clear q3 q4
   go_wp2_with fail;go_roundg 0
   case measure=>have:=t.out;omega
   case rel=>exact⟨Z,{ S2 with err:=B },b++b2,B,rfl,y,RI.out,U.out, .inr (.inr bE)⟩
 rw[<-z.out,aO hB]
 have A:Hid ((n<=d.no/\((∃s,pE F (a++b) d o s)\/qY F (a++b) d o))\/(∃s,pE F (a++b) d o s/\s.step.2=5)\/qY F (a++b) d o):=by
  rcases Q.out with ⟨l,s,m,_⟩ | ⟨_,l⟩ | l
  · exact .inl ⟨by have:=m.live.err;omega, .inl ⟨s,m⟩⟩
  · exact .inr (.inl l)
  exact .inr (.inr l)
 obtain⟨f,Gt⟩ :=ν (min n d.no);have qh:(0:Int)<=f/\(f:Int)<=n/\(f:Int)<=d.no:=ω;have C8:Hid (min (n:Int) (d.no:Int)=(f:Int)):=by show _=_;omega
 have bo:Hid (f=n\/(f<n/\f=d.no)):=by show _\/_;omega
 clear z Q hB Gt;go_upto_region 9 with fail
 go_cut [7] (λs wx=>s= .int .i64 f/\wx=wc)
 case first=>
  go_wp2_with fail;go_meet;exact⟨by rw[C8.out],rfl⟩
 rename World=>wq
 obtain⟨rfl,rfl⟩ :=hcut;have eL:=h.out.2.jD;have Qa:=dV (P:=Tryz.prog) 22 5 Tryz.underlying22 Hi.out fY.out d.Ao d.no d.co (j:=f) ω;have Fj:=dc (P:=Tryz.prog) 22 5 Tryz.underlying22 Hi.out fY.out d.Ao d.no d.co (j:=f) ω;obtain⟨c,O,hD⟩ :=h;have UT:bU .u8 (wq.alloc (.cells #[] 5)) wq.heap.size d.Ao f (d.out.take f):=(O.out.rd.pre ω).alloc (ag _) _;have ap:=O.lo;have cj:=O.cell.lt;have ci:f<=1000000000/\f<=d.no/\d.no<=2000000000:=ω;go_upto_region 10 with fail
 go_cut [8] (λs8 wx=>a4N wq f (d.out.take f) s8 wx)
 case first=>
  go_wp2_with (at_builtin;(refine ba .u8 wq.heap.size 5 i0 1 rfl (.tmp 57) (.tmp 63) _ rfl Tryz.underlying22 Hi.out gV.out fY.out gW.out rfl (aW.lit rfl [] _ (ag _) σ) rfl UT ω ω σ ?_)
               intro A2 d2 w2 r hg bB)
  go_meet;rw[aT,bZ]at r;exact⟨A2,d2,rfl,r,((aw _ wq).alloc (ag _) _).grown hg σ (by simp [ai])⟩
 obtain⟨A8,d8,rfl,RH,rj⟩ :=hcut;clear k3 k4 UT Qa;have C:=O.keeps rj;have YG:=hD.step (c':=c) O.lo (λk t=>(O.cb k t).1) (bj.bA rj) (λ_ _=>rfl);have k3:=C.cell.cell (i:=3) ω;rw[show dF d o 3= .slice d.Ao d.no d.co from rfl]at k3;have z3:=C.cell.frozen' (i:=3) ω;have UT:bU .u8 (wc.alloc (.cells #[] 5)) wc.heap.size (dx d.Ao d.co f) (d.no-f) (d.out.drop f):=(C.out.rd.dx ω eL).alloc (ag _) _;have oL:=C.cell.lt
 have Xy:Hid (∀q,ai A8=some q->c q=0/\q<wc.heap.size/\q≠g):=λq Y=>by
  have l:=RH.2.lt Y;refine⟨?_,l.2, ?_⟩
  · by_cases e:c q=0
    · exact e
    have:=(O.cb q e).2;omega
  have:=O.cell.lt;omega
 go_upto_region 11 with fail
 go_cut [] (λwx=>a4O w0 c0 b0 g d o A8 f d8 (d.out.take f) (d.out.drop f) wx)
 case first=>
  have kz:=C.cell
  go_wp2_with (at_builtin;(refine ba .u8 wc.heap.size 5 i0 1 rfl (.tmp 66) (.tmp 72) _ rfl Tryz.underlying22 Hi.out gV.out fY.out gW.out rfl (aW.lit rfl [] _ (ag _) σ) rfl UT ω ω σ ?_)
               intro A2 d2 w2 r hg bB;have ng:=(kz.alloc (.cells #[] 5)).grown hg (by simp [ai];omega);have x3:=ng.cell (i:=3) ω;have y3:=ng.frozen' (i:=3) ω)
  go_meet;rw[aT,bZ]at r;have I8:Below wc.heap.size wc w2:=((aw _ wc).alloc (ag _) _).grown hg σ (by simp [ai]);have CB:ai A2≠some g:=λe=>by have:=(r.2.lt e).1;omega
  have ao:bj wc (w2.setCell ⟨g,3,none⟩ (.slice A2 (d.no-f) d2)) (λk=>k=g\/ai d.Ao=some k):=((bj.bA I8).setCell (p:= ⟨g,3,none⟩) (.inl (.inl rfl)) _);have H:=C.outs (S':=o) (l':=d.out.drop f) (A':=A2) (n':=d.no-f) (c':=d2) ao ((ng.bC (i:=3) ω _).congr (fj rfl rfl rfl rfl rfl rfl rfl rfl rfl rfl rfl rfl rfl rfl rfl rfl)) ((r.far (p:= ⟨g,3,none⟩) CB _).more (au ap rj.size)) (λk t=> .inr (r.2.lt t).1);refine⟨cT c wc.heap.size (λk=>ai A2=some k) 4,A2,d.no-f,d2,H, ?_, ?_, ?_⟩
  · exact YG.step C.lo (λk t=>(C.cb k t).1) (ao.more λk t=>by
     rcases t with rfl | t
     · rw[C.cg];decide
     rw[C.co k t];decide) (λk t=>cy t)
  · exact((RH.keeps I8).far (p:= ⟨g,3,none⟩) (λe=>(Xy.out _ e).2.2 rfl) _).more ap
  intro q Y;rw[cy (Xy.out q Y).2.1];exact(Xy.out q Y).1
 obtain⟨I,A3,n3,c3,H,YF,T,R⟩ :=hcut;have D:Hid ((d.out.take f).length=f):=by show _=_;rw[aA,<-GF.out];omega
 have Lh:Hid (M.out++b=d.out.take f++d.out.drop f):=by show _=_;rw[aM,HO.out]
 have E:Hid ((d.out.drop f).length<=max M.out.length 70000):=by
  show _<=_;rw[av];have:=ML.out;have:=bo.out;have:=GF.out;omega
 have j4:=H.cell.cell (i:=4) ω;rw[show dF { d with Ao:=A3,no:=n3,co:=c3,out:=d.out.drop f } o 4= .int .i64 o.err from rfl]at j4;have bi:∀s,pE F (a++b) d o s->pE F (a++b) { d with Ao:=A3,no:=n3,co:=c3,out:=d.out.drop f } o s:=λs h=> ⟨⟨h.live.x,h.live.st,h.live.last,h.live.left,h.live.c0,h.live.c1,h.live.c2,h.live.lens,h.live.hd,h.live.lt,h.live.ds,h.live.len,h.live.tail,h.live.rem,h.live.err⟩,h.ok,h.fin,h.all,h.rem⟩
 have be:qY F (a++b) d o->qY F (a++b) { d with Ao:=A3,no:=n3,co:=c3,out:=d.out.drop f } o:=λh=> ⟨h.err,h.ne,h.all,λe=>by
  obtain⟨l,m⟩ :=h.at8 e;exact⟨⟨l.x,l.st,l.last,l.left,l.c0,l.c1,l.c2,l.lens,l.hd,l.lt,l.ds,l.len,l.tail,l.rem,l.err⟩,m⟩⟩
 have X:=η bi;have J:=η be;clear bi be k3 z3 UT Fj;have G:f=n\/((f:Int)<n/\f=d.no):=by have:=bo.out;omega
 rcases G with l | ⟨l,m⟩
 · subst l
   go_wp2_with fail
   go_ret2
   refine⟨A8,_,d8,0,_,o,b,_,I,rfl,T,H,YF,R,Lh.out,E.out, .inl ⟨rfl,D.out, ?_⟩⟩;rcases A.out with ⟨_, ⟨s,m⟩ | m⟩ | ⟨s,m,_⟩ | m
   · exact .inl ⟨s,X.out s m⟩
   · exact .inr (J.out m)
   · exact .inl ⟨s,X.out s m⟩
   exact .inr (J.out m)
 have LA:((f:Int)==(n:Int))=false:=ξ;have V:Hid (d.out.drop f=[]):=by show _=_;rw[List.drop_eq_nil_iff,<-GF.out];omega
 have bt:(∃s,pE F (a++b) d o s/\s.step.2=5)\/qY F (a++b) d o:=by
  rcases A.out with ⟨y,_⟩ | y | y
  · omega
  · exact .inl y
  exact .inr y
 have yG:f<n:=ω;clear m;rcases bt with ⟨s,hA,ri⟩ | hE
 · have JZ:=hA.live.err;rw[JZ]at j4;have cd:=η ri;clear JZ ri
   go_wp2_with fail
   go_ret2
   exact⟨A8,_,d8,5,_,o,b,_,I,rfl,T,H,YF,R,Lh.out,E.out, .inr (.inl ⟨rfl,by rw[D.out];exact yG,V.out, .inl ⟨s,X.out s hA,cd.out⟩⟩)⟩
 obtain⟨PX,ZA⟩ :=hE.ne;rw[<-hE.err]at PX ZA;have ck:(o.err==0)=false:=by simpa using PX
 by_cases Dp:(0:Int)<f
 · go_wp2_with fail
   go_ret2
   exact⟨A8,_,d8,5,_,o,b,_,I,rfl,T,H,YF,R,Lh.out,E.out, .inr (.inl ⟨rfl,by rw[D.out];exact yG,V.out, .inr ⟨by rw[D.out];omega,J.out hE⟩⟩)⟩
 have an:f=0:=ω;have Uj:Hid (M.out++b=[]++d.out.drop f):=by show _=_;rw[Lh.out,an];rfl
 have Gi:=η PX;have cc:=η ZA;clear an
 go_wp2_with fail;go_region
 all_goals
  go_wp2_with fail
  go_ret2
  exact⟨none,0,0,o.err,_,o,b,[],I,rfl,aW.dK,H.keeps (aw _ _).drew,YF.step H.lo (λk t=>(H.cb k t).1) (bj.bA (aw _ _).drew) (λ_ _=>rfl),λq Y=>by simp [ai]at Y,Uj.out,E.out, .inr (.inr ⟨Gi.out,cc.out,hE.err,rfl,ω,V.out,J.out hE⟩)⟩
end
section
variable {w w' w0 w2:World} {b0 g:Nat} {c c0:Nat->Nat} {M M':DM} {S S':DS} {s t t':IS} {b:List Int} {v:Int}
theorem jb.aside {F:Nat->Prop} (h:jb w b0 g c M S) (b:bj w w' F) (hF:∀k,F k->c k=0):jb w' b0 g c M S:=
 ⟨b.ar h.cell (λe=>by have:=hF g e;have:=h.cg;omega),h.cg,h.mg.fz b (λk a e=>by have:=hF k e;have:=h.cr k a;omega),h.cr,h.Gb.fz b (λk a e=>by have:=hF k e;have:=h.cw k a;omega),h.cw,
   b.eH h.out (λk a e=>by have:=hF k e;have:=h.co k a;omega),h.co,b.eH h.lens (λk a e=>by have:=hF k e;have:=h.cl k a;omega),h.cl,
   λl d=>(h.th l d).fz b (λk a e=>by have:=hF k a;omega) (λ_ _=>rfl),λl d=>(h.tl l d).fz b (λk a e=>by have:=hF k a;omega) (λ_ _=>rfl),λl d=>(h.td l d).fz b (λk a e=>by have:=hF k a;omega) (λ_ _=>rfl),
   λk a=> ⟨(h.cb k a).1,aD (h.cb k a).2 b.size⟩,h.bB⟩
def Sr (w w0:World) (c0:Nat->Nat) (b0 g:Nat) (M:DM) (S:DS) (e:Ending) (w':World):Prop:=
 ∃A k cp,e= .returned (.slice A k cp)/\aW .u8 w' w.heap.size 5 A k cp (M.B.drop (M.a/8))/\∃c,jb w' b0 g c { M with a:=8*M.B.length } S/\DE b0 w0 c0 w' c/\∀q,ai A=some q->c q=0
theorem KO (h:bz w0 c0 w b0 g M S) (E:S.err=8) (P:M.a%8=0):
  Calls Tryz.prog 80 #[.pointer (some ⟨g,0,none⟩)] w (Sr w w0 c0 b0 g M S):=by
 obtain⟨U, -, -, -,J, -⟩ :=h.cells;rw[E]at J;have A:=h.mg.mV;have r:=h.mg.le;have X:=h.big;obtain⟨j,O⟩ :∃j,M.a=8*j:= ⟨M.a/8,ω⟩
 have C:∀W,bz w0 c0 W b0 g M S->Calls Tryz.prog 104 #[.pointer (some ⟨M.gi,0,none⟩)] W λe w'=>e= .returned (.int .i64 (8*((M.B.length-j:Nat):Int)))/\bz w0 c0 w' b0 g M S/\w'.cell? ⟨g,0,none⟩ =some (.pointer (some ⟨M.gi,0,none⟩))/\W.heap.size<=w'.heap.size:=λW f=>by
  refine(j3 W _ _ _ _ _ _ _ f.mg (au f.big ω)).mono ?_;rintro e w1 ⟨rfl,q,rfl⟩;refine⟨by rw[show 8*M.ni-M.a=8*(M.B.length-j) by omega];simp,f.drewN q, ?_⟩;obtain⟨k, -⟩ :=(f.drewN q).cells;exact⟨k,ag _⟩
 have z:=λW (f:bz w0 c0 W b0 g M S)=>yf W _ _ _ _ _ _ _ f.mg (au f.big ω) ((M.B.length-j:Nat):Int) (M.B.length-j) (by rw[A];omega);have a0K:=η C;have GH:=η z;obtain⟨K,G⟩ :=ν (M.B.length-j);have Q:(0:Int)<=K/\(K:Int)<=100000000000:=ω;have L:IntKind.i64.wrap (K:Int)=(K:Int):=aK _ ω
 have D:Hid ((M.B.drop ((M.a+7)/8)).take K=M.B.drop (M.a/8)/\(M.a+7)/8*8+8*K=8*M.B.length):=by
  refine⟨?_,ω⟩;rw[show(M.a+7)/8=M.a/8 by omega,ay (by rw[av];omega)]
 rw[G]at a0K GH;clear C z A r O G E P;go_enter Tryz.func80,Tryz.ntmps80
 go_wp2_with fail
 go_region_with
  (first
    | (go_at_call 104;(refine(a0K.out _ (by first | exact h.drew | exact h)).mono ?_);rintro e i ⟨rfl,t,V,s⟩)
    | (go_at_call 103;(refine(GH.out _ (by first | exact t | exact t.drew)).mono ?_);rintro e o ⟨I,T,rfl,p,m,F⟩))
 all_goals
  rw[D.out.1]at p;rw[D.out.2]at m
  have l:Hid (∃c,jb o b0 g c { M with a:=8*M.B.length } S/\DE b0 w0 c0 o c/\∀q,ai I=some q->c q=0):=by
   obtain⟨y,b,x⟩ :=t;have u:y M.gi=2:=b.cr _ (.inl rfl);have v:jb o b0 g (cT y i.heap.size (foot M.Ai M.gi) 2) { M with a:=8*M.B.length } S:=b.reader (F.more λk d=> .inl d) m (λk d=> .inl d) b.bB;refine⟨_,v,x.step b.lo (λk d=>(b.cb k d).1) (F.more λk d=>by rw[d,u];decide) (λk d=>cy d),λq N=> ?_⟩;have n:=(p.2.lt N).1;by_cases e:cT y i.heap.size (foot M.Ai M.gi) 2 q=0
   · exact e
   rcases fZ e with ⟨H,_⟩ | ⟨_,H⟩
   · have n:i.heap.size<=q:=n;omega
   have R:=b.cr q H;have:=(b.cb q (by rw[R];decide)).2;have n:i.heap.size<=q:=n;omega
  go_wp2_with fail;go_ret;exact⟨I,K,T,rfl,p.more (by show w.heap.size<=i.heap.size;exact s),l.out⟩
end
def ZIn (F:IS×Int) (a:List Int) (M:DM) (S:DS):Prop:=(∃s,pE F a M S s)\/qY F a M S
theorem ZIn.pre {F:IS×Int} {a:List Int} {M:DM} {S:DS} (h:ZIn F a M S):∃b,F.1.all=a++b:=by
 rcases h with ⟨s,h⟩ | h
 · obtain⟨b,c,_⟩ :=IS.Nd s;rw[h.fin,h.all]at c;exact⟨b,c⟩
 exact⟨[],by rw[h.all,ax]⟩
theorem MI {F:IS×Int} {a:List Int} {M:DM} {S:DS} {s:IS} (h:pE F a M S s) (h5:s.step.2=5):F.2=5/\F.1.all=a:=by
 have e:=IS.ir (s:=s) (by rw[h5];decide);rw[h.fin]at e;rw[e];exact⟨h5,by rw[IS.E6 h5,h.all]⟩
theorem IS.QT {s:IS} (a:s.step.2≠0) (h6:s.step.2≠6):s.step.1.all=s.all:=by
 have c:∀(s:IS) b,(s.emit b).2=0\/(s.emit b).2=6:=λs b=>by unfold IS.emit;simp only;split <;> simp
 unfold IS.step at a h6⊢;by_cases l:s.st=0
 · rw[ae l]at a h6⊢;unfold IS.block at a h6⊢;revert a h6;repeat' split
   all_goals simp
 rw[aa l]at a h6⊢;by_cases k:s.st=1
 · rw[ae k]at a h6⊢;unfold IS.size at a h6⊢;revert a h6;repeat' split
   all_goals simp
 rw[aa k]at a h6⊢;by_cases j:s.st=2
 · rw[ae j]at a h6⊢;unfold IS.stored at a h6⊢;revert a h6;repeat' split
   · simp
   · simp
   intro a h6;rcases c { s with x:=s.x.drop 8,left:=s.left-1 } [(num s.x 8:Int)]with h | h
   · exact absurd h a
   exact absurd h h6
 rw[aa j]at a h6⊢;by_cases i:s.st=3
 · rw[ae i]at a h6⊢;unfold IS.sizes at a h6⊢;revert a h6;repeat' split
   all_goals simp
 rw[aa i]at a h6⊢;by_cases g:s.st=4
 · rw[ae g]at a h6⊢;unfold IS.heads at a h6⊢;revert a h6;repeat' split
   all_goals simp
 rw[aa g]at a h6⊢;by_cases f:s.st=5
 · rw[ae f]at a h6⊢;unfold IS.lengths IS.length IS.ku at a h6⊢;revert a h6;repeat' split
   all_goals simp
 rw[aa f]at a h6⊢;by_cases e:s.st=6
 · rw[ae e]at a h6⊢;unfold IS.token at a h6⊢;revert a h6;repeat' split
   all_goals first
    | (intro a h6;exact((c _ _).elim (λh=>absurd h a) (λh=>absurd h h6)))
    | simp
 rw[aa e]at a h6⊢;by_cases d:s.st=7
 · rw[ae d]at a h6⊢;unfold IS.bk IS.text at a h6⊢;revert a h6;repeat' split
   all_goals first
    | (intro a h6;exact((c _ _).elim (λh=>absurd h a) (λh=>absurd h h6)))
    | simp
 rw[aa d]at a h6⊢
theorem IS.Po {s:IS} (h:s.Ok):∀v∈s.fin.1.all,0<=v/\v<256:=by
 obtain⟨t,b,a⟩ :=IS.mz s;have ht:=h.steps b;rw[<-a];by_cases e:t.step.2=0\/t.step.2=6
 · exact(ht.step e).jU
 rw[IS.QT (λh=>e (.inl h)) (λh=>e (.inr h))];exact ht.jU
theorem a89 {s:IS} (h:s.Ok) (e:s.fin.2=8):s.fin.1.st=8:=by
 obtain⟨t,c,b⟩ :=IS.mz s;rw[<-b]at e⊢;obtain⟨a,m,l,k,j,i,g,f,d⟩ :=IS.step_done e;rw[a];have:=(h.steps c).st8;omega
theorem Rc {F:IS×Int} {a:List Int} {M:DM} {S:DS} {n:Nat} {l:List Int} {r:Int} (h:MS F a M S n l r):l.length<=n:=by
 rcases h with ⟨_,h,_⟩ | ⟨_,h,_⟩ | ⟨_,_,_,h,_⟩
 · omega
 · omega
 rw[h];simp
theorem Xc {F:IS×Int} {a:List Int} {M:DM} {S:DS} {n:Nat} {l:List Int} {r:Int} (h:MS F a M S n l r):ZIn F a M S:=by
 rcases h with ⟨_,_,h⟩ | ⟨_,_,_, ⟨s,h,_⟩ | ⟨_,h⟩⟩ | ⟨_,_,_,_,_,_,h⟩
 · exact h
 · exact .inl ⟨s,h⟩
 · exact .inr h
 exact .inr h
end Go.Proofs.YtdhmnlpfhfmpfaaGreat
