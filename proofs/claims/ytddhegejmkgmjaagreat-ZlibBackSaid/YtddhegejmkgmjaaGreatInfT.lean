/-
  part
-/
import Derived.Test.YtddhegejmkgmjaaGreatPk25
namespace Go.Proofs.YtddhegejmkgmjaaGreat
open Go.RowKit
set_option linter.unusedVariables false
set_option maxRecDepth 100000
set_option maxHeartbeats 4000000
section
variable {w w' w0 w2:World} {b0 g:Nat} {c c0:Nat->Nat} {M M':DM} {S S':DS} {s t t':IS} {b:List Int} {v:Int}
def TF (w0:World) (c0:Nat->Nat) (b0 g:Nat) (M:DM) (F:IS×Int) (a:List Int) (n:Nat) (k:Nat) (c:Value) (wr:World):Prop:=
 ∃M' S' b v,c= .int .i64 v/\av w0 c0 wr b0 g M' S'/\M'.out=M.out++b/\M'.out.length<=max M.out.length (n+70000)/\
  ((v=0/\∃s,kz F (a++b) M' S' s/\Hid (k=s.mu+1))\/(v=5/\∃s,kz F (a++b) M' S' s/\s.step.2=5)\/m9 F (a++b) M' S')
def Hp (F:IS×Int) (a:List Int) (M:DM) (S:DS) (n:Nat) (l:List Int) (r:Int):Prop:=
 (r=0/\l.length=n/\((∃s,kz F a M S s)\/m9 F a M S))\/
 (r=5/\l.length<n/\M.out=[]/\((∃s,kz F a M S s/\s.step.2=5)\/(0<l.length/\m9 F a M S)))\/
 (r≠0/\r≠5/\r=F.2/\l=[]/\0<n/\M.out=[]/\m9 F a M S)
def LZ (w0:World) (c0:Nat->Nat) (b0 g:Nat) (M:DM) (F:IS×Int) (a:List Int) (n:Nat) (e:Ending) (w':World):Prop:=
 ∃A k cp r M' S' b l c,e= .returned (.tuple #[.slice A k cp, .int .i64 r])/\ag .u8 w' b0 5 A k cp l/\dU w' b0 g c M' S'/\DE b0 w0 c0 w' c/\(∀q,aa A=some q->c q=0)/\M.out++b=l++M'.out/\M'.out.length<=max M.out.length 70000/\Hp F (a++b) M' S' n l r
def ZZ (a:World) (b:Nat) (l:List Int) (c:Value) (wx:World):Prop:=
 ∃A cp,c= .slice A b cp/\ag .u8 wx a.heap.size 5 A b cp l/\Below a.heap.size a wx
def a00 (w0:World) (c0:Nat->Nat) (b0 g:Nat) (M:DM) (S:DS) (A:Option Addr) (b cp:Nat) (l q:List Int) (wx:World):Prop:=
 ∃c e a d,dU wx b0 g c { M with Ao:=e,no:=a,co:=d,out:=q } S/\DE b0 w0 c0 wx c/\ag .u8 wx b0 5 A b cp l/\∀q,aa A=some q->c q=0
theorem JE {F:IS×Int} {a:List Int} (h:av w0 c0 w b0 g M S) (hR:(∃s,kz F a M S s)\/m9 F a M S) (N:Int) (n:Nat) (hN:(n:Int)=max N 0) (hn:n<=1000000000) (jI:M.out.length<=1000000000):
  Calls Tryz.prog 62 #[.pointer (some ⟨g,0,none⟩), .int .i64 N] w (LZ w0 c0 b0 g M F a n):=by
 obtain⟨i0,hi,ad,ac,ab⟩ :=info_parts ez;have Hi:=η hi;have dM:=η ad;have cV:=η ac;have dN:=η ab;clear hi ad ac ab
 have gy:∃k,TF w0 c0 b0 g M F a n k (.int .i64 0) w:=by
  rcases hR with ⟨s,hs⟩ | hs
  · exact⟨s.mu+1,M,S,[],0,rfl,h,σ,ω, .inl ⟨rfl,s,by rw[List.append_nil];exact hs,rfl⟩⟩
  · exact⟨0,M,S,[],0,rfl,h,σ,ω, .inr (.inr (by rw[List.append_nil];exact hs))⟩
 obtain⟨k0,gy⟩ :=gy;have HI:=η gy;have bb:w.heap.size=w.heap.size:=rfl;clear hR gy h bb;have rE:(0:Int)<=n/\(n:Int)<=1000000000:=ω;have HN:=η hN;clear hN;go_enter Tryz.func62,Tryz.ntmps62
 go_upto_region 3 with fail
 go_cut [1] (λs1 wx=>s1= .int .i64 n/\wx=w)
 case first=>
  go_wp2_with fail
  go_meet
  exact⟨by rw[HN.out],rfl⟩
 case rest=>
  obtain⟨rfl,rfl⟩ :=hcut
  go_wp2_with fail
  go_loopg [6] k0 (TF w0 c0 b0 g M F a n)
  case atStart=>exact HI.out
  case round=>
   clear HI;obtain⟨d,o,b,v,rfl,h,L,O,G⟩ :=hrel;obtain⟨-, -, -,k3,k4, -⟩ :=h.cells;have am:=h.out.1;have bv:(0:Int)<=d.no/\(d.no:Int)<=2000000000:=ω;have BK:=η am;obtain⟨Bd,Et⟩ :=ν (decide ((d.no:Int)<n/\o.err=0/\v=0));have z:=η Et;have HO:=η L;have tW:=η O;have R:=η G;clear Et am L O G
   go_upto_region 5 with fail
   go_cut [30] (λs wx=>s= .bool Bd/\wx=wr)
   case first=>
    by_cases l:(d.no:Int)<n
    · by_cases m:o.err=0
      · by_cases y:v=0
        · have hd:Hid (true=Bd):=by show _=_;rw[<-z.out];exact(decide_eq_true ⟨l,m,y⟩).symm
          rw[m]at k4;clear z R m;subst y
          go_wp2_with fail
          go_meet
          exact⟨congrArg Value.bool hd.out,rfl⟩
        · have hd:Hid (false=Bd):=by show _=_;rw[<-z.out];exact(decide_eq_false λh=>y h.2.2).symm
          rw[m]at k4;have ah:(v==0)=false:=by simpa using y
          clear z R m y
          go_wp2_with fail
          go_meet
          exact⟨congrArg Value.bool hd.out,rfl⟩
      · have hd:Hid (false=Bd):=by show _=_;rw[<-z.out];exact(decide_eq_false λh=>m h.2.1).symm
        have ah:(o.err==0)=false:=by simpa using m
        clear z R m
        go_wp2_with fail
        go_meet
        exact⟨congrArg Value.bool hd.out,rfl⟩
    · have hd:Hid (false=Bd):=by show _=_;rw[<-z.out];exact(decide_eq_false λh=>l h.1).symm
      clear z R
      go_wp2_with fail
      go_meet
      exact⟨congrArg Value.bool hd.out,rfl⟩
   case rest=>
    obtain⟨rfl,rfl⟩ :=hcut;by_cases hB:(d.no:Int)<n/\o.err=0/\v=0
    · rw[<-z.out,decide_eq_true hB];obtain⟨Fw,aS,bn⟩ :=hB;subst bn
      have hA:∃s,kz F (a++b) d o s/\Hid (gk=s.mu+1):=by
       rcases R.out with ⟨_,l⟩ | ⟨l,_⟩ | l
       · exact l
       · exact absurd l δ
       · exact absurd (l.err.symm.trans aS) l.ne.1
      obtain⟨s,hA,t⟩ :=hA;have jD:IntKind.i64.wrap ((n:Int)-(d.no:Int))=(n:Int)-(d.no:Int):=IntWalk.i64_in _ ω;have al:=JD h hA.live hA.ok ((n:Int)-(d.no:Int)) ω ω (by rw[<-BK.out];omega) (by have:=hA.rem;omega);have bo:=η al;clear z R al aS
      go_wp2_with fail
      refine bo.out.mono ?_;rintro e w5 ⟨M2,S2,T,B,Z,rfl,m,NA,fP,aC,bi,be⟩
      have X0:Hid (M2.out.length<=max M.out.length (n+70000)):=by
       show _<=_
       rw[fP,List.length_append];have:=BK.out;omega
      have Qt:Hid (M2.out=M.out++(b++Z)):=by show _=_;rw[fP,HO.out,List.append_assoc]
      have W:Hid (T.all=a++(b++Z)):=by show _=_;rw[aC,hA.all,List.append_assoc]
      have QK:=η NA;clear NA fP aC bi;rcases be with ⟨rfl,C,K,U⟩ | ⟨rfl,C,K,U⟩ | ⟨C,K,U,q4⟩
      · have Q2:=η K;clear K
        go_wp2_with fail
        go_roundg (T.mu+1)
        case measure=>have:=t.out;have:=Q2.out;omega
        case rel=>exact⟨M2,S2,b++Z,0,rfl,m,Qt.out,X0.out, .inl ⟨rfl,T, ⟨U,hA.ok.steps C,C.iv.trans hA.fin,W.out,by have:=C.out;obtain⟨_,_,h⟩ :=this;have:=hA.rem;omega⟩,rfl⟩⟩
      · have Q2:=η K;clear K
        go_wp2_with fail
        go_roundg 0
        case measure=>have:=t.out;omega
        case rel=>exact⟨M2,S2,b++Z,5,rfl,m,Qt.out,X0.out, .inr (.inl ⟨rfl,T, ⟨U,hA.ok.steps C,C.iv.trans hA.fin,W.out,by have:=C.out;obtain⟨_,_,h⟩ :=this;have:=hA.rem;omega⟩,Q2.out⟩)⟩
      · have ah:(B==0)=false:=by simpa using C
        have bt:(B==5)=false:=by simpa using K
        have z4:=m.cell.frozen' (i:=4) ω;have j4:=m.cell.cell (i:=4) ω;have y:=m.put (i:=4) ω (.int .i64 B) { S2 with err:=B } (bN rfl rfl rfl rfl rfl rfl rfl rfl rfl rfl rfl rfl rfl rfl rfl rfl);have aA:Hid (F=(T,B)):=by show _=_;rw[<-hA.fin];exact U
        have bl:m9 F (a++(b++Z)) M2 { S2 with err:=B }:= ⟨by rw[aA.out],by rw[aA.out];exact⟨C,K⟩,by rw[aA.out];exact W.out,λe=>by
         rw[aA.out]at e⊢;have u:=q4 e;refine⟨⟨u.x,u.st,u.last,u.left,u.c0,u.c1,u.c2,u.lens,u.hd,u.lt,u.ds,u.len,u.tail,u.rem,rfl⟩, ?_⟩;have e8:B=8:=e;obtain⟨t3,Kf,bd⟩ :=IS.ft s;have:t3.step=(T,B):=by rw[bd,U]
         have h8:=IS.step_done (s:=t3) (by rw[this];exact e8);have:T=t3:=by rw[<-h8.1,this]
         rw[this];exact hA.ok.steps Kf⟩
        clear U q4
        go_wp2_with fail
        go_roundg 0
        case measure=>have:=t.out;omega
        case rel=>exact⟨M2,{ S2 with err:=B },b++Z,B,rfl,y,Qt.out,X0.out, .inr (.inr bl)⟩
    · rw[<-z.out,decide_eq_false hB]
      have A:Hid ((n<=d.no/\((∃s,kz F (a++b) d o s)\/m9 F (a++b) d o))\/(∃s,kz F (a++b) d o s/\s.step.2=5)\/m9 F (a++b) d o):=by
       rcases R.out with ⟨l,s,m,_⟩ | ⟨_,l⟩ | l
       · exact .inl ⟨by have:=m.live.err;omega, .inl ⟨s,m⟩⟩
       · exact .inr (.inl l)
       · exact .inr (.inr l)
      obtain⟨f,Bz⟩ :=ν (min n d.no);have mA:(0:Int)<=f/\(f:Int)<=n/\(f:Int)<=d.no:=ω;have wh:Hid (min (n:Int) (d.no:Int)=(f:Int)):=by show _=_;omega
      have Tt:Hid (f=n\/(f<n/\f=d.no)):=by show _\/_;omega
      clear z R hB Bz
      go_upto_region 9 with fail
      go_cut [7] (λs wx=>s= .int .i64 f/\wx=wc)
      case first=>
       go_wp2_with fail
       go_meet
       exact⟨by rw[wh.out],rfl⟩
      case rest=>
       rename World=>wq
       obtain⟨rfl,rfl⟩ :=hcut;have df:=h.out.2.fD;have Oa:=dr (P:=Tryz.prog) 26 5 Tryz.underlying26 Hi.out cV.out d.Ao d.no d.co (j:=f) ω;have CQ:=bE (P:=Tryz.prog) 26 5 Tryz.underlying26 Hi.out cV.out d.Ao d.no d.co (j:=f) ω;obtain⟨c,Q,hD⟩ :=h;have UC:aT .u8 (wq.alloc (.cells #[] 5)) wq.heap.size d.Ao f (d.out.take f):=(Q.out.rd.pre ω).alloc (Nat.le_refl _) _;have ap:=Q.lo;have bB:=Q.cell.lt;have bx:f<=1000000000/\f<=d.no/\d.no<=2000000000:=ω
       go_upto_region 10 with fail
       go_cut [8] (λs8 wx=>ZZ wq f (d.out.take f) s8 wx)
       case first=>
        go_wp2_with (at_builtin;(refine au .u8 wq.heap.size 5 i0 1 rfl (.tmp 57) (.tmp 63) _ rfl Tryz.underlying26 Hi.out dM.out cV.out dN.out rfl (ag.lit rfl [] _ (Nat.le_refl _) σ) rfl UC ω ω σ ?_)
                     intro X d2 w2 r hg bk)
        go_meet
        rw[List.nil_append,Nat.zero_add]at r;exact⟨X,d2,rfl,r,((Below.refl _ wq).alloc (Nat.le_refl _) _).grown hg σ (by simp [aa])⟩
       case rest=>
        obtain⟨A8,d8,rfl,uP,kx⟩ :=hcut;clear k3 k4 UC Oa;have D:=Q.keeps kx;have TT:=hD.step (c':=c) Q.lo (λk t=>(Q.cb k t).1) (aq.aB kx) (λ_ _=>rfl);have k3:=D.cell.cell (i:=3) ω;rw[show dF d o 3= .slice d.Ao d.no d.co from rfl]at k3;have z3:=D.cell.frozen' (i:=3) ω;have UC:aT .u8 (wc.alloc (.cells #[] 5)) wc.heap.size (bY d.Ao d.co f) (d.no-f) (d.out.drop f):=(D.out.rd.bY ω df).alloc (Nat.le_refl _) _;have kJ:=D.cell.lt
        have Qv:Hid (∀q,aa A8=some q->c q=0/\q<wc.heap.size/\q≠g):=λq Y=>by
         have l:=uP.2.lt Y;refine⟨?_,l.2, ?_⟩
         · by_cases e:c q=0
           · exact e
           · have:=(Q.cb q e).2;omega
         · have:=Q.cell.lt;omega
        go_upto_region 11 with fail
        go_cut [] (λwx=>a00 w0 c0 b0 g d o A8 f d8 (d.out.take f) (d.out.drop f) wx)
        case first=>
         have ja:=D.cell
         go_wp2_with (at_builtin;(refine au .u8 wc.heap.size 5 i0 1 rfl (.tmp 66) (.tmp 72) _ rfl Tryz.underlying26 Hi.out dM.out cV.out dN.out rfl (ag.lit rfl [] _ (Nat.le_refl _) σ) rfl UC ω ω σ ?_)
                      intro X d2 w2 r hg bk;have iX:=(ja.alloc (.cells #[] 5)).grown hg (by simp [aa];omega);have x3:=iX.cell (i:=3) ω;have y3:=iX.frozen' (i:=3) ω)
         go_meet
         rw[List.nil_append,Nat.zero_add]at r;have FI:Below wc.heap.size wc w2:=((Below.refl _ wc).alloc (Nat.le_refl _) _).grown hg σ (by simp [aa]);have wW:aa X≠some g:=λe=>by have:=(r.2.lt e).1;omega
         have ao:aq wc (w2.setCell ⟨g,3,none⟩ (.slice X (d.no-f) d2)) (λk=>k=g\/aa d.Ao=some k):=((aq.aB FI).setCell (p:= ⟨g,3,none⟩) (.inl (.inl rfl)) _);have H:=D.outs (S':=o) (l':=d.out.drop f) (A':=X) (n':=d.no-f) (c':=d2) ao ((iX.aQ (i:=3) ω _).congr (bN rfl rfl rfl rfl rfl rfl rfl rfl rfl rfl rfl rfl rfl rfl rfl rfl)) ((r.far (p:= ⟨g,3,none⟩) wW _).more (Nat.le_trans ap kx.size)) (λk t=> .inr (r.2.lt t).1);refine⟨aN c wc.heap.size (λk=>aa X=some k) 4,X,d.no-f,d2,H, ?_, ?_, ?_⟩
         · exact TT.step D.lo (λk t=>(D.cb k t).1) (ao.more λk t=>by
            rcases t with rfl | t
            · rw[D.cg];decide
            · rw[D.co k t];decide) (λk t=>aG t)
         · exact((uP.keeps FI).far (p:= ⟨g,3,none⟩) (λe=>(Qv.out _ e).2.2 rfl) _).more ap
         · intro q Y;rw[aG (Qv.out q Y).2.1];exact(Qv.out q Y).1
        case rest=>
         obtain⟨I,A3,n3,c3,H,Rw,NS,Xq⟩ :=hcut;have E:Hid ((d.out.take f).length=f):=by show _=_;rw[List.length_take,<-BK.out];omega
         have FM:Hid (M.out++b=d.out.take f++d.out.drop f):=by show _=_;rw[List.take_append_drop,HO.out]
         have WY:Hid ((d.out.drop f).length<=max M.out.length 70000):=by
          show _<=_
          rw[List.length_drop];have:=tW.out;have:=Tt.out;have:=BK.out;omega
         have j4:=H.cell.cell (i:=4) ω;rw[show dF { d with Ao:=A3,no:=n3,co:=c3,out:=d.out.drop f } o 4= .int .i64 o.err from rfl]at j4;have aI:∀s,kz F (a++b) d o s->kz F (a++b) { d with Ao:=A3,no:=n3,co:=c3,out:=d.out.drop f } o s:=λs h=> ⟨⟨h.live.x,h.live.st,h.live.last,h.live.left,h.live.c0,h.live.c1,h.live.c2,h.live.lens,h.live.hd,h.live.lt,h.live.ds,h.live.len,h.live.tail,h.live.rem,h.live.err⟩,h.ok,h.fin,h.all,h.rem⟩
         have aE:m9 F (a++b) d o->m9 F (a++b) { d with Ao:=A3,no:=n3,co:=c3,out:=d.out.drop f } o:=λh=> ⟨h.err,h.ne,h.all,λe=>by
          obtain⟨l,m⟩ :=h.YB e;exact⟨⟨l.x,l.st,l.last,l.left,l.c0,l.c1,l.c2,l.lens,l.hd,l.lt,l.ds,l.len,l.tail,l.rem,l.err⟩,m⟩⟩
         have Yw:=η aI;have J:=η aE;clear aI aE k3 z3 UC CQ;have G:f=n\/((f:Int)<n/\f=d.no):=by have:=Tt.out;omega
         rcases G with l | ⟨l,m⟩
         · subst l
           go_wp2_with fail
           go_ret2
           refine⟨A8,_,d8,0,_,o,b,_,I,rfl,NS,H,Rw,Xq,FM.out,WY.out, .inl ⟨rfl,E.out, ?_⟩⟩;rcases A.out with ⟨_, ⟨s,m⟩ | m⟩ | ⟨s,m,_⟩ | m
           · exact .inl ⟨s,Yw.out s m⟩
           · exact .inr (J.out m)
           · exact .inl ⟨s,Yw.out s m⟩
           · exact .inr (J.out m)
         · have CJ:((f:Int)==(n:Int))=false:=ξ;have V:Hid (d.out.drop f=[]):=by show _=_;rw[List.drop_eq_nil_iff,<-BK.out];omega
           have WD:(∃s,kz F (a++b) d o s/\s.step.2=5)\/m9 F (a++b) d o:=by
            rcases A.out with ⟨y,_⟩ | y | y
            · omega
            · exact .inl y
            · exact .inr y
           have zN:f<n:=ω;clear m;rcases WD with ⟨s,hA,qO⟩ | hE
           · have JY:=hA.live.err;rw[JY]at j4;have bs:=η qO;clear JY qO
             go_wp2_with fail
             go_ret2
             exact⟨A8,_,d8,5,_,o,b,_,I,rfl,NS,H,Rw,Xq,FM.out,WY.out, .inr (.inl ⟨rfl,by rw[E.out];exact zN,V.out, .inl ⟨s,Yw.out s hA,bs.out⟩⟩)⟩
           · obtain⟨K6,Sc⟩ :=hE.ne;rw[<-hE.err]at K6 Sc;have bG:(o.err==0)=false:=by simpa using K6
             by_cases CH:(0:Int)<f
             · go_wp2_with fail
               go_ret2
               exact⟨A8,_,d8,5,_,o,b,_,I,rfl,NS,H,Rw,Xq,FM.out,WY.out, .inr (.inl ⟨rfl,by rw[E.out];exact zN,V.out, .inr ⟨by rw[E.out];omega,J.out hE⟩⟩)⟩
             · have an:f=0:=ω;have Nu:Hid (M.out++b=[]++d.out.drop f):=by show _=_;rw[FM.out,an];rfl
               have Bn:=η K6;have bp:=η Sc;clear an
               go_wp2_with fail
               go_region
               all_goals
                go_wp2_with fail
                go_ret2
                exact⟨none,0,0,o.err,_,o,b,[],I,rfl,ag.br,H.keeps (Below.refl _ _).drew,Rw.step H.lo (λk t=>(H.cb k t).1) (aq.aB (Below.refl _ _).drew) (λ_ _=>rfl),λq Y=>by simp [aa]at Y,Nu.out,WY.out, .inr (.inr ⟨Bn.out,bp.out,hE.err,rfl,ω,V.out,J.out hE⟩)⟩
end
end Go.Proofs.YtddhegejmkgmjaaGreat
