/-
  part
-/
import Derived.Test.YtddhegejmkgmjaaGreatPk27
set_option linter.unusedVariables false
set_option maxRecDepth 100000
set_option maxHeartbeats 8000000
namespace Go.Proofs.YtddhegejmkgmjaaGreat
open Go.RowKit
theorem wI.pre {w:World} {b0:Nat} {c:Nat->Nat} {x a:List Int} {Z:ZR} (h:wI w b0 c x a Z):∃t,dV x Z.m=a++t:=by
 rcases h with ⟨_,_,_,_,e,_⟩ | ⟨q,gd,M,S,hp,o,p,d, ⟨l,k,b,j,i,g,f,n⟩ | ⟨l,k,b,R,j,i,g⟩⟩
 · exact⟨dV x Z.m,by rw[e];rfl⟩
 · obtain⟨t,ht⟩ :=f.pre;exact⟨M.out++t,by unfold dV;rw[if_neg (by rw[d];decide),ht,List.append_assoc]⟩
 · exact⟨[],by unfold dV;rw[if_neg (by rw[d];decide),List.append_nil];exact b.symm⟩
def zOk (x a:List Int) (m:Nat) (en:Bool) (b:Int):Prop:=b=0\/(b=zE x m en/\a=dV x m/\(b=5->en=true))
def ZtR (w:World) (b0 g:Nat) (E:Nat->Prop) (x a:List Int) (m:Nat) (en:Bool) (n:Nat) (gk:Nat) (d b:Value) (wr:World):Prop:=
 ∃A k cp l e c Z,d= .slice A k cp/\b= .int .i64 e/\ag .u8 wr w.heap.size 5 A k cp l/\k<=n/\mq wr b0 g c Z/\wI wr (g+1) c x (a++l) Z/\Z.m=m/\Z.en=en/\Z.sum=bC 1 (a++l)/\Ext b0 w wr E (zX g c Z.A)/\(∀q,aa A=some q->¬zX g c Z.A q)/\
  zOk x (a++l) m en Z.err/\(e=0\/(e=zE x m en/\a++l=dV x m/\(Z.err=e\/(Z.err=0/\e=5))))/\Hid (gk=if e=0 then 3*(n-k)+BC Z+1 else 0)
def ZtE (x a:List Int) (m:Nat) (en:Bool) (n:Nat) (l:List Int) (r:Int):Prop:=
 (∃t,dV x m=a++l++t)/\((r=0/\l.length=n)\/(l.length<n/\a++l=dV x m/\((l≠[]/\r=5)\/(l=[]/\r=zE x m en))))
def qX (w:World) (b0 g:Nat) (E:Nat->Prop) (x a:List Int) (m:Nat) (en:Bool) (n:Nat) (e:Ending) (w':World):Prop:=
 ∃A k cp l r E',e= .returned (.tuple #[.slice A k cp, .int .i64 r])/\ag .u8 w' w.heap.size 5 A k cp l/\(∀q,aa A=some q->¬E' q)/\wj w' b0 g E' x (a++l) m en false/\Ext b0 w w' E E'/\ZtE x a m en n l r
theorem ot (w:World) (b0 g:Nat) (E:Nat->Prop) (x a:List Int) (m:Nat) (en hd:Bool) (h:wj w b0 g E x a m en hd) (hm:m<=1000000000) (lH:x.length<=1000000000) (n:Nat) (hn:n<=1000000000):
  Calls Tryz.prog 14 #[.pointer (some ⟨g,0,none⟩), .int .i64 n] w (qX w b0 g E x a m en n):=by
 obtain⟨i0,hi,al,ah,ad⟩ :=info_parts ez;have Hi:=η hi;have dM:=η al;have cV:=η ah;have dN:=η ad;have rE:(0:Int)<=n/\(n:Int)<=1000000000:=ω;have HB:=η (⟨hm,lH,hn⟩ :_/\_/\_);have bd:=η h.low
 have gy:∃k,ZtR w b0 g E x a m en n k (.slice none 0 0) (.int .i64 0) w:=by
  obtain⟨c,Z,Y,h2,U,h4,h5,rfl,h6, -⟩ :=h;exact⟨_,none,0,0,[],0,c,Z,rfl,rfl,ag.br,Nat.zero_le _,Y,by rw[List.append_nil];exact h2,U,h4,by rw[List.append_nil];exact h5,Ext.refl _ _ _,λq b=>by simp [aa]at b,by rw[List.append_nil];exact h6, .inl rfl,rfl⟩
 obtain⟨k0,gy⟩ :=gy;have HI:=η gy;clear h gy hi al ah ad hm lH hn;go_enter Tryz.func14,Tryz.ntmps14
 go_wp2_with fail
 go_loopg [6,7] k0 (ZtR w b0 g E x a m en n)
 case atStart=>exact HI.out
 case round=>
  clear HI;obtain⟨A,k,cp,l,e,c,Z,rfl,rfl,ho,zN,Y,h2,U,h4,h5,X,hA,fJ,he,hg⟩ :=hrel;obtain⟨-, -, -, -, -, -,k6,k7⟩ :=Y.cells;have z7:=Y.Q9 (i:=7) ω;have mA:(k:Int)<=(n:Int)/\(0:Int)<=k:=ω;have o:=ho.1;by_cases N:k<n/\Z.err=0/\e=0
  · obtain⟨T,eZ,JY⟩ :=N;subst JY;have K1:(k:Int)<(n:Int):=ω;obtain⟨J,hJ⟩ :=ν (n-k);have bo:(n:Int)-(k:Int)=(J:Int)/\(0:Int)<(J:Int):=ω;have Q:=La wr b0 g c Z x (a++l) Y h2 h5 eZ (by rw[U];exact HB.out.1) HB.out.2.1 J ω (by have:=HB.out.2.2;omega);have HS:=η Q;have HG:=η (⟨U,h4,X,hA,o,hJ,zN,T⟩ :_/\_/\_/\_/\_/\_/\_/\_);have HO:=η ho;have H1:=η Y;have ao:Hid (gk=3*(n-k)+BC Z+1):=by have:=hg.out;rw[if_pos rfl]at this;exact this
    rw[eZ]at k7;clear Q Y h2 U h4 h5 X hA fJ he ho o hJ T k6 z7 eZ hg
    go_wp2_with fail
    refine HS.out.mono ?_;rintro e w5 ⟨A5,P,d5,l5,r,L,I,rfl,R,aC,s1,s2,s3,s4,s5,s6,s7,D⟩;obtain⟨U,h4,X,hA,o,hJ,zN,T⟩ :=HG.out;have NJ:=R.1;have aI:k+P<=n:=ω;have V:ag .u8 w5 w.heap.size 5 A k cp l:=s7.2.1.bf HO.out (λq b=>hA q b)
    have qO:∀q,aa A=some q->¬zX g L I.A q:=λq b h9=>by
     rcases s7.2.2 q h9 with h8 | h8
     · exact hA q b h8
     · have:=(HO.out.2.lt b).2;omega
    have UI:w.heap.size<=w5.heap.size:=Nat.le_trans X.1.size s7.1.size;have Ll:Ext b0 w w5 E (zX g L I.A):=X.trans s7;rw[U]at s3 D;rw[h4]at s4 D;have Wl:b0<=w.heap.size:=bd.out
    have dT:Hid (∀s y f,ag .u8 f w.heap.size 5 s (k+P) y (l++l5)->w5.grownBy f (aa A)->(aa s=aa A\/aa s=some w5.heap.size)->
      mq f b0 g L I/\wI f (g+1) L x (a++(l++l5)) I/\Ext b0 w f E (zX g L I.A)/\∀q,aa s=some q->¬zX g L I.A q):=λs y f u G O=>by
     have Cy:aq w5 f (λq=>aa A=some q):=(aq.refl w5 _).grown G λq b=> .inl b
     refine⟨s1.cv Cy (λq b=> ⟨λK=>qO q b (.inl K),λK=>qO q b (.inr (.inl K))⟩) (λq b=> ⟨(s1.cb q b).1,Nat.lt_of_lt_of_le (s1.cb q b).2 Cy.size⟩) s1.cg (λq b=>(s1.cA q b).2), ?_, ?_,λq b=> ?_⟩
     · rw[<-List.append_assoc]
       exact s2.aside Cy (λq b=>by
        by_cases K:L q=0
        · exact K
        · exact absurd (.inr (.inr K)) (qO q b)) ⟨rfl,rfl,rfl,rfl,rfl,rfl,rfl,rfl,rfl⟩
     · refine⟨Ll.1.grown G (Nat.le_trans Wl UI) (λq b=>Nat.le_trans Wl (V.2.lt b).1),Ll.2.1.grown G (λq b=> .inr (V.2.lt b).1),λq b=>Ll.2.2 q b⟩
     · rcases O with K | K
       · exact qO q (by rw[<-K];exact b)
       · rw[K]at b;injection b with b;intro h9;have:=s1.xlt q h9;omega
    have Bz:(k:Int)+(P:Int)<=(n:Int):=ω;have HC:=η D;have v:=η (⟨s3,s4,s5,s6,NJ,o,T,hJ⟩ :_/\_/\_/\_/\_/\_/\_/\_);have ab:=η (⟨aI,zN⟩ :_/\_);have bk:k+P<=1000000000:=by have:=HB.out.2.2;omega
    clear D s1 s2 s3 s4 s5 s6 s7 qO Ll NJ o hJ X hA U h4 aC Wl;have hr:=HC.out;clear HC;rcases hr with ⟨rfl,Sr⟩ | ⟨O2,M,iW,am⟩
    · have ap:Hid (3*(n-(k+P))+BC I+1<gk):=by
       show _<gk
       rw[ao.out];have:=v.out.2.2.2.2.1;have:=ab.out;rcases Sr with h | ⟨h,h'⟩ <;> omega
      clear Sr
      go_wp2_with (at_builtin;(refine au .u8 w.heap.size 5 i0 1 rfl (.tmp 35) (.tmp 36) _ rfl Tryz.underlying26 Hi.out dM.out cV.out dN.out rfl V rfl R ω ω UI ?_)
                   intro s y f u G O;obtain⟨d,C,B,z⟩ :=dT.out s y f u G O;obtain⟨-, -, -, -, -, -,XP,XQ⟩ :=d.cells;rw[v.out.2.1]at XP;rw[v.out.2.2.1]at XQ;have ac:=d.Q9 (i:=7) ω)
      have Ve:=η (⟨d,C,B,z,u⟩ :_/\_/\_/\_/\_);clear d C B z u G O dT V R;go_roundg (3*(n-(k+P))+BC I+1)
      case measure=>exact ap.out
      case rel=>
       obtain⟨d,C,B,z,u⟩ :=Ve.out;exact⟨s,k+P,y,l++l5,0,L,I,rfl,rfl,u,ab.out.1,d,C,v.out.1,v.out.2.1,by rw[<-List.append_assoc];exact v.out.2.2.2.1,B,z, .inl v.out.2.2.1, .inl rfl,by show _=_;rw[if_pos rfl]⟩
    · subst M;have HR:=η (⟨iW,am⟩ :_/\_);have bi:(r==0)=false:=by simpa using O2
      have Tw:=η O2;have WO:Hid (0<gk):=by show 0<gk;rw[ao.out];omega
      clear iW am O2;by_cases F:r=5/\en=false
      · obtain⟨rfl,rfl⟩ :=F
        go_wp2_with (at_builtin;(refine au .u8 w.heap.size 5 i0 1 rfl (.tmp 35) (.tmp 36) _ rfl Tryz.underlying26 Hi.out dM.out cV.out dN.out rfl V rfl R ω ω UI ?_)
                     intro s y f u G O;obtain⟨d,C,B,z⟩ :=dT.out s y f u G O;obtain⟨-, -, -, -, -, -,XP,XQ⟩ :=d.cells;rw[v.out.2.1]at XP;rw[v.out.2.2.1]at XQ;have ac:=d.Q9 (i:=7) ω)
        have Ve:=η (⟨d,C,B,z,u⟩ :_/\_/\_/\_/\_);clear d C B z u G O dT V R;go_roundg 0
        case measure=>exact WO.out
        case rel=>
         obtain⟨d,C,B,z,u⟩ :=Ve.out;exact⟨s,k+P,y,l++[],5,L,I,rfl,rfl,u,ab.out.1,d,C,v.out.1,v.out.2.1,by rw[<-List.append_assoc];exact v.out.2.2.2.1,B,z, .inl v.out.2.2.1, .inr ⟨HR.out.2,by rw[List.append_nil];exact HR.out.1, .inr ⟨v.out.2.2.1,rfl⟩⟩,by show _=_;rw[if_neg δ]⟩
      · have fc:(r≠5)\/(r=5/\en=true):=by
         by_cases h5:r=5
         · right;refine⟨h5, ?_⟩
           cases en with
           | true=>rfl
           | false=>exact absurd ⟨h5,rfl⟩ F
         · exact .inl h5
        have aA:Hid (∀s y f,ag .u8 f w.heap.size 5 s (k+P) y (l++[])->mq f b0 g L I->wI f (g+1) L x (a++(l++[])) I->Ext b0 w f E (zX g L I.A)->(∀q,aa s=some q->¬zX g L I.A q)->(r=5->en=true)->
          ZtR w b0 g E x a m en n 0 (.slice s (k+P) y) (.int .i64 r) (f.setCell ⟨g,7,none⟩ (.int .i64 r))):=λs y f u d C B z R=>by
         have D:aq f (f.setCell ⟨g,7,none⟩ (.int .i64 r)) (λk=>k=g):=aq.setCell (S:=λk=>k=g) (aq.refl f _) (p:= ⟨g,7,none⟩) (.inl rfl) _;refine⟨s,k+P,y,l++[],r,L,{ I with err:=r },rfl,rfl,u.far (p:= ⟨g,7,none⟩) (λK=>z g K (.inl rfl)) _,ab.out.1,d.turn D ((d.cell.aQ (i:=7) ω _).congr (yQ rfl rfl rfl rfl rfl rfl rfl rfl)) ⟨rfl,rfl,rfl,rfl⟩ d.sm,C.aside D (λq b=>by rw[b];exact d.cg) ⟨rfl,rfl,rfl,rfl,rfl,rfl,rfl,rfl,rfl⟩,v.out.1,v.out.2.1,by rw[<-List.append_assoc];exact v.out.2.2.2.1,B.trans (Ext.of (D.more λq b=> .inl b) d.Ei d.low λq b=> .inl b),z, ?_, .inr ⟨HR.out.2,by rw[List.append_nil];exact HR.out.1, .inl rfl⟩,by show _=_;rw[if_neg Tw.out]⟩;exact .inr ⟨HR.out.2,by rw[List.append_nil];exact HR.out.1,R⟩
        clear F;rcases fc with h5 | ⟨rfl,rfl⟩
        · have bs:(r==5)=false:=by simpa using h5
          have bb:Hid (r=5->en=true):=λK=>absurd K h5
          have be:¬r=0:=Tw.out;have bp:¬r=5:=h5;clear h5
          go_wp2_with (at_builtin;(refine au .u8 w.heap.size 5 i0 1 rfl (.tmp 35) (.tmp 36) _ rfl Tryz.underlying26 Hi.out dM.out cV.out dN.out rfl V rfl R ω ω UI ?_)
                       intro s y f u G O;obtain⟨d,C,B,z⟩ :=dT.out s y f u G O;obtain⟨-, -, -, -, -, -,XP,XQ⟩ :=d.cells;rw[v.out.2.1]at XP;rw[v.out.2.2.1]at XQ;have ac:=d.Q9 (i:=7) ω)
          have hz:=η (aA.out s y f u d C B z bb.out);clear d C B z u G O dT V R aA;go_roundg 0
          case measure=>exact WO.out
          case rel=>exact hz.out
        · go_wp2_with (at_builtin;(refine au .u8 w.heap.size 5 i0 1 rfl (.tmp 35) (.tmp 36) _ rfl Tryz.underlying26 Hi.out dM.out cV.out dN.out rfl V rfl R ω ω UI ?_)
                       intro s y f u G O;obtain⟨d,C,B,z⟩ :=dT.out s y f u G O;obtain⟨-, -, -, -, -, -,XP,XQ⟩ :=d.cells;rw[v.out.2.1]at XP;rw[v.out.2.2.1]at XQ;have ac:=d.Q9 (i:=7) ω)
          have hz:=η (aA.out s y f u d C B z (by first | exact λ_=>rfl | exact λ_=>trivial | simp));clear d C B z u G O dT V R aA;go_roundg 0
          case measure=>exact WO.out
          case rel=>exact hz.out
  · have tu:=h2.pre;rw[U]at tu;obtain⟨t,ht⟩ :=tu;have F:Hid (wj wr b0 g (zX g c Z.A) x (a++l) m en false):= ⟨c,Z,Y,h2,U,h4,h5,rfl,fJ,λh=>by simp at h⟩;have j:Hid (∀r,((r=0/\l.length=n)\/(l.length<n/\a++l=dV x m/\((l≠[]/\r=5)\/(l=[]/\r=zE x m en))))->qX w b0 g E x a m en n (.returned (.tuple #[.slice A k cp, .int .i64 r])) wr):=λr hr=> ⟨A,k,cp,l,r,_,rfl,ho,hA,F.out,X, ⟨t,by rw[ht]⟩,hr⟩
    have HL:=η (⟨o,fJ,he,X, ⟨t,by rw[ht]⟩⟩ :k=l.length/\zOk x (a++l) m en Z.err/\(e=0\/(e=zE x m en/\a++l=dV x m/\(Z.err=e\/(Z.err=0/\e=5))))/\Ext b0 w wr E (zX g c Z.A)/\∃t,dV x m=a++l++t);obtain⟨er,H⟩ :=ν (Z.err);rw[H]at k7;have V8:=η H;clear Y h2 U h4 h5 hA fJ he ho X o k6 z7 ht;by_cases T:k<n
    · have K1:(k:Int)<(n:Int):=ω;have aE:decide (n<=k)=false:=decide_eq_false ω;by_cases FR:er=0
      · have JY:¬e=0:=λh=>N ⟨T,H.trans FR,h⟩
        have bn:(e==0)=false:=by simpa using JY
        have W:=(HL.out.2.2.1).resolve_left JY
        have an:e=5:=by
         rcases W.2.2 with h | ⟨_,h⟩
         · rw[V8.out,FR]at h;exact absurd h.symm JY
         · exact h
        have hf:Hid (qX w b0 g E x a m en n (.returned (.tuple #[.slice A k cp, .int .i64 5])) wr):=j.out 5 (.inr ⟨by rw[<-HL.out.1];exact T,W.2.1,by
         by_cases hl:l=[]
         · exact .inr ⟨hl,by rw[<-W.1];exact an.symm⟩
         · exact .inl ⟨hl,rfl⟩⟩)
        subst FR;clear W an N H j JY V8 hg;by_cases CH:0<k
        · have NH:(0:Int)<(k:Int):=ω
          go_wp2_with fail
          go_returns
          exact hf.out
        · have NH:¬(0:Int)<(k:Int):=ω;have aS:decide (0<k)=false:=decide_eq_false CH
          go_wp2_with fail
          go_returns
          exact hf.out
      · have bl:(er==0)=false:=by simpa using FR
        have W:er=zE x m en/\a++l=dV x m:=by
         rcases HL.out.2.1 with h | ⟨h,h',_⟩
         · rw[V8.out]at h;exact absurd h FR
         · rw[V8.out]at h;exact⟨h,h'⟩
        by_cases CH:0<k
        · have NH:(0:Int)<(k:Int):=ω;have hf:Hid (qX w b0 g E x a m en n (.returned (.tuple #[.slice A k cp, .int .i64 5])) wr):=j.out 5 (.inr ⟨by rw[<-HL.out.1];exact T,W.2, .inl ⟨λh=>by have:=HL.out.1;rw[h]at this;simp at this;omega,rfl⟩⟩);clear W N H j FR V8 hg
          go_wp2_with fail
          go_returns
          exact hf.out
        · have NH:¬(0:Int)<(k:Int):=ω;have aS:decide (0<k)=false:=decide_eq_false CH;have M:l=[]:=List.eq_nil_of_length_eq_zero (by rw[<-HL.out.1];omega)
          have hf:Hid (∀q,qX w b0 g E x a m en n (.returned (.tuple #[.slice none 0 0, .int .i64 er])) (wr.drewN q)):=λq=>by
           have YN:Below wr.heap.size wr (wr.drewN q):=(aq.drewN (aq.refl wr (λ_=>False)) q).below (λ_ h=>h.elim) (Nat.le_refl _);refine⟨none,0,0,[],er,_,rfl,ag.br,λq b=>by simp [aa]at b, ?_,HL.out.2.2.2.1.trans ⟨(aq.drewN (aq.refl wr (λ_=>False)) q).below (λ_ h=>h.elim) F.out.low,aq.drewN (aq.refl _ _) q,λk T=> .inl T⟩, ?_, .inr ⟨ξ,by rw[<-M];exact W.2, .inr ⟨rfl,W.1⟩⟩⟩
           · have:=F.out.keeps YN;rw[M]at this;exact this
           · have:=HL.out.2.2.2.2;rw[M]at this;exact this
          clear W N H j FR V8 M hg
          go_wp2_with fail
          go_quiet (fail)
          go_wp2_with fail
          go_returns
          exact hf.out _
    · obtain rfl:k=n:=ω;have K1:¬(k:Int)<(k:Int):=ω;have aE:decide (k<k)=false:=decide_eq_false ω;have hf:Hid (qX w b0 g E x a m en k (.returned (.tuple #[.slice A k cp, .int .i64 0])) wr):=j.out 0 (.inl ⟨rfl,HL.out.1.symm⟩);clear N H j V8 T hg
      go_wp2_with fail
      go_returns
      exact hf.out
theorem wj.cv {w w':World} {b0 g:Nat} {E:Nat->Prop} {x a:List Int} {m:Nat} {en hd:Bool} {F:Nat->Prop} (h:wj w b0 g E x a m en hd) (f:aq w w' F) (hF:∀k,F k->¬E k):wj w' b0 g E x a m en hd:=by
 obtain⟨c,Z,d,j,i,h4,h5,rfl,h6⟩ :=h
 exact⟨c,Z,d.cv f (λk b=> ⟨λe=>hF k b (.inl e),λe=>hF k b (.inr (.inl e))⟩) (λk b=> ⟨(d.cb k b).1,Nat.lt_of_lt_of_le (d.cb k b).2 f.size⟩) d.cg (λk b=>(d.cA k b).2),j.aside f (λk b=>by
  by_cases e:c k=0
  · exact e
  · exact absurd (.inr (.inr e)) (hF k b)) ⟨rfl,rfl,rfl,rfl,rfl,rfl,rfl,rfl,rfl⟩,i,h4,h5,rfl,h6⟩
theorem Ext.VI {b0:Nat} {w w':World} {E E' X:Nat->Prop} (h:Ext b0 w w' E E') (c:∀k,X k->k<w.heap.size) (hd:∀k,E k->¬X k):∀k,E' k->¬X k:=λk d a=>by
 rcases h.2.2 k d with b | b
 · exact hd k b a
 · have:=c k a;omega
theorem Tl {x a:List Int} {m n:Nat} {en:Bool} {l:List Int} {r:Int} (h:ZtE x a m en n l r) (c:dV x m=[]) (e:0<n):l=[]/\r=zE x m en:=by
 obtain⟨⟨t,ht⟩,d⟩ :=h;rw[c]at ht
 have b:l=[]:=by
  have:(a++l++t).length=0:=by rw[<-ht];rfl
  simp at this;exact this.2.1
 rcases d with ⟨_,h⟩ | ⟨_,_, ⟨h,_⟩ | ⟨_,h⟩⟩
 · rw[b]at h;simp at h;omega
 · exact absurd b h
 · exact⟨b,h⟩
theorem z14:zE [120,156,3,0,0,0,0,1] 5 true=8/\dV [120,156,3,0,0,0,0,1] 5=[]:=by
 have e:ij [120,156,3,0,0,0,0,1] 5=IS.run 20 (start (bV [3,0,0,0,0,1]) 5):=(IS.zi (n:=20) (by decide+kernel)).symm;unfold zE dV;rw[e];constructor <;> decide+kernel
theorem eH (w:World):Calls Tryz.prog 6 #[] w λe w'=>e= .returned (.bool true)/\Below w.heap.size w w':=by
 go_enter Tryz.func6,Tryz.ntmps6
 go_wp2_with fail
 refine(vY w 5 5 δ).mono ?_;rintro e w1 ⟨g,E,rfl,n,a⟩;have b:=aT.lit .u8 w1 [120,156,3,0,0,0,0,1] 5;have d:Below w1.heap.size w1 (w1.alloc (.cells ([120,156,3,0,0,0,0,1].map (Value.int .u8)).toArray 5)):=(Below.refl _ w1).alloc (Nat.le_refl _) _;have c:=n.keeps d;have y:=η (pK _ _ g E [] 5 c _ 8 8 _ [120,156,3,0,0,0,0,1] b δ δ);have t:=η (a.trans (d.mono a.size));clear n b d c a
 go_wp2_with fail
 refine y.out.mono ?_;rintro e w2 ⟨o,rfl,c,h⟩;have z:=η (vX _ _ g o _ [] 5 true c rfl);have v:=η h;clear c h
 go_wp2_with fail
 refine z.out.mono ?_;rintro e B ⟨rfl,m,f⟩;have x:=η (ot _ _ g o _ [] 5 true true m δ δ 1 δ);have u:=η f;clear m f
 go_wp2_with fail
 refine x.out.mono ?_;rintro e p ⟨A,k,cp,l,r,C,rfl,h4,h5,h6,h7,j⟩;obtain⟨rfl,i⟩ :=Tl j z14.2 δ;have q:r=8:=i.trans z14.1;have s:Hid (Below w.heap.size w p):=(t.out.trans v.out.1).trans (u.out.1.trans h7.1);subst q;clear h4 h5 h6 h7 j i
 go_wp2_with fail
 go_ret
 exact⟨rfl,s.out⟩
def TD (w:World) (g:Nat) (x:List Int) (gk:Nat) (c b:Value) (wx:World):Prop:=∃(i:Nat) (Ao:Option Addr) (no co:Nat) (a:List Int) (E:Nat->Prop) (hd:Bool),
 c= .slice Ao no co/\b= .int .i64 i/\ag .u8 wx w.heap.size 5 Ao no co a/\(∀k,aa Ao=some k->¬E k)/\wj wx w.heap.size g E x a 1048576 true hd/\(i*1000=a.length\/(a=dV x 1048576/\i*1000<=a.length+1000))/\(∃t,dV x 1048576=a++t)/\Below w.heap.size w wx/\gk=3000-i
def LV (w:World) (x:List Int) (e:Ending) (w':World):Prop:=∃A k c,e= .returned (.tuple #[.slice A k c, .int .i64 (zE x 1048576 true)])/\ag .u8 w' w.heap.size 5 A k c (dV x 1048576)/\Below w.heap.size w w'
theorem sH (w:World) (A:Option Addr) (n cp:Nat) (x:List Int) (hr:aT .u8 w w.heap.size A n x) (P:∀v∈x,0<=v/\v<256) (f:x.length<=1000000000):
  Calls Tryz.prog 16 #[.slice A n cp] w (LV w x):=by
 obtain⟨i0,hi,D,C,B⟩ :=info_parts ez;have Hi:=η (⟨hi,D,C,B⟩ :_/\_/\_/\_);have T:=η (⟨hr,P,f⟩ :_/\_/\_);clear hi D C B hr P f;go_enter Tryz.func16,Tryz.ntmps16
 go_wp2_with fail
 refine(vY w 1048576 1048576 δ).mono ?_;rintro e w1 ⟨g,E1,rfl,y,p⟩;have HF:=η (pK w1 w.heap.size g E1 [] 1048576 y w.heap.size n cp A x (T.out.1.below p) T.out.2.1 (by have:=T.out.2.2;simp;omega));have En:=η p;clear y p
 go_wp2_with fail
 refine HF.out.mono ?_;rintro e w2 ⟨E2,rfl,u,x2⟩;have HE:=η (vX w2 w.heap.size g E2 _ [] 1048576 true u rfl);have J4:=η (En.out.trans x2.1);clear u x2
 go_wp2_with fail
 refine HE.out.mono ?_;rintro e w3 ⟨rfl,S,x3⟩;have hrel:TD w g x 3000 (.slice none 0 0) (.int .i64 0) w3:= ⟨0,none,0,0,[],E2,true,rfl,rfl,ag.br,λk b=>by simp [aa]at b,S, .inl rfl, ⟨_,rfl⟩,J4.out.trans x3.1,rfl⟩;have H3:=η hrel;clear hrel S x3 HE HF
 go_wp2_with fail
 go_loopg [5,6] 3000 (TD w g x)
 case atStart=>exact H3.out
 case round=>
  obtain⟨i,Ao,no,co,a,E,hd,rfl,rfl,W,hs,hz,O, ⟨t,ht⟩,hb,hg⟩ :=hrel;have L:=vW x 1048576;have Z:a.length<=1048576:=by rw[ht,List.length_append]at L;omega
  have N:i<=1050:=ω;have S3:(i:Int)<3000/\(0:Int)<=(i:Int):=ω;have HT:=η (ot wr w.heap.size g E x a 1048576 true hd hz δ T.out.2.2 1000 δ);have H:=η (⟨W,hs,O,hb,hg,Z,N⟩ :_/\_/\_/\_/\_/\_/\_);have ab:no<=1048576:=by rw[W.1];exact Z
  clear W hs hz O hb hg Z N L ht
  go_wp2_with fail
  refine HT.out.mono ?_;rintro e U ⟨A5,m,c5,l,r,E5,rfl,R,J,XK,F, ⟨⟨Q,d⟩,o⟩⟩;have K:=F.2.1.bf H.out.1 (λk b e=>H.out.2.1 k b e);have G:∀k,aa Ao=some k->¬E5 k:=λk b e=>(F.VI (X:=λq=>aa Ao=some q) (λq V=>(H.out.1.2.lt V).2) (λq V BB=>H.out.2.1 q BB V)) k e b
  have NJ:m<=1000:=by
   rw[R.1];rcases o with ⟨_,h⟩ | ⟨h,_⟩ <;> omega
  have FY:w.heap.size<=U.heap.size:=(H.out.2.2.2.1.trans F.1).size;have c:=η (⟨R,J,XK,F, ⟨Q,d⟩,o,G⟩ :_/\_/\_/\_/\(∃Q,_=_)/\_/\_);have lF:=R.rd;clear J XK F o G R d
  go_upto_region 10 with (at_builtin;(refine au .u8 w.heap.size 5 i0 1 rfl (.tmp 24) (.tmp 25) _ rfl Tryz.underlying26 Hi.out.1 Hi.out.2.1 Hi.out.2.2.1 Hi.out.2.2.2 rfl K rfl lF ω ω FY ?_)
                          intro A6 c6 w6 fI gL dc)
  have ox:aq U w6 (λk=>aa Ao=some k):=(aq.refl U _).grown gL (λk b=> .inl b);have z:=c.out.2.2.1.cv ox (λk b=>c.out.2.2.2.2.2.2 k b);have jf:=(H.out.2.2.2.1.trans c.out.2.2.2.1.1).trans (ox.below (λk b=>(H.out.1.2.lt b).1) FY)
  have I:∀k,aa A6=some k->¬E5 k:=λk b=>by
   rcases dc with e | e
   · exact c.out.2.2.2.2.2.2 k (e▸b)
   · rw[e]at b;injection b with b;intro h;have:=(c.out.2.2.1.xlt k h).2;omega
  have mg:m=l.length:=c.out.1.1;have j:=η (⟨fI,z,jf,I,mg⟩ :_/\_/\_/\_/\_);clear ox z jf I fI gL dc K lF mg;by_cases h0:m=0
  · subst h0;have M:l=[]:=List.eq_nil_of_length_eq_zero j.out.2.2.2.2.symm
    have aA:r=zE x 1048576 true/\a=dV x 1048576:=by
     rcases c.out.2.2.2.2.2.1 with ⟨_,h⟩ | ⟨_,y, ⟨u,_⟩ | ⟨_,u⟩⟩
     · rw[M]at h;simp at h
     · exact absurd M u
     · exact⟨u,by rw[<-y,M,List.append_nil]⟩
    have s:=η (⟨M,aA⟩ :_/\_);clear M aA
    go_wp2_with fail
    go_returns
    refine⟨A6,no+0,c6,by rw[s.out.2.1];rfl, ?_,j.out.2.2.1⟩;have:=j.out.1;rw[s.out.1,List.append_nil]at this;rw[<-s.out.2.2];exact this
  · have ah:¬(m:Int)=0/\(0:Int)<(m:Int):=ω;have ad:((m:Int)==0)=false:=by simpa using h0
    have dT:(i+1)*1000=(a++l).length\/(a++l=dV x 1048576/\(i+1)*1000<=(a++l).length+1000):=by
     have mg:=j.out.2.2.2.2
     have Y:a≠dV x 1048576:=λe=>by
      obtain⟨Q,d⟩ :=c.out.2.2.2.2.1;have S:(dV x 1048576).length=a.length+l.length+Q.length:=by rw[d,List.length_append,List.length_append]
      rw[<-e]at S;omega
     have ac:i*1000=a.length:=by
      rcases H.out.2.2.1 with h | ⟨h,_⟩
      · exact h
      · exact absurd h Y
     rw[List.length_append];rcases c.out.2.2.2.2.2.1 with ⟨_,h⟩ | ⟨h,y,_⟩
     · exact .inl ω
     · exact .inr ⟨y,ω⟩
    have ku:=η dT;clear dT h0
    go_wp2_with fail
    go_roundg (3000-(i+1))
    case measure=>have:=H.out.2.2.2.2.1;have:=H.out.2.2.2.2.2.2;omega
    case rel=>exact⟨i+1,A6,no+m,c6,a++l,E5,false,rfl,by go_num,j.out.1,j.out.2.2.2.1,j.out.2.1,ku.out,c.out.2.2.2.2.1,j.out.2.2.1,rfl⟩
end Go.Proofs.YtddhegejmkgmjaaGreat
