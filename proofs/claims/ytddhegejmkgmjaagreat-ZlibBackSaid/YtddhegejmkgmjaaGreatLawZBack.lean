/-
  The walk of the statement ZlibBack.
-/
import Derived.Test.YtddhegejmkgmjaaGreatPk29
import Derived.Test.YtddhegejmkgmjaaGreatPk31
namespace Go.Proofs.YtddhegejmkgmjaaGreat
open Go.RowKit
set_option linter.unusedVariables false
set_option maxRecDepth 100000
set_option maxHeartbeats 8000000
theorem GW (L:List Int):∃Q,L=Q++rest L/\Q.length%8=0/\gK L=gK Q:=by
 refine⟨L.take (8*(L.length/8)), ?_, ?_,(Ca L).symm⟩
 · unfold rest;rw[List.take_append_drop]
 · rw[List.length_take];omega
theorem Fh {X P:List Int} {d:eU} (h:eT X P d):jP (P++(cN d).L) X:=by
 obtain⟨t,c,b,a,h4,h5⟩ :=h.close;exact⟨⟨t,c,b,a⟩,h4,h5⟩
theorem Jx {X P Q:List Int} {d:eU} (h:eT X P d) (b:d.L=Q++rest d.L) (a:Q.length%8=0):eT X (P++Q) { d with L:=rest d.L }:=by
 obtain⟨all,kinds,stops,bn,pre,h⟩ :=h;exact⟨_,_,_,_,_,h.taken b a⟩
def TG (w:World) (g len:Nat) (gk:Nat) (c b a:Value) (wx:World):Prop:=∃(i:Nat) (E:Nat->Prop) (d:eU) (hd:List Int) (K:Nat) (X P:List Int) (Ao Aa:Option Addr) (no co na ca:Nat) (F:List Int),
 c= .slice Ao no co/\b= .slice Aa na ca/\a= .int .i64 i/\i<=len/\wJ wx w.heap.size g E d false hd (bC 1 X) []/\DB K X P d/\K<=300000*i/\P.length<=3000000*i/\P.length%8=0/\X.length<=2000*i/\hd.length<=2/\F++hd=[120,156]++gK P/\(P=[]\/hd=[])/\ag .u8 wx w.heap.size 5 Ao no co F/\ag .u8 wx w.heap.size 5 Aa na ca X/\
 (∀k,aa Ao=some k->¬E k)/\(∀k,aa Aa=some k->¬E k)/\(∀k,aa Ao=some k->aa Aa≠some k)/\Below w.heap.size w wx/\gk=len-i
def M4 (w:World) (g i:Nat) (X:List Int) (a:Option Addr) (c e:Nat) (f:List Int) (b:Value) (wx:World):Prop:=∃(E:Nat->Prop) (d:eU) (hd:List Int) (K:Nat) (P:List Int) (Ao:Option Addr) (no co:Nat) (F:List Int),
 b= .slice Ao no co/\wJ wx w.heap.size g E d false hd (bC 1 X) []/\DB K X P d/\K<=300000*(i+1)/\P.length<=3000000*(i+1)/\P.length%8=0/\hd.length<=2/\F++hd=[120,156]++gK P/\(P=[]\/hd=[])/\ag .u8 wx w.heap.size 5 Ao no co F/\ag .u8 wx w.heap.size 5 a c e f/\
 (∀k,aa Ao=some k->¬E k)/\(∀k,aa a=some k->¬E k)/\(∀k,aa Ao=some k->aa a≠some k)/\Below w.heap.size w wx
theorem zback_law (A:Option Addr) (len cp:Nat) (l:List BO) (lev:Int) (w:World) (hT:ZN w A len l/\len<=maxLen) (NK:(Lit.int .i64 lev).wf=true):
  Calls Tryz.prog 3 #[.slice A len cp, .int .i64 lev] w λe w'=>e= .returned (.bool true)/\Below w.heap.size w w':=by
 have hl:=bounds_i64 NK;have ev:len<=9223372036854775807:=hT.2;have HN:=η (yD lev w hl);have HT:=η hT.1;obtain⟨i0,hi,bv,bt,bo⟩ :=info_parts jy;have Hi:=η (⟨hi,bv,bt,bo⟩ :_/\_/\_/\_);clear hl NK hT hi bv bt bo;go_enter Tryz.func3,Tryz.ntmps3
 go_wp2_with fail
 refine HN.out.mono ?_;rintro r w1 ⟨g,E,rfl,G,cw⟩;have H1:=η (⟨G,cw⟩ :_/\_);clear G cw HN
 go_wp2_with fail
 refine(eH w1).mono ?_;rintro r w2 ⟨rfl,aA⟩;have H2:=η (⟨H1.out.1.keeps aA,H1.out.2.trans (aA.mono H1.out.2.size)⟩ :_/\_);clear aA H1;by_cases eK:10<len
 · have hc:(10:Int)<(len:Int):=ω;clear eK
   go_wp2_with fail
   refine(eH w2).mono ?_;rintro r w3 ⟨rfl,ct⟩;have Zg:=η (H2.out.2.trans (ct.mono H2.out.2.size));clear ct
   go_wp2_with fail
   go_ret
   exact⟨rfl,Zg.out⟩
 · have hc:¬(10:Int)<(len:Int):=ω;have tW:=η (show len<=10 by omega);clear eK
   go_wp2_with fail
   go_loopg [6,7,8] len (TG w g len)
   case atStart=>exact⟨0,E,vd lev,[120,156],0,[],[],none,none,0,0,0,0,[],rfl,rfl,rfl,Nat.zero_le _,by rw[show bC 1 []=1 by decide];exact H2.out.1,DB.new lev,Nat.le_refl _,Nat.le_refl _,rfl,Nat.le_refl _,Nat.le_refl _,rfl, .inl rfl,ag.br,ag.br,λk c=>by simp [aa]at c,λk c=>by simp [aa]at c,λk c=>by simp [aa]at c,H2.out.2,rfl⟩
   case round=>
    clear H2;obtain⟨i,E,d,hd,K,X,P,Ao,y,no,co,z,ca,F,rfl,rfl,rfl,hi,hE,hD,hK,hP,cB,hX,nX,hF,cA,cd,Us,be,bd,bb,Bv,hg⟩ :=hrel;have H:=η (⟨hE,hD,hK,hP,cB,hX,nX,hF,cA,cd,Us,be,bd,bb,Bv,hg⟩ :_/\_/\_/\_/\_/\_/\_/\_/\_/\_/\_/\_/\_/\_/\_/\_);clear hE hD hK hP cB hX nX hF cA cd Us be bd bb Bv hg;by_cases O:i<len
    · obtain⟨ad,rfl,JR,m,am⟩ :=HT.out i O;have S3:(i:Int)<(len:Int)/\(0:Int)<=(i:Int)/\(i:Int)<=9:=by have:=tW.out;omega
      have hb:=H.out.2.2.2.2.2.2.2.2.2.2.2.2.2.2.1;obtain⟨⟨B,n,cb,b⟩,ht⟩ :∃t,l.getD i default=t:= ⟨_,rfl⟩;rw[ht]at m am;dsimp only at m am;have d0:wr.cell? (ad.add i)=some (.slice B n cb):=(hb.cell (p:=ad.add i) (by rw[aw];exact JR)).trans m;obtain⟨W,ck,xe,df,cs⟩ :=am;have S:∀v∈b,0<=v/\v<256:=λv hv=>bounds_u8 (xe v hv)
      have jJ:=η O;have Bk:=η (⟨m,JR⟩ :_/\_);clear ht m;by_cases h5:2000<n
      · have eb:(2000:Int)<(n:Int):=ω;clear W ck xe df cs S h5 O
        go_wp2_with fail
        go_ret
        exact⟨rfl,hb⟩
      · have eb:¬(2000:Int)<(n:Int):=ω;have bS:=(W.below hb).more hb.size;have Ng:=H.out.2.2.2.2.2.1;have dT:=H.out.2.2.1
        have HW:=η (sO H.out.1 H.out.2.1 B n cb b bS df (λh0 a e ea=>by
         obtain⟨a0,e0,ew,_⟩ :=W.2 h0;rw[e]at e0;injection e0 with e0;subst e0;have:=(H.out.1.Ei _ ea).1;omega) S (by rw[List.length_append,<-W.1];omega) ω)
        have cD:=DB.write n b H.out.2.1 (by rw[<-W.1];exact Nat.le_refl _) (by rw[List.length_append,<-W.1];omega) S;have HB:=η (⟨W,S,cD,hb,W.1⟩ :_/\_/\_/\_/\_);clear W ck xe df cs S h5 O bS Ng dT cD
        go_wp2_with fail
        refine HW.out.mono ?_;rintro r w4 ⟨rfl,E4,h4,Ez⟩;rw[BU]at h4;have Xj:=Ez.2.1.bf H.out.2.2.2.2.2.2.2.2.2.1 (λk c e=>H.out.2.2.2.2.2.2.2.2.2.2.2.1 k c e);have Xg:=Ez.2.1.bf H.out.2.2.2.2.2.2.2.2.2.2.1 (λk c e=>H.out.2.2.2.2.2.2.2.2.2.2.2.2.1 k c e);have Y8:∀k,aa Ao=some k->¬E4 k:=λk c e=>Ez.VI (X:=λq=>aa Ao=some q) (λq j=>(H.out.2.2.2.2.2.2.2.2.2.1.2.lt j).2) (λq j J=>H.out.2.2.2.2.2.2.2.2.2.2.2.1 q J j) k e c
        have Y9:∀k,aa y=some k->¬E4 k:=λk c e=>Ez.VI (X:=λq=>aa y=some q) (λq j=>(H.out.2.2.2.2.2.2.2.2.2.2.1.2.lt j).2) (λq j J=>H.out.2.2.2.2.2.2.2.2.2.2.2.2.1 q J j) k e c
        have ap:=HB.out.2.2.2.1.trans Ez.1;have VX:=HB.out.2.2.1.more (K':=300000*i+200000) (by have:=H.out.2.2.1;have:=HB.out.2.2.2.2;omega);have Sb:M4 w g i (X++b) y z ca X (.slice Ao no co) w4:= ⟨E4,_,hd,300000*i+200000,P,Ao,no,co,F,rfl,h4,VX,ω,by have:=H.out.2.2.2.1;omega,H.out.2.2.2.2.1,H.out.2.2.2.2.2.2.1,H.out.2.2.2.2.2.2.2.1,H.out.2.2.2.2.2.2.2.2.1,Xj,Xg,Y8,Y9,H.out.2.2.2.2.2.2.2.2.2.2.2.2.2.1,ap⟩;have Zr:=η Sb;have x:=η (⟨h4,VX,Xj,Xg,Y8,Y9,ap⟩ :_/\_/\_/\_/\_/\_/\_);clear h4 Ez Xj Xg Y8 Y9 ap VX Sb HW
        go_upto_if 55 with fail
        go_cut [6] (λv6 wx=>Hid (M4 w g i (X++b) y z ca X v6 wx))
        case first=>
         by_cases ce:i%2=1
         · have an:(i:Int)%2=1:=ω;have Qs:(i:Int).tmod 2=1:=by rw[Int.tmod_eq_emod_of_nonneg ω];exact an
           have Er:=η (pJ x.out.1 ⟨by have:=H.out.2.2.2.2.2.2.1;omega,σ,by have:=x.out.2.1.size;omega⟩);clear ce
           go_wp2_with fail
           refine Er.out.mono ?_;rintro r w5 ⟨A5,n5,c5,E5,rfl,fF,ds,XK,C⟩;rw[List.append_nil]at fF;have G1:=C.2.1.bf x.out.2.2.1 (λk c e=>x.out.2.2.2.2.1 k c e);have NU:=C.2.1.bf x.out.2.2.2.1 (λk c e=>x.out.2.2.2.2.2.1 k c e);have Px:∀k,aa Ao=some k->¬E5 k:=λk c e=>C.VI (X:=λq=>aa Ao=some q) (λq j=>(x.out.2.2.1.2.lt j).2) (λq j J=>x.out.2.2.2.2.1 q J j) k e c
           have Py:∀k,aa y=some k->¬E5 k:=λk c e=>C.VI (X:=λq=>aa y=some q) (λq j=>(x.out.2.2.2.1.2.lt j).2) (λq j J=>x.out.2.2.2.2.2.1 q J j) k e c
           have fN:=x.out.2.2.2.2.2.2.trans C.1
           have N8:F.length<=2+P.length:=by
            have G:=congrArg List.length H.out.2.2.2.2.2.2.2.1;rw[List.length_append,List.length_append,dA]at G;have:([120,156]:List Int).length=2:=rfl;omega
           have ci:no<=40000000:=by rw[G1.1];have:=H.out.2.2.2.1;omega
           have K5:n5<=40000000:=by
            rw[fF.1,List.length_append,dA];have:=H.out.2.2.2.2.2.2.1;have:=x.out.2.1.size;omega
           have Np:=fN.size;have o:=η (⟨XK,NU,Px,Py,fN⟩ :_/\_/\_/\_/\_);clear ds XK C NU Px Py fN Er N8
           go_wp2_with (at_builtin;(refine au .u8 w.heap.size 5 i0 1 rfl (.tmp 56) (.tmp 58) _ rfl Tryz.underlying26 Hi.out.1 Hi.out.2.1 Hi.out.2.2.1 Hi.out.2.2.2 rfl G1 rfl fF.rd ω ω Np ?_)
                        intro A6 c6 w6 fI gL dc)
           have D:aq w5 w6 (λk=>aa Ao=some k):=(aq.refl w5 _).grown gL (λk c=> .inl c);have bn:=o.out.1.cv D (λk c=>o.out.2.2.1 k c);have ch:=D.bf o.out.2.1 (λk c e=>H.out.2.2.2.2.2.2.2.2.2.2.2.2.2.1 k e c);have jf:=o.out.2.2.2.2.trans (D.below (λk c=>(G1.2.lt c).1) Np)
           have ac:∀k,aa A6=some k->¬E5 k/\aa y≠some k:=λk c=>by
            rcases dc with e | e
            · exact⟨o.out.2.2.1 k (e▸c),H.out.2.2.2.2.2.2.2.2.2.2.2.2.2.1 k (e▸c)⟩
            · rw[e]at c;injection c with c;exact⟨λh=>by have:=(o.out.1.Ei k h).2;omega,λh=>by have:=(o.out.2.1.2.lt h).2;omega⟩
           obtain⟨Q,aC,cz,cx⟩ :=GW (bL n d b).L;have dN:Q.length<=(bL n d b).L.length:=by rw[aC,List.length_append];omega
           have oZ:(rest (bL n d b).L).length<=(bL n d b).L.length:=by rw[dZ];exact Nat.mod_le _ _
           have fw:M4 w g i (X++b) y z ca X (.slice A6 (no+n5) c6) w6:=by
            refine⟨E5,_,[],300000*i+200000,P++Q,A6,_,c6,F++(hd++gK (bL n d b).L),rfl,bn, ⟨Jx x.out.2.1.1 aC cz, ?_⟩,ω, ?_, ?_,σ, ?_, .inr rfl,fI,ch,λk c=>(ac k c).1,o.out.2.2.2.1,λk c=>(ac k c).2,jf⟩
            · have:=x.out.2.1.2;show(rest (bL n d b).L).length+100*(bL n d b).raw.length<=_
              omega
            · rw[List.length_append];have:=H.out.2.2.2.1;have:=x.out.2.1.size;omega
            · rw[List.length_append];have:=H.out.2.2.2.2.1;omega
            · rw[List.append_nil,<-List.append_assoc,H.out.2.2.2.2.2.2.2.1,cx,List.append_assoc,<-mN H.out.2.2.2.2.1]
           have aI:=η fw;clear D bn ch jf ac aC cz cx dN oZ fw fI gL dc G1 fF;go_meet
           exact aI
         · have an:¬(i:Int)%2=1:=ω;have es:((i:Int)%2==1)=false:=by simpa using an
           clear ce
           go_wp2_with fail
           go_meet
           exact Zr
        case rest=>
         obtain⟨E2,d2,mb,K2,P2,aS,dj,cH,F2,rfl,q1,q2,q3,q4,q5,q6,q7,q8,q9,U,bl,bk,bi,I⟩ :=hcut.out;have d9:wc.cell? (ad.add i)=some (.slice B n cb):=(I.cell (p:=ad.add i) (by rw[aw];exact Bk.out.2)).trans Bk.out.1;have oA:=HB.out.1.below I;have dH:z<=20000:=by rw[U.1];have:=H.out.2.2.2.2.2.1;omega
         have zG:=I.size;have s:=η (⟨q1,q2,q3,q4,q5,q6,q7,q8,q9,bl,bk,bi,I⟩ :_/\_/\_/\_/\_/\_/\_/\_/\_/\_/\_/\_/\_);clear hcut q1 q2 q3 q4 q5 q6 q7 q8 q9 bl bk bi I x Zr d0 hb
         go_wp2_with (at_builtin;(refine au .u8 w.heap.size 5 i0 1 rfl (.tmp 60) (.tmp 64) _ rfl Tryz.underlying26 Hi.out.1 Hi.out.2.1 Hi.out.2.2.1 Hi.out.2.2.2 rfl U rfl oA ω ω zG ?_)
                      intro A8 c8 w8 N R JS)
         have D:aq wc w8 (λk=>aa y=some k):=(aq.refl wc _).grown R (λk c=> .inl c);have Ot:=s.out.1.cv D (λk c=>s.out.2.2.2.2.2.2.2.2.2.2.1 k c);have cc:=D.bf s.out.2.2.2.2.2.2.2.2.1 (λk c e=>s.out.2.2.2.2.2.2.2.2.2.2.2.1 k c e);have kx:=s.out.2.2.2.2.2.2.2.2.2.2.2.2.trans (D.below (λk c=>(U.2.lt c).1) zG)
         have ab:∀k,aa A8=some k->¬E2 k/\aa aS≠some k:=λk c=>by
          rcases JS with e | e
          · exact⟨s.out.2.2.2.2.2.2.2.2.2.2.1 k (e▸c),λh=>s.out.2.2.2.2.2.2.2.2.2.2.2.1 k h (e▸c)⟩
          · rw[e]at c;injection c with c;exact⟨λh=>by have:=(s.out.1.Ei k h).2;omega,λh=>by have:=(s.out.2.2.2.2.2.2.2.2.1.2.lt h).2;omega⟩
         have fw:TG w g len (len-(i+1)) (.slice aS dj cH) (.slice A8 (z+n) c8) (.int .i64 ((i:Int)+1)) w8:=by
          refine⟨i+1,E2,d2,mb,K2,X++b,P2,aS,A8,_,cH,_,c8,F2,rfl,rfl,by go_num,jJ.out,Ot,s.out.2.1,s.out.2.2.1,s.out.2.2.2.1,s.out.2.2.2.2.1, ?_,s.out.2.2.2.2.2.1,s.out.2.2.2.2.2.2.1,s.out.2.2.2.2.2.2.2.1,cc,N,s.out.2.2.2.2.2.2.2.2.2.1,λk c=>(ab k c).1,λk c e=>(ab k e).2 c,kx,rfl⟩;rw[List.length_append];have:=H.out.2.2.2.2.2.1;have:=HB.out.2.2.2.2;omega
         have aI:=η fw;clear D Ot cc kx ab fw N R JS U oA;go_roundg (len-(i+1))
         case measure=>have:=H.out.2.2.2.2.2.2.2.2.2.2.2.2.2.2.2;have:=jJ.out;omega
         case rel=>exact aI.out
    · have S3:¬(i:Int)<(len:Int):=ω;obtain rfl:i=len:=ω;have Bk:=η (sN H.out.1 H.out.2.1 (by have:=H.out.2.2.1;have:=tW.out;omega));clear O hi
      go_wp2_with fail
      refine Bk.out.mono ?_;rintro r w5 ⟨rfl,E5,h5,C⟩;have ja:=H.out.2.1.Mp;have XM:=Fh H.out.2.1.1;have G1:=C.2.1.bf H.out.2.2.2.2.2.2.2.2.2.1 (λk c e=>H.out.2.2.2.2.2.2.2.2.2.2.2.1 k c e);have NU:=C.2.1.bf H.out.2.2.2.2.2.2.2.2.2.2.1 (λk c e=>H.out.2.2.2.2.2.2.2.2.2.2.2.2.1 k c e);have Px:∀k,aa Ao=some k->¬E5 k:=λk c e=>C.VI (X:=λq=>aa Ao=some q) (λq j=>(H.out.2.2.2.2.2.2.2.2.2.1.2.lt j).2) (λq j J=>H.out.2.2.2.2.2.2.2.2.2.2.2.1 q J j) k e c
      have Py:∀k,aa y=some k->¬E5 k:=λk c e=>C.VI (X:=λq=>aa y=some q) (λq j=>(H.out.2.2.2.2.2.2.2.2.2.2.1.2.lt j).2) (λq j J=>H.out.2.2.2.2.2.2.2.2.2.2.2.2.1 q J j) k e c
      have fN:=H.out.2.2.2.2.2.2.2.2.2.2.2.2.2.2.1.trans C.1;have cQ:=η (Bj h5 (.slice none 0 0));have Er:=η (pJ h5 ⟨by have:=H.out.2.2.2.2.2.2.1;omega,by simp [cM],by have:=H.out.2.2.1;have:=tW.out;omega⟩);have o:=η (⟨ja,XM,G1,NU,Px,Py,fN⟩ :_/\_/\_/\_/\_/\_/\_);clear h5 C ja XM G1 NU Px Py fN Bk
      go_wp2_with fail
      refine cQ.out.mono ?_;rintro r wx ⟨rfl,hx⟩;obtain rfl:=hx
      go_wp2_with fail
      refine Er.out.mono ?_;rintro r w7 ⟨A7,n7,c7,E7,rfl,wZ,dq,dp,V⟩;have Sk:=V.2.1.bf o.out.2.2.1 (λk c e=>o.out.2.2.2.2.1 k c e);have cg:=V.2.1.bf o.out.2.2.2.1 (λk c e=>o.out.2.2.2.2.2.1 k c e);have ly:=o.out.2.2.2.2.2.2.trans V.1
      have N8:F.length<=2+P.length:=by
       have G:=congrArg List.length H.out.2.2.2.2.2.2.2.1;rw[List.length_append,List.length_append,dA]at G;have:([120,156]:List Int).length=2:=rfl;omega
      have ci:no<=40000000:=by rw[Sk.1];have:=H.out.2.2.2.1;have:=tW.out;omega
      have dM:n7<=40000000:=by
       rw[wZ.1,List.length_append,List.length_append,dA];have:=H.out.2.2.2.2.2.2.1;have:=o.out.1;have:=H.out.2.2.1;have:=tW.out;have:(cM (bC 1 X)).length=4:=rfl;omega
      have Wn:=ly.size;have H7:=η (⟨cg,ly⟩ :_/\_);clear dq dp V cg ly Er cQ N8
      go_wp2_with (at_builtin;(refine au .u8 w.heap.size 5 i0 1 rfl (.tmp 74) (.tmp 76) _ rfl Tryz.underlying26 Hi.out.1 Hi.out.2.1 Hi.out.2.2.1 Hi.out.2.2.2 rfl Sk rfl wZ.rd ω ω Wn ?_)
                   intro A8 c8 w8 N R JS)
      have D:aq w7 w8 (λk=>aa Ao=some k):=(aq.refl w7 _).grown R (λk c=> .inl c);have Xh:=D.bf H7.out.1 (λk c e=>H.out.2.2.2.2.2.2.2.2.2.2.2.2.2.1 k e c);have kx:=H7.out.2.trans (D.below (λk c=>(Sk.2.lt c).1) Wn)
      have YP:F++(hd++gK (cN d).L++cM (bC 1 X))=bg (P++(cN d).L) (cM (bC 1 X)):=by
       rw[<-List.append_assoc,<-List.append_assoc,H.out.2.2.2.2.2.2.2.1];unfold bg;rw[mN H.out.2.2.2.2.1,<-List.append_assoc]
      rw[YP]at N;have Wh:X.length<=1048576:=by have:=H.out.2.2.2.2.2.1;have:=tW.out;omega
      have T:=o.out.2.1.a3e (cM (bC 1 X)) 1048576 Wh
      have al:zE (bg (P++(cN d).L) (cM (bC 1 X))) 1048576 true=8:=by
       rw[o.out.2.1.e_ _ (pW (iG 1 X)) 1048576 Wh];have:=Em (bC 1 X) (iG 1 X) [];rw[List.append_nil]at this;exact this.trans (if_pos rfl)
      have Ue:∀v∈bg (P++(cN d).L) (cM (bC 1 X)),0<=v/\v<256:=λv hv=>by
       unfold bg at hv;rcases List.mem_append.1 hv with hv | hv
       · rcases List.mem_append.1 hv with hv | hv
         · simp at hv;omega
         · exact EZ o.out.2.1.bit v hv
       · exact pW (iG 1 X) v hv
      have ao:ix (bg (P++(cN d).L) (cM (bC 1 X))) 0=120/\ix (bg (P++(cN d).L) (cM (bC 1 X))) 1=156:= ⟨rfl,rfl⟩
      have Qm:6<=(bg (P++(cN d).L) (cM (bC 1 X))).length:=by
       unfold bg;rw[List.length_append,List.length_append];have:(cM (bC 1 X)).length=4:=rfl;have:([120,156]:List Int).length=2:=rfl;omega
      obtain⟨f,hf⟩ :=ν (bg (P++(cN d).L) (cM (bC 1 X)));rw[hf]at N T al Ue ao Qm;have cr:f.length<=100000000:=by rw[<-N.1];omega
      have dH:z<=20000:=by rw[Xh.1];have:=H.out.2.2.2.2.2.1;have:=tW.out;omega
      obtain⟨nf,CJ⟩ :=ν (no+n7);rw[CJ]at N;have ZF:=η (sJ w8 A8 nf c8 f 1048576 1048576 N.rd N.2.fD Ue ω δ δ);have u:=η (⟨N,Xh,kx,T,al,Ue,ao,Qm,cr⟩ :_/\_/\_/\_/\_/\_/\_/\_/\_);have Bp:=η CJ;have eu:(0:Int)<=(z:Int)/\(z:Int)<=20000:=ω;clear D N Xh kx YP Wh T al Ue ao Qm hf cr R JS Sk wZ ci dM Wn CJ
      go_wp2_with fail
      rw[Bp.out];refine ZF.out.mono ?_;rintro r w9 ⟨A9,k9,c9,rfl,Io,FJ⟩;have FH:=u.out.2.2.1.trans (FJ.mono u.out.2.2.1.size);have H9:=η (⟨Io,u.out.1.keeps FJ,u.out.2.1.keeps FJ,FH⟩ :_/\_/\_/\_);clear Io FJ FH ZF;rw[u.out.2.2.2.2.1]
      go_wp2_with fail
      refine(vY w9 1048576 1048576 δ).mono ?_;rintro r GV ⟨gd,D1,rfl,mY,JT⟩;have bT:=H9.out.2.1.rd.below JT;have QL:=η (pK GV w9.heap.size gd D1 [] 1048576 mY w9.heap.size nf c8 A8 f bT u.out.2.2.2.2.2.1 (by have:=u.out.2.2.2.2.2.2.2.2;simp;omega));have ee:=η JT;clear mY JT bT
      go_wp2_with fail
      refine QL.out.mono ?_;rintro r QB ⟨D2,rfl,JM,bG⟩;have cV:=η (vX QB w9.heap.size gd D2 _ [] 1048576 true JM rfl);have EC:=η (ee.out.trans bG.1);clear JM bG QL
      go_wp2_with fail
      refine cV.out.mono ?_;rintro r db ⟨rfl,aE,bB⟩;rw[List.nil_append]at aE;have mn:=η (ot db w9.heap.size gd D2 f [] 1048576 true true aE δ (by have:=u.out.2.2.2.2.2.2.2.2;omega) z ω);have ED:=η (EC.out.trans bB.1);clear aE bB cV
      go_wp2_with fail
      refine mn.out.mono ?_;rintro r da ⟨cZ,ah,cL,dl,dh,D4,rfl,Xf,bI,Lj,bx, ⟨⟨dd,Oh⟩,bs⟩⟩;rw[u.out.2.2.2.1,List.nil_append]at Oh;have cj:z=X.length:=H9.out.2.2.1.1
      have cm:dh=0/\dl=X:=by
       rcases bs with ⟨G,h2⟩ | ⟨G,h2,_⟩
       · have h3:=congrArg List.length Oh;rw[List.length_append]at h3;have h4:dd=[]:=List.eq_nil_of_length_eq_zero ω;rw[h4,List.append_nil]at Oh;exact⟨G,Oh.symm⟩
       · rw[List.nil_append,u.out.2.2.2.1]at h2;rw[h2]at G;omega
      obtain⟨rfl,cl⟩ :=cm;rw[cl]at Xf Lj;rw[List.nil_append]at Lj;have Q4:=η (ot da w9.heap.size gd D4 f X 1048576 true false Lj δ (by have:=u.out.2.2.2.2.2.2.2.2;omega) 1 δ);have Zf:=η (⟨Xf,bI,ED.out.trans bx.1,cj⟩ :_/\_/\_/\_);clear Xf bI Lj bx Oh bs cl cj mn
      go_wp2_with fail
      refine Q4.out.mono ?_;rintro r Z ⟨ey,er,ex,dk,de,D5,rfl,dz,du,zu,XI, ⟨⟨en,XA⟩,bp⟩⟩
      have dx:de=8:=by
       rw[u.out.2.2.2.1]at XA;have h3:=congrArg List.length XA;rw[List.length_append,List.length_append]at h3;have h4:dk=[]:=List.eq_nil_of_length_eq_zero ω;rcases bp with ⟨_,h2⟩ | ⟨_,_, ⟨h5,_⟩ | ⟨_,h5⟩⟩
       · rw[h4]at h2;simp at h2
       · exact absurd h4 h5
       · rw[h5];exact u.out.2.2.2.2.1
      subst dx;have Cx:=Zf.out.2.2.1.trans XI.1;have M:=XI.2.1.bf Zf.out.1 (λk c e=>Zf.out.2.1 k c e);have ND:=H9.out.2.1.keeps Cx;have iW:=H9.out.2.2.1.keeps Cx;have Y:=H9.out.1.keeps Cx;rw[u.out.2.2.2.1]at Y;have Ua:=H9.out.2.2.2.trans (Cx.mono H9.out.2.2.2.size);have dG:6<=nf:=by rw[ND.1];exact u.out.2.2.2.2.2.2.2.1
      obtain⟨gf,rfl⟩ :=ND.2.addr ω;have y0:=ND.2.cell (i:=0) ω;have y1:=ND.2.cell (i:=1) ω;replace y0:Z.cell? ⟨gf,0,none⟩ =some (.int .u8 (ix f 0)):=y0;replace y1:Z.cell? ⟨gf,1,none⟩ =some (.int .u8 (ix f 1)):=y1;rw[u.out.2.2.2.2.2.2.1.1]at y0;rw[u.out.2.2.2.2.2.2.1.2]at y1;have et:(1:Int)<(nf:Int)/\(0:Int)<(nf:Int)/\1<nf:=ω;have S8:(k9:Int)<=1000000000:=by have G:=Y.1;have:=Zf.out.2.2.2;omega
      have cq:(ah:Int)<=1000000000:=by have G:=M.1;have:=Zf.out.2.2.2;omega
      have Q1:=η (vF Z Z.heap.size k9 c9 z ca A9 y X X Y.rd iW.rd S8 rfl);have tX:Hid (∀q,Calls Tryz.prog 15 #[.slice cZ ah cL, .slice y z ca] (Z.drewN q) λe w'=>e= .returned (.bool true)/\∃q2,w'=(Z.drewN q).drewN q2):=λq=>vF (Z.drewN q) Z.heap.size ah cL z ca cZ y X X (M.rd.drewN q) (iW.rd.drewN q) cq rfl
      have Zh:=η Ua;clear Cx M ND iW Y Ua dG S8 cq dz du zu XI XA bp Q4
      go_wp2_with fail
      refine Q1.out.mono ?_;rintro r eg ⟨rfl,q,rfl⟩;have ec:=η (tX.out q)
      go_wp2_with fail
      refine ec.out.mono ?_;rintro r ef ⟨rfl,q2,rfl⟩
      go_wp2_with fail
      go_ret
      exact⟨rfl,Zh.out.os,Zh.out.tape,Zh.out.output,Zh.out.size,Zh.out.block⟩
end Go.Proofs.YtddhegejmkgmjaaGreat
