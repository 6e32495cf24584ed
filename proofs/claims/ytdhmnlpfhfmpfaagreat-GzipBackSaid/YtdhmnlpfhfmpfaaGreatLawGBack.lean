/-
  part
-/
import Derived.Test.YtdhmnlpfhfmpfaaGreatPk31
import Derived.Test.YtdhmnlpfhfmpfaaGreatPk33
import Derived.Test.YtdhmnlpfhfmpfaaGreatPk37
namespace Go.Proofs.YtdhmnlpfhfmpfaaGreat
open Go.RowKit
set_option linter.unusedVariables false
set_option maxRecDepth 100000
set_option maxHeartbeats 8000000
theorem MW (L:aj):∃Q,L=Q++rest L/\Q.length%8=0/\ke L=ke Q:=by
 refine⟨L.take (8*(L.length/8)), ?_, ?_,(Hp L).symm⟩
 · unfold rest;rw[aU]
 rw[aD];omega
theorem a4D {h:HP} (a:h.ok=true):10<=h.p4.length/\h.p4.length<=80000:=by
 have f:=sU a;obtain⟨t,ht⟩ :=a1X h;refine⟨by rw[ht,ag,pH];omega, ?_⟩
 have e:h.p1.length<=12+65535:=by
  unfold HP.p1;split <;> simp [pH,cE] <;> omega
 have d:h.p2.length<=h.p1.length+4097:=by
  unfold HP.p2;split <;> simp <;> omega
 have c:h.p3.length<=h.p2.length+4097:=by
  unfold HP.p3;split <;> simp <;> omega
 have b:h.p4.length<=h.p3.length+2:=by
  unfold HP.p4;split <;> simp [cE]
 omega
theorem PE {X P Q:aj} {d:kM} (h:od X P d) (b:d.L=Q++rest d.L) (a:Q.length%8=0):od X (P++Q) { d with L:=rest d.L }:=by
 obtain⟨all,kinds,stops,fA,pre,h⟩ :=h;exact⟨_,_,_,_,_,h.taken b a⟩
theorem pq {A A2 C:ay} {n:Nat} (h:ak A2=ak A\/ak A2=some n) (d:∀k,ak A=some k->ak C≠some k) (c:∀k,ak C=some k->k<n):∀k,ak A2=some k->ak C≠some k:=λk a b=>by
 rcases h with h | h
 · exact d k (h▸a) b
 rw[h]at a;injection a with a;have:=c k b;omega
theorem T8.at_ {w w':World} {p:Addr} {t:zO} (h:T8 w p t) (b:Below w.heap.size w w'):w'.cell? p=some (.bool t.h.tx)/\w'.cell? ⟨p.block,p.off+1,none⟩ =some (.bool t.h.sm)/\w'.cell? ⟨p.block,p.off+2,none⟩ =some (.int .u32 t.h.tm)/\w'.cell? ⟨p.block,p.off+3,none⟩ =some (.int .u8 t.h.fl)/\w'.cell? ⟨p.block,p.off+4,none⟩ =some (.int .u8 t.h.sy)/\w'.cell? ⟨p.block,p.off+5,none⟩ =some (.slice t.A t.len t.cap)/\w'.cell? ⟨p.block,p.off+6,none⟩ =some (.bool t.h.hE)/\
  w'.cell? ⟨p.block,p.off+7,none⟩ =some (.string (strOf t.h.nl))/\w'.cell? ⟨p.block,p.off+8,none⟩ =some (.string (strOf t.h.cl))/\w'.cell? ⟨p.block,p.off+9,none⟩ =some (.bool t.h.hN)/\w'.cell? ⟨p.block,p.off+10,none⟩ =some (.bool t.h.hC):=
 have k:∀q:Addr,q.block=p.block->w'.cell? q=w.cell? q:=λq a=>b.cell (p:=q) (by rw[a];exact h.lt)
 ⟨(k p rfl).trans h.c0,(k ⟨p.block,p.off+1,none⟩ rfl).trans (h.cs 1 ω ω),(k ⟨p.block,p.off+2,none⟩ rfl).trans (h.cs 2 ω ω),(k ⟨p.block,p.off+3,none⟩ rfl).trans (h.cs 3 ω ω),(k ⟨p.block,p.off+4,none⟩ rfl).trans (h.cs 4 ω ω),(k ⟨p.block,p.off+5,none⟩ rfl).trans (h.cs 5 ω ω),(k ⟨p.block,p.off+6,none⟩ rfl).trans (h.cs 6 ω ω),(k ⟨p.block,p.off+7,none⟩ rfl).trans (h.cs 7 ω ω),(k ⟨p.block,p.off+8,none⟩ rfl).trans (h.cs 8 ω ω),(k ⟨p.block,p.off+9,none⟩ rfl).trans (h.cs 9 ω ω),(k ⟨p.block,p.off+10,none⟩ rfl).trans (h.cs 10 ω ω)⟩
theorem Ox {w:World} {b0 g n c:Nat} {H:List HV} (h:Own w b0 31 11 (some ⟨g,0,none⟩) n c (mb H)) {j:Nat} (b:j<n) {v:HV} (hv:H.getD j hz=v):w.cell? ⟨g,j*11,none⟩ =some (.bool v.tx)/\w.cell? ⟨g,j*11+1,none⟩ =some (.bool v.sm)/\w.cell? ⟨g,j*11+2,none⟩ =some (.int .u32 v.tm)/\w.cell? ⟨g,j*11+3,none⟩ =some (.int .u8 v.fl)/\w.cell? ⟨g,j*11+4,none⟩ =some (.int .u8 v.sy)/\w.cell? ⟨g,j*11+5,none⟩ =some v.ex/\w.cell? ⟨g,j*11+6,none⟩ =some (.bool v.hE)/\w.cell? ⟨g,j*11+7,none⟩ =some (.string v.nm)/\w.cell? ⟨g,j*11+8,none⟩ =some (.string v.cm)/\w.cell? ⟨g,j*11+9,none⟩ =some (.bool v.hN)/\w.cell? ⟨g,j*11+10,none⟩ =some (.bool v.hC):=
 have k:∀q,q<11->w.cell? ⟨g,j*11+q,none⟩ =some (hf v q):=λq a=>by
  have:=h.cell (i:=j*11+q) ω;rw[this];unfold mb;rw[show(j*11+q)/11=j by omega,show(j*11+q)%11=q by omega,hv]
 ⟨k 0 ω,k 1 ω,k 2 ω,k 3 ω,k 4 ω,k 5 ω,k 6 ω,k 7 ω,k 8 ω,k 9 ω,k 10 ω⟩
def CM (a:List zO) (i:Nat):List HV:=(List.range i).map λj=>(tW a j).h.v (.slice (tW a j).A (tW a j).len (tW a j).cap)
structure GM.Bd (M:GM):Prop where
 ok:M.Ok
 p:M.h.p4.length<=80000
 x:M.h.xl.length<=70000
 b:M.B.length<=320000
 o:M.o.length<=2000
def a1d (w:World) (b:List zO) (K:Nat) (gk:Nat) (e d c a:Value) (wx:World):Prop:=∃(i:Nat) (Ms:List GM) (Af Aa Aw:ay) (nf cf na ca cw:Nat),
 e= .slice Af nf cf/\d= .slice Aa na ca/\c= .slice Aw i cw/\a= .int .i64 i/\i<=K/\Ms.length=i/\(∀M∈Ms,M.Bd)/\(∀j M,Ms[j]?=some M->M.h=(tW b j).h)/\ba .u8 wx w.heap.size 5 Af nf cf (jH Ms)/\ba .u8 wx w.heap.size 5 Aa na ca (K6 Ms)/\Own wx w.heap.size 31 11 Aw i cw (mb (CM b i))/\
 (∀k,ak Af=some k->ak Aa≠some k)/\(∀k,ak Af=some k->ak Aw≠some k)/\(∀k,ak Aa=some k->ak Aw≠some k)/\Below w.heap.size w wx/\gk=K-i
theorem gback_law (A:ay) (tY kJ:Nat) (V:List zO) (A':ay) (iu kz:Nat) (lT:List GU) (lev:Int) (w:World) (hH:(∀i,i<tY->∃ad,A=some ad/\T8 w (ad.add (i*11)) (tW V i))/\tY<=maxLen) (hT:a5e w A' iu lT/\iu<=maxLen) (gt:(Lit.int .i64 lev).wf=true):
  Calls Tryz.prog 5 #[.slice A tY kJ, .slice A' iu kz, .int .i64 lev] w λe w'=>e= .returned (.bool true)/\Below w.heap.size w w':=by
 have hl:=Hk gt;obtain⟨i0,hi,ew,ev,et⟩ :=aL ow;have Hi:=η (⟨hi,ew,ev,et⟩ :_/\_/\_/\_);obtain⟨i1,gV,es,er,en⟩ :=aL AV;have HI:=η (⟨gV,es,er,en⟩ :_/\_/\_/\_);have SV:=η hH.1;have la:=η hT.1;have HL:=η hl;have lJ:tY<=9223372036854775807:=hH.2;have lI:iu<=9223372036854775807:=hT.2;clear hH hT gt hl hi ew ev et gV es er en;by_cases lF:6<tY\/6<iu
 · have kk:(6:Int)<tY\/(¬(6:Int)<tY/\(6:Int)<iu):=ω;clear lF;rcases kk with h | ⟨h,h1⟩
   all_goals
    go_enter Tryz.func5,Tryz.ntmps5
    go_wp2_with fail;refine(iI w).mono ?_;rintro e wa ⟨rfl,Lt⟩
    go_wp2_with fail;go_ret;exact⟨rfl,Lt⟩
 have hc:¬(6:Int)<tY/\¬(6:Int)<iu:=ω;have Gs:=η (show tY<=6/\iu<=6 by omega);obtain⟨K,hK⟩ :=ν (min iu tY);have HK:=η hK;clear lF hK;go_enter Tryz.func5,Tryz.ntmps5
 go_wp2_with fail;go_loopg [7,8,9,10] K (a1d w V K)
 case atStart=>
  refine⟨0,[],none,none,none,0,0,0,0,0,rfl,rfl,rfl,rfl,aF _,rfl, ?_, ?_,ba.dN,ba.dN,Own.dN, ?_, ?_, ?_,ax _ _,rfl⟩
  · exact λM R=>by cases R
  · exact λj M h=>by simp at h
  all_goals exact λk c=>by simp [ak]at c
 obtain⟨i,y,Af,Aa,Aw,nf,cf,na,ca,cw,rfl,rfl,rfl,rfl,hi,hO,hL,hP,Co,Su,gh,eg,ef,ee,uC,hg⟩ :=hrel;have H:=η (⟨hO,hL,hP,Co,Su,gh,eg,ef,ee,uC,hg⟩ :_/\_/\_/\_/\_/\_/\_/\_/\_/\_/\_);clear hO hL hP Co Su gh eg ef ee hg;by_cases cd:i<K
 rotate_left
 · obtain rfl:i=K:=ω;have hh:¬(i:Int)<(iu:Int)\/((i:Int)<(iu:Int)/\¬(i:Int)<(tY:Int)):=by have:=HK.out;omega
   have Y8:(0:Int)<=(i:Int)/\(i:Int)<=6:=by have:=Gs.out;have:=HK.out;omega
   by_cases h0:i=0
   · subst h0;have CU:=η uC;have hz:(iu:Int)=0\/((0:Int)<(iu:Int)/\(tY:Int)=0):=ω;clear cd hi uC hh H Y8;rcases hz with O | ⟨O,ab⟩
     · obtain rfl:iu=0:=ω;clear O
       go_wp2_with fail;refine(iI _).mono ?_;rintro r J ⟨rfl,I⟩
       go_wp2_with fail;go_ret;exact⟨rfl,CU.out.trans (I.mono CU.out.size)⟩
     obtain rfl:tY=0:=ω;have lv:0<iu:=ω;clear ab
     go_wp2_with fail;refine(iI _).mono ?_;rintro r J ⟨rfl,I⟩
     go_wp2_with fail;go_ret;exact⟨rfl,CU.out.trans (I.mono CU.out.size)⟩
   have ks:¬(i:Int)=0:=ω;have mm:((i:Int)==0)=false:=by simpa using ks
   have ce:=Ic (l:=y) (λM R=>(H.out.2.1 M R).ok);have Sk:=Dk (l:=y) (b:=120010) (λM R=>by have h1:=(H.out.2.1 M R).p;have h2:=(H.out.2.1 M R).b;omega);have x7:=NK (l:=y) (b:=2000) (λM R=>(H.out.2.1 M R).o);have yB:=Ui y;rw[H.out.1]at Sk x7 yB;obtain⟨hs,gY,oJ,V8⟩ :=a2N y ((jH y).length+1) 1048576 false (λM R=>(H.out.2.1 M R).ok) (.inl λh=>h0 (by rw[<-H.out.1,h];rfl)) (by rw[H.out.1];omega) ω
   have tJ:∀j,j<i->(∀ex,xR (hs.getD j []) ex=(tW V j).h.v ex)/\vO (hs.getD j [])=(tW V j).h.xl/\(tW V j).h.xl.length<=70000:=λj F=>by
    have Va:j<y.length:=by rw[H.out.1];exact F
    have hm:y[j]?=some y[j]:=br Va;obtain⟨r,hr⟩ :=V8 j y[j] hm;have hB:=H.out.2.1 y[j] (bU Va);have he:=H.out.2.2.1 j y[j] hm;rw[<-he];exact⟨λex=>(xW hB.ok.bd hB.ok.ok hr ex).2.2.2,(xW hB.ok.bd hB.ok.ok hr (.bool true)).2.2.1,hB.x⟩
   obtain⟨T,hT⟩ :=ν (gz ((jH y).length+1) (jH y) 1048576 false);have cL:T.1=K6 y/\T.2.1=hs/\T.2.2=8:=by rw[<-hT,gY];exact⟨rfl,rfl,rfl⟩
   have Co:=H.out.2.2.2.1;have Su:=H.out.2.2.2.2.1;obtain⟨f,hf⟩ :=ν (jH y);obtain⟨o,ho⟩ :=ν (K6 y);rw[hf]at Co ce Sk hT yB;rw[ho]at Su x7 cL;rw[H.out.1]at oJ;have ld:=η (Jq wr Af nf cf f 1048576 Co.rd Co.2.jT ce ω δ);have z:=η (⟨Co,Su,H.out.2.2.2.2.2.1,ce,Sk,x7,hT,oJ,tJ,uC,cL⟩ :_/\_/\_/\_/\_/\_/\_/\_/\_/\_/\_);have mo:=η h0;have gu:i<=tY:=by have:=HK.out;omega
   have lc:=η gu;clear Co Su ce Sk x7 gY oJ tJ uC V8 yB hf ho H h0 cd hi gu hT cL;rcases hh with O | ⟨O,ab⟩
   all_goals
    go_wp2_with fail;refine ld.out.mono ?_;rintro r w1 ⟨A1,k1,c1,rfl,pZ,ah⟩;rw[z.out.2.2.2.2.2.2.1]at pZ⊢;rw[z.out.2.2.2.2.2.2.2.2.2.2.1]at pZ;rw[z.out.2.2.2.2.2.2.2.2.2.2.2.2];have H1:=η (⟨pZ,ah⟩ :_/\_);clear pZ ah
    go_wp2_with fail;refine(PV w1 1048576 1048576 δ).mono ?_;rintro r w9 ⟨gd,rfl,Y,ZN⟩;have Yv:=η (Lh w9 w1.heap.size gd 1048576 Y w1.heap.size nf cf Af f (((z.out.1.keeps H1.out.2).rd).below ZN) z.out.2.2.2.1 (τ z.out.2.2.2.2.1));have H9:=η (⟨ZN,Y.lo⟩ :_/\_);clear Y ZN
    go_wp2_with fail;refine Yv.out.mono ?_;rintro r Gi ⟨A2,n2,c2,rfl,hZ,ec, -⟩;have HE:=η (PU Gi w1.heap.size gd 1048576 n2 c2 A2 f hZ);have RL:=η (H9.out.1.trans (ec.below (λk c=>by rw[c];exact H9.out.2) H9.out.1.size));clear hZ ec Yv
    go_wp2_with fail;refine HE.out.mono ?_;rintro r OP ⟨rfl,hY,eb⟩;have cr:=hY.st δ (τ z.out.2.2.2.2.1);rw[z.out.2.2.2.2.2.2.1]at cr;have UK:=RL.out.trans (eb.below (λk c=>by rw[c];exact H9.out.2) RL.out.size);have gn:=z.out.2.1.1;have jO:na<=1000000000:=by have:=z.out.2.2.2.2.2.1;omega
    have HT:=η (Dj OP w1.heap.size gd _ T [] [] cr na ω);have Kp:=η UK;have lb:=η gn;clear hY eb cr UK HE RL gn
    go_wp2_with fail;refine HT.out.mono ?_;rintro r Kn ⟨Ym,LY,bt,jb,iZ,lg,LQ,rfl,Vj,fn,eu,fd,hS⟩
    have gA:iZ=0/\jb=T.1:=by
     obtain⟨⟨t,ht⟩,h2⟩ :=hS;rw[aZ]at ht;have h7:na=T.1.length:=by rw[z.out.2.2.2.2.2.2.2.2.2.2.1];exact lb.out
     rcases h2 with ⟨h,h3⟩ | ⟨h,h3,_⟩
     · have h4:=aN List.length ht;rw[ag]at h4;have h6:t=[]:=aG ω;exact⟨h,by rw[ht,h6,aA]⟩
     rw[aZ]at h3;rw[h3]at h;omega
    obtain⟨rfl,rfl⟩ :=gA;have XU:=η (Dj Kn w1.heap.size gd lg T ([]++T.1) LQ eu 1 δ);have bx:=η (⟨Vj,fn,fd⟩ :_/\_/\_);clear Vj fn eu fd hS HT
    go_wp2_with fail;refine XU.out.mono ?_;rintro r aE ⟨bB,ls,dz,lp,lm,mp,jB,rfl,bL,jp,ji,cq,hQ⟩;obtain⟨kc,gW,fv⟩ :=Zk hQ rfl δ;rw[z.out.2.2.2.2.2.2.2.2.2.2.2.1]at gW;rw[z.out.2.2.2.2.2.2.2.2.2.2.2.2]at fv;subst fv;subst kc gW;have Qb:Below w1.heap.size w1 aE:=Kp.out.trans (bx.out.2.2.1.trans cq.1);have Vk:=cq.2.1.dX bx.out.1 (λk c e=>bx.out.2.1 k c e);obtain⟨cG,XG,ZG,HG,lk,g1, -, -, -, -, -, -⟩ :=ji
    have iS:=η (EX aE w1.heap.size gd cG XG ZG HG jB g1 (by rw[z.out.2.2.2.2.2.2.2.1];omega) (λj F=>by
     have Y:=z.out.2.2.2.2.2.2.2.2.1 j (by rw[<-z.out.2.2.2.2.2.2.2.1];exact F);rw[Y.2.1];have:=Y.2.2;omega))
    have ea:=η (⟨Vk,Qb⟩ :_/\_);clear Vk Qb g1 cq bL jp hQ XU
    go_wp2_with fail;refine iS.out.mono ?_;rintro r ci ⟨Al,nl,cl,Hl,rfl,x7,fz,Sp,gs,cH⟩;have jJ:nl=i:=by rw[fz,Sp];exact z.out.2.2.2.2.2.2.2.1
    have NU:=ea.out.2.trans (cH.mono ea.out.2.size);have S:=η (⟨ea.out.1.keeps cH,H1.out.1.keeps NU,(z.out.2.1.keeps H1.out.2).keeps NU,x7,gs,Sp,H1.out.2.trans (NU.mono H1.out.2.size)⟩ :_/\_/\_/\_/\_/\_/\_);subst jJ;clear x7 fz Sp gs cH NU iS
    go_wp2_with fail;refine(iI ci).mono ?_;rintro r N ⟨rfl,UL⟩;have cv:=S.out.2.1.keeps UL;have mK:=S.out.2.2.1.keeps UL;have bI:=S.out.1.keeps UL;rw[z.out.2.2.2.2.2.2.2.2.2.2.1]at bI;have xF:(k1:Int)<=1000000000:=by have h1:=cv.1;have:=z.out.2.2.2.2.2.1;omega
    have gE:(LY:Int)<=1000000000:=by have h1:=bI.1;have:=z.out.2.2.2.2.2.1;omega
    have P5:=η (BK N N.heap.size k1 c1 na ca A1 Aa o o cv.rd mK.rd xF rfl);have wU:Hid (∀q,Calls Tryz.prog 16 #[.slice Ym LY bt, .slice Aa na ca] (N.drewN q) λe w'=>e= .returned (.bool true)/\∃q2,w'=(N.drewN q).drewN q2):=λq=>BK (N.drewN q) N.heap.size LY bt na ca Ym Aa o o (bI.rd.drewN q) (mK.rd.drewN q) gE rfl;have ap:=η UL;clear cv mK bI xF gE UL
    go_wp2_with fail;refine P5.out.mono ?_;rintro r li ⟨rfl,q,rfl⟩;have iL:=η (wU.out q)
    go_wp2_with fail;refine iL.out.mono ?_;rintro r lh ⟨rfl,q2,rfl⟩;have hw:Below ci.heap.size ci (N.drewN (q+q2)):= ⟨ap.out.os,ap.out.tape,ap.out.output,ap.out.size,ap.out.block⟩;have XT:=η hw;clear hw P5 wU iL ap
    go_wp2_with fail;obtain⟨wS,fm⟩ :=ν (N.drewN (q+q2));rw[fm]at XT⊢;have uC:=z.out.2.2.2.2.2.2.2.2.2.1;have vu:=S.out.2.2.2.1.below XT.out (λk c=>(S.out.2.2.2.1.lt c).2);have cD:=S.out.2.2.2.2.2.2.trans (XT.out.mono S.out.2.2.2.2.2.2.size);have Vn:=z.out.2.2.1.below cD (λk c=>(z.out.2.2.1.lt c).2);have an:=uC.trans (cD.mono uC.size);have HZ:=η (⟨vu,Vn,an⟩ :_/\_/\_);clear fm uC vu cD Vn an;go_loopg [21] nl (λ(gk:Nat) (v21:Value) wx=>∃j:Nat,v21= .int .i64 j/\j<=nl/\Below wS.heap.size wS wx/\gk=nl-j)
    case atStart=>exact⟨0,rfl,aF _,ax _ _,rfl⟩
    obtain⟨j,rfl,uG,pX,rfl⟩ :=hrel;by_cases F:j<nl
    rotate_left
    · obtain rfl:j=nl:=ω;have Y9:¬(j:Int)<(j:Int):=ω;have lf:=η (HZ.out.2.2.trans (pX.mono HZ.out.2.2.size));clear pX uG F
      go_wp2_with fail;go_ret;exact⟨rfl,lf.out⟩
    have Y9:(j:Int)<(nl:Int)/\(0:Int)<=(j:Int)/\(j:Int)<=6:=ω;have vu:=HZ.out.1.below pX (λk c=>(HZ.out.1.lt c).2);have Vn:=HZ.out.2.1.below pX (λk c=>(HZ.out.2.1.lt c).2);have an:=HZ.out.2.2.trans (pX.mono HZ.out.2.2.size);obtain⟨gl,rfl⟩ :=vu.addr ω;obtain⟨gw,rfl⟩ :=Vn.addr ω;obtain⟨X,m,cc,e1,hX⟩ :=S.out.2.2.2.2.1 j (by rw[z.out.2.2.2.2.2.2.2.1];exact F);have hd:=z.out.2.2.2.2.2.2.2.2.1 j F;rw[hd.1]at e1;rw[hd.2.1]at hX;have mf:=hd.2.2;obtain⟨qa,qe,pd⟩ :=SV.out j (τ lc.out)
    have e2:(CM V nl).getD j hz=(tW V j).h.v (.slice (tW V j).A (tW V j).len (tW V j).cap):=by
     unfold CM;rw[aq,List.getElem?_map,List.getElem?_range F];rfl
    have lG:=pd.x.x.1;have c1:=Ox vu F e1;have c2:=Ox Vn F e2;have hD:=(hX.below XT.out).more XT.out.size;have ao:=((hD.below pX).more pX.size);have bo:=(lG.below an).more an.size;clear e1 e2 hd pd hX lG hD vu Vn qe;obtain⟨t,ht⟩ :=ν (tW V j);rw[ht]at c1 c2 ao bo mf;obtain⟨⟨tx,sm,tm,fl,sy,xl,hE,nn,cn,hN,hC⟩,X2,m2,kK⟩ :=t;dsimp only [HP.v]at c1 c2 ao bo mf;have GA:=ao.1.trans bo.1.symm;subst GA;have dA:=η (Rp wr.drew wr.heap.size m cc m kK X X2 xl (HP.v ⟨tx,sm,tm,fl,sy,xl,hE,nn,cn,hN,hC⟩ (.slice none 0 0)) ao bo (ai _) (τ ao.1));unfold hagg HP.v at dA;dsimp only at dA;obtain⟨a0,a1,a2,a3,a4,a5,a6,a7,a8,a9,kO⟩ :=c1;obtain⟨b0,b1,b2,b3,b4,b5,b6,b7,b8,b9,rR⟩ :=c2;have Kq:=η pX;clear ht ao bo mf pX an
    go_wp2_with fail
    go_region_law
     (first
       | (go_simp;go_at_call 22;(refine dA.out.mono ?_)
          rintro r w5 ⟨rfl,mr⟩))
    all_goals
     have cu:Hid (Below wS.heap.size wS w5):=Kq.out.trans (((ax _ wr).drew.trans mr).mono Kq.out.size);clear mr a0 a1 a2 a3 a4 a5 a6 a7 a8 a9 kO b0 b1 b2 b3 b4 b5 b6 b7 b8 b9 rR
     go_wp2_with fail;go_roundg (nl-(j+1))
     case measure=>omega
     case rel=>exact⟨j+1,by go_num,ω,cu.out,rfl⟩
 have jE:i<iu/\i<tY:=by have:=HK.out;omega
 obtain⟨ad,rfl,pd⟩ :=SV.out i jE.2;obtain⟨ae,rfl,hA,G,co⟩ :=la.out i jE.1;have Y8:(i:Int)<(iu:Int)/\(i:Int)<(tY:Int)/\(0:Int)<=(i:Int)/\(i:Int)<=6:=by have:=Gs.out;omega
 obtain⟨⟨B,n,cb,b⟩,ht⟩ :∃t,lT.getD i default=t:= ⟨_,rfl⟩;rw[ht]at G co;dsimp only at G co;obtain⟨t,cz⟩ :=ν (tW V i);rw[cz]at pd;obtain⟨h0,X,m,cc⟩ :=t;have eS:=pd.x;have hR:=λW (hW:Below w.heap.size w W)=>pd.at_ hW;obtain⟨tx,sm,tm,fl,sy,xl,hE,nl,cl,hN,hC⟩ :=h0;dsimp only at hR eS;obtain⟨O,jW,fz,jP⟩ :=eS;dsimp only at O jW fz jP;obtain⟨cj,ck, -,jl,ey⟩ :=O;have cm:=cj.1;unfold maxLen at ck fz jP ey;obtain⟨hr,jX,Kl,fI,kl⟩ :=co;have hn:∀v∈b,0<=v/\v<256:=λv hv=>bounds_u8 (Kl v hv);have yN:=η (λW=>Rt W ⟨tx,sm,tm,fl,sy,xl,hE,nl,cl,hN,hC⟩ X m cc cm ω (by dsimp only;omega) (by dsimp only;omega));unfold hagg HP.v at yN;dsimp only at yN;obtain⟨k0,k1,k2,k3,k4,k5,k6,k7,k8,k9,IV⟩ :=hR _ uC;have HR:=η hR;have D:=η (⟨hr,hn,hr.1,hA,G,fI⟩ :_/\_/\_/\_/\_/\_);have HX:=η (⟨cj,jW,cm,cz⟩ :_/\_/\_/\_);have oG:=η cd;have CU:=η uC;have GA:m<=9223372036854775807:=ck;clear hR pd cj jW ck jl ey fz jP cm cz hr jX Kl fI kl hn hA G ht cd uC
 go_wp2_with fail;refine(yN.out _).mono ?_;rintro r w2 ⟨rfl,am⟩;have kn:=CU.out.trans (am.mono CU.out.size);have ir:=η am;obtain⟨S1,cX⟩ :=ν (Xb ⟨tx,sm,tm,fl,sy,xl,hE,nl,cl,hN,hC⟩);rw[cX];have P5:=η cX;have CT:=η kn;clear cX am yN k0 k1 k2 k3 k4 k5 k6 k7 k8 k9 IV;cases S1 with
 | false=>
   go_wp2_with fail;refine(iI _).mono ?_;rintro r J ⟨rfl,I⟩
   go_wp2_with fail;go_ret;exact⟨rfl,CT.out.trans (I.mono CT.out.size)⟩
 | true=>
   have VG:m<=70000/\nl.length<=5000/\cl.length<=5000:=by
    have Y:=P5.out;unfold Xb at Y;simp only [Bool.and_eq_true,decide_eq_true_eq]at Y;have:=HX.out.2.2.1;omega
   have cg:=η (λW=>QO W ⟨tx,sm,tm,fl,sy,xl,hE,nl,cl,hN,hC⟩ X m cc HX.out.2.2.1 HX.out.2.1 ω (by dsimp only;omega) (by dsimp only;omega));unfold hagg HP.v at cg;dsimp only at cg;obtain⟨k0,k1,k2,k3,k4,k5,k6,k7,k8,k9,IV⟩ :=HR.out _ CT.out;have Cu:=η VG;clear VG
   go_wp2_with fail;refine(cg.out _).mono ?_;rintro r J ⟨rfl,I⟩;have cJ:=CT.out.trans (I.mono CT.out.size);have GQ:=η (ir.out.trans (I.mono ir.out.size));obtain⟨S2,pW⟩ :=ν (HP.ok ⟨tx,sm,tm,fl,sy,xl,hE,nl,cl,hN,hC⟩);rw[pW];have wU:=η pW;have Gq:=η cJ;clear pW I cg k0 k1 k2 k3 k4 k5 k6 k7 k8 k9 IV;cases S2 with
   | false=>
     go_wp2_with fail;refine(iI _).mono ?_;rintro r w4 ⟨rfl,ac⟩
     go_wp2_with fail;go_ret;exact⟨rfl,Gq.out.trans (ac.mono Gq.out.size)⟩
   | true=>
     have d0:J.cell? (ae.add i)=some (.slice B n cb):=(cJ.cell (p:=ae.add i) (by rw[bG];exact D.out.2.2.2.1)).trans D.out.2.2.2.2.1;clear cJ;by_cases du:2000<n
     · have kq:(2000:Int)<(n:Int):=ω;clear du
       go_wp2_with fail;refine(iI _).mono ?_;rintro r w4 ⟨rfl,ac⟩
       go_wp2_with fail;go_ret;exact⟨rfl,Gq.out.trans (ac.mono Gq.out.size)⟩
     have kq:¬(2000:Int)<(n:Int):=ω;have HN:=η (PY lev J HL.out w.heap.size ⟨tx,sm,tm,fl,sy,xl,hE,nl,cl,hN,hC⟩ X m cc (HX.out.1.below Gq.out) Gq.out.size HX.out.2.1 wU.out (τ Cu.out) (by have:=Cu.out;dsimp only;omega) (by have:=Cu.out;dsimp only;omega));unfold hagg HP.v at HN;dsimp only at HN;obtain⟨P4,dd⟩ :=ν (HP.p4 ⟨tx,sm,tm,fl,sy,xl,hE,nl,cl,hN,hC⟩);rw[dd]at HN;have dT:=η dd;obtain⟨k0,k1,k2,k3,k4,k5,k6,k7,k8,k9,IV⟩ :=HR.out _ Gq.out;have Z:=η (show n<=2000 by omega);clear du dd
     go_wp2_with fail;refine HN.out.mono ?_;rintro r w4 ⟨g,E,rfl,Q6,ac⟩;have Ls:=Gq.out.trans (ac.mono Gq.out.size);have hu:=GQ.out.trans (ac.mono GQ.out.size);have d4:w4.cell? (ae.add i)=some (.slice B n cb):=(Ls.cell (p:=ae.add i) (by rw[bG];exact D.out.2.2.2.1)).trans D.out.2.2.2.2.1;obtain⟨s,F3⟩ :=ν (n/2);have ZE:s<=n:=ω;have me:(n:Int)/2=(s:Int)/\(n:Int).tdiv 2=(s:Int):=by rw[Int.tdiv_eq_ediv_of_nonneg ω];omega
     have md:(0:Int)<=(s:Int)/\(s:Int)<=2000/\(s:Int)<=(n:Int):=by have:=Z.out;omega
     have mc:IntKind.i64.wrap (s:Int)=(s:Int):=aM _ ω;have lw:∀W,(Instr.slice 22 (.slice B n cb) none (some (.int .i64 (s:Int))) none).run Tryz.prog W= .ok (.slice B s cb) W:=λW=>dQ (P:=Tryz.prog) 22 5 Tryz.underlying22 Hi.out.1 Hi.out.2.2.1 B n cb (j:=s) (τ D.out.2.2.2.2.2) W;have cs:∀W,(Instr.slice 22 (.slice B n cb) (some (.int .i64 (s:Int))) none none).run Tryz.prog W= .ok (.slice (dr B cb s) (n-s) (cb-s)) W:=λW=>cZ (P:=Tryz.prog) 22 5 Tryz.underlying22 Hi.out.1 Hi.out.2.2.1 B n cb ZE W;obtain⟨u,bl⟩ :=ν (b.take s);obtain⟨x2,ab⟩ :=ν (b.drop s);have wm:u++x2=b:=by rw[<-bl,<-ab,aU]
     have qO:n=b.length:=D.out.2.2.1;have Fv:u.length=s:=by rw[<-bl,aD];omega
     have LU:x2.length=n-s:=by rw[<-ab,az];omega
     have ah:∀v∈u,0<=v/\v<256:=λv hv=>D.out.2.1 v (by rw[<-wm];exact cI _ hv);have am:∀v∈x2,0<=v/\v<256:=λv hv=>D.out.2.1 v (by rw[<-wm];exact bD _ hv);have kb:w.heap.size<=J.heap.size:=Gq.out.size;have gb:P4.length<=80000:=by rw[<-dT.out];exact(a4D wU.out).2
     have ga:bT .u8 w4.drew w4.drew.heap.size B s u:=by
      have:=((D.out.1.below Ls.drew).pre ZE).more Ls.drew.size;rw[bl]at this;exact this
     have P8:=η (ym (Q6.keeps (ax _ w4).drew) (DB.new lev) B s cb u ga (τ D.out.2.2.2.2.2) (λh0 a e dj=>by
      obtain⟨a0,e0,ki,_⟩ :=D.out.1.2 ω;rw[e]at e0;injection e0 with e0;subst e0;have:=(Q6.Cr _ dj).1;omega) ah (by rw[aZ,Fv];have:=Z.out;omega) (τ Z.out) (τ Z.out))
     have dp:=DB.write s (K:=0) (X:=[]) (P:=[]) (d:=oO lev) u (DB.new lev) ω (by rw[aZ,Fv];have:=Z.out;omega) ah;rw[aZ,Fv]at dp;have H4:=η (⟨Ls,hu,Q6.Cr⟩ :_/\_/\_);have RV:=η (⟨bl,ab,wm,Fv,LU,ah,am,F3⟩ :_/\_/\_/\_/\_/\_/\_/\_);have bv:=η dp;have a2k:=η gb;have CV:=η (⟨cs,ZE⟩ :_/\_);clear Q6 ac Ls hu bl ab wm Fv LU ah am ga dp gb cs F3 k0 k1 k2 k3 k4 k5 k6 k7 k8 k9 IV d0 HN ZE qO;go_upto_region 13 with fail
     go_cut [] (λwx=>Hid (∃E5,Cf wx J.heap.size g E5 (dZ s (oO lev) u) false P4 (vM 0 u) ((0:Int)+(s:Int)) []/\Ext J.heap.size w4.drew wx E E5))
     case first=>
      go_region_law
       (first
         | (go_simp;go_at_call 8;(refine P8.out.mono ?_)
            rintro r w5 ⟨rfl,E5,h5,SC⟩))
      all_goals
       have cu:Hid (∃E5,Cf w5 J.heap.size g E5 (dZ s (oO lev) u) false P4 (vM 0 u) ((0:Int)+(s:Int)) []/\Ext J.heap.size w4.drew w5 E E5):= ⟨E5,h5,SC⟩;clear h5 SC
       go_wp2_with fail;go_meet;exact cu
     obtain⟨E5,h5,SC⟩ :=hcut.out;have hG:=AR h5 ⟨τ a2k.out,σ,by have:=bv.out.size;have:=Z.out;have:=CV.out.2;omega⟩;have hy:=H4.out.1.drew.trans ((SC.1).mono Gq.out.size);have hp:=H4.out.2.1.drew.trans ((SC.1).mono GQ.out.size);have iG:=η hG;have H5:=η (⟨hy,hp⟩ :_/\_);clear hG hy hp h5 SC hcut P8
     go_wp2_with fail;refine iG.out.mono ?_;rintro r w6 ⟨T1,kt,ct,E6,rfl,kP,jA,ej,cp⟩;rw[aA]at kP;have cB:=H5.out.2.trans (cp.1.mono GQ.out.size);have UI:=H5.out.1.trans (cp.1.mono Gq.out.size);have cx:=H.out.2.2.2.1.keeps cB;have jR:kt<=200000:=by rw[kP.1,ag,jS];have:=a2k.out;have:=bv.out.size;have:=Z.out;have:=CV.out.2;omega
     have Sr:nf<=20000000:=by
      rw[H.out.2.2.2.1.1];have Y:=Dk (l:=y) (b:=200000) (λM R=>by have h1:=(H.out.2.1 M R).p;have h2:=(H.out.2.1 M R).b;omega);rw[H.out.1]at Y;omega
     have Vc:w.heap.size<=w6.heap.size:=UI.size;have kb:wr.heap.size<=J.heap.size:=GQ.out.size;have H6:=η (⟨cB,UI,ej,kP,Sr,jR⟩ :_/\_/\_/\_/\_/\_);clear cB UI ej jA cp iG
     go_upto_region 15 with (at_builtin;(refine bq .u8 w.heap.size 5 i0 1 rfl (.tmp 90) (.tmp 92) _ rfl Tryz.underlying22 Hi.out.1 Hi.out.2.1 Hi.out.2.2.1 Hi.out.2.2.2 rfl cx rfl kP.rd ω ω Vc ?_)
                             intro A7 c7 w7 yY Ff tU)
     have Qe:bk w6 w7 (λk=>ak Af=some k):=(bk.refl w6 _).grown Ff (λk c=> .inl c);have dq:∀k,ak Af=some k->k<wr.heap.size:=λk c=>(H.out.2.2.2.1.2.lt c).2;have ds:∀k,ak Aa=some k->k<wr.heap.size:=λk c=>(H.out.2.2.2.2.1.2.lt c).2;have Zr:∀k,ak Aw=some k->k<wr.heap.size:=λk c=>(H.out.2.2.2.2.2.1.lt c).2;have Vw:=H6.out.1.size;have bi:=H6.out.2.2.1.fC Qe (λk c e=>by have h1:=dq k c;have h2:=(H6.out.2.2.1.Cr k e).1;omega);have gj:=Qe.dX (H.out.2.2.2.2.1.keeps H6.out.1) (λk c e=>H.out.2.2.2.2.2.2.1 k e c);have gc:=Qe.own (H.out.2.2.2.2.2.1.below H6.out.1 (λk c=>Zr k c)) (λk c e=>H.out.2.2.2.2.2.2.2.1 k e c);have UJ:=H6.out.2.1.trans (Qe.below (λk c=>(cx.2.lt c).1) Vc);have a8o:=pq tU H.out.2.2.2.2.2.2.1 (λk c=>aB (ds k c) Vw);have a8q:=pq tU H.out.2.2.2.2.2.2.2.1 (λk c=>aB (Zr k c) Vw)
     have a8p:∀k,ak A7=some k->¬E6 k:=λk c e=>by
      have h2:=H6.out.2.2.1.Cr k e;rcases tU with h | h
      · have:=dq k (h▸c);omega
      rw[h]at c;injection c with c;omega
     have d7:w7.cell? (ae.add i)=some (.slice B n cb):=(UJ.cell (p:=ae.add i) (by rw[bG];exact D.out.2.2.2.1)).trans D.out.2.2.2.2.1;obtain⟨Q,db,da,hJ⟩ :=MW (dZ s (oO lev) u).L
     have hI:Q.length<=100000:=by
      have h1:=bv.out.size;have h2:(dZ s (oO lev) u).L.length=Q.length+(rest (dZ s (oO lev) u).L).length:=by rw[<-ag,<-db]
      have:=Z.out;have:=RV.out.2.2.2.2.2.2.2;omega
     have bs:DB (0+100*s) u ([]++Q) { dZ s (oO lev) u with L:=rest (dZ s (oO lev) u).L }:= ⟨PE bv.out.1 db da,by
      have h1:=bv.out.2;have h2:(rest (dZ s (oO lev) u).L).length<=(dZ s (oO lev) u).L.length:=by rw[je];exact Nat.mod_le _ _
      show(rest (dZ s (oO lev) u).L).length+100*(dZ s (oO lev) u).raw.length<=_;omega⟩
     obtain⟨d1,wZ⟩ :∃q,({ dZ s (oO lev) u with L:=rest (dZ s (oO lev) u).L }:kM)=q:= ⟨_,rfl⟩;rw[wZ]at bs bi;rw[aZ]at bs
     have fs:bT .u8 w7.drew w7.drew.heap.size (dr B cb s) (n-s) x2:=by
      have:=((D.out.1.below UJ.drew).dr CV.out.2 D.out.2.2.2.2.2).more UJ.drew.size;rw[RV.out.2.1]at this;exact this
     have LU:=RV.out.2.2.2.2.1;have Fv:=RV.out.2.2.2.1
     have ip:=η (ym (bi.keeps (ax _ w7).drew) bs (dr B cb s) (n-s) (cb-s) x2 fs (τ D.out.2.2.2.2.2) (λh0 a e dj=>by
      have lV:=D.out.1.2;obtain⟨a0,e0,ki,_⟩ :=(D.out.1.dr CV.out.2 D.out.2.2.2.2.2).2 h0;rw[e]at e0;injection e0 with e0;subst e0;have:=(bi.Cr _ dj).1;have:=Gq.out.size;omega) RV.out.2.2.2.2.2.2.1 (by rw[ag,Fv,LU];have:=Z.out;omega) (τ Z.out) (τ Z.out))
     have dl:=DB.write (n-s) x2 bs ω (by rw[ag,Fv,LU];have:=Z.out;omega) RV.out.2.2.2.2.2.2.1;rw[RV.out.2.2.1,LU]at dl;have H7:=η (⟨yY,gj,gc,UJ,a8o,a8q,a8p,ds,Zr⟩ :_/\_/\_/\_/\_/\_/\_/\_/\_);have HQ:=η (⟨da,hJ,hI,dl,bi.low⟩ :_/\_/\_/\_/\_);have cs:=CV.out.1;clear Qe dq ds Zr Vw bi gj gc UJ a8o a8q a8p db da hJ hI bs wZ fs LU Fv dl yY Ff tU cx d4;go_cut [] (λwx=>Hid (∃E8,Cf wx J.heap.size g E8 (dZ (n-s) d1 x2) false [] (vM (vM 0 u) x2) ((0:Int)+(s:Int)+((n-s:Nat):Int)) []/\Ext J.heap.size w7.drew wx E6 E8))
     case first=>
      go_region_law
       (first
         | (go_simp;go_at_call 8;(refine ip.out.mono ?_)
            rintro r w8 ⟨rfl,E8,h8,zg⟩))
      all_goals
       have cu:Hid (∃E8,Cf w8 J.heap.size g E8 (dZ (n-s) d1 x2) false [] (vM (vM 0 u) x2) ((0:Int)+(s:Int)+((n-s:Nat):Int)) []/\Ext J.heap.size w7.drew w8 E6 E8):= ⟨E8,h8,zg⟩;clear h8 zg
       go_wp2_with fail;go_meet;exact cu
     obtain⟨E8,h8,zg⟩ :=hcut.out;have ml:0+100*s+100*(n-s)<=200000:=by have:=Z.out;have:=CV.out.2;omega
     have RO:=η (I9 h8 HQ.out.2.2.2.1 ω);have fb:Ext J.heap.size w7 wc E6 E8:= ⟨((ax _ w7).drew).trans zg.1,((bk.refl w7 E6).drew).trans zg.2.1 (λk h=> .inl h),zg.2.2⟩;have io:=η fb;clear h8 zg fb hcut ip
     go_wp2_with fail;refine RO.out.mono ?_;rintro r w9 ⟨rfl,E9,Y,fa⟩;have jP:=HQ.out.2.2.2.1.a2A;have be:=PD HQ.out.2.2.2.1.1;obtain⟨L3,de⟩ :=ν ((ot (dZ (n-s) d1 x2)).L);rw[de]at jP be;have is:=η (AR Y ⟨σ,by simp [cE],by rw[de];omega⟩);have ii:=η (io.out.trans fa);have ch:=η (⟨jP,be,de⟩ :_/\_/\_);clear Y fa jP be RO io
     go_wp2_with fail;refine is.out.mono ?_;rintro r Gi ⟨T2,k2,c2,ms,rfl,LM,jI,jj,fi⟩;have O:=ii.out.trans fi;rw[ch.out.2.2,aZ]at LM;have lP:wr.heap.size<=J.heap.size:=GQ.out.size;have dk:∀k,E6 k->J.heap.size<=k:=λk c=>(H6.out.2.2.1.Cr k c).1;have Vm:=O.2.1.dX H7.out.1 (λk c e=>H7.out.2.2.2.2.2.2.1 k c e);have gm:=O.2.1.dX H7.out.2.1 (λk c e=>by have h1:=H7.out.2.2.2.2.2.2.2.1 k c;have h2:=dk k e;omega);have gf:=O.2.1.own H7.out.2.2.1 (λk c e=>by have h1:=H7.out.2.2.2.2.2.2.2.2 k c;have h2:=dk k e;omega);have UH:=H7.out.2.2.2.1.trans (O.1.mono Gq.out.size);have VB:=UH.size;have al:=O.1.size;have lz:k2<=200000:=by rw[LM.1,ag,jS,ag,cE,cE];have:=ch.out.1;omega
     have lx:nf+kt<=20200000:=by have:=H6.out;omega
     have RL:=η (⟨gm,gf,UH,LM,al⟩ :_/\_/\_/\_/\_);have fA:=LM.rd;clear jI jj fi O dk gm gf UH is ii LM al
     go_upto_region 18 with (at_builtin;(refine bq .u8 w.heap.size 5 i0 1 rfl (.tmp 109) (.tmp 111) _ rfl Tryz.underlying22 Hi.out.1 Hi.out.2.1 Hi.out.2.2.1 Hi.out.2.2.2 rfl Vm rfl fA ω ω VB ?_)
                             intro U ih OP Qx hb UF)
     have UQ:bk Gi OP (λk=>ak A7=some k):=(bk.refl Gi _).grown hb (λk c=> .inl c);have O3:=UQ.dX RL.out.1 (λk c e=>H7.out.2.2.2.2.1 k e c);have ge:=UQ.own RL.out.2.1 (λk c e=>H7.out.2.2.2.2.2.1 k e c);have Ir:=RL.out.2.2.1.trans (UQ.below (λk c=>(Vm.2.lt c).1) VB);have al:=RL.out.2.2.2.2;have gr:∀k,ak Aa=some k->k<Gi.heap.size:=λk c=>aB (H7.out.2.1.2.lt c).2 al;have gp:∀k,ak Aw=some k->k<Gi.heap.size:=λk c=>aB (H7.out.2.2.1.lt c).2 al;have a27:=pq UF H7.out.2.2.2.2.1 gr;have a29:=pq UF H7.out.2.2.2.2.2.1 gp;have ky:OP.cell? (ae.add i)=some (.slice B n cb):=(Ir.cell (p:=ae.add i) (by rw[bG];exact D.out.2.2.2.1)).trans D.out.2.2.2.2.1;have fy:=D.out.1.below Ir;have fr:=Ir.size
     have jO:na<=12000:=by
      rw[H.out.2.2.2.2.1.1];have Y:=NK (l:=y) (b:=2000) (λM R=>(H.out.2.1 M R).o);rw[H.out.1]at Y;omega
     have du:n<=2000:=Z.out;have jD:=UQ.size;have Kp:=η (⟨Qx,ge,Ir,a27,a29,jD,O3⟩ :_/\_/\_/\_/\_/\_/\_);clear UQ ge Ir a27 a29 al gr gp Qx hb UF fA VB Vm d7
     go_upto_region 19 with (at_builtin;(refine bq .u8 w.heap.size 5 i0 1 rfl (.tmp 113) (.tmp 117) _ rfl Tryz.underlying22 Hi.out.1 Hi.out.2.1 Hi.out.2.2.1 Hi.out.2.2.2 rfl O3 rfl fy ω ω fr ?_)
                             intro Ym bt Kn Vj V6 NS)
     have bp:bk OP Kn (λk=>ak Aa=some k):=(bk.refl OP _).grown V6 (λk c=> .inl c);have gi:=bp.dX Kp.out.1 (λk c e=>Kp.out.2.2.2.1 k c e);have Vp:=bp.own Kp.out.2.1 (λk c e=>H.out.2.2.2.2.2.2.2.2.1 k e c);have NT:=Kp.out.2.2.1.trans (bp.below (λk c=>(O3.2.lt c).1) fr);have gx:=bp.size;have hU:∀k,ak Aw=some k->k<OP.heap.size:=λk c=>(Kp.out.2.1.lt c).2;have hV:∀k,ak U=some k->k<OP.heap.size:=λk c=>(Kp.out.1.2.lt c).2;have a2a:=pq NS H.out.2.2.2.2.2.2.2.2.1 hU;have Xc:∀k,ak U=some k->ak Ym≠some k:=λk c e=>pq (C:=U) NS (λq hq e2=>Kp.out.2.2.2.1 q e2 hq) hV k e c;have LQ:w.heap.size<=Kn.heap.size:=NT.size;obtain⟨k0,k1,lq,k3,k4,k5,k6,k7,k8,k9,IV⟩ :=HR.out _ NT;obtain⟨hv,Y7⟩ :=ν (HP.v ⟨tx,sm,tm,fl,sy,xl,hE,nl,cl,hN,hC⟩ (.slice X m cc));have cQ:Rd (Kn.alloc (.cells #[.bool tx, .bool sm, .int .u32 tm, .int .u8 fl, .int .u8 sy, .slice X m cc, .bool hE, .string (strOf nl), .string (strOf cl), .bool hN, .bool hC] 31)) (Kn.heap.size+1) (some ⟨Kn.heap.size,0,none⟩) (1*11) (mb [hv]):=by rw[<-Y7];exact NW Kn (HP.v ⟨tx,sm,tm,fl,sy,xl,hE,nl,cl,hN,hC⟩ (.slice X m cc)) 31
     have yZ:∀j,j<1*11->(mb [hv] j).oneCell'=true:=λj _=>Fc (λx O=>by simp at O;subst O;exact⟨X,m,cc,by rw[<-Y7];rfl⟩) j;have bx:=η (⟨gi,Vj,NT,a2a,Xc,NS,Y7,Vp,gx⟩ :_/\_/\_/\_/\_/\_/\_/\_/\_);have lS:i<=6:=by have:=Gs.out;omega
     clear bp gi NT gx hU hV a2a Xc Y7 Vj V6 NS O3 fy ky
     go_wp2_with (at_builtin;(refine yM w.heap.size i1 rfl (.tmp 119) (.tmp 124) rfl HI.out.1 HI.out.2.1 HI.out.2.2.1 HI.out.2.2.2 rfl (Vp.alloc _) rfl cQ yZ ω ξ ?_)
                  intro bB dz aE bL ha UG)
     have ny:Hid (a1d w V K (K-(i+1)) (.slice U (nf+kt+k2) ih) (.slice Ym (na+n) bt) (.slice bB (i+1) dz) (.int .i64 ((i:Int)+1)) aE):=by
      have cA:bk Kn aE (λk=>ak Aw=some k):=((bk.refl Kn _).alloc _).grown ha (λk c=> .inl c);obtain⟨q1,q2,q3,q4,q5,q6,q7,q8,q9⟩ :=bx.out;have ko:=q3.trans (cA.below (λk c=>(q8.lt c).1) q3.size);have kw:=cA.dX q1 (λk c e=>Kp.out.2.2.2.2.1 k c e);have kN:=cA.dX q2 (λk c e=>q4 k c e);have a8X:∀k,ak U=some k->k<Kn.heap.size:=λk c=>(q1.2.lt c).2;have a8Y:∀k,ak Ym=some k->k<Kn.heap.size:=λk c=>(q2.2.lt c).2;have mK:∀o:Obj,Kn.heap.size<=(Kn.alloc o).heap.size:=λo=>σ;have s1:∀k,ak U=some k->ak bB≠some k:=λk c e=>pq (C:=U) UG (λq hq e2=>Kp.out.2.2.2.2.1 q e2 hq) (λq hq=>aB (a8X q hq) (mK _)) k e c;have s2:∀k,ak Ym=some k->ak bB≠some k:=λk c e=>pq (C:=Ym) UG (λq hq e2=>q4 q e2 hq) (λq hq=>aB (a8Y q hq) (mK _)) k e c
      have kp:GM.Bd ⟨⟨tx,sm,tm,fl,sy,xl,hE,nl,cl,hN,hC⟩,Q++L3,b⟩ :=by
       have be:=ch.out.2.1;exact⟨⟨HX.out.2.1,wU.out,be,D.out.2.1⟩,by have h1:=dT.out;have h2:=a2k.out;show(HP.p4 _).length<=_;rw[h1];exact h2,by have h1:=Cu.out.1;have h2:=HX.out.2.2.1;show xl.length<=_;omega,by show(Q++L3).length<=_;rw[ag];have h1:=ch.out.1;have h2:=HQ.out.2.2.1;omega,by show b.length<=_;have:=D.out.2.2.1;have:=Z.out;omega⟩
      refine⟨i+1,y++[⟨⟨tx,sm,tm,fl,sy,xl,hE,nl,cl,hN,hC⟩,Q++L3,b⟩],U,Ym,bB,_,ih,_,bt,dz,rfl,rfl,rfl,by go_num,oG.out,by rw[ag,H.out.1];rfl,λM R=> ?_,λj M F=> ?_, ?_, ?_, ?_,q5,s1,s2,ko,rfl⟩
      · rcases aP.1 R with h | h
        · exact H.out.2.1 M h
        rw[bf.1 h];exact kp
      · by_cases NZ:j<i
        · rw[bE (by rw[H.out.1];exact NZ)]at F;exact H.out.2.2.1 j M F
        rw[bA (by rw[H.out.1];omega),H.out.1]at F
        have kj:j=i:=by
         rcases bY (j-i)with h | h
         · omega
         rw[bw ξ]at F;cases F
        subst kj;rw[dG]at F;injection F with F;rw[<-F,HX.out.2.2.2]
      · have e1:jH (y++[⟨⟨tx,sm,tm,fl,sy,xl,hE,nl,cl,hN,hC⟩,Q++L3,b⟩])=jH y++(P4++ke (dZ s (oO lev) u).L)++(ke L3++(pG 4 (vM (vM 0 u) x2)++pG 4 ((0:Int)+(s:Int)+((n-s:Nat):Int)))):=by
         rw[Q4];show jH y++(EY _ _ _++[])=_;rw[aA];unfold EY S6;rw[dT.out,vJ HQ.out.1,HQ.out.2.1,Nw ω RV.out.2.2.2.2.2.1,RV.out.2.2.1,show((0:Int)+(s:Int)+((n-s:Nat):Int))=(b.length:Int)%4294967296 by have h1:=D.out.2.2.1;have h2:=Z.out;have h3:=CV.out.2;omega];simp only [List.append_assoc]
        rw[e1];exact kw
      · have e1:K6 (y++[⟨⟨tx,sm,tm,fl,sy,xl,hE,nl,cl,hN,hC⟩,Q++L3,b⟩])=K6 y++b:=by
         rw[Zm];show K6 y++(b++[])=_;rw[aA]
        rw[e1];exact kN
      have Sp:(CM V i).length=i:=by unfold CM;simp
      have e1:CM V (i+1)=CM V i++[hv]:=by
       unfold CM;rw[jv,dR,List.map_singleton,HX.out.2.2.2,<-q7]
      refine bL.congr λk _=> ?_;rw[e1,<-Fb,Sp]
     have ka:Hid (K-(i+1)<gk):=by show _<gk;have h1:=H.out.2.2.2.2.2.2.2.2.2.2;have h2:=oG.out;omega
     clear bL ha UG cQ yZ Vp;go_roundg (K-(i+1))
     case measure=>exact ka.out
     case rel=>exact ny.out
end Go.Proofs.YtdhmnlpfhfmpfaaGreat
