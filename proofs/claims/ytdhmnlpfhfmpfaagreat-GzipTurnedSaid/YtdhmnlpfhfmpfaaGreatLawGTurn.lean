/-
  part
-/
import Derived.Test.YtdhmnlpfhfmpfaaGreatPk30
import Derived.Test.YtdhmnlpfhfmpfaaGreatPk32
import Derived.Test.YtdhmnlpfhfmpfaaGreatPk34
namespace Go.Proofs.YtdhmnlpfhfmpfaaGreat
open Go.RowKit
set_option linter.unusedVariables false
set_option maxRecDepth 100000
set_option maxHeartbeats 8000000
theorem Ha {x:Int} (h:(Lit.int .u16 x).wf=true):0<=x/\x<65536:=by
 simp [Lit.wf,IntKind.min,IntKind.max,IntKind.signed,IntKind.bits]at h;omega
theorem Py {h:HP} {B o:List Int} (u:h.bd) (t:h.ok=true) (hz:vh B o) {f m:Nat} (s:o.length<=m) {k:Nat} {v:Int} (a:(p9 h B o).length-8<=k) (y:k<(p9 h B o).length) (hv:0<=v/\v<256) (b:v≠ix (p9 h B o) k):
  (gz (f+1) ((p9 h B o).set k v) m false).2.2=4:=by
 have w:(p9 h B o).length=(h.p4++jO B).length+8:=by unfold p9;rw[<-ak,af,tA]
 obtain⟨j,l⟩ :=ν (k-(h.p4++jO B).length)
 have r:(p9 h B o).set k v=h.p4++(jO B++(Cs o).set j v):=by
  unfold p9;rw[<-ak,List.set_append,aa ω,l,ak]
 have c:j<8:=ω
 have n:∀x∈(Cs o).set j v,0<=x/\x<256:=λx q=>by
  rcases eQ q with a | a
  · exact L5 o x a
  rw[a];exact hv
 have i:((Cs o).set j v).length=8:=by rw[eo,tA]
 have d:ix (p9 h B o) k=ix (Cs o) j:=by
  unfold p9;rw[<-ak,dn,aa ω,l]
 have g:(Cs o).set j v≠Cs o:=λe=>by
  have p:ix ((Cs o).set j v) j=v:=by
   unfold ix;rw[aq,List.getElem?_set_self (by rw[tA];exact c)];rfl
  rw[e,<-d]at p;exact b p.symm
 rw[r,Np u t hz s n,Yz i n g,ae δ]
theorem gturned_law (A:Option Addr) (n cp:Nat) (b:List Int) (at_ Ks lev:Int) (w:World) (hA:InC .u8 w A n cp b) (O:(Lit.int .u16 at_).wf=true) (Ud:(Lit.int .u8 Ks).wf=true) (Lt:(Lit.int .i64 lev).wf=true):
  Calls Tryz.prog 3 #[.slice A n cp, .int .u16 at_, .int .u8 Ks, .int .i64 lev] w λe w'=>e= .returned (.bool true)/\Below w.heap.size w w':=by
 obtain⟨hr,ap,CH,eL,bi⟩ :=hA;have J:∀v∈b,0<=v/\v<256:=λv hv=>bounds_u8 (CH v hv);have N:=Ha O;have xd:=bounds_u8 Ud;have yI:=xM Lt;have hm:n=b.length:=hr.1;by_cases kg:1000<n\/Ks=0
 · have I:(1000:Int)<n\/(¬(1000:Int)<n/\Ks=0):=ω;clear hr ap CH eL bi J N hm kg O Ud yI Lt;rcases I with h | ⟨h,rfl⟩
   all_goals
    go_enter Tryz.func3,Tryz.ntmps3
    go_wp2_with fail;refine(mJ w).mono ?_;rintro e wa ⟨rfl,I9⟩
    go_wp2_with fail;go_ret;exact⟨rfl,I9⟩
 have xj:¬(1000:Int)<n/\(0:Int)<=n:=ω;have cg:(Ks==0)=false:=ξ;have HN:=η (De lev w yI w.heap.size oo none 0 0 ⟨rfl,Rd.dK⟩ (ag _) oq δ ω (by simp [oo]) (by simp [oo]));have c:=η (⟨hr,eL,J,hm,kg⟩ :_/\_/\_/\_/\_);have HB:=η (⟨N,xd⟩ :_/\_);clear hr ap CH eL bi J N xd hm kg O Ud Lt yI;go_enter Tryz.func3,Tryz.ntmps3
 go_wp2_with fail;refine HN.out.mono ?_;rintro r w1 ⟨g,E,rfl,h1,bl⟩;have H1:=η (⟨h1,bl⟩ :_/\_);clear h1 bl HN
 go_wp2_with fail;refine(mJ w1).mono ?_;rintro r w2 ⟨rfl,M⟩;have h2:=H1.out.1.keeps M;have ln:=H1.out.2.trans (M.mono H1.out.2.size)
 have HW:=η (xR h2 (DB.new lev) A n cp b ((c.out.1.below ln).more ln.size) c.out.2.1 (λh0 ad e hE=>by
  obtain⟨a0,e0,cs,_⟩ :=c.out.1.2 h0;rw[e]at e0;injection e0 with e0;subst e0;have:=(h2.Gf _ hE).1;omega) c.out.2.2.1 (by rw[aT];have:=c.out;omega) (by have:=c.out;omega) (by have:=c.out;omega))
 have H2:=η ln;clear h2 ln M H1
 go_wp2_with fail;refine HW.out.mono ?_;rintro r w3 ⟨rfl,E3,h3,ac⟩;have Q:=DB.write n (K:=0) (X:=[]) (P:=[]) (d:=Bc lev) b (DB.new lev) (by have:=c.out.2.2.2.1;omega) (by rw[aT];have:=c.out;omega) c.out.2.2.1;have Kc:=η (xQ h3 Q (by have:=c.out;omega));have H3:=η (⟨H2.out.trans ac.1,Q⟩ :_/\_);clear h3 ac Q HW H2
 go_wp2_with fail;refine Kc.out.mono ?_;rintro r w4 ⟨rfl,E4,h4,RQ⟩;have kz:=H3.out.2.SP;have ZY:=D3 H3.out.2.1;rw[aT,aT]at ZY;obtain⟨d4,Am⟩ :=ν (na (iG n (Bc lev) b));rw[Am]at h4 kz ZY;have OE:=η (zY h4 ⟨by rw[xm];decide,by simp [cU],by have:=c.out;omega⟩);have H4:=η (⟨H3.out.1.trans RQ.1,ZY,kz⟩ :_/\_/\_);clear h4 RQ kz ZY Am Kc H3
 go_wp2_with fail;refine OE.out.mono ?_;rintro r w5 ⟨F,a,cf,E5,rfl,s,cd,ca,Iw⟩
 have PN:oo.p4++jO d4.L++(ot 4 (yU 0 b)++ot 4 ((0:Int)+(n:Int)))=p9 oo d4.L b:=by
  unfold p9 Cs;rw[ak,<-c.out.2.2.2.1,show(0:Int)+(n:Int)=(n:Int)%4294967296 by omega]
 rw[PN]at s;have B:(p9 oo d4.L b).length=d4.L.length/8+18:=by rw[vC,xm];show 10+_+8=_;omega
 have u:∀v∈p9 oo d4.L b,0<=v/\v<256:=EU oq H4.out.2.1.bit;have G:=λf k v=>Py (h:=oo) oq δ H4.out.2.1 (f:=f) (m:=1048576) (by have:=c.out;omega) (k:=k) (v:=v);obtain⟨f,hf⟩ :=ν (p9 oo d4.L b);rw[hf]at B u s;simp only [hf]at G;have LA:=s.1;have cr:(18:Int)<=(a:Int)/\(a:Int)<=1000000/\0<a:=by have:=H4.out.2.2;have:=c.out;omega
 obtain⟨gf,rfl⟩ :=s.2.addr ω;have kY:=H4.out.1.trans Iw.1;obtain⟨k,j⟩ :∃k:Nat,at_.tmod (a:Int)=(k:Int):= ⟨(at_%a).toNat,by rw[cK HB.out.1.1];have:=jq at_ (b:=(a:Int)) ω;omega⟩;have yG:k<a:=by have h1:=ia at_ (b:=(a:Int)) ω;rw[cK HB.out.1.1]at j;omega
 have cv:at_%(a:Int)=(k:Int):=by rw[<-j,cK HB.out.1.1]
 have qh:(0:Int)<=(k:Int)/\(k:Int)<(a:Int)/\0<=at_/\at_<65536:=by have:=HB.out;omega
 have ck:=s.2.cell (i:=k) ω;have zk:=s.2.frozen k;obtain⟨y,hy⟩ :=ν (ix f k);have LI:0<=y/\y<256:=by rw[<-hy];exact u _ (xr ω)
 obtain⟨V,hV⟩ :=ν (bits .xor .u8 y Ks);have F4:0<=V/\V<256:=by rw[<-hV];exact a0G y Ks
 have bo:V≠y:=by rw[<-hV];exact a0H LI HB.out.2 (by simpa using cg)
 replace ck:w5.cell? ⟨gf,k,none⟩ =some (.int .u8 (ix f k)):=ck;rw[hy]at ck;have aE:=s.2.lt (g:=gf) rfl;have W:=aW.bC s yG V;have pB:=kY.setCell (p:= ⟨gf,k,none⟩) aE.1 (.int .u8 V);obtain⟨w7,Ci⟩ :=ν (w5.setCell ⟨gf,k,none⟩ (.int .u8 V));rw[Ci]at W pB
 have rJ:∀v∈f.set k V,0<=v/\v<256:=λv hv=>by
  rcases eQ hv with h | h
  · exact u v h
  rw[h];exact F4
 have oP:(f.set k V).length<=1000000:=by rw[eo,<-LA];omega
 obtain⟨R,H⟩ :=ν (f.set k V)
 have al:a-8<=k->(gz (R.length+1) R 1048576 false).2.2=4:=λh=>by
  rw[<-H];exact G _ k V (by rw[<-LA];exact h) (by rw[<-LA];exact yG) F4 (by rw[hy];exact bo)
 rw[H]at W rJ oP;have bB:=η (yh w7 (some ⟨gf,0,none⟩) a cf R 1048576 (W.rd) W.2.jD rJ oP δ);have S:=η (⟨W,pB,rJ,oP,al⟩ :_/\_/\_/\_/\_);have HY:=η (⟨hV,Ci⟩ :_/\_);have cx:=η yG;clear s cd ca Iw PN B u G al LA kY OE hf yG hy LI F4 bo aE W pB rJ oP H hV Ci
 go_wp2_with fail;rw[HY.out.1,HY.out.2];refine bB.out.mono ?_;rintro r x ⟨A8,k8,c8,rfl,RH,rj⟩;obtain⟨T,hT⟩ :=ν (gz (R.length+1) R 1048576 false);have bp:T.1.length<=1048576:=by rw[<-hT];exact TJ _ _ _ _
 rw[hT]at RH⊢;have be:=S.out.1.keeps rj;have o:=η (⟨RH,be,S.out.2.1.trans (rj.mono S.out.2.1.size),bp,hT⟩ :_/\_/\_/\_/\_);clear RH rj be bB bp hT
 go_wp2_with fail;refine(Dc x 1048576 1048576 δ).mono ?_;rintro r w9 ⟨gd,rfl,h9,YX⟩;have HF:=η (zX w9 x.heap.size gd 1048576 h9 x.heap.size a cf _ R ((o.out.2.1.rd).below YX) S.out.2.2.1 (by have:=S.out.2.2.2.1;omega));have H9:=η (⟨YX,h9.lo⟩ :_/\_);clear h9 YX
 go_wp2_with fail;refine HF.out.mono ?_;rintro r JI ⟨A2,n2,c2,rfl,bx,Z, -⟩;have HE:=η (Db JI x.heap.size gd 1048576 n2 c2 A2 R bx);have S8:=η (H9.out.1.trans (Z.below (λk j=>by rw[j];exact H9.out.2) H9.out.1.size));clear bx Z HF
 go_wp2_with fail;refine HE.out.mono ?_;rintro r bI ⟨rfl,bv,Y⟩;have D:=bv.st δ S.out.2.2.2.1;rw[o.out.2.2.2.2]at D;have I8:=S8.out.trans (Y.below (λk j=>by rw[j];exact H9.out.2) S8.out.size);have Zt:=o.out.1.1;have ct:k8<=1048576:=by rw[Zt];exact o.out.2.2.2.1
 have HT:=η (wZ bI x.heap.size gd _ T [] [] D k8 ω);have XN:=η I8;clear bv Y D I8 HE S8 Zt
 go_wp2_with fail;refine HT.out.mono ?_;rintro r K9 ⟨bE,NU,ch,l,cl,ci,Q9,rfl,ao,am,ab,ah,bt⟩
 have hl:l=T.1:=by
  obtain⟨⟨t,ht⟩,h2⟩ :=bt;rw[aT]at ht;rcases h2 with ⟨_,h⟩ | ⟨h,h3,_⟩
  · have h4:=aL List.length ht;have h5:=o.out.1.1;rw[af]at h4;have h6:t=[]:=aC ω;rw[ht,h6,ax]
  rw[aT]at h3;exact h3
 subst hl;have Xh:=η (wZ K9 x.heap.size gd ci T ([]++T.1) Q9 ab 1 δ);have U:=η (⟨ao,am,ah⟩ :_/\_/\_);clear ao am ab ah bt HT
 go_wp2_with fail;refine Xh.out.mono ?_;rintro r z ⟨cA,co,cw,cm,cj,cz,cq,rfl,ce,cc,cb,C,bs⟩;obtain⟨-, -,an⟩ :=Yy bs rfl δ;have Vi:bU .u8 z z.heap.size bE NU T.1:=((C.2.1.eH U.out.1 (λk j e=>U.out.2.1 k j e))).rd;have Le:Below x.heap.size x z:=XN.out.trans (U.out.2.2.1.trans C.1);have Du:bU .u8 z z.heap.size A8 k8 T.1:=(o.out.1.keeps Le).rd;have yq:=η (Jl z z.heap.size NU ch k8 c8 bE A8 _ _ Vi Du (by have:=Vi.1;have:=o.out.2.2.2.1;omega) rfl);have Sb:=η (o.out.2.2.1.trans (Le.mono o.out.2.2.1.size));have Rv:a-8<=k->T.2.2=4:=λh=>by rw[<-o.out.2.2.2.2];exact S.out.2.2.2.2 h
 rw[an];obtain⟨E1,Cu⟩ :=ν (T.2.2);rw[Cu]at Rv⊢
 have I:k<a-8\/(¬k<a-8/\E1=4):=by
  by_cases h:k<a-8
  · exact .inl h
  exact .inr ⟨h,Rv ω⟩
 have bX:∀q,Hid (Below w.heap.size w (z.drewN q)):=λq=> ⟨Sb.out.os,Sb.out.tape,Sb.out.output,Sb.out.size,Sb.out.block⟩;clear Vi Du Le Rv Cu an ce cc cb C bs Xh;rcases I with j | ⟨j,rfl⟩
 · have Zu:(k:Int)<(a:Int)-8:=ω;clear j
   go_wp2_with fail;refine yq.out.mono ?_;rintro r X5 ⟨rfl,q,rfl⟩
   go_wp2_with fail;go_ret;exact⟨rfl,(bX q).out⟩
 have Zu:¬(k:Int)<(a:Int)-8:=ω;clear j
 go_wp2_with fail;refine yq.out.mono ?_;rintro r X5 ⟨rfl,q,rfl⟩
 go_wp2_with fail;go_ret;exact⟨rfl,(bX q).out⟩
end Go.Proofs.YtdhmnlpfhfmpfaaGreat
