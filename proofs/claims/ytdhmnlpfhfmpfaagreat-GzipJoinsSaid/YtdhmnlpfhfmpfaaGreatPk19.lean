/-
  part
-/
import Derived.Test.YtdhmnlpfhfmpfaaGreatPk18
set_option linter.unusedVariables false
set_option maxRecDepth 100000
set_option maxHeartbeats 8000000
namespace Go.Proofs.YtdhmnlpfhfmpfaaGreat
open Go.RowKit
theorem ye (w:World) (At:Option Addr) (nt ct:Nat) (aj:List cu) (hT:lV w w.heap.size At nt aj) (mL:aj.length<1048576) (nA:∀t∈aj,cC t/\0<=t.lit/\t.lit<256):
  Calls Tryz.prog 91 #[.slice At nt ct] w (zA w aj):=by
 have bo:Below w.heap.size w (w.alloc (.cells #[.slice none 0 0, .slice none 0 0, .slice none 0 0, .slice none 0 0, .int .i64 0] 135)):=(aw _ w).alloc (ag _) _;have fi:=η (wW (w.alloc (.cells #[.slice none 0 0, .slice none 0 0, .slice none 0 0, .slice none 0 0, .int .i64 0] 135)) At nt ct aj ((hT.below bo).more σ) (by have:=hT.1;omega) nA);have uY:=Hw mL;have Gj:=η uY;have UQ:Ar (w.alloc (.cells #[.slice none 0 0, .slice none 0 0, .slice none 0 0, .slice none 0 0, .int .i64 0] 135)) w.heap.size 5 (XF yN yN yN yN (.int .i64 0)):=FI w _ _ _ _ _ _;have H0:=η (⟨UQ,bo⟩ :_/\_);have Xf:=η mL;clear hT mL nA bo uY UQ;go_enter Tryz.func91,Tryz.ntmps91
 go_wp2_with fail;refine fi.out.mono ?_;rintro e w2 ⟨g1,g2,rfl,hM⟩
 have rE:oy w (w2.alloc (.cells #[.slice none 0 0, .slice none 0 0, .slice none 0 0, .slice none 0 0, .int .i64 0] 135)) w.heap.size w2.heap.size yN yN yN yN (.int .i64 0):=
  ⟨(H0.out.1.keeps hM.vp).alloc _,FI _ _ _ _ _ _ _,(H0.out.2.trans (hM.vp.mono H0.out.2.size)).alloc (H0.out.2.trans (hM.vp.mono H0.out.2.size)).size _,ag _,aD σ hM.vp.size⟩
 have xU:=hM.alloc (.cells #[.slice none 0 0, .slice none 0 0, .slice none 0 0, .slice none 0 0, .int .i64 0] 135);have cv:g1<w2.heap.size/\g2<w2.heap.size:= ⟨(hM.lit.2.lt rfl).2,(hM.bk.2.lt rfl).2⟩;have Si:=η (sH (w2.alloc (.cells #[.slice none 0 0, .slice none 0 0, .slice none 0 0, .slice none 0 0, .int .i64 0] 135)) (some ⟨g1,0,none⟩) 286 286 _ xU.lit.rd 15 δ);have Cn:=η rE;have Cl:=η (⟨xU.bk,cv⟩ :_/\_);clear rE xU cv hM
 go_wp2_with fail;obtain⟨wa,ah⟩ :=ν (w2.alloc (.cells #[.slice none 0 0, .slice none 0 0, .slice none 0 0, .slice none 0 0, .int .i64 0] 135));obtain⟨P,hP⟩ :=ν (w2.heap.size);obtain⟨R,hR⟩ :=ν (w.heap.size);rw[ah,hP]at Cn;rw[ah,hP]at Cl;rw[ah]at Si;rw[ah,hP];rw[show oy w wa w.heap.size P=oy w wa R P by rw[hR]]at Cn;rw[hR];clear ah hP hR H0;clear w2;refine Si.out.mono ?_;rintro e w3 ⟨j,x,L,rfl,bI,ZF, -,db⟩;have e3:L=xv aj:=(db Gj.out.1).eq;rw[Gj.out.1];subst e3;have h3:=Cn.out.keeps bI;have dj:P<wa.heap.size:=Cn.out.box.lt;have f:ai j≠some P:=λe=>by have:=(ZF.2.lt e).1;omega
 have xX:=Cl.out.1.keeps bI;obtain⟨⟨x0, -⟩,z⟩ :=h3.cells;have z0:=z 0 ω;rw[IP]at ZF⊢
 have cq:ai (some (⟨g2,0,none⟩ :Addr))≠some P:=λe=>by
  have e':g2=P:=by injection e
  have:=Cl.out.2.2;omega
 have Xj:=η (⟨h3.a4d (.slice j 286 x),(ZF.far (p:= ⟨P,0,none⟩) f (.slice j 286 x)).more (b1:=R+1) (by have:=Cn.out.K8;omega),xX.far (p:= ⟨P,0,none⟩) cq (.slice j 286 x),f,dj⟩ :_/\_/\_/\_/\_);clear z h3 f xX ZF db bI dj Si Cn Cl cq
 go_wp2_with fail;obtain⟨wb,Ds⟩ :=ν (w3.setCell ⟨P,0,none⟩ (.slice j 286 x));rw[Ds]at Xj;have du:=η (sH wb (some ⟨g2,0,none⟩) 30 30 _ Xj.out.2.2.1.rd 15 δ);have ce:Hid (P<wb.heap.size):=Xj.out.1.box.lt;rw[Ds];clear Ds x0 z0;clear w3;refine du.out.mono ?_;rintro e w4 ⟨u,y,D,rfl,bE,M, -,da⟩;have e4:D=qw aj:=(da Gj.out.2).eq;rw[Gj.out.2];subst e4;have h4:=Xj.out.1.keeps bE;have f:ai u≠some P:=λe=>by have:=(M.2.lt e).1;have:=ce.out;omega
 have cp:=Xj.out.2.1.keeps bE;have co:∀k,ai j=some k->ai u≠some k:=λk h1 h2=>by have:=(M.2.lt h2).1;have:=(Xj.out.2.1.2.lt h1).2;omega
 obtain⟨⟨-,x1, -⟩,z⟩ :=h4.cells;have z1:=z 1 ω;rw[zQ]at M⊢;have N:=η (⟨h4.a4e (.slice u 30 y),(⟨cp.far (p:= ⟨P,1,none⟩) Xj.out.2.2.2.1 (.slice u 30 y),(M.far (p:= ⟨P,1,none⟩) f (.slice u 30 y)).more (b1:=R+1) (by have:=Xj.out.1.K8;have:=ce.out;omega),Xj.out.2.2.2.1,f,co⟩ :wM (R+1) _ P j u 286 x 30 y (xv aj) (qw aj))⟩ :_/\_);clear z h4 f cp co M da bE du Xj;go_upto_region 5 with fail
 obtain⟨wc,bl⟩ :=ν (w4.setCell ⟨P,1,none⟩ (.slice u 30 y));rw[bl]at N;rw[bl];clear bl x1 z1;clear ce;clear w4 wb;go_cut [] (λwx=>oy w wx R P (.slice j (fJ aj) x) (.slice u (fT aj) y) (.slice none 0 0) (.slice none 0 0) (.int .i64 0)/\wM (R+1) wx P j u (fJ aj) x (fT aj) y ((xv aj).take (fJ aj)) ((qw aj).take (fT aj)))
 case first=>
  obtain⟨⟨x0,x1,x2,x3,x4⟩,z⟩ :=N.out.1.cells;have z0:=z 0 ω;have z1:=z 1 ω;have cz:Hid (∀W,wM (R+1) W P j u 286 x 30 y (xv aj) (qw aj)->∀A n c few m,TrI j u x y (fJ aj) (fT aj) A n c few m->Calls Tryz.prog 116 #[.slice A n c, .int .i64 few] W λe w'=>e= .returned (.slice A m c)/\W=w'):=λW h=>WX W h;obtain⟨n1,qi⟩ :=ν (fJ aj);obtain⟨G,T⟩ :=ν (fT aj);obtain⟨l1,yH⟩ :=ν (xv aj);obtain⟨l2,B⟩ :=ν (qw aj);have hR:=N.out.2;rw[qi,T,yH,B]at cz;rw[yH,B]at hR;have HE:=η (⟨qi,T,yH,B⟩ :_/\_/\_/\_);have hb:n1<=286/\G<=30:=by have:=kH aj;have:=lM aj;omega
  rw[yH,B]at N;have HB:=η hb;clear qi T yH B hb Gj Xf
  go_wp2_with fail
  go_region_law
   ((go_simp;go_at_call 116;(refine(cz.out _ (by first | exact hR | exact hR.drew) _ _ _ _ _ (by constructor)).mono ?_);rintro e w5 ⟨rfl,rfl⟩))
  all_goals
   obtain⟨qi,T,yH,B⟩ :=HE.out;have h5:=(N.out.1.a4d (.slice j n1 x)).a4e (.slice u G y);have h6:=(N.out.1.a4e (.slice u G y)).a4d (.slice j n1 x);have h7:=((hR.put 0 (.slice j n1 x)).put 1 (.slice u G y)).pre HB.out.1 HB.out.2;have h8:=((hR.put 1 (.slice u G y)).put 0 (.slice j n1 x)).pre HB.out.1 HB.out.2;have fl:=η (⟨h5,h6,h7,h8⟩ :_/\_/\_/\_);have Rj:=η (⟨qi,T,yH,B⟩ :_/\_/\_/\_);clear h5 h6 h7 h8 qi T yH B HE
   go_wp2_with fail;go_meet;obtain⟨h5,h6,h7,h8⟩ :=fl.out;obtain⟨qi,T,yH,B⟩ :=Rj.out;rw[qi,T,yH,B]
   first | exact⟨h5.drew,h7.drew⟩ | exact⟨h6.drew,h8.drew⟩
 have HC:=η hcut;clear hcut N;have Rz:=lM aj;obtain⟨G,T⟩ :=ν (fT aj);rw[T]at Rz;obtain⟨v,hv⟩ :=ν (ix (qw aj) 0);have Q:=η (⟨T,hv⟩ :_/\_);have xK:=η HC.out;rw[T]at xK;obtain⟨gd,eu⟩ :∃gd,u=some ⟨gd,0,none⟩ :=xK.out.2.bk.2.addr ω;subst eu;obtain⟨y0,yz⟩ :=xK.out.2.bk.head (i:=0) ω;rw[kD ω,hv]at y0;obtain⟨⟨x0,x1,x2,x3,x4⟩,z⟩ :=xK.out.1.cells;clear T hv;have HY:=η (⟨y0,yz,x1,Rz⟩ :_/\_/\_/\_);clear y0 yz x0 x1 x2 x3 x4 z;go_upto_region 6 with fail
 go_cut [45] (λef wx=>ef= .bool (decide (G=1/\v=0))/\wx=wc)
 case first=>
  obtain⟨y0,yz,x1,Rz⟩ :=HY.out;by_cases h1:G=1
  · subst h1;by_cases h0:v=0
    · subst h0
      go_wp2_with fail;all_goals go_meet
      all_goals exact⟨rfl,rfl⟩
    have fS:(v==0)=false:=by simpa using h0
    have hf:=η (show false=decide ((1:Nat)=1/\v=0) from(aO λh=>h0 h.2).symm)
    go_wp2_with fail;all_goals go_meet
    all_goals exact⟨aL Value.bool hf.out,rfl⟩
  have fv:((G:Int)==1)=false:=ξ;have hf:=η (show false=decide (G=1/\v=0) from(aO λh=>h1 h.1).symm)
  go_wp2_with fail;all_goals go_meet
  all_goals exact⟨aL Value.bool hf.out,rfl⟩
 obtain⟨rfl,eg⟩ :=hcut;obtain rfl:=eg.symm
 go_upto_if 45 with fail
 go_cut [] (λwx=>oy w wx R P (.slice j (fJ aj) x) (.slice (some ⟨gd,0,none⟩) G y) (.slice none 0 0) (.slice none 0 0) (.int .i64 0)/\wM (R+1) wx P j (some ⟨gd,0,none⟩) (fJ aj) x G y (eY aj) (dm aj))
 case first=>
  by_cases hc:G=1/\v=0
  rotate_left
  · rw[aO hc];have al:dm aj=(qw aj).take G:=by unfold dm;rw[aa (by rw[Q.out.1,Q.out.2];exact hc),Q.out.1]
    have O:=η xK.out;rw[<-al]at O;clear al
    go_wp2_with fail;all_goals go_meet
    all_goals exact O.out
  rw[aS hc];obtain⟨y0,yz,x1,Rz⟩ :=HY.out;obtain⟨e1,e2⟩ :=hc;have al:dm aj=[1]:=by unfold dm;rw[ae ⟨by rw[Q.out.1];exact e1,by rw[Q.out.2];exact e2⟩]
  have Y:Hid (∀W,wM (R+1) W P j (some ⟨gd,0,none⟩) (fJ aj) x G y ((xv aj).take (fJ aj)) ((qw aj).take G)->wM (R+1) (W.setCell ⟨gd,0,none⟩ (.int .i64 1)) P j (some ⟨gd,0,none⟩) (fJ aj) x G y (eY aj) (dm aj)):=λW h=>by
   refine⟨h.lit.far (p:= ⟨gd,0,none⟩) (λe=>h.ld _ e rfl) _, ?_,h.lp,h.dp,h.ld⟩;have U:=h.bk.put (i:=0) ω 1;rw[al]
   have e9:((qw aj).take G).set 0 1=[1]:=by
    have Zv:=zQ aj;rw[e1];cases PH:qw aj with
    | nil=>rw[PH]at Zv;simp at Zv
    | cons a b=>simp
   rw[e9]at U;exact U
  have hP:gd≠P:=λe=>xK.out.2.dp (by rw[e];rfl);have cB:R≠gd:=λe=>by have h1:R+1<=gd:=(xK.out.2.bk.2.lt rfl).1;omega
  have O:=η (⟨xK.out.1.far (p:= ⟨gd,0,none⟩) cB (λe=>hP e.symm) (by have h1:R+1<=gd:=(xK.out.2.bk.2.lt rfl).1;have h2:=xK.out.1.QJ;show w.heap.size<=gd;omega) (.int .i64 1),Y.out _ xK.out.2⟩ :_/\_);subst e1;clear al Y hP cB e2
  go_wp2_with fail;all_goals go_meet
  all_goals exact O.out
 have Z:=η hcut;clear hcut xK HC HY;obtain⟨u,dk⟩ :∃A:Option Addr,(some ⟨gd,0,none⟩ :Option Addr)=A:= ⟨_,rfl⟩;rw[dk]at Z;rw[<-Q.out.1]at Z;obtain⟨nl,fX⟩ :=ν (fJ aj);obtain⟨nd,AQ⟩ :=ν (fT aj);obtain⟨l,hl⟩ :=ν (eY aj);obtain⟨d,hd⟩ :=ν (dm aj);rw[fX,AQ,hl,hd]at Z;have ap:nl<=286/\nd<=30:=by have:=kH aj;have:=lM aj;omega
 have CE:∀i,i<(l++d).length->0<=ix (l++d) i:=λi hi=>by
  rw[<-hl,<-hd]at hi⊢;exact(ED Xf.out i hi).1
 have fa:Hid (cY aj=jH (l++d)):=by show _=_;rw[<-hl,<-hd];rfl
 have HE:=η (⟨fX,AQ,hl,hd,ap,CE⟩ :_/\_/\_/\_/\_/\_);clear fX AQ hl hd ap CE dk Q;go_upto_region 8 with fail
 go_cut [] (λwx=>∃Ar nr cr,oy w wx R P (.slice j nl x) (.slice u nd y) (.slice none 0 0) (.slice Ar nr cr) (.int .i64 0)/\wM (R+1) wx P j u nl x nd y l d/\l9 wx (R+1) Ar nr cr (cY aj)/\ai Ar≠some P)
 case first=>
  obtain⟨i0,hi,ac,ab,H⟩ :=aJ zH;have Hi:=η (⟨hi,ac,ab,H⟩ :_/\_/\_/\_);clear hi ac ab H;obtain⟨⟨x0,x1,x2,x3,x4⟩,z⟩ :=Z.out.1.cells;have cA:=Z.out.1.alloc (.cells #[] 3);have I2:=Z.out.2.alloc (.cells #[] 3);have eL:aW .i64 (wc.alloc (.cells #[] 3)) (R+1) 3 (some ⟨wc.heap.size,0,none⟩) 0 0 []:=aW.lit (k:= .i64) (w:=wc) rfl [] 3 (by have:=Z.out.1.box.lt;have:=Z.out.1.K8;omega) δ;obtain⟨⟨y0,y1, -, -, -⟩, -⟩ :=cA.cells;have ca:=Z.out.1.box.lt;have bt:=Z.out.1.K8;have ej:wc.heap.size≠P:=ω;obtain⟨fX,AQ,hl,hd,ap,CE⟩ :=HE.out;have ch:R+1<=(wc.alloc (.cells #[] 3)).heap.size:=ξ;have dy:Hid (∀k,wc.heap.size<=k->R<k/\k≠P/\ai j≠some k/\ai u≠some k):=λk I=> ⟨ω,ω,λe=>by have:=(Z.out.2.lit.2.lt e).2;omega,λe=>by have:=(Z.out.2.bk.2.lt e).2;omega⟩;have fd:Hid (∀k,ai (some (⟨wc.heap.size,0,none⟩ :Addr))=some k->R<k/\k≠P/\ai j≠some k/\ai u≠some k):=λk I=>dy.out k (by injection I with I;exact Nat.le_of_eq I);have fY:=η ap;clear fX AQ hl hd CE Gj Xf x2 x3 x4 z ca bt ej;have ex:=cA.drew;have YQ:=I2.drew
  go_wp2_with fail
  go_region_law
   (first
     | (have _g:=jL
        go_simp
        go_at_call 117
        refine dq.out.mono ?_;rintro e w6 ⟨Ar,nr,cr,rfl,kQ,mb⟩;have s6:=q5.1.keeps mb;have r6:=q5.2.keeps mb;obtain⟨⟨-, -, -,v3, -⟩,vz⟩ :=s6.cells;have eb:=vz 3 ω)
     | (have _g:=M
        refine eM .i64 (R+1) 3 i0 8 rfl (.tmp 52) (.tmp 54) _ rfl Tryz.underlying63 Hi.out.1 Hi.out.2.1 Hi.out.2.2.1 Hi.out.2.2.2 rfl M rfl q4.2.bk.rd ω ω AY ?_;intro A5 c5 w5 jL om jA;have q5:=J2 q4.1 q4.2 (λk I=>dy.out k (ew k I)) om;have RO:=Wp w5 A5 (nl+nd) c5 _ (l++d) jL.rd (ag _) ω HE.out.2.2.2.2.2;rw[<-fa.out]at RO;have dq:=η RO;clear RO)
     | (refine eM .i64 (R+1) 3 i0 8 rfl (.tmp 49) (.tmp 51) _ rfl Tryz.underlying63 Hi.out.1 Hi.out.2.1 Hi.out.2.2.1 Hi.out.2.2.2 rfl eL rfl I2.lit.rd ω ω ch ?_
        intro A4 c4 w4 M cs dP;rw[bZ,aT]at M;have q4:=J2 ex YQ fd.out cs;obtain⟨⟨-,v1, -, -, -⟩, -⟩ :=q4.1.cells;have AY:R+1<=w4.heap.size:=au ch cs.size
        have ew:∀k,ai A4=some k->wc.heap.size<=k:=λk I=>by
         rcases dP with h | h
         · rw[h]at I;injection I with I;exact Nat.le_of_eq I
         rw[h]at I;injection I with I;rw[<-I];simp))
  all_goals
   have S:ai Ar≠some P:=λe=>by have h1:w5.heap.size<=P:=(kQ.2.lt e).1;have h2:=q5.1.box.lt;omega
   have Y:=η (⟨s6.b0J (.slice Ar nr cr),r6.put 3 (.slice Ar nr cr),(show l9 (w6.setCell ⟨P,3,none⟩ (.slice Ar nr cr)) (R+1) Ar nr cr (cY aj) from⟨kQ.1,((kQ.more (b1:=R+1) (au AY om.size)).2).far (p:= ⟨P,3,none⟩) S _⟩),S⟩ :_/\_/\_/\_);clear s6 r6 v3 vz eb S dq
   go_wp2_with fail;go_meet;exact⟨Ar,nr,cr,Y.out⟩
 obtain⟨Ar,nr,cr,kG,an,M,cl⟩ :=hcut;obtain⟨i0,hi,ac,ab,H⟩ :=aJ zH;have oN:∀W,(Instr.makeSlice 63 (.int .i64 19) (.int .i64 19)).run Tryz.prog W= .ok (.slice (some ⟨W.heap.size,0,none⟩) 19 19) (W.alloc (.cells (eD 19 (.int .i64 0)) 3)):=λW=>fQ (P:=Tryz.prog) 63 3 i0 (.int .i64 0) Tryz.underlying63 hi ac ab rfl .i64 .i64 19 (by rw[H];omega) ω W;have ca:=kG.box.lt;have bt:=kG.K8
 have hH:PlH w (wc.alloc (.cells (eD 19 (.int .i64 0)) 3)) R P wc.heap.size j u nl x nd y l d Ar nr cr (cY aj) (xY []):=
  ⟨kG.alloc _,an.alloc _,M.alloc _,cl,aW.zeros wc rfl 19 _ ω ω,ω,λe=>by have:=(an.lit.2.lt e).2;omega,λe=>by have:=(an.bk.2.lt e).2;omega,λe=>by have:=(M.2.lt e).2;omega⟩
 obtain⟨⟨-, -, -,v3, -⟩,vz⟩ :=(kG.alloc (.cells (eD 19 (.int .i64 0)) 3)).cells;have HH:=η hH;have CC:=η M.1;have su:=mH aj;have en:nr<=316:=by rw[M.1];exact su
 have fr:(0:Int)<=nr/\(nr:Int)<=316:=ω;have a4u:=η (l7 Xf.out);clear kG an M cl hi ac ab H ca bt hH vz su en Z
 go_wp2_with fail;clear oN v3;obtain⟨gh,bB⟩ :=ν (wc.heap.size);obtain⟨wd,bi⟩ :=ν (wc.alloc (.cells (eD 19 (.int .i64 0)) 3));rw[bB,bi]at HH;rw[bB,bi];clear bB bi;obtain⟨F,J⟩ :=ν (cY aj);rw[J]at HH CC a4u;have Gk:=η J;clear J;go_loopg [62] nr (λ(gk:Nat) (v62:Value) wx=>∃k:Nat,v62= .int .i64 k/\k<=nr/\Hid (PlH w wx R P gh j u nl x nd y l d Ar nr cr F (xY (F.take k)))/\Hid (gk=nr-k))
 case atStart=>exact⟨0,rfl,aF _,HH.out,rfl⟩
 clear HH;obtain⟨k,rfl,I,hs,hg⟩ :=hrel;by_cases am:k<nr
 · have qh:(k:Int)<(nr:Int)/\(0:Int)<=(k:Int):=ω;obtain⟨ad,hA,ev,a0,a1,a2⟩ :=hs.out.o.rd.Xk am;have uv:k<F.length:=by rw[<-CC.out];exact am
   have kB:=a4u.out _ (Bv uv);have jF:=FT uv;obtain⟨⟨C,V,E⟩,hr⟩ :∃r,px F k=r:= ⟨_,rfl⟩;rw[hr]at a0 a1 a2 kB jF;have cx:0<=C/\C<=18:=kB.1;obtain⟨c,rfl⟩ :=aG cx.1;replace a0:wr.cell? (ad.add (k*3))=some (.int .i64 (c:Int)):=a0;replace a1:wr.cell? { block:=(ad.add (k*3)).block,off:=(ad.add (k*3)).off+1 }=some (.int .i64 V):=a1;replace a2:wr.cell? { block:=(ad.add (k*3)).block,off:=(ad.add (k*3)).off+2 }=some (.int .i64 E):=a2;have cw:c<19:=ω;have JY:(0:Int)<=(c:Int)/\(c:Int)<19:=ω;have ZR:=hs.out.alloc (.cells #[.int .i64 (c:Int), .int .i64 V, .int .i64 E] 166);obtain⟨y0,yz⟩ :=ZR.h.head (i:=c) cw;have kf:=Lk (F.take k) c;have AG:(F.take k).length<=k:=by rw[aA];exact eX _ _
   have bX:=ZR.set cw (ix (xY (F.take k)) c+1);have cj:(xY (F.take k)).set c (ix (xY (F.take k)) c+1)=xY (F.take (k+1)):=by rw[jF,vF];rfl
   rw[cj]at bX;obtain⟨X,hX⟩ :=ν (ix (xY (F.take k)) c);rw[hX]at bX kf y0;have PB:0<=X/\X<=316:=ω;have Y:=η bX;have oX:=η am;subst hA;clear ev kB jF hr cx ZR kf AG bX cj hX uv am
   go_wp2_with fail;go_roundg (nr-(k+1))
   case measure=>have:=hg.out;have:=oX.out;omega
   case rel=>exact⟨k+1,by go_num,oX.out,Y.out,rfl⟩
 obtain rfl:k=nr:=ω;have qh:¬(k:Int)<(k:Int):=ω;have jF:F.take k=F:=ay (by rw[<-CC.out];exact ag _);have hH:=hs.out;rw[jF]at hH;have ds:=η (sH wr (some ⟨gh,0,none⟩) 19 19 _ hH.h.rd 7 δ);have O:=η hH;clear jF hH hs hg am I
 go_wp2_with fail;refine ds.out.mono ?_;rintro e w5 ⟨AH,cH,L,rfl,kY,jL, -,cX⟩;have uY:=Um aj;rw[Gk.out]at uY
 have e5:L=cV aj:=by
  have:=(cX uY).eq;rw[this,<-Gk.out];rfl
 rw[uY];subst e5;have AK:=mG aj;have s5:=O.out.s.keeps kY;have r5:=O.out.r.keeps kY;have o5:=O.out.o.keeps kY;have f:ai AH≠some P:=λe=>by have h1:=(jL.2.lt e).1;have h2:=O.out.s.box.lt;omega
 obtain⟨⟨-, -,v2, -, -⟩,vz⟩ :=s5.cells;have ec:=vz 2 ω;rw[AK]at jL⊢;have s6:=s5.b0I (.slice AH 19 cH);have r6:=r5.put 2 (.slice AH 19 cH);have o6:l9 (w5.setCell ⟨P,2,none⟩ (.slice AH 19 cH)) (R+1) Ar k cr F:= ⟨o5.1,o5.2.far (p:= ⟨P,2,none⟩) O.out.op _⟩;have h6:=(jL.far (p:= ⟨P,2,none⟩) f (.slice AH 19 cH)).more (b1:=R+1) (by have h1:=O.out.s.K8;have h2:=O.out.s.box.lt;omega);obtain⟨⟨-, -, -, -,x4⟩,xz⟩ :=s6.cells;have ea:=xz 4 ω;have s7:=s6.a0i (.int .i64 19);have r7:=r6.put 4 (.int .i64 19);have o7:l9 ((w5.setCell ⟨P,2,none⟩ (.slice AH 19 cH)).setCell ⟨P,4,none⟩ (.int .i64 19)) (R+1) Ar k cr F:= ⟨o6.1,o6.2.far (p:= ⟨P,4,none⟩) O.out.op _⟩;have h7:=h6.far (p:= ⟨P,4,none⟩) f (.int .i64 19);have H7:=η (⟨s7,r7,o7,h7,f,O.out.op⟩ :_/\_/\_/\_/\_/\_);clear uY AK s5 r5 o5 f vz s6 r6 o6 h6 xz s7 r7 o7 h7 jL cX kY ds O;go_upto_region 17 with fail
 obtain⟨wf,CH⟩ :=ν ((w5.setCell ⟨P,2,none⟩ (.slice AH 19 cH)).setCell ⟨P,4,none⟩ (.int .i64 19));rw[CH]at H7;rw[CH];clear CH v2 ec x4 ea;clear w5;go_cut [9] (λv9 wx=>∃go,v9= .pointer (some ⟨go,0,none⟩)/\rT wx go/\wf.heap.size<=go/\Below wf.heap.size wf wx)
 case first=>
  go_wp2_with fail;refine(DJ wf).mono ?_;rintro e w6 ⟨rfl,rfl⟩;have JP:Hid (wf.heap.size+1=(wf.alloc (.cells kA 167)).heap.size):=by show _=_;simp
  go_wp2_with (refine uU rfl (.tmp 9) (.tmp 81) rfl rfl (wf.heap.size+1) JP.out rfl rfl _ rfl ?_)
  go_meet;exact⟨_,rfl,by have U:=rT.new (wf.alloc (.cells kA 167));rw[<-JP.out]at U;exact U,fu _,((aw _ _).alloc (ag _) _).alloc σ _⟩
 obtain⟨go,rfl,cm,et,YX⟩ :=hcut;obtain⟨s7,r7,o7,h7,f,ci⟩ :=H7.out;have cg:JQ w wf R P j u AH Ar nl x nd y cH k cr l d F (cV aj) 19:= ⟨s7,r7,o7,ci,h7,f⟩;have aE:=cg.keeps YX;have dd:P≠go:=by have:=s7.box.lt;omega
 have cE:R≠go:=by have:=s7.box.lt;have:=s7.K8;omega
 obtain⟨hd,uu⟩ :=ν (cV aj);have HN:Hid (l8 (jB.map λk=>ix hd k.toNat) 4 19=po aj):=by show _=_;rw[<-uu];rfl
 have mf:Hid (∀i,i<19->0<=ix hd i/\ix hd i<=7):=λi hi=>by
  rw[<-uu];exact rV (kt aj) i (by rw[mG];exact hi)
 rw[uu]at aE;have HZ:=η (⟨aE,cm,dd,cE⟩ :_/\_/\_/\_);have fb:=η uu;clear s7 r7 o7 h7 f ci cg aE cm et YX dd cE uu H7
 go_wp2_with fail;go_loopg [9] 19 (λ(gk:Nat) (v9:Value) wx=>∃go n:Nat,v9= .pointer (some ⟨go,0,none⟩)/\Hid (JQ w wx R P j u AH Ar nl x nd y cH k cr l d F hd n)/\Hid (rT wx go)/\P≠go/\R≠go/\4<=n/\n<=19/\Hid (l8 (jB.map λk=>ix hd k.toNat) 4 n=po aj)/\Hid (gk=n))
 case atStart=>exact⟨go,19,rfl,HZ.out.1,HZ.out.2.1,HZ.out.2.2.1,HZ.out.2.2.2,ω,ω,HN.out,rfl⟩
 clear HZ HN;clear go;obtain⟨go,n,rfl,hz,S,ey,fs,er,es,bp,hg⟩ :=hrel;obtain⟨q,rfl⟩ :∃q,n=q+1:= ⟨n-1,ω⟩;obtain⟨n,bv⟩ :=ν (q+1);have RI:=FH q ω;obtain⟨K,hK⟩ :=aG RI.1;have YM:K<19:=ω
 have bx:ix (jB.map λk=>ix hd k.toNat) q=ix hd K:=by
  have e1:∀(L:List Int) (g:Int->Int) (i:Nat),i<L.length->ix (L.map g) i=g (ix L i):=λL g i hi=>by simp [ix,hi]
  rw[e1 _ _ _ (by show q<19;omega),hK];rfl
 obtain⟨X,hX⟩ :=ν (ix hd K);have c1:=S.out.cell (i:=q) ω;rw[hK]at c1;obtain⟨ga,ao⟩ :∃ga,AH=some ⟨ga,0,none⟩ :=hz.out.h.2.addr ω;have c2:=hz.out.h;rw[ao]at c2;have c3:=(c2.head (i:=K) YM).1;rw[hX]at c3;have bs:=hz.out.s;rw[ao]at bs;obtain⟨⟨-, -,d2, -,d4⟩,dz⟩ :=bs.cells;have dl:=dz 4 ω
 have cb:Hid (¬(4<n/\X=0)->n=po aj):=λh=>by
  have U:=bp.out;rw[BU (by rw[bx,hX];omega)]at U;omega
 have cc:Hid (4<n/\X=0->l8 (jB.map λk=>ix hd k.toNat) 4 q=po aj):=λh=>by
  have U:=bp.out;rw[JG ⟨ω,by rw[bx,hX];exact h.2⟩]at U;exact U
 have V9:(n:Int)-1=(q:Int):=ω;have fm:IntKind.i64.wrap ((n:Int)-1)=(q:Int):=by rw[V9];exact qa ω
 have fn:(0:Int)<=(q:Int)/\(q:Int)<19/\(0:Int)<=(K:Int)/\(K:Int)<19/\(4:Int)<=(n:Int)/\(n:Int)<=19:=ω;rw[bv]at hz hg er es d4;have cd:=η (⟨bv,ao⟩ :_/\_);have HD:=η (⟨c1,c3,d2,d4⟩ :_/\_/\_/\_);clear c1 c2 c3 ao bs d2 d4 dz dl bx hX hK RI bv bp;go_upto_region 18 with fail
 go_cut [96] (λee wx=>ee= .bool (decide (4<n/\X=0))/\Hid (JQ w wx R P j u AH Ar nl x nd y cH k cr l d F hd n)/\Hid (rT wx go))
 case first=>
  obtain⟨c1,c3,d2,d4⟩ :=HD.out;by_cases h4:4<n
  · have eS:(4:Int)<(n:Int):=ω;by_cases h0:X=0
    · subst h0;have hf:=η (show true=decide (4<n/\(0:Int)=0) from(aS ⟨h4,rfl⟩).symm)
      go_wp2_with fail;go_quiet (fail);all_goals go_wp2_with fail
      all_goals go_meet
      all_goals exact⟨aL Value.bool hf.out,hz.out.drewN _,S.out⟩
    have fA:(X==0)=false:=by simpa using h0
    have hf:=η (show false=decide (4<n/\X=0) from(aO λh=>h0 h.2).symm)
    go_wp2_with fail;go_quiet (fail);all_goals go_wp2_with fail
    all_goals go_meet
    all_goals exact⟨aL Value.bool hf.out,hz.out.drewN _,S.out⟩
  have eS:decide ((4:Int)<(n:Int))=false:=ξ;have hf:=η (show false=decide (4<n/\X=0) from(aO λh=>h4 h.1).symm)
  go_wp2_with fail;go_quiet (fail);all_goals go_wp2_with fail
  all_goals go_meet
  all_goals exact⟨aL Value.bool hf.out,hz.out.drewN _,S.out⟩
 clear HD hz S;obtain⟨rfl,hz,S⟩ :=hcut;by_cases hc:4<n/\X=0
 · rw[aS hc];obtain⟨⟨-, -, -, -,d4⟩,dz⟩ :=hz.out.s.cells;have dl:=dz 4 ω;have HO:Hid (rT (wc.setCell ⟨P,4,none⟩ (.int .i64 (q:Int))) go):=S.out.far (p:= ⟨P,4,none⟩) (λe=>ey e.symm) _;have H:=(hz.out.a0i q).alloc (.cells kA 167)
   have ck:rT ((wc.setCell ⟨P,4,none⟩ (.int .i64 (q:Int))).alloc (.cells kA 167)) wc.heap.size:=by
    have U:=rT.new (wc.setCell ⟨P,4,none⟩ (.int .i64 (q:Int)));have e9:(wc.setCell ⟨P,4,none⟩ (.int .i64 (q:Int))).heap.size=wc.heap.size:=by simp [World.setCell]
    rw[e9]at U;exact U
   have JP:Hid (wc.heap.size=(wc.setCell ⟨P,4,none⟩ (.int .i64 (q:Int))).heap.size):=by show _=_;simp [World.setCell]
   have de:=hz.out.s.box.lt;have cW:=hz.out.s.res.lt;have Y:=η (⟨H,ck,Nat.ne_of_lt de,Nat.ne_of_lt cW,hc.1,cc.out hc⟩ :_/\_/\_/\_/\_/\_);clear H ck dz hz S hc cb cc de cW
   go_wp2_with (first
    | (refine wpList_load_row rfl 167 (.tmp 9) rfl go rfl 167 kA (0,0) _ HO.out Tryz.underlying167 rfl (by kernel_rfl) ?_)
    | (refine uU rfl (.tmp 9) (.tmp 101) rfl rfl wc.heap.size JP.out rfl rfl _ rfl ?_))
   go_roundg q
   case measure=>have:=hg.out;have:=cd.out.1;omega
   case rel=>exact⟨wc.heap.size,q,rfl,Y.out.1,Y.out.2.1,Y.out.2.2.1,Y.out.2.2.2.1,by have:=Y.out.2.2.2.2.1;have:=cd.out.1;omega,by have:=cd.out.1;omega,Y.out.2.2.2.2.2,rfl⟩
 rw[aO hc];obtain⟨⟨d0,d1,d2,d3,d4⟩, -⟩ :=hz.out.s.cells;have J:=hz.out.s.res;have r0:=J.frozen' (i:=0) ω;have r1:=J.frozen' (i:=1) ω;have r2:=J.frozen' (i:=2) ω;have r3:=J.frozen' (i:=3) ω;have r4:=J.frozen' (i:=4) ω;have c0:=J.cell (i:=0) ω;have c1:=J.cell (i:=1) ω;have c2:=J.cell (i:=2) ω;have c3:=J.cell (i:=3) ω;have c4:=J.cell (i:=4) ω;have be:=hz.out;rw[<-fb.out,<-Gk.out,<-HE.out.2.2.1,<-HE.out.2.2.2.1]at be;have Oz:=η (W5 be HE.out.1 HE.out.2.1 (cb.out hc));have a8l:=η (λa b c d e=>a0k (a:=a) (b:=b) (c:=c) (d:=d) (e:=e) J);clear be J S hc cb cc hz
 go_wp2_with ((with_reducible (show bodyPost _ _ _ _ _ _));exact bh (FP (a8l.out (.slice j nl x) (.slice u nd y) (.slice AH 19 cH) (.slice Ar k cr) (.int .i64 (n:Int))) rfl) rfl (Oz.out (.slice j nl x) (.slice u nd y) (.slice AH 19 cH) (.slice Ar k cr) (.int .i64 (n:Int))))
def xX (kind:Int) (last:Bool) (L:List Int):List Int:=L++dv (if last then 1 else 0) 1++dv kind 2
def lu (kind:Int) (aj:List cu) (raw:List Int) (last:Bool) (L:List Int):List Int:=
 if kind=0 then CN (xX kind last L) raw else if kind=1 then xX kind last L++jY ig iN aj else xX kind last L++lS aj++jY (eY aj) (dm aj) aj
theorem nM (kind:Int) (last:Bool) (L:List Int):(xX kind last L).length=L.length+3:=by unfold xX;rw[af,af,aP,aP]
theorem kv.step {w w1 w2:World} {b0 g:Nat} {A A1:Option Addr} {a:List Int} (h:bj w w1 (foot A g)) (wF:∀k,ai A1=some k->ai A=some k\/w.heap.size<=k) (b:kv w1 w2 b0 g A1 a):kv w w2 b0 g A a:=by
 obtain⟨⟨A',n',c',q1,q2⟩,q3⟩ :=b;exact kv.next h wF q1 q3 q2
theorem BA {w:World} {g:Nat} {A A1 B:Option Addr} (wF:∀k,ai A1=some k->ai A=some k\/w.heap.size<=k) (d:∀a,B=some a->a.block<w.heap.size) (h:∀a,B=some a->¬foot A g a.block):∀a,B=some a->¬foot A1 g a.block:=λa e b=>by
 rcases b with b | b
 · exact h a e (.inl b)
 rcases wF _ b with c | c
 · exact h a e (.inr c)
 have:=d a e;omega
theorem Gc (w:World) (b0 g n c:Nat) (A:Option Addr) (L:List Int) (q:qf w b0 g A n c L) (At:Option Addr) (nt ct:Nat) (aj:List cu) (E:lV w w.heap.size At nt aj) (K:(nt:Int)<=4611686018427387904)
  (C:Option Addr) (m cr:Nat) (raw:List Int) (i:bU .u8 w w.heap.size C m raw) (h:0<m->∀z,C=some z->¬foot A g z.block) (b:∀x∈raw,0<=x/\x<256) (last:Bool) (j:m<=65535) (a:L.length<=2000000000000):
  Calls Tryz.prog 65 #[.pointer (some ⟨g,0,none⟩), .int .i64 0, .slice At nt ct, .slice C m cr, .bool last] w λe w'=>e= .returned (.bool true)/\kv w w' b0 g A (CN (xX 0 last L) raw):=by
 have R:=η (qI w 0 At nt ct aj E K C m cr);have S:=η (show dN 0 aj m=true by unfold dN;rw[ae rfl];exact aS j);have t:=η (⟨q,i,h,b,j,a⟩ :_/\_/\_/\_/\_/\_);obtain⟨mk,r⟩ :=ν ((if last=true then(1:Int)else 0):Int);have D:Hid (xX 0 last L=L++dv mk 1++dv 0 2):=by show _=_;rw[<-r];rfl
 have o:=η r;have V:0<=mk/\mk<=1:=by cases last <;> simp at r <;> omega
 clear E q i h b j a r;go_enter Tryz.func65,Tryz.ntmps65
 go_wp2_with fail;refine R.out.mono ?_;rintro e w1 ⟨rfl,f⟩;rw[S.out];have O:=η (kv.start t.out.1 f);have X:=η f;clear f
 go_upto_if 24 with fail
 go_cut [11] (λu wx=>u= .int .u32 mk/\wx=w1)
 case first=>
  cases last with
  | false=>
    obtain rfl:mk=0:=o.out.symm
    go_wp2_with fail;go_meet;exact⟨rfl,rfl⟩
  | true=>
    obtain rfl:mk=1:=o.out.symm
    go_wp2_with fail;go_meet;exact⟨rfl,rfl⟩
 obtain⟨rfl,v⟩ :=hcut;obtain rfl:=v.symm;have Q:=η (O.out.put mk 1 ω δ (by have:=t.out.2.2.2.2.2;omega))
 go_wp2_with fail;refine Q.out.mono ?_;rintro e w2 ⟨rfl,G⟩;have P:=η (G.put 0 2 δ δ (by rw[af,aP];have:=t.out.2.2.2.2.2;omega));clear G
 go_wp2_with fail;refine P.out.mono ?_;rintro e I ⟨rfl,F⟩;rw[<-D.out]at F;obtain⟨⟨T,J,N,k,wG⟩,d⟩ :=F;obtain⟨q,i,h,b,j,a⟩ :=t.out
 have l:=Mw I b0 g J N w.heap.size m cr T C _ raw k (d.rA i (ag _) h) d.size (λH=>BA wG (λz e=>by
  obtain⟨W,s,y,_⟩ :=i.2 H;rw[e]at s;injection s with s;rw[s];exact y) (h H)) b (by rw[nM];omega) j
 have B:=η l;have p:=η (⟨wG,d⟩ :_/\_);clear l k wG d q i h b j a
 go_wp2_with fail;refine B.out.mono ?_;rintro e U ⟨rfl,h4⟩;have M:=η (kv.step p.out.2 p.out.1 h4);clear h4
 go_wp2_with fail;go_ret;exact⟨rfl,M.out⟩
theorem zh {aj:List cu} {m:Nat} (a:dN 2 aj m=true):aj.length<1048576/\∀t∈aj,cC t:=by
 unfold dN at a;rw[aa δ]at a;by_cases h:¬((2:Int)=1\/(2:Int)=2)\/1048576<=aj.length
 · rw[ae h]at a;exact absurd a δ
 rw[aa h,gI]at a;exact⟨ω,λt ht=>cM (a t ht)⟩
theorem J1 {t:List cu} (ht:t.length<1048576):(lS t).length<=10000:=by
 have c:=FU (hd:=cV t) (λi hi=>by have:=rV (kt t) i hi;omega) (cY t) (l7 ht);have b:=mH t;have a:=uI t;unfold lS;simp only [List.length_append,aP];rw[sK _ _ ω];omega
theorem Ra (w:World) (b0 g n c:Nat) (A:Option Addr) (L:List Int) (Q:qf w b0 g A n c L) (At:Option Addr) (nt ct:Nat) (aj:List cu) (z:lV w w.heap.size At nt aj) (F:0<nt->∀j,At=some j->¬foot A g j.block) (H:∀t∈aj,0<=t.lit/\t.lit<256)
  (C:Option Addr) (m cr:Nat) (last:Bool) (hm:dN 2 aj m=true) (d:L.length<=2000000000000):
  Calls Tryz.prog 65 #[.pointer (some ⟨g,0,none⟩), .int .i64 2, .slice At nt ct, .slice C m cr, .bool last] w λe w'=>e= .returned (.bool true)/\kv w w' b0 g A (xX 2 last L++lS aj++jY (eY aj) (dm aj) aj):=by
 obtain⟨r,G⟩ :=zh hm;have S:=z.1;have HM:=η (qI w 2 At nt ct aj z ω C m cr);have HF:=η hm;have i:=η (⟨Q,z,F,H,r,G,d,S⟩ :_/\_/\_/\_/\_/\_/\_/\_);obtain⟨mk,T⟩ :=ν ((if last=true then(1:Int)else 0):Int);have am:Hid (xX 2 last L=L++dv mk 1++dv 2 2):=by show _=_;rw[<-T];rfl
 have N:=η T;have Lx:0<=mk/\mk<=1:=by cases last <;> simp at T <;> omega
 clear z Q F H hm r G d T S;go_enter Tryz.func65,Tryz.ntmps65
 go_wp2_with fail;refine HM.out.mono ?_;rintro e w1 ⟨rfl,x⟩;rw[HF.out];have Xg:=η (kv.start i.out.1 x);have Es:=η x;clear x
 go_upto_if 24 with fail
 go_cut [11] (λZ wx=>Z= .int .u32 mk/\wx=w1)
 case first=>
  cases last with
  | false=>
    obtain rfl:mk=0:=N.out.symm
    go_wp2_with fail;go_meet;exact⟨rfl,rfl⟩
  | true=>
    obtain rfl:mk=1:=N.out.symm
    go_wp2_with fail;go_meet;exact⟨rfl,rfl⟩
 obtain⟨rfl,ab⟩ :=hcut;obtain rfl:=ab.symm;have uW:=η (Xg.out.put mk 1 ω δ (by have:=i.out.2.2.2.2.2.2.1;omega))
 go_wp2_with fail;refine uW.out.mono ?_;rintro e w2 ⟨rfl,h2⟩;have Ev:=η (h2.put 2 2 δ δ (by rw[af,aP];have:=i.out.2.2.2.2.2.2.1;omega));clear h2
 go_wp2_with fail;refine Ev.out.mono ?_;rintro e l ⟨rfl,h3⟩;rw[<-am.out]at h3;obtain⟨⟨A3,n3,c3,f,wG⟩,a⟩ :=h3;have b:lV l l.heap.size At nt aj:=(i.out.2.1.fz a (ag _) i.out.2.2.1).more a.size;have al:=η (ye l At nt ct aj b i.out.2.2.2.2.1 λt ht=> ⟨i.out.2.2.2.2.2.1 t ht,i.out.2.2.2.1 t ht⟩);have H3:=η (⟨f,wG,a,b⟩ :_/\_/\_/\_);clear f wG a b
 go_wp2_with fail;refine al.out.mono ?_;rintro e q yK;obtain⟨vv,rfl⟩ :∃v,e= .returned v:=by obtain⟨Al,cl,Ad,M,Ah,ch,V,U,e1,_⟩ :=yK;exact⟨_,e1⟩
 obtain⟨Al,Ad,Ah,V,cl,M,ch,U,rfl,u,Xx⟩ :=GJ.new yK;clear yK;have iA:Below l.heap.size l (q.alloc (.cells #[.slice Al (fJ aj) cl, .slice Ad (fT aj) M, .slice Ah 19 ch, .slice V (cY aj).length U, .int .i64 ((po aj:Nat):Int)] 135)):=u.alloc u.size _;have Q4:=Mj _ b0 g n3 c3 A3 _ (H3.out.1.keeps iA) q.heap.size l.heap.size (q.heap.size+1) aj Al Ad Ah V cl M ch U Xx i.out.2.2.2.2.1 σ (λk I=>(H3.out.1.eJ I).2) (by rw[nM];have:=i.out.2.2.2.2.2.2.1;omega);have B:=η Q4;have O:=η (⟨iA,Xx⟩ :_/\_);clear u Xx iA Q4
 go_wp2_with fail;obtain⟨X,P⟩ :=ν (q.alloc (.cells #[.slice Al (fJ aj) cl, .slice Ad (fT aj) M, .slice Ah 19 ch, .slice V (cY aj).length U, .int .i64 ((po aj:Nat):Int)] 135));have AY:q.heap.size+1=X.heap.size:=by rw[<-P];simp
 rw[P]at B O;rw[P];have JP:=η AY;clear P AY;refine B.out.mono ?_;rintro e Y ⟨rfl,h5⟩;obtain⟨⟨A5,n5,c5,D,ri⟩,s⟩ :=h5;obtain⟨f,wG,a,b⟩ :=H3.out;obtain⟨Q,z,F,H,r,G,d,S⟩ :=i.out;have R:=O.out.2.fz s (by rw[JP.out];exact ag _) λk I=> .inl (f.eJ I).2;obtain⟨k0,k1, -⟩ :=R.cells
 have V5:0<nt->∀j,At=some j->¬foot A3 g j.block:=λK=>BA wG (λj e=>by
  obtain⟨MT,p,y,_⟩ :=z.2 K;rw[e]at p;injection p with p;rw[p];exact y) (F K)
 have o:l.heap.size<=X.heap.size:=O.out.1.size
 have E:0<nt->∀j,At=some j->¬foot A5 g j.block:=λK=>BA ri (λj e=>by
  obtain⟨MT,p,y,_⟩ :=b.2 K;rw[e]at p;injection p with p;rw[p];exact aD y o) (V5 K)
 have J:lV Y l.heap.size At nt aj:=(b.below O.out.1).fz s o V5;have ac:=kH aj;have kf:=lM aj
 have jF:=uS Y b0 g n5 c5 A5 _ D l.heap.size At nt ct aj J (au o s.size) E (λt ht=> ⟨G t ht,H t ht⟩) (by rw[af,nM];have:=J1 r;omega)
  (q.heap.size+1) Al (fJ aj) cl (eY aj) R.lit (by rw[JP.out];exact s.size) ω (l4 r) (q.heap.size+1) Ad (fT aj) M (dm aj) R.bk (by rw[JP.out];exact s.size) ω (kr r)
 have OE:=η jF;have ah:Hid (∀W L',kv Y W b0 g A5 L'->kv w W b0 g A L'):=λW L' h=>kv.step a wG (kv.step (w1:=X) (A1:=A3) (bj.bA O.out.1) (λk I=> .inl I) (kv.step s ri h));clear jF D ri s f wG a b Q z F H r G d S R V5 o E J ac kf B
 go_wp2_with fail;refine OE.out.mono ?_;rintro e w6 ⟨rfl,h6⟩;have bX:=η (ah.out _ _ h6);clear h6 k0 k1
 go_wp2_with fail;go_ret;exact⟨rfl,bX.out⟩
theorem Ej (w:World) (b0 g n c:Nat) (A:Option Addr) (L:List Int) (f:qf w b0 g A n c L) (kind:Int) (At:Option Addr) (nt ct:Nat) (aj:List cu) (j:lV w w.heap.size At nt aj) (r:(nt:Int)<=4611686018427387904) (k:0<nt->∀d,At=some d->¬foot A g d.block) (l:∀t∈aj,0<=t.lit/\t.lit<256)
  (C:Option Addr) (m cr:Nat) (raw:List Int) (q:bU .u8 w w.heap.size C m raw) (p:0<m->∀d,C=some d->¬foot A g d.block) (i:∀x∈raw,0<=x/\x<256) (last:Bool) (a:dN kind aj m=true) (b:L.length<=2000000000000):
  Calls Tryz.prog 65 #[.pointer (some ⟨g,0,none⟩), .int .i64 kind, .slice At nt ct, .slice C m cr, .bool last] w λe w'=>e= .returned (.bool true)/\kv w w' b0 g A (lu kind aj raw last L):=by
 have s:kind=0\/kind=1\/kind=2:=by
  unfold dN at a;by_cases o:kind=0
  · exact .inl o
  rw[aa o]at a;by_cases h:¬(kind=1\/kind=2)\/1048576<=aj.length
  · rw[ae h]at a;exact absurd a δ
  omega
 unfold lu;rcases s with rfl | rfl | rfl
 · rw[ae rfl];refine Gc w b0 g n c A L f At nt ct aj j r C m cr raw q p i last ?_ b;unfold dN at a;rw[ae rfl]at a;exact cM a
 · rw[aa δ,ae rfl];exact JJ w b0 g n c A L f At nt ct aj j k l C m cr last a ω
 rw[aa δ,aa δ];exact Ra w b0 g n c A L f At nt ct aj j k l C m cr last a b
def N7 (t:List cu):Int:=3+eh ig (jV t).1 286+eh iN (jV t).2 30+((Ca t:Nat):Int)
def He (t:List cu):Int:=3+RZ t+eh (eY t) (jV t).1 (fJ t)+eh (dm t) (jV t).2 (fT t)+((Ca t:Nat):Int)
def nB (kind:Int) (t:List cu) (m:Nat):Int:=if kind=0 then 40+8*(m:Int)else if kind=1 then N7 t else He t
theorem Fz {aj:List cu} {m:Nat} (a:dN 1 aj m=true):aj.length<1048576/\∀t∈aj,cC t:=by
 unfold dN at a;rw[aa δ]at a;by_cases h:¬((1:Int)=1\/(1:Int)=2)\/1048576<=aj.length
 · rw[ae h]at a;exact absurd a δ
 rw[aa h,gI]at a;exact⟨ω,λt ht=>cM (a t ht)⟩
theorem OU {b:Nat} {w w':World} (h:Below b w w') (q:Nat):Below b w (w'.drewN q):= ⟨h.os,h.tape,h.output,h.size,h.block⟩
theorem vy (A C:Option Addr) (n m c d:Nat) (l f:List Int) (w:World) (g:bU .i64 w w.heap.size A n l) (hf:bU .i64 w w.heap.size C m f) (a:n<=1000) (b:m<=1000):
  Calls Tryz.prog 119 #[.slice A n c, .slice C m d] w λe w'=>e= .returned (.int .i64 (eh l f (min n m)))/\Below w.heap.size w w':=
 (SY A C n m c d l f w w.heap.size g hf a b).mono λe w' h=> ⟨h.1,by obtain⟨q,rfl⟩ :=h.2;exact OU (aw _ w) q⟩
theorem GS (w:World) (At:Option Addr) (nt ct:Nat) (aj:List cu) (n:lV w w.heap.size At nt aj) (E:∀t∈aj,0<=t.lit/\t.lit<256) (C:Option Addr) (m cr:Nat) (q:dN 1 aj m=true):
  Calls Tryz.prog 93 #[.int .i64 1, .slice At nt ct, .slice C m cr] w λe w'=>e= .returned (.int .i64 (N7 aj))/\Below w.heap.size w w':=by
 obtain⟨D,B⟩ :=Fz q;have A:=n.1;have U:=η (qI w 1 At nt ct aj n ω C m cr);have V:=η q;have i:=η (⟨n,E,D,B,A⟩ :_/\_/\_/\_/\_);have W:Hid (mn ig (jV aj).1 286 ω=mn ig (jV aj).1 286 ω):=rfl;have b1:=mn ig (jV aj).1 286 ω;have b2:=mn iN (jV aj).2 30 ω;have b3:=EK aj;have h:N7 aj=3+eh ig (jV aj).1 286+eh iN (jV aj).2 30+((Ca aj:Nat):Int):=rfl;obtain⟨c1,d⟩ :=ν (eh ig (jV aj).1 286);obtain⟨c2,c⟩ :=ν (eh iN (jV aj).2 30);obtain⟨J,b⟩ :=ν (Ca aj);rw[d,c,b]at h;rw[d]at b1;rw[c]at b2;rw[b]at b3;have Q:0<=c1/\c1<=400000000000000/\0<=c2/\c2<=400000000000000/\(0:Int)<=(J:Int)/\(J:Int)<=400000000000000:=ω;have u:=η h;have v:=η (⟨d,c,b⟩ :_/\_/\_);clear n E q D B A b1 b2 b3 h d c b W;go_enter Tryz.func93,Tryz.ntmps93
 go_wp2_with fail;refine U.out.mono ?_;rintro e w1 ⟨rfl,g⟩;rw[V.out];have s:=η (wW w1 At nt ct aj ((i.out.1.below g).more g.size) (by have:=i.out;omega) λt ht=> ⟨i.out.2.2.2.1 t ht,i.out.2.1 t ht⟩);have x:=η g;clear g
 go_wp2_with fail;refine s.out.mono ?_;rintro e w2 ⟨S,R,rfl,I⟩;have r:=η (pN w2);have o:=η I;clear I
 go_wp2_with fail;refine r.out.mono ?_;rintro e P ⟨Y,cf,Ad,T,rfl,z,y,f⟩;have F:=(o.out.lit.keeps f).rd;have j:=(o.out.bk.keeps f).rd;have l:=η (vy Y (some ⟨S,0,none⟩) 288 286 cf 286 _ _ P z.rd F ω ω);rw[show min 288 286=286 from rfl,v.out.1]at l;have p:=η (⟨y.rd,j,x.out.trans (o.out.vp.mono x.out.size |>.trans (f.mono (au x.out.size o.out.vp.size)))⟩ :_/\_/\_);clear z y f F j
 go_wp2_with fail;refine l.out.mono ?_;rintro e O ⟨rfl,a⟩;have k:=η (vy Ad (some ⟨R,0,none⟩) 32 30 T 30 _ _ O ((p.out.1.below a).more a.size) ((p.out.2.1.below a).more a.size) ω ω);rw[show min 32 30=30 from rfl,v.out.2.1]at k;have M:=η (p.out.2.2.trans (a.mono p.out.2.2.size));clear a
 go_wp2_with fail;refine k.out.mono ?_;rintro e N ⟨rfl,H⟩;have h5:=M.out.trans (H.mono M.out.size);have K:=η (zS N At nt ct aj ((i.out.1.below h5).more h5.size) (by have:=i.out;omega));rw[v.out.2.2]at K;have L:=η h5;clear H h5
 go_wp2_with fail;refine K.out.mono ?_;rintro e Z ⟨rfl,G⟩;have X:=η (L.out.trans (G.mono L.out.size));clear G
 go_wp2_with fail;go_ret;exact⟨cn (by rw[u.out]),X.out⟩
inductive CoI (Al Ad:Option Addr) (nl nd cl cd g1 g2:Nat) (c1 c2:Int):Option Addr->Nat->Nat->Option Addr->Nat->Nat->Int->Prop
 | lit:CoI Al Ad nl nd cl cd g1 g2 c1 c2 Al nl cl (some ⟨g1,0,none⟩) 286 286 c1
 | bk:CoI Al Ad nl nd cl cd g1 g2 c1 c2 Ad nd cd (some ⟨g2,0,none⟩) 30 30 c2
theorem OS (w:World) (At:Option Addr) (nt ct:Nat) (aj:List cu) (S:lV w w.heap.size At nt aj) (cW:∀t∈aj,0<=t.lit/\t.lit<256) (C:Option Addr) (m cr:Nat) (Y:dN 2 aj m=true):
  Calls Tryz.prog 93 #[.int .i64 2, .slice At nt ct, .slice C m cr] w λe w'=>e= .returned (.int .i64 (He aj))/\Below w.heap.size w w':=by
 obtain⟨rG,ux⟩ :=zh Y;have o:=S.1;have HM:=η (qI w 2 At nt ct aj S ω C m cr);have HF:=η Y;have f:=η (⟨S,cW,rG,ux,o⟩ :_/\_/\_/\_/\_);clear S cW Y rG ux o;go_enter Tryz.func93,Tryz.ntmps93
 go_wp2_with fail;refine HM.out.mono ?_;rintro e w1 ⟨rfl,l⟩;rw[HF.out];have L:=η (wW w1 At nt ct aj ((f.out.1.below l).more l.size) (by have:=f.out;omega) λt ht=> ⟨f.out.2.2.2.1 t ht,f.out.2.1 t ht⟩);have Es:=η l;clear l
 go_wp2_with fail;refine L.out.mono ?_;rintro e w2 ⟨g1,g2,rfl,hM⟩;have T:=η (Es.out.trans (hM.vp.mono Es.out.size));have K:=η (ye w2 At nt ct aj ((f.out.1.below T.out).more T.out.size) f.out.2.2.1 λt ht=> ⟨f.out.2.2.2.1 t ht,f.out.2.1 t ht⟩);have Cl:=η hM;clear hM
 go_wp2_with fail;refine K.out.mono ?_;rintro e z X;obtain⟨vv,rfl⟩ :∃v,e= .returned v:=by obtain⟨Al,cl,Ad,p,Ah,ch,N,I,e1,_⟩ :=X;exact⟨_,e1⟩
 obtain⟨Al,Ad,Ah,N,cl,p,ch,I,rfl,s,Xx⟩ :=GJ.new X;clear X;have Q:Below w2.heap.size w2 (z.alloc (.cells #[.slice Al (fJ aj) cl, .slice Ad (fT aj) p, .slice Ah 19 ch, .slice N (cY aj).length I, .int .i64 ((po aj:Nat):Int)] 135)):=s.alloc s.size _;have B:Below w.heap.size w (z.alloc (.cells #[.slice Al (fJ aj) cl, .slice Ad (fT aj) p, .slice Ah 19 ch, .slice N (cY aj).length I, .int .i64 ((po aj:Nat):Int)] 135)):=T.out.trans (Q.mono T.out.size);have RB:=(Cl.out.lit.keeps Q).rd;have E:=(Cl.out.bk.keeps Q).rd;have b:=η (⟨Xx,B,RB,E⟩ :_/\_/\_/\_);clear s Xx Q B RB E;go_upto_region 10 with fail
 obtain⟨a,O⟩ :=ν (z.alloc (.cells #[.slice Al (fJ aj) cl, .slice Ad (fT aj) p, .slice Ah 19 ch, .slice N (cY aj).length I, .int .i64 ((po aj:Nat):Int)] 135));have V:z.heap.size+1=a.heap.size:=by rw[<-O];simp
 rw[O]at b;rw[O];obtain⟨G,hG⟩ :=ν (z.heap.size);rw[hG]at b V;rw[hG];rw[V]at b;clear O V hG;have ab:=kH aj;have kf:=lM aj;have b1:=mn (eY aj) (jV aj).1 (fJ aj) ω;have b2:=mn (dm aj) (jV aj).2 (fT aj) ω;have b3:=EK aj;have b4:=uN (vG aj) (cY aj) (l7 f.out.2.2.1);have b5:=mH aj;have b6:=uI aj;have Z:He aj=3+RZ aj+eh (eY aj) (jV aj).1 (fJ aj)+eh (dm aj) (jV aj).2 (fT aj)+((Ca aj:Nat):Int):=rfl;have rJ:0<=RZ aj/\RZ aj<=10000:=by unfold RZ;omega
 have u:∀W,Below a.heap.size a W->Calls Tryz.prog 121 #[.pointer (some ⟨G,0,none⟩)] W λe w'=>e= .returned (.int .i64 (RZ aj))/\Below a.heap.size a w':=λW h=>
  (Ws W G w2.heap.size a.heap.size aj Al Ad Ah N cl p ch I (b.out.1.below h (ag _)) f.out.2.2.1 h.size).mono λe w' q=> ⟨q.1,h.trans (q.2.mono h.size)⟩
 have y:∀W,Below a.heap.size a W->∀A n c F k d v,CoI Al Ad (fJ aj) (fT aj) cl p g1 g2 (eh (eY aj) (jV aj).1 (fJ aj)) (eh (dm aj) (jV aj).2 (fT aj)) A n c F k d v->Calls Tryz.prog 119 #[.slice A n c, .slice F k d] W λe w'=>e= .returned (.int .i64 v)/\Below a.heap.size a w':=λW h A n c F k d v hc=>by
  cases hc with
  | lit=>
    have:=vy Al (some ⟨g1,0,none⟩) (fJ aj) 286 cl 286 _ _ W ((b.out.1.lit.below h).more h.size) ((b.out.2.2.1.below h).more h.size) ω ω;rw[show min (fJ aj) 286=fJ aj by omega]at this;exact this.mono λe w' q=> ⟨q.1,h.trans (q.2.mono h.size)⟩
  | bk=>
    have:=vy Ad (some ⟨g2,0,none⟩) (fT aj) 30 p 30 _ _ W ((b.out.1.bk.below h).more h.size) ((b.out.2.2.2.below h).more h.size) ω ω;rw[show min (fT aj) 30=fT aj by omega]at this;exact this.mono λe w' q=> ⟨q.1,h.trans (q.2.mono h.size)⟩
 have x:∀W,Below a.heap.size a W->Calls Tryz.prog 120 #[.slice At nt ct] W λe w'=>e= .returned (.int .i64 ((Ca aj:Nat):Int))/\Below a.heap.size a w':=λW h=>
  (zS W At nt ct aj ((f.out.1.below (b.out.2.1.trans (h.mono b.out.2.1.size))).more (au b.out.2.1.size h.size)) (by have:=f.out;omega)).mono λe w' q=> ⟨q.1,h.trans (q.2.mono h.size)⟩
 obtain⟨c1,j⟩ :=ν (eh (eY aj) (jV aj).1 (fJ aj));obtain⟨c2,i⟩ :=ν (eh (dm aj) (jV aj).2 (fT aj));obtain⟨J,g⟩ :=ν (Ca aj);obtain⟨r,P⟩ :=ν (RZ aj);obtain⟨nl,o⟩ :=ν (fJ aj);obtain⟨nd,D⟩ :=ν (fT aj);rw[j,i,g,P]at Z;rw[j,o]at b1;rw[i,D]at b2;rw[g]at b3;rw[P]at rJ;rw[j,i,o,D]at y;rw[g]at x;rw[P]at u;obtain⟨k0,k1, -⟩ :=b.out.1.cells;rw[o]at k0;rw[D]at k1;have ah:0<=c1/\c1<=400000000000000/\0<=c2/\c2<=400000000000000/\(0:Int)<=(J:Int)/\(J:Int)<=400000000000000/\0<=r/\r<=10000:=by have:=f.out.2.2.1;omega
 have HK:Hid (∀W,Below a.heap.size a W->W.cell? ⟨G,0,none⟩ =some (.slice Al nl cl)/\W.cell? ⟨G,1,none⟩ =some (.slice Ad nd p)):=λW h=>by
  obtain⟨U,q1, -⟩ :=(b.out.1.below h (ag _)).cells;rw[o]at U;rw[D]at q1;exact⟨U,q1⟩
 have ac:Hid (IntKind.i64.wrap (IntKind.i64.wrap (IntKind.i64.wrap (IntKind.i64.wrap (3+r)+c1)+c2)+(J:Int))=3+r+c1+c2+(J:Int)):=by
  show _=_;rw[aK (3+r) ω,aK (3+r+c1) ω,aK (3+r+c1+c2) ω,aK (3+r+c1+c2+(J:Int)) ω]
 have JP:=η u;have M:=η y;have GD:=η x;have Rh:=η Z;have Gl:=η b.out.2.1;have ad:=η (aw a.heap.size a);clear ab kf b1 b2 b3 b4 b5 b6 Z rJ u y x j i g P o D b K L HM;go_cut [6] (λv6 wx=>v6= .int .i64 (He aj)/\Below w.heap.size w wx)
 case first=>
  go_region_law
   (first
     | (have _g:=rj
        go_simp
        go_at_call 120
        refine(GD.out _ rj).mono ?_;rintro e w9 ⟨rfl,YX⟩)
     | (have _g:=R
        go_simp
        go_at_call 119
        refine(M.out _ R _ _ _ _ _ _ _ (by constructor)).mono ?_;rintro e w8 ⟨rfl,rj⟩)
     | (have _g:=H
        go_simp
        go_at_call 119
        refine(M.out _ H _ _ _ _ _ _ _ (by constructor)).mono ?_;rintro e w7 ⟨rfl,R⟩;have q1:=(HK.out _ R).2)
     | (go_simp
        go_at_call 121
        refine(JP.out _ (by exact ad.out.drew)).mono ?_;rintro e w6 ⟨rfl,H⟩;have U:=(HK.out _ H).1;have q1:=(HK.out _ H).2))
  all_goals
   have XP:=η YX;clear YX rj R H
   go_wp2_with fail;go_meet;exact⟨aL (Value.int .i64) (ac.out.trans Rh.out.symm),Gl.out.trans (XP.out.mono Gl.out.size)⟩
 obtain⟨rfl,hb⟩ :=hcut;have HB:=η hb;clear hb
 go_wp2_with fail;go_ret;exact⟨rfl,HB.out⟩
theorem OQ (w:World) (kind:Int) (At:Option Addr) (nt ct:Nat) (aj:List cu) (b:lV w w.heap.size At nt aj) (c:(nt:Int)<=4611686018427387904) (d:∀t∈aj,0<=t.lit/\t.lit<256) (C:Option Addr) (m cr:Nat):
  Calls Tryz.prog 93 #[.int .i64 kind, .slice At nt ct, .slice C m cr] w λe w'=>e= .returned (.int .i64 (if dN kind aj m=true then nB kind aj m else -1))/\Below w.heap.size w w':=by
 by_cases a:dN kind aj m=true
 rotate_left
 · rw[aa a];exact SF w kind At nt ct aj b c C m cr (by simpa using a)
 rw[ae a]
 have g:kind=0\/kind=1\/kind=2:=by
  unfold dN at a;by_cases f:kind=0
  · exact .inl f
  rw[aa f]at a;by_cases h:¬(kind=1\/kind=2)\/1048576<=aj.length
  · rw[ae h]at a;exact absurd a δ
  omega
 unfold nB;rcases g with rfl | rfl | rfl
 · rw[ae rfl];refine EC w At nt ct aj b c C m cr ?_;unfold dN at a;rw[ae rfl]at a;exact cM a
 · rw[aa δ,ae rfl];exact GS w At nt ct aj b d C m cr a
 rw[aa δ,aa δ];exact OS w At nt ct aj b d C m cr a
theorem a2b {l:List cu}:∀t∈l,t.len=0->t.lit.toNat<286->1<=ix (jV l).1 t.lit.toNat:=by
 refine ke (β:=Nat) (motive:=λl=>∀t∈l,t.len=0->t.lit.toNat<286->1<=ix (jV l).1 t.lit.toNat) ?_ ?_ l
 · intro t ht;simp at ht
 intro l u c t ht b a;rw[og];have e:=Da l;have d:=mB l;rcases aN.1 ht with ht | ht
 · have:=c t ht b a;unfold Nh;split
   · simp only;rw[iK];split <;> omega
   simp only;rw[iK];split <;> omega
 obtain rfl:=bg.1 ht;unfold Nh;rw[ae b];simp only;rw[iK,ae ⟨rfl,by rw[d.1];exact a⟩];have:=(e t.lit.toNat).1;omega
theorem Yu {l:List cu}:∀t∈l,cC t->t.len≠0->1<=ix (jV l).1 (257+jg t.len)/\1<=ix (jV l).2 (fk t.bk):=by
 refine ke (β:=Nat) (motive:=λl=>∀t∈l,cC t->t.len≠0->1<=ix (jV l).1 (257+jg t.len)/\1<=ix (jV l).2 (fk t.bk)) ?_ ?_ l
 · intro t ht;simp at ht
 intro l u e t ht b a;rw[og];have d:=Da l;have c:=mB l;obtain⟨_,_,g,f⟩ :=sU b a;rcases aN.1 ht with ht | ht
 · have:=e t ht b a;unfold Nh;split
   · simp only;rw[iK];refine⟨?_,this.2⟩;split <;> omega
   simp only;rw[iK,iK];constructor <;> (split <;> omega)
 obtain rfl:=bg.1 ht;unfold Nh;rw[aa a];simp only;rw[iK,iK,ae ⟨rfl,by rw[c.1];omega⟩,ae ⟨rfl,by rw[c.2];omega⟩];have:=(d (257+jg t.len)).1;have:=(d (fk t.bk)).2;omega
theorem B9 {l:List cu} (c:l.length<1048576) {s:Nat} (h:1<=ix (jV l).1 s) (b:s<286):1<=ix (eY l) s:=by
 have d:=((mU (jV l).1 15).snd (Hw c).1).each s (by rw[(mB l).1];exact b);have e:0<ix (xv l) s:=d.1.2 ω
 have a:s<fJ l:=by
  rcases aZ s (fJ l)with a | a
  · exact a
  have:=kS (xv l) 257 286 s a b;omega
 unfold eY;rw[kD a];omega
theorem Td {l:List cu} (c:l.length<1048576) {s:Nat} (h:1<=ix (jV l).2 s) (b:s<30):1<=ix (dm l) s:=by
 have e:=((mU (jV l).2 15).snd (Hw c).2).each s (by rw[(mB l).2];exact b);have f:0<ix (qw l) s:=e.1.2 ω
 have a:s<fT l:=by
  rcases aZ s (fT l)with a | a
  · exact a
  have:=kS (qw l) 1 30 s a b;omega
 unfold dm;by_cases d:fT l=1/\ix (qw l) 0=0
 · have:s=0:=ω;subst this;omega
 rw[aa d,kD a];omega
theorem Yl {l:List cu} (b:l.length<1048576) {t:cu} (ht:t∈l) (c:cC t) (h:0<=t.lit/\t.lit<256):wu (eY l) (dm l) t:=by
 unfold wu;by_cases a:t.len=0
 · rw[ae a];exact B9 b (a2b t ht a ω) ω
 rw[aa a];obtain⟨_,_,g,f⟩ :=sU c a;obtain⟨e,d⟩ :=Yu t ht c a;exact⟨B9 b e ω,Td b d ω⟩
theorem NW {l:List cu} (a:l.length<1048576):1<=ix (eY l) 256:=B9 a (a2a l) ω
theorem zV:∀s,s<288->1<=ix ig s:=λs a=>by rw[EN s a];split <;> (try split) <;> (try split) <;> omega
theorem Yr {t:cu} (b:cC t) (e:0<=t.lit/\t.lit<256):wu ig iN t:=by
 unfold wu;by_cases a:t.len=0
 · rw[ae a];exact zV _ ω
 rw[aa a];obtain⟨_,_,d,c⟩ :=sU b a;refine⟨zV _ ω, ?_⟩;have:ix iN (fk t.bk)=5:=by unfold iN;rw[Fq _ ω]
 omega
theorem Zi {a:List Rn}:∀r∈a,yu r->1<=ix (xY a) r.c.toNat:=by
 refine ke (β:=Nat) (motive:=λa=>∀r∈a,yu r->1<=ix (xY a) r.c.toNat) ?_ ?_ a
 · intro r b;simp at b
 intro a u e r b d;rw[vF,iK];have f:=Lk a r.c.toNat;rcases aN.1 b with b | b
 · have:=e r b d;split <;> omega
 obtain rfl:=bg.1 b;rw[ae ⟨rfl,by rw[qA];have:=d.1;omega⟩];omega
theorem Ih {l:List cu} (d:l.length<1048576):∀r∈cY l,1<=ix (cV l) r.c.toNat:=λr a=>by
 have b:=l7 d r a;have e:=((mU (xY (cY l)) 7).snd (Um l)).each r.c.toNat (by rw[qA];have:=b.1;omega);have g:=Zi r a b;have f:0<ix (cV l) r.c.toNat:=e.1.2 ω;omega
theorem a0t {l:List cu}:cY l≠[]:=λe=>by
 have h:=(Ji _ (eY l++dm l) rfl);unfold cY at e;have d:=nU l;have g:=kH l;cases c:eY l with
 | nil=>rw[c]at d;simp at d;omega
 | cons a r=>
   rw[c,dA,ov]at e;split at e
   · simp at e
   rename_i i
   have f:ij a (runN a (r++dm l)+1)≠[]:=λb=>by
    rw[ij,dif_neg ω]at b;split at b
    · simp at b
    split at b
    · simp at b
    split at b
    · simp at b
    simp at b
   exact f (List.append_eq_nil_iff.1 e).1
theorem VR {l:List cu} (p:l.length<1048576):gQ (sL (cV l) (po l))=false:=by
 obtain⟨r,o⟩ :∃r,r∈cY l:=by
  cases h:cY l with
  | nil=>exact absurd h a0t
  | cons r _=>exact⟨r,az⟩
 have s:=Ih p r o;have q:=(l7 p r o).1;have d:r.c.toNat<19:=ω;obtain⟨n,m⟩ :=Nv r.c.toNat d;have hN:=uI l
 have a:ll.idxOf r.c.toNat<po l:=by
  rcases aZ (ll.idxOf r.c.toNat) (po l)with f | f
  · exact f
  have h4:=kS (jB.map λk=>ix (cV l) k.toNat) 4 19 _ f n;have j:∀(L:List Int) (g:Int->Int) (i:Nat),i<L.length->ix (L.map g) i=g (ix L i):=λL g i hi=>by simp [ix,hi]
  rw[j _ _ _ n,m]at h4;omega
 have b:=vV (cV l) (k:=po l) ω
 have e:ix (sL (cV l) (po l)) (ll.idxOf r.c.toNat)=ix (cV l) r.c.toNat:=by
  have j:∀(L:List Int) (g:Int->Int) (i:Nat),i<L.length->ix (L.map g) i=g (ix L i):=λL g i hi=>by simp [ix,hi]
  unfold sL;rw[j _ _ _ (by rw[aA];show _<min (po l) 19;omega),kD a,m]
 unfold gQ;rw[List.all_eq_false];refine⟨ix (sL (cV l) (po l)) (ll.idxOf r.c.toNat),xr (by rw[b];exact a), ?_⟩;rw[e];simp;omega
theorem VS (l:List cu):∀i,po l<=i->i<19->ix (cV l) (ix jB i).toNat=0:=λi b a=>by
 have h4:=kS (jB.map λk=>ix (cV l) k.toNat) 4 19 _ b a;have c:∀(L:List Int) (g:Int->Int) (i:Nat),i<L.length->ix (L.map g) i=g (ix L i):=λL g i hi=>by simp [ix,hi]
 rw[c _ _ _ a]at h4;exact h4
end Go.Proofs.YtdhmnlpfhfmpfaaGreat
