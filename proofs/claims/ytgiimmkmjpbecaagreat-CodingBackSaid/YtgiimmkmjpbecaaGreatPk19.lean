/-
  part
-/
import Derived.Test.YtgiimmkmjpbecaaGreatPk18
set_option linter.unusedVariables false
set_option maxRecDepth 100000
set_option maxHeartbeats 8000000
namespace Go.Proofs.YtgiimmkmjpbecaaGreat
open Go.RowKit
theorem y7 (w:World) (At:ax) (nt ct:Nat) (aj:List bY) (hT:lW w w.heap.size At nt aj) (mL:aj.length<1048576) (nC:∀t∈aj,cn t/\0<=t.lit/\t.lit<256):
  Calls Tryz.prog 110 #[.slice At nt ct] w (zv w aj):=by
 have bl:Below w.heap.size w (w.alloc (.cells #[.slice none 0 0, .slice none 0 0, .slice none 0 0, .slice none 0 0, .int .i64 0] 168)):=(aw _ w).alloc (af _) _;have fa:=η (wZ (w.alloc (.cells #[.slice none 0 0, .slice none 0 0, .slice none 0 0, .slice none 0 0, .int .i64 0] 168)) At nt ct aj ((hT.below bl).more σ) (τ hT.1) nC);have uQ:=IC mL;have GV:=η uQ;have MI:Ar (w.alloc (.cells #[.slice none 0 0, .slice none 0 0, .slice none 0 0, .slice none 0 0, .int .i64 0] 168)) w.heap.size 5 (Yu yJ yJ yJ yJ (.int .i64 0)):=Gd w _ _ _ _ _ _;have H0:=η (⟨MI,bl⟩ :_/\_);have Y2:=η mL;clear hT mL nC bl uQ MI
 go_in
 go_wp2_with fail;refine fa.mono ?_;rintro e w2 ⟨g1,g2,rfl,hM⟩
 have po:ou w (w2.alloc (.cells #[.slice none 0 0, .slice none 0 0, .slice none 0 0, .slice none 0 0, .int .i64 0] 168)) w.heap.size w2.heap.size yJ yJ yJ yJ (.int .i64 0):=
  ⟨(H0.1.keeps hM.uY).alloc _,Gd _ _ _ _ _ _ _,(H0.2.trans (hM.uY.mono H0.2.size)).alloc (H0.2.trans (hM.uY.mono H0.2.size)).size _,af _,aB σ hM.uY.size⟩
 have tS:=hM.alloc (.cells #[.slice none 0 0, .slice none 0 0, .slice none 0 0, .slice none 0 0, .int .i64 0] 168);have cv:g1<w2.heap.size/\g2<w2.heap.size:= ⟨(hM.lit.2.lt rfl).2,(hM.bn.2.lt rfl).2⟩;have Tr:=η (su (w2.alloc (.cells #[.slice none 0 0, .slice none 0 0, .slice none 0 0, .slice none 0 0, .int .i64 0] 168)) (some ⟨g1,0,none⟩) 286 286 _ tS.lit.rd 15 δ);have Cv:=η po;have Ct:=η (⟨tS.bn,cv⟩ :_/\_);clear po tS cv hM
 go_wp2_with fail;obtain⟨wa,ah⟩ :=ν (w2.alloc (.cells #[.slice none 0 0, .slice none 0 0, .slice none 0 0, .slice none 0 0, .int .i64 0] 168));obtain⟨P,hP⟩ :=ν (w2.heap.size);obtain⟨R,hR⟩ :=ν (w.heap.size);rw[ah,hP]at Cv;rw[ah,hP]at Ct;rw[ah]at Tr;rw[ah,hP];rw[show ou w wa w.heap.size P=ou w wa R P by rw[hR]]at Cv;rw[hR];clear ah hP hR H0;clear w2;refine Tr.mono ?_;rintro e w3 ⟨j,x,L,rfl,bM,KU, -,da⟩;have e3:L=xt aj:=(da GV.1).eq;rw[GV.1];subst e3;have h3:=Cv.keeps bM;have de:P<wa.heap.size:=Cv.box.lt;have f:ai j≠some P:=λe=>by have:=(KU.2.lt e).1;omega
 have xW:=Ct.1.keeps bM;obtain⟨⟨x0, -⟩,z⟩ :=h3.cells;have z0:=z 0 ω;rw[Jw]at KU⊢
 have cq:ai (some (⟨g2,0,none⟩ :Addr))≠some P:=λe=>by
  have e':g2=P:=by injection e
  have:=Ct.2.2;omega
 have Y7:=η (⟨h3.a3F (.slice j 286 x),(KU.far (p:= ⟨P,0,none⟩) f (.slice j 286 x)).more (b1:=R+1) (τ Cv.KW),xW.far (p:= ⟨P,0,none⟩) cq (.slice j 286 x),f,de⟩ :_/\_/\_/\_/\_);clear z h3 f xW KU da bM de Tr Cv Ct cq
 go_wp2_with fail;obtain⟨wb,DW⟩ :=ν (w3.setCell ⟨P,0,none⟩ (.slice j 286 x));rw[DW]at Y7;have dl:=η (su wb (some ⟨g2,0,none⟩) 30 30 _ Y7.2.2.1.rd 15 δ);have ce:Hid (P<wb.heap.size):=Y7.1.box.lt;rw[DW];clear DW x0 z0;clear w3;refine dl.mono ?_;rintro e w4 ⟨u,y,D,rfl,bI,M, -,cX⟩;have e4:D=qp aj:=(cX GV.2).eq;rw[GV.2];subst e4;have h4:=Y7.1.keeps bI;have f:ai u≠some P:=λe=>by have:=(M.2.lt e).1;have:=ce.out;omega
 have cp:=Y7.2.1.keeps bI;have co:∀k,ai j=some k->ai u≠some k:=λk h1 h2=>by have:=(M.2.lt h2).1;have:=(Y7.2.1.2.lt h1).2;omega
 obtain⟨⟨-,x1, -⟩,z⟩ :=h4.cells;have z1:=z 1 ω;rw[zQ]at M⊢;have N:=η (⟨h4.a3G (.slice u 30 y),(⟨cp.far (p:= ⟨P,1,none⟩) Y7.2.2.2.1 (.slice u 30 y),(M.far (p:= ⟨P,1,none⟩) f (.slice u 30 y)).more (b1:=R+1) (ε Y7.1.KW ce.out),Y7.2.2.2.1,f,co⟩ :wL (R+1) _ P j u 286 x 30 y (xt aj) (qp aj))⟩ :_/\_);clear z h4 f cp co M cX bI dl Y7;go_upto_region 5 with fail
 obtain⟨wc,bi⟩ :=ν (w4.setCell ⟨P,1,none⟩ (.slice u 30 y));rw[bi]at N;rw[bi];clear bi x1 z1;clear ce;clear w4 wb;go_cut [] (λwx=>ou w wx R P (.slice j (fP aj) x) (.slice u (fX aj) y) (.slice none 0 0) (.slice none 0 0) (.int .i64 0)/\wL (R+1) wx P j u (fP aj) x (fX aj) y ((xt aj).take (fP aj)) ((qp aj).take (fX aj)))
 case first=>
  obtain⟨⟨x0,x1,x2,x3,x4⟩,z⟩ :=N.1.cells;have z0:=z 0 ω;have z1:=z 1 ω;have cz:Hid (∀W,wL (R+1) W P j u 286 x 30 y (xt aj) (qp aj)->∀A n c few m,TrI j u x y (fP aj) (fX aj) A n c few m->Calls Tryz.prog 126 #[.slice A n c, .int .i64 few] W λe w'=>e= .returned (.slice A m c)/\W=w'):=λW h=>XN W h;obtain⟨n1,rz⟩ :=ν (fP aj);obtain⟨G,T⟩ :=ν (fX aj);obtain⟨l1,yD⟩ :=ν (xt aj);obtain⟨l2,B⟩ :=ν (qp aj);have hR:=N.2;rw[rz,T,yD,B]at cz;rw[yD,B]at hR;have HE:=η (⟨rz,T,yD,B⟩ :_/\_/\_/\_);have hb:n1<=286/\G<=30:=by have:=kI aj;have:=lK aj;omega
  rw[yD,B]at N;have HB:=η hb;clear rz T yD B hb GV Y2
  go_wp2_with fail
  go_region_law
   ((go_simp;go_at_call 126;(refine(cz _ (by first | exact hR | exact hR.drew) _ _ _ _ _ (by constructor)).mono ?_);rintro e w5 ⟨rfl,rfl⟩))
  all_goals
   obtain⟨rz,T,yD,B⟩ :=HE.out;have h5:=(N.1.a3F (.slice j n1 x)).a3G (.slice u G y);have h6:=(N.1.a3G (.slice u G y)).a3F (.slice j n1 x);have h7:=((hR.put 0 (.slice j n1 x)).put 1 (.slice u G y)).pre HB.1 HB.2;have h8:=((hR.put 1 (.slice u G y)).put 0 (.slice j n1 x)).pre HB.1 HB.2;have fb:=η (⟨h5,h6,h7,h8⟩ :_/\_/\_/\_);have SF:=η (⟨rz,T,yD,B⟩ :_/\_/\_/\_);clear h5 h6 h7 h8 rz T yD B HE
   go_wp2_with fail;go_meet;obtain⟨h5,h6,h7,h8⟩ :=fb.out;obtain⟨rz,T,yD,B⟩ :=SF.out;rw[rz,T,yD,B]
   first | exact⟨h5.drew,h7.drew⟩ | exact⟨h6.drew,h8.drew⟩
 have HC:=η hcut;clear hcut N;have SS:=lK aj;obtain⟨G,T⟩ :=ν (fX aj);rw[T]at SS;obtain⟨v,hv⟩ :=ν (ix (qp aj) 0);have Q:=η (⟨T,hv⟩ :_/\_);have xJ:=η HC.out;rw[T]at xJ;obtain⟨gd,er⟩ :∃gd,u=some ⟨gd,0,none⟩ :=xJ.2.bn.2.addr ω;subst er;obtain⟨y0,yz⟩ :=xJ.2.bn.head (i:=0) ω;rw[kF ω,hv]at y0;obtain⟨⟨x0,x1,x2,x3,x4⟩,z⟩ :=xJ.1.cells;clear T hv;have HY:=η (⟨y0,yz,x1,SS⟩ :_/\_/\_/\_);clear y0 yz x0 x1 x2 x3 x4 z;go_upto_region 6 with fail
 go_cut [45] (λec wx=>ec= .bool (decide (G=1/\v=0))/\wx=wc)
 case first=>
  obtain⟨y0,yz,x1,SS⟩ :=HY.out;by_cases h1:G=1
  · subst h1;by_cases h0:v=0
    · subst h0
      go_wp2_with fail;all_goals go_meet
      all_goals exact⟨rfl,rfl⟩
    have fn:(v==0)=false:=by simpa using h0
    have hf:=η (show false=decide ((1:Nat)=1/\v=0) from(aP λh=>h0 h.2).symm)
    go_wp2_with fail;all_goals go_meet
    all_goals exact⟨bf Value.bool hf.out,rfl⟩
  have fl:((G:Int)==1)=false:=ξ;have hf:=η (show false=decide (G=1/\v=0) from(aP λh=>h1 h.1).symm)
  go_wp2_with fail;all_goals go_meet
  all_goals exact⟨bf Value.bool hf.out,rfl⟩
 obtain⟨rfl,ee⟩ :=hcut;obtain rfl:=ee.symm
 go_upto_if 45 with fail
 go_cut [] (λwx=>ou w wx R P (.slice j (fP aj) x) (.slice (some ⟨gd,0,none⟩) G y) (.slice none 0 0) (.slice none 0 0) (.int .i64 0)/\wL (R+1) wx P j (some ⟨gd,0,none⟩) (fP aj) x G y (eU aj) (dm aj))
 case first=>
  by_cases hc:G=1/\v=0
  rotate_left
  · rw[aP hc];have al:dm aj=(qp aj).take G:=by unfold dm;rw[a8 (by rw[Q.1,Q.2];exact hc),Q.1]
    have O:=η xJ.out;rw[<-al]at O;clear al
    go_wp2_with fail;all_goals go_meet
    all_goals exact O
  rw[aX hc];obtain⟨y0,yz,x1,SS⟩ :=HY.out;obtain⟨e1,e2⟩ :=hc;have al:dm aj=[1]:=by unfold dm;rw[aa ⟨by rw[Q.1];exact e1,by rw[Q.2];exact e2⟩]
  have Y:Hid (∀W,wL (R+1) W P j (some ⟨gd,0,none⟩) (fP aj) x G y ((xt aj).take (fP aj)) ((qp aj).take G)->wL (R+1) (W.setCell ⟨gd,0,none⟩ (.int .i64 1)) P j (some ⟨gd,0,none⟩) (fP aj) x G y (eU aj) (dm aj)):=λW h=>by
   refine⟨h.lit.far (p:= ⟨gd,0,none⟩) (λe=>h.ld _ e rfl) _, ?_,h.lp,h.dp,h.ld⟩;have U:=h.bn.put (i:=0) ω 1;rw[al]
   have e9:((qp aj).take G).set 0 1=[1]:=by
    have Vl:=zQ aj;rw[e1];cases es:qp aj with
    | nil=>rw[es]at Vl;simp at Vl
    | cons a b=>simp
   rw[e9]at U;exact U
  have hP:gd≠P:=λe=>xJ.2.dp (by rw[e];rfl);have ZH:R≠gd:=λe=>by have h1:R+1<=gd:=(xJ.2.bn.2.lt rfl).1;omega
  have O:=η (⟨xJ.1.far (p:= ⟨gd,0,none⟩) ZH (λe=>hP e.symm) (by have h1:R+1<=gd:=(xJ.2.bn.2.lt rfl).1;have h2:=xJ.1.S3;show w.heap.size<=gd;omega) (.int .i64 1),Y.out _ xJ.2⟩ :_/\_);subst e1;clear al Y hP ZH e2
  go_wp2_with fail;all_goals go_meet
  all_goals exact O
 have Z:=η hcut;clear hcut xJ HC HY;obtain⟨u,KL⟩ :∃A:ax,(some ⟨gd,0,none⟩ :ax)=A:= ⟨_,rfl⟩;rw[KL]at Z;rw[<-Q.1]at Z;obtain⟨nl,fG⟩ :=ν (fP aj);obtain⟨nd,Cm⟩ :=ν (fX aj);obtain⟨l,hl⟩ :=ν (eU aj);obtain⟨d,hd⟩ :=ν (dm aj);rw[fG,Cm,hl,hd]at Z;have ap:nl<=286/\nd<=30:=by have:=kI aj;have:=lK aj;omega
 have CT:∀i,i<(l++d).length->0<=ix (l++d) i:=λi hi=>by
  rw[<-hl,<-hd]at hi⊢;exact(F6 Y2.out i hi).1
 have eS:Hid (cY aj=jM (l++d)):=by show _=_;rw[<-hl,<-hd];rfl
 have HE:=η (⟨fG,Cm,hl,hd,ap,CT⟩ :_/\_/\_/\_/\_/\_);clear fG Cm hl hd ap CT KL Q;go_upto_region 8 with fail
 go_cut [] (λwx=>∃Ar nr cr,ou w wx R P (.slice j nl x) (.slice u nd y) (.slice none 0 0) (.slice Ar nr cr) (.int .i64 0)/\wL (R+1) wx P j u nl x nd y l d/\l4 wx (R+1) Ar nr cr (cY aj)/\ai Ar≠some P)
 case first=>
  obtain⟨i0,hi,ac,ab,H⟩ :=aL zD;have Hi:=η (⟨hi,ac,ab,H⟩ :_/\_/\_/\_);clear hi ac ab H;obtain⟨⟨x0,x1,x2,x3,x4⟩,z⟩ :=Z.1.cells;have cA:=Z.1.alloc (.cells #[] 3);have IM:=Z.2.alloc (.cells #[] 3);have ex:aT .i64 (wc.alloc (.cells #[] 3)) (R+1) 3 (some ⟨wc.heap.size,0,none⟩) 0 0 []:=aT.lit (k:= .i64) (w:=wc) rfl [] 3 (ε Z.1.box.lt Z.1.KW) δ;obtain⟨⟨y0,y1, -, -, -⟩, -⟩ :=cA.cells;have ca:=Z.1.box.lt;have bt:=Z.1.KW;have ef:wc.heap.size≠P:=ω;obtain⟨fG,Cm,hl,hd,ap,CT⟩ :=HE.out;have ch:R+1<=(wc.alloc (.cells #[] 3)).heap.size:=ξ;have dq:Hid (∀k,wc.heap.size<=k->R<k/\k≠P/\ai j≠some k/\ai u≠some k):=λk I=> ⟨ω,ω,λe=>by have:=(Z.2.lit.2.lt e).2;omega,λe=>by have:=(Z.2.bn.2.lt e).2;omega⟩;have eY:Hid (∀k,ai (some (⟨wc.heap.size,0,none⟩ :Addr))=some k->R<k/\k≠P/\ai j≠some k/\ai u≠some k):=λk I=>dq.out k (by injection I with I;exact jC I);have fr:=η ap;clear fG Cm hl hd CT GV Y2 x2 x3 x4 z ca bt ef;have ev:=cA.drew;have ZF:=IM.drew
  go_wp2_with fail
  go_region_law
   (first
     | (have _g:=lQ
        go_simp
        go_at_call 127
        refine dj.mono ?_;rintro e w6 ⟨Ar,nr,cr,rfl,il,kE⟩;have s6:=q5.1.keeps kE;have r6:=q5.2.keeps kE;obtain⟨⟨-, -, -,v3, -⟩,vz⟩ :=s6.cells;have du:=vz 3 ω)
     | (have _g:=M
        refine eK .i64 (R+1) 3 i0 8 rfl (.tmp 52) (.tmp 54) _ rfl Tryz.underlying80 Hi.1 Hi.2.1 Hi.2.2.1 Hi.2.2.2 rfl M rfl q4.2.bn.rd ω ω Bc ?_;intro A5 c5 w5 lQ od jF;have q5:=JI q4.1 q4.2 (λk I=>dq.out k (eu k I)) od;have T9:=Xh w5 A5 (nl+nd) c5 _ (l++d) lQ.rd (af _) ω HE.2.2.2.2.2;rw[<-eS.out]at T9;have dj:=η T9;clear T9)
     | (refine eK .i64 (R+1) 3 i0 8 rfl (.tmp 49) (.tmp 51) _ rfl Tryz.underlying80 Hi.1 Hi.2.1 Hi.2.2.1 Hi.2.2.2 rfl ex rfl IM.lit.rd ω ω ch ?_
        intro A4 c4 w4 M cs dY;rw[bX,ba]at M;have q4:=JI ev ZF eY.out cs;obtain⟨⟨-,v1, -, -, -⟩, -⟩ :=q4.1.cells;have Bc:R+1<=w4.heap.size:=aq ch cs.size
        have eu:∀k,ai A4=some k->wc.heap.size<=k:=λk I=>by
         rcases dY with h | h
         · rw[h]at I;injection I with I;exact jC I
         rw[h]at I;injection I with I;rw[<-I];simp))
  all_goals
   have S:ai Ar≠some P:=λe=>by have h1:w5.heap.size<=P:=(il.2.lt e).1;have h2:=q5.1.box.lt;omega
   have Y:=η (⟨s6.a9B (.slice Ar nr cr),r6.put 3 (.slice Ar nr cr),(show l4 (w6.setCell ⟨P,3,none⟩ (.slice Ar nr cr)) (R+1) Ar nr cr (cY aj) from⟨il.1,((il.more (b1:=R+1) (aq Bc od.size)).2).far (p:= ⟨P,3,none⟩) S _⟩),S⟩ :_/\_/\_/\_);clear s6 r6 v3 vz du S dj
   go_wp2_with fail;go_meet;exact⟨Ar,nr,cr,Y.out⟩
 obtain⟨Ar,nr,cr,lj,an,M,cl⟩ :=hcut;obtain⟨i0,hi,ac,ab,H⟩ :=aL zD;have oL:∀W,(Instr.makeSlice 80 (.int .i64 19) (.int .i64 19)).run Tryz.prog W= .ok (.slice (some ⟨W.heap.size,0,none⟩) 19 19) (W.alloc (.cells (eB 19 (.int .i64 0)) 3)):=λW=>fW (P:=Tryz.prog) 80 3 i0 (.int .i64 0) Tryz.underlying80 hi ac ab rfl .i64 .i64 19 (by rw[H];omega) ω W;have ca:=lj.box.lt;have bt:=lj.KW
 have hH:PlH w (wc.alloc (.cells (eB 19 (.int .i64 0)) 3)) R P wc.heap.size j u nl x nd y l d Ar nr cr (cY aj) (xX []):=
  ⟨lj.alloc _,an.alloc _,M.alloc _,cl,aT.zeros wc rfl 19 _ ω ω,ω,λe=>by have:=(an.lit.2.lt e).2;omega,λe=>by have:=(an.bn.2.lt e).2;omega,λe=>by have:=(M.2.lt e).2;omega⟩
 obtain⟨⟨-, -, -,v3, -⟩,vz⟩ :=(lj.alloc (.cells (eB 19 (.int .i64 0)) 3)).cells;have HH:=η hH;have CR:=η M.1;have xm:=mF aj;have eg:nr<=316:=by rw[M.1];exact xm
 have fi:(0:Int)<=nr/\(nr:Int)<=316:=ω;have a3X:=η (kY Y2.out);clear lj an M cl hi ac ab H ca bt hH vz xm eg Z
 go_wp2_with fail;clear oL v3;obtain⟨gh,bB⟩ :=ν (wc.heap.size);obtain⟨wd,be⟩ :=ν (wc.alloc (.cells (eB 19 (.int .i64 0)) 3));rw[bB,be]at HH;rw[bB,be];clear bB be;obtain⟨F,J⟩ :=ν (cY aj);rw[J]at HH CR a3X;have Cu:=η J;clear J;go_loopg [62] nr (λ(gk:Nat) (v62:Value) wx=>∃k:Nat,v62= .int .i64 k/\k<=nr/\Hid (PlH w wx R P gh j u nl x nd y l d Ar nr cr F (xX (F.take k)))/\Hid (gk=nr-k))
 case atStart=>exact⟨0,rfl,aG _,HH.out,rfl⟩
 clear HH;obtain⟨k,rfl,I,hs,hg⟩ :=hrel;by_cases am:k<nr
 · have qB:(k:Int)<(nr:Int)/\(0:Int)<=(k:Int):=ω;obtain⟨ad,hA,et,a0,a1,a2⟩ :=hs.out.o.rd.Y8 am;have rI:k<F.length:=by rw[<-CR.out];exact am
   have jT:=a3X.out _ (Bx rI);have jB:=Gp rI;obtain⟨⟨C,V,E⟩,hr⟩ :∃r,p9 F k=r:= ⟨_,rfl⟩;rw[hr]at a0 a1 a2 jT jB;have cx:0<=C/\C<=18:=jT.1;obtain⟨c,rfl⟩ :=aF cx.1;replace a0:wr.cell? (ad.add (k*3))=some (.int .i64 (c:Int)):=a0;replace a1:wr.cell? { block:=(ad.add (k*3)).block,off:=(ad.add (k*3)).off+1 }=some (.int .i64 V):=a1;replace a2:wr.cell? { block:=(ad.add (k*3)).block,off:=(ad.add (k*3)).off+2 }=some (.int .i64 E):=a2;have cw:c<19:=ω;have Ha:(0:Int)<=(c:Int)/\(c:Int)<19:=ω;have bs:=hs.out.alloc (.cells #[.int .i64 (c:Int), .int .i64 V, .int .i64 E] 188);obtain⟨y0,yz⟩ :=bs.h.head (i:=c) cw;have kA:=Mx (F.take k) c;have AW:(F.take k).length<=k:=by rw[aD];exact eR _ _
   have bG:=bs.set cw (ix (xX (F.take k)) c+1);have cj:(xX (F.take k)).set c (ix (xX (F.take k)) c+1)=xX (F.take (k+1)):=by rw[jB,vx];rfl
   rw[cj]at bG;obtain⟨X,hX⟩ :=ν (ix (xX (F.take k)) c);rw[hX]at bG kA y0;have Mk:0<=X/\X<=316:=ω;have Y:=η bG;have ot:=η am;subst hA;clear et jT jB hr cx bs kA AW bG cj hX rI am
   go_wp2_with fail;go_roundg (nr-(k+1))
   case measure=>have:=hg.out;have:=ot.out;omega
   case rel=>exact⟨k+1,by go_num,ot.out,Y.out,rfl⟩
 obtain rfl:k=nr:=ω;have qB:¬(k:Int)<(k:Int):=ω;have jB:F.take k=F:=aA (by rw[<-CR.out];exact af _);have hH:=hs.out;rw[jB]at hH;have dk:=η (su wr (some ⟨gh,0,none⟩) 19 19 _ hH.h.rd 7 δ);have O:=η hH;clear jB hH hs hg am I
 go_wp2_with fail;refine dk.mono ?_;rintro e w5 ⟨AH,cH,L,rfl,lZ,lQ, -,cW⟩;have uQ:=Va aj;rw[Cu.out]at uQ
 have e5:L=cU aj:=by
  have:=(cW uQ).eq;rw[this,<-Cu.out];rfl
 rw[uQ];subst e5;have AY:=mE aj;have s5:=O.s.keeps lZ;have r5:=O.r.keeps lZ;have o5:=O.o.keeps lZ;have f:ai AH≠some P:=λe=>by have h1:=(lQ.2.lt e).1;have h2:=O.s.box.lt;omega
 obtain⟨⟨-, -,v2, -, -⟩,vz⟩ :=s5.cells;have ea:=vz 2 ω;rw[AY]at lQ⊢;have s6:=s5.a9A (.slice AH 19 cH);have r6:=r5.put 2 (.slice AH 19 cH);have o6:l4 (w5.setCell ⟨P,2,none⟩ (.slice AH 19 cH)) (R+1) Ar k cr F:= ⟨o5.1,o5.2.far (p:= ⟨P,2,none⟩) O.op _⟩;have h6:=(lQ.far (p:= ⟨P,2,none⟩) f (.slice AH 19 cH)).more (b1:=R+1) (ε O.s.KW O.s.box.lt);obtain⟨⟨-, -, -, -,x4⟩,xz⟩ :=s6.cells;have ds:=xz 4 ω;have s7:=s6.a0H (.int .i64 19);have r7:=r6.put 4 (.int .i64 19);have o7:l4 ((w5.setCell ⟨P,2,none⟩ (.slice AH 19 cH)).setCell ⟨P,4,none⟩ (.int .i64 19)) (R+1) Ar k cr F:= ⟨o6.1,o6.2.far (p:= ⟨P,4,none⟩) O.op _⟩;have h7:=h6.far (p:= ⟨P,4,none⟩) f (.int .i64 19);have H7:=η (⟨s7,r7,o7,h7,f,O.op⟩ :_/\_/\_/\_/\_/\_);clear uQ AY s5 r5 o5 f vz s6 r6 o6 h6 xz s7 r7 o7 h7 lQ cW lZ dk O;go_upto_region 17 with fail
 obtain⟨wf,Jh⟩ :=ν ((w5.setCell ⟨P,2,none⟩ (.slice AH 19 cH)).setCell ⟨P,4,none⟩ (.int .i64 19));rw[Jh]at H7;rw[Jh];clear Jh v2 ea x4 ds;clear w5;go_cut [9] (λv9 wx=>∃go,v9= .pointer (some ⟨go,0,none⟩)/\rN wx go/\wf.heap.size<=go/\Below wf.heap.size wf wx)
 case first=>
  go_wp2_with fail;refine(Ed wf).mono ?_;rintro e w6 ⟨rfl,rfl⟩;have KG:Hid (wf.heap.size+1=(wf.alloc (.cells kC 189)).heap.size):=by show _=_;simp
  go_wp2_with (refine uN rfl (.tmp 9) (.tmp 81) rfl rfl (wf.heap.size+1) KG.out rfl rfl _ rfl ?_)
  go_meet;exact⟨_,rfl,by have U:=rN.new (wf.alloc (.cells kC 189));rw[<-KG.out]at U;exact U,ft _,((aw _ _).alloc (af _) _).alloc σ _⟩
 obtain⟨go,rfl,cm,en,cy⟩ :=hcut;obtain⟨s7,r7,o7,h7,f,ci⟩ :=H7.out;have cg:KH w wf R P j u AH Ar nl x nd y cH k cr l d F (cU aj) 19:= ⟨s7,r7,o7,ci,h7,f⟩;have aE:=cg.keeps cy;have db:P≠go:=by have:=s7.box.lt;omega
 have cB:R≠go:=by have:=s7.box.lt;have:=s7.KW;omega
 obtain⟨hd,uo⟩ :=ν (cU aj);have HN:Hid (kZ (jI.map λk=>ix hd k.toNat) 4 19=oZ aj):=by show _=_;rw[<-uo];rfl
 have lO:Hid (∀i,i<19->0<=ix hd i/\ix hd i<=7):=λi hi=>by
  rw[<-uo];exact rP (kv aj) i (by rw[mE];exact hi)
 rw[uo]at aE;have HZ:=η (⟨aE,cm,db,cB⟩ :_/\_/\_/\_);have eT:=η uo;clear s7 r7 o7 h7 f ci cg aE cm en cy db cB uo H7
 go_wp2_with fail;go_loopg [9] 19 (λ(gk:Nat) (v9:Value) wx=>∃go n:Nat,v9= .pointer (some ⟨go,0,none⟩)/\Hid (KH w wx R P j u AH Ar nl x nd y cH k cr l d F hd n)/\Hid (rN wx go)/\P≠go/\R≠go/\4<=n/\n<=19/\Hid (kZ (jI.map λk=>ix hd k.toNat) 4 n=oZ aj)/\Hid (gk=n))
 case atStart=>exact⟨go,19,rfl,HZ.1,HZ.2.1,HZ.2.2.1,HZ.2.2.2,ω,ω,HN.out,rfl⟩
 clear HZ HN;clear go;obtain⟨go,n,rfl,hz,S,ew,fk,eh,ej,bo,hg⟩ :=hrel;obtain⟨q,rfl⟩ :∃q,n=q+1:= ⟨n-1,ω⟩;obtain⟨n,bv⟩ :=ν (q+1);have Yn:=G9 q ω;obtain⟨K,hK⟩ :=aF Yn.1;have Zz:K<19:=ω
 have bx:ix (jI.map λk=>ix hd k.toNat) q=ix hd K:=by
  have e1:∀(L:ag) (g:Int->Int) (i:Nat),i<L.length->ix (L.map g) i=g (ix L i):=λL g i hi=>by simp [ix,hi]
  rw[e1 _ _ _ (by show q<19;omega),hK];rfl
 obtain⟨X,hX⟩ :=ν (ix hd K);have c1:=S.out.cell (i:=q) ω;rw[hK]at c1;obtain⟨ga,ao⟩ :∃ga,AH=some ⟨ga,0,none⟩ :=hz.out.h.2.addr ω;have c2:=hz.out.h;rw[ao]at c2;have c3:=(c2.head (i:=K) Zz).1;rw[hX]at c3;have bp:=hz.out.s;rw[ao]at bp;obtain⟨⟨-, -,d2, -,d4⟩,dz⟩ :=bp.cells;have df:=dz 4 ω
 have cb:Hid (¬(4<n/\X=0)->n=oZ aj):=λh=>by
  have U:=bo.out;rw[BX (by rw[bx,hX];omega)]at U;omega
 have cc:Hid (4<n/\X=0->kZ (jI.map λk=>ix hd k.toNat) 4 q=oZ aj):=λh=>by
  have U:=bo.out;rw[Ks ⟨ω,by rw[bx,hX];exact h.2⟩]at U;exact U
 have VQ:(n:Int)-1=(q:Int):=ω;have fd:IntKind.i64.wrap ((n:Int)-1)=(q:Int):=by rw[VQ];exact pT ω
 have fg:(0:Int)<=(q:Int)/\(q:Int)<19/\(0:Int)<=(K:Int)/\(K:Int)<19/\(4:Int)<=(n:Int)/\(n:Int)<=19:=ω;rw[bv]at hz hg eh ej d4;have cd:=η (⟨bv,ao⟩ :_/\_);have HD:=η (⟨c1,c3,d2,d4⟩ :_/\_/\_/\_);clear c1 c2 c3 ao bp d2 d4 dz df bx hX hK Yn bv bo;go_upto_region 18 with fail
 go_cut [96] (λeb wx=>eb= .bool (decide (4<n/\X=0))/\Hid (KH w wx R P j u AH Ar nl x nd y cH k cr l d F hd n)/\Hid (rN wx go))
 case first=>
  obtain⟨c1,c3,d2,d4⟩ :=HD.out;by_cases h4:4<n
  · have ey:(4:Int)<(n:Int):=ω;by_cases h0:X=0
    · subst h0;have hf:=η (show true=decide (4<n/\(0:Int)=0) from(aX ⟨h4,rfl⟩).symm)
      go_wp2_with fail;go_quiet (fail);all_goals go_wp2_with fail
      all_goals go_meet
      all_goals exact⟨bf Value.bool hf.out,hz.out.drewN _,S.out⟩
    have fm:(X==0)=false:=by simpa using h0
    have hf:=η (show false=decide (4<n/\X=0) from(aP λh=>h0 h.2).symm)
    go_wp2_with fail;go_quiet (fail);all_goals go_wp2_with fail
    all_goals go_meet
    all_goals exact⟨bf Value.bool hf.out,hz.out.drewN _,S.out⟩
  have ey:decide ((4:Int)<(n:Int))=false:=ξ;have hf:=η (show false=decide (4<n/\X=0) from(aP λh=>h4 h.1).symm)
  go_wp2_with fail;go_quiet (fail);all_goals go_wp2_with fail
  all_goals go_meet
  all_goals exact⟨bf Value.bool hf.out,hz.out.drewN _,S.out⟩
 clear HD hz S;obtain⟨rfl,hz,S⟩ :=hcut;by_cases hc:4<n/\X=0
 · rw[aX hc];obtain⟨⟨-, -, -, -,d4⟩,dz⟩ :=hz.out.s.cells;have df:=dz 4 ω;have HO:Hid (rN (wc.setCell ⟨P,4,none⟩ (.int .i64 (q:Int))) go):=S.out.far (p:= ⟨P,4,none⟩) (λe=>ew e.symm) _;have H:=(hz.out.a0H q).alloc (.cells kC 189)
   have ck:rN ((wc.setCell ⟨P,4,none⟩ (.int .i64 (q:Int))).alloc (.cells kC 189)) wc.heap.size:=by
    have U:=rN.new (wc.setCell ⟨P,4,none⟩ (.int .i64 (q:Int)));have e9:(wc.setCell ⟨P,4,none⟩ (.int .i64 (q:Int))).heap.size=wc.heap.size:=by simp [World.setCell]
    rw[e9]at U;exact U
   have KG:Hid (wc.heap.size=(wc.setCell ⟨P,4,none⟩ (.int .i64 (q:Int))).heap.size):=by show _=_;simp [World.setCell]
   have dd:=hz.out.s.box.lt;have cC:=hz.out.s.res.lt;have Y:=η (⟨H,ck,Nat.ne_of_lt dd,Nat.ne_of_lt cC,hc.1,cc.out hc⟩ :_/\_/\_/\_/\_/\_);clear H ck dz hz S hc cb cc dd cC
   go_wp2_with (first
    | (refine wpList_load_row rfl 189 (.tmp 9) rfl go rfl 189 kC (0,0) _ HO.out Tryz.underlying189 rfl (by kernel_rfl) ?_)
    | (refine uN rfl (.tmp 9) (.tmp 101) rfl rfl wc.heap.size KG.out rfl rfl _ rfl ?_))
   go_roundg q
   case measure=>have:=hg.out;have:=cd.1;omega
   case rel=>exact⟨wc.heap.size,q,rfl,Y.1,Y.2.1,Y.2.2.1,Y.2.2.2.1,ε Y.2.2.2.2.1 cd.1,τ cd.1,Y.2.2.2.2.2,rfl⟩
 rw[aP hc];obtain⟨⟨d0,d1,d2,d3,d4⟩, -⟩ :=hz.out.s.cells;have J:=hz.out.s.res;have r0:=J.aH 0;have r1:=J.aH 1;have r2:=J.aH 2;have r3:=J.aH 3;have r4:=J.aH 4;have c0:=J.az 0;have c1:=J.az 1;have c2:=J.az 2;have c3:=J.az 3;have c4:=J.az 4;have bd:=hz.out;rw[<-eT.out,<-Cu.out,<-HE.2.2.1,<-HE.2.2.2.1]at bd;have PJ:=η (WS bd HE.1 HE.2.1 (cb hc));have a74:=η (λa b c d e=>a0J (a:=a) (b:=b) (c:=c) (d:=d) (e:=e) J);clear bd J S hc cb cc hz
 go_wp2_with ((with_reducible (show bodyPost _ _ _ _ _ _));exact bS (Gl (a74.out (.slice j nl x) (.slice u nd y) (.slice AH 19 cH) (.slice Ar k cr) (.int .i64 (n:Int))) rfl) rfl (PJ.out (.slice j nl x) (.slice u nd y) (.slice AH 19 cH) (.slice Ar k cr) (.int .i64 (n:Int))))
def xW (kind:Int) (last:Bool) (L:ag):ag:=L++dt (if last then 1 else 0) 1++dt kind 2
def lq (kind:Int) (aj:List bY) (raw:ag) (last:Bool) (L:ag):ag:=
 if kind=0 then D7 (xW kind last L) raw else if kind=1 then xW kind last L++ke ij iV aj else xW kind last L++lT aj++ke (eU aj) (dm aj) aj
theorem nO (kind:Int) (last:Bool) (L:ag):(xW kind last L).length=L.length+3:=by unfold xW;rw[ae,ae,aR,aR]
theorem ky.step {w w1 w2:World} {b0 g:Nat} {A A1:ax} {a:ag} (h:bb w w1 (foot A g)) (wB:∀k,ai A1=some k->ai A=some k\/w.heap.size<=k) (b:ky w1 w2 b0 g A1 a):ky w w2 b0 g A a:=by
 obtain⟨⟨A',n',c',q1,q2⟩,q3⟩ :=b;exact ky.next h wB q1 q3 q2
theorem BF {w:World} {g:Nat} {A A1 B:ax} (wB:∀k,ai A1=some k->ai A=some k\/w.heap.size<=k) (d:∀a,B=some a->a.block<w.heap.size) (h:∀a,B=some a->¬foot A g a.block):∀a,B=some a->¬foot A1 g a.block:=λa e b=>by
 rcases b with b | b
 · exact h a e (.inl b)
 rcases wB _ b with c | c
 · exact h a e (.inr c)
 have:=d a e;omega
theorem GJ (w:World) (b0 g n c:Nat) (A:ax) (L:ag) (q:pX w b0 g A n c L) (At:ax) (nt ct:Nat) (aj:List bY) (E:lW w w.heap.size At nt aj) (K:(nt:Int)<=4611686018427387904)
  (C:ax) (m cr:Nat) (raw:ag) (i:bT .u8 w w.heap.size C m raw) (h:0<m->∀z,C=some z->¬foot A g z.block) (b:∀x∈raw,0<=x/\x<256) (last:Bool) (j:m<=65535) (a:L.length<=2000000000000):
  Calls Tryz.prog 101 #[.pointer (some ⟨g,0,none⟩), .int .i64 0, .slice At nt ct, .slice C m cr, .bool last] w λe w'=>e= .returned (.bool true)/\ky w w' b0 g A (D7 (xW 0 last L) raw):=by
 have R:=η (qH w 0 At nt ct aj E K C m cr);have S:=η (show dI 0 aj m=true by unfold dI;rw[aa rfl];exact aX j);have t:=η (⟨q,i,h,b,j,a⟩ :_/\_/\_/\_/\_/\_);obtain⟨mk,r⟩ :=ν ((if last=true then(1:Int)else 0):Int);have D:Hid (xW 0 last L=L++dt mk 1++dt 0 2):=by show _=_;rw[<-r];rfl
 have o:=η r;have V:0<=mk/\mk<=1:=by cases last <;> simp at r <;> omega
 clear E q i h b j a r
 go_in
 go_wp2_with fail;refine R.mono ?_;rintro e w1 ⟨rfl,f⟩;rw[S.out];have O:=η (ky.start t.1 f);have X:=η f;clear f
 go_upto_if 24 with fail
 go_cut [11] (λu wx=>u= .int .u32 mk/\wx=w1)
 case first=>
  cases last with
  | false=>
    obtain rfl:mk=0:=o.symm
    go_wp2_with fail;go_meet;exact⟨rfl,rfl⟩
  | true=>
    obtain rfl:mk=1:=o.symm
    go_wp2_with fail;go_meet;exact⟨rfl,rfl⟩
 obtain⟨rfl,v⟩ :=hcut;obtain rfl:=v.symm;have Q:=η (O.put mk 1 ω δ (τ t.2.2.2.2.2))
 go_wp2_with fail;refine Q.mono ?_;rintro e w2 ⟨rfl,G⟩;have P:=η (G.put 0 2 δ δ (by rw[ae,aR];have:=t.2.2.2.2.2;omega));clear G
 go_wp2_with fail;refine P.mono ?_;rintro e I ⟨rfl,F⟩;rw[<-D.out]at F;obtain⟨⟨T,J,N,k,wC⟩,d⟩ :=F;obtain⟨q,i,h,b,j,a⟩ :=t.out
 have l:=NF I b0 g J N w.heap.size m cr T C _ raw k (d.rp i (af _) h) d.size (λH=>BF wC (λz e=>by
  obtain⟨W,s,y,_⟩ :=i.2 H;rw[e]at s;injection s with s;rw[s];exact y) (h H)) b (by rw[nO];omega) j
 have B:=η l;have p:=η (⟨wC,d⟩ :_/\_);clear l k wC d q i h b j a
 go_wp2_with fail;refine B.mono ?_;rintro e U ⟨rfl,h4⟩;have M:=η (ky.step p.2 p.1 h4);clear h4
 go_wp2_with fail;go_ret;exact⟨rfl,M.out⟩
theorem ze {aj:List bY} {m:Nat} (a:dI 2 aj m=true):aj.length<1048576/\∀t∈aj,cn t:=by
 unfold dI at a;rw[a8 δ]at a;by_cases h:¬((2:Int)=1\/(2:Int)=2)\/1048576<=aj.length
 · rw[aa h]at a;exact absurd a δ
 rw[a8 h,gK]at a;exact⟨ω,λt ht=>cM (a t ht)⟩
theorem JH {t:List bY} (ht:t.length<1048576):(lT t).length<=10000:=by
 have c:=Gq (hd:=cU t) (λi hi=>by have:=rP (kv t) i hi;omega) (cY t) (kY ht);have b:=mF t;have a:=uD t;unfold lT;simp only [List.length_append,aR];rw[sD _ _ ω];omega
theorem Ss (w:World) (b0 g n c:Nat) (A:ax) (L:ag) (P:pX w b0 g A n c L) (At:ax) (nt ct:Nat) (aj:List bY) (z:lW w w.heap.size At nt aj) (E:0<nt->∀j,At=some j->¬foot A g j.block) (G:∀t∈aj,0<=t.lit/\t.lit<256)
  (C:ax) (m cr:Nat) (last:Bool) (hm:dI 2 aj m=true) (d:L.length<=2000000000000):
  Calls Tryz.prog 101 #[.pointer (some ⟨g,0,none⟩), .int .i64 2, .slice At nt ct, .slice C m cr, .bool last] w λe w'=>e= .returned (.bool true)/\ky w w' b0 g A (xW 2 last L++lT aj++ke (eU aj) (dm aj) aj):=by
 obtain⟨r,F⟩ :=ze hm;have R:=z.1;have HM:=η (qH w 2 At nt ct aj z ω C m cr);have HF:=η hm;have i:=η (⟨P,z,E,G,r,F,d,R⟩ :_/\_/\_/\_/\_/\_/\_/\_);obtain⟨mk,S⟩ :=ν ((if last=true then(1:Int)else 0):Int);have al:Hid (xW 2 last L=L++dt mk 1++dt 2 2):=by show _=_;rw[<-S];rfl
 have M:=η S;have Hf:0<=mk/\mk<=1:=by cases last <;> simp at S <;> omega
 clear z P E G hm r F d S R
 go_in
 go_wp2_with fail;refine HM.mono ?_;rintro e w1 ⟨rfl,x⟩;rw[HF.out];have Y5:=η (ky.start i.1 x);have KC:=η x;clear x
 go_upto_if 24 with fail
 go_cut [11] (λY wx=>Y= .int .u32 mk/\wx=w1)
 case first=>
  cases last with
  | false=>
    obtain rfl:mk=0:=M.symm
    go_wp2_with fail;go_meet;exact⟨rfl,rfl⟩
  | true=>
    obtain rfl:mk=1:=M.symm
    go_wp2_with fail;go_meet;exact⟨rfl,rfl⟩
 obtain⟨rfl,Z⟩ :=hcut;obtain rfl:=Z.symm;have PL:=η (Y5.put mk 1 ω δ (τ i.2.2.2.2.2.2.1))
 go_wp2_with fail;refine PL.mono ?_;rintro e w2 ⟨rfl,h2⟩;have EP:=η (h2.put 2 2 δ δ (by rw[ae,aR];have:=i.2.2.2.2.2.2.1;omega));clear h2
 go_wp2_with fail;refine EP.mono ?_;rintro e l ⟨rfl,h3⟩;rw[<-al.out]at h3;obtain⟨⟨A3,n3,c3,f,wC⟩,a⟩ :=h3;have b:lW l l.heap.size At nt aj:=(i.2.1.dx a (af _) i.2.2.1).more a.size;have ah:=η (y7 l At nt ct aj b i.2.2.2.2.1 λt ht=> ⟨i.2.2.2.2.2.1 t ht,i.2.2.2.1 t ht⟩);have H3:=η (⟨f,wC,a,b⟩ :_/\_/\_/\_);clear f wC a b
 go_wp2_with fail;refine ah.mono ?_;rintro e q yE;obtain⟨vv,rfl⟩ :∃v,e= .returned v:=by obtain⟨Al,cl,Ad,K,Ah,ch,U,T,e1,_⟩ :=yE;exact⟨_,e1⟩
 obtain⟨Al,Ad,Ah,U,cl,K,ch,T,rfl,u,Yo⟩ :=Hr.new yE;clear yE;have iE:Below l.heap.size l (q.alloc (.cells #[.slice Al (fP aj) cl, .slice Ad (fX aj) K, .slice Ah 19 ch, .slice U (cY aj).length T, .int .i64 ((oZ aj:Nat):Int)] 168)):=u.alloc u.size _;have R8:=Nq _ b0 g n3 c3 A3 _ (H3.1.keeps iE) q.heap.size l.heap.size (q.heap.size+1) aj Al Ad Ah U cl K ch T Yo i.2.2.2.2.1 σ (λk H=>(H3.1.eG H).2) (by rw[nO];have:=i.2.2.2.2.2.2.1;omega);have B:=η R8;have N:=η (⟨iE,Yo⟩ :_/\_);clear u Yo iE R8
 go_wp2_with fail;obtain⟨V,O⟩ :=ν (q.alloc (.cells #[.slice Al (fP aj) cl, .slice Ad (fX aj) K, .slice Ah 19 ch, .slice U (cY aj).length T, .int .i64 ((oZ aj:Nat):Int)] 168));have Bc:q.heap.size+1=V.heap.size:=by rw[<-O];simp
 rw[O]at B N;rw[O];have KG:=η Bc;clear O Bc;refine B.mono ?_;rintro e X ⟨rfl,h5⟩;obtain⟨⟨A5,n5,c5,Ri,rA⟩,s⟩ :=h5;obtain⟨f,wC,a,b⟩ :=H3.out;obtain⟨P,z,E,G,r,F,d,R⟩ :=i.out;have Q:=N.2.dx s (by rw[KG.out];exact af _) λk H=> .inl (f.eG H).2;obtain⟨k0,k1, -⟩ :=Q.cells
 have VK:0<nt->∀j,At=some j->¬foot A3 g j.block:=λJ=>BF wC (λj e=>by
  obtain⟨PT,p,y,_⟩ :=z.2 J;rw[e]at p;injection p with p;rw[p];exact y) (E J)
 have o:l.heap.size<=V.heap.size:=N.1.size
 have D:0<nt->∀j,At=some j->¬foot A5 g j.block:=λJ=>BF rA (λj e=>by
  obtain⟨PT,p,y,_⟩ :=b.2 J;rw[e]at p;injection p with p;rw[p];exact aB y o) (VK J)
 have I:lW X l.heap.size At nt aj:=(b.below N.1).dx s o VK;have ab:=kI aj;have kA:=lK aj
 have jB:=uL X b0 g n5 c5 A5 _ Ri l.heap.size At nt ct aj I (aq o s.size) D (λt ht=> ⟨F t ht,G t ht⟩) (by rw[ae,nO];have:=JH r;omega)
  (q.heap.size+1) Al (fP aj) cl (eU aj) Q.lit (by rw[KG.out];exact s.size) ω (kX r) (q.heap.size+1) Ad (fX aj) K (dm aj) Q.bn (by rw[KG.out];exact s.size) ω (ku r)
 have YM:=η jB;have ac:Hid (∀W L',ky X W b0 g A5 L'->ky w W b0 g A L'):=λW L' h=>ky.step a wC (ky.step (w1:=V) (A1:=A3) (bb.bC N.1) (λk H=> .inl H) (ky.step s rA h));clear jB Ri rA s f wC a b P z E G r F d R Q VK o D I ab kA B
 go_wp2_with fail;refine YM.mono ?_;rintro e w6 ⟨rfl,h6⟩;have bG:=η (ac _ _ h6);clear h6 k0 k1
 go_wp2_with fail;go_ret;exact⟨rfl,bG.out⟩
theorem EA (w:World) (b0 g n c:Nat) (A:ax) (L:ag) (f:pX w b0 g A n c L) (kind:Int) (At:ax) (nt ct:Nat) (aj:List bY) (j:lW w w.heap.size At nt aj) (r:(nt:Int)<=4611686018427387904) (k:0<nt->∀d,At=some d->¬foot A g d.block) (l:∀t∈aj,0<=t.lit/\t.lit<256)
  (C:ax) (m cr:Nat) (raw:ag) (q:bT .u8 w w.heap.size C m raw) (p:0<m->∀d,C=some d->¬foot A g d.block) (i:∀x∈raw,0<=x/\x<256) (last:Bool) (a:dI kind aj m=true) (b:L.length<=2000000000000):
  Calls Tryz.prog 101 #[.pointer (some ⟨g,0,none⟩), .int .i64 kind, .slice At nt ct, .slice C m cr, .bool last] w λe w'=>e= .returned (.bool true)/\ky w w' b0 g A (lq kind aj raw last L):=by
 have s:kind=0\/kind=1\/kind=2:=by
  unfold dI at a;by_cases o:kind=0
  · exact .inl o
  rw[a8 o]at a;by_cases h:¬(kind=1\/kind=2)\/1048576<=aj.length
  · rw[aa h]at a;exact absurd a δ
  omega
 unfold lq;rcases s with rfl | rfl | rfl
 · rw[aa rfl];refine GJ w b0 g n c A L f At nt ct aj j r C m cr raw q p i last ?_ b;unfold dI at a;rw[aa rfl]at a;exact cM a
 · rw[a8 δ,aa rfl];exact Ku w b0 g n c A L f At nt ct aj j k l C m cr last a ω
 rw[a8 δ,a8 δ];exact Ss w b0 g n c A L f At nt ct aj j k l C m cr last a b
def Oo (t:List bY):Int:=3+eX ij (jY t).1 286+eX iV (jY t).2 30+((Cg t:Nat):Int)
def Ig (t:List bY):Int:=3+Th t+eX (eU t) (jY t).1 (fP t)+eX (dm t) (jY t).2 (fX t)+((Cg t:Nat):Int)
def nE (kind:Int) (t:List bY) (m:Nat):Int:=if kind=0 then 40+8*(m:Int)else if kind=1 then Oo t else Ig t
theorem G3 {aj:List bY} {m:Nat} (a:dI 1 aj m=true):aj.length<1048576/\∀t∈aj,cn t:=by
 unfold dI at a;rw[a8 δ]at a;by_cases h:¬((1:Int)=1\/(1:Int)=2)\/1048576<=aj.length
 · rw[aa h]at a;exact absurd a δ
 rw[a8 h,gK]at a;exact⟨ω,λt ht=>cM (a t ht)⟩
theorem Q4 {b:Nat} {w w':World} (h:Below b w w') (q:Nat):Below b w (w'.drewN q):= ⟨h.os,h.tape,h.output,h.size,h.block⟩
theorem vk (A C:ax) (n m c d:Nat) (l f:ag) (w:World) (g:bT .i64 w w.heap.size A n l) (hf:bT .i64 w w.heap.size C m f) (a:n<=1000) (b:m<=1000):
  Calls Tryz.prog 129 #[.slice A n c, .slice C m d] w λe w'=>e= .returned (.int .i64 (eX l f (min n m)))/\Below w.heap.size w w':=
 (TY A C n m c d l f w w.heap.size g hf a b).mono λe w' h=> ⟨h.1,by obtain⟨q,rfl⟩ :=h.2;exact Q4 (aw _ w) q⟩
theorem I0 (w:World) (At:ax) (nt ct:Nat) (aj:List bY) (n:lW w w.heap.size At nt aj) (E:∀t∈aj,0<=t.lit/\t.lit<256) (C:ax) (m cr:Nat) (q:dI 1 aj m=true):
  Calls Tryz.prog 112 #[.int .i64 1, .slice At nt ct, .slice C m cr] w λe w'=>e= .returned (.int .i64 (Oo aj))/\Below w.heap.size w w':=by
 obtain⟨D,B⟩ :=G3 q;have A:=n.1;have U:=η (qH w 1 At nt ct aj n ω C m cr);have V:=η q;have i:=η (⟨n,E,D,B,A⟩ :_/\_/\_/\_/\_);have W:Hid (mi ij (jY aj).1 286 ω=mi ij (jY aj).1 286 ω):=rfl;have b1:=mi ij (jY aj).1 286 ω;have b2:=mi iV (jY aj).2 30 ω;have b3:=Fi aj;have h:Oo aj=3+eX ij (jY aj).1 286+eX iV (jY aj).2 30+((Cg aj:Nat):Int):=rfl;obtain⟨c1,d⟩ :=ν (eX ij (jY aj).1 286);obtain⟨c2,c⟩ :=ν (eX iV (jY aj).2 30);obtain⟨J,b⟩ :=ν (Cg aj);rw[d,c,b]at h;rw[d]at b1;rw[c]at b2;rw[b]at b3;have Q:0<=c1/\c1<=400000000000000/\0<=c2/\c2<=400000000000000/\(0:Int)<=(J:Int)/\(J:Int)<=400000000000000:=ω;have u:=η h;have v:=η (⟨d,c,b⟩ :_/\_/\_);clear n E q D B A b1 b2 b3 h d c b W
 go_in
 go_wp2_with fail;refine U.mono ?_;rintro e w1 ⟨rfl,g⟩;rw[V.out];have s:=η (wZ w1 At nt ct aj ((i.1.below g).more g.size) (τ i.out) λt ht=> ⟨i.2.2.2.1 t ht,i.2.1 t ht⟩);have x:=η g;clear g
 go_wp2_with fail;refine s.mono ?_;rintro e w2 ⟨S,R,rfl,I⟩;have r:=η (pI w2);have o:=η I;clear I
 go_wp2_with fail;refine r.mono ?_;rintro e P ⟨Y,cf,Ad,T,rfl,z,y,f⟩;have F:=(o.lit.keeps f).rd;have j:=(o.bn.keeps f).rd;have l:=η (vk Y (some ⟨S,0,none⟩) 288 286 cf 286 _ _ P z.rd F ω ω);rw[show min 288 286=286 from rfl,v.1]at l;have p:=η (⟨y.rd,j,x.trans (o.uY.mono x.size |>.trans (f.mono (aq x.size o.uY.size)))⟩ :_/\_/\_);clear z y f F j
 go_wp2_with fail;refine l.mono ?_;rintro e O ⟨rfl,a⟩;have k:=η (vk Ad (some ⟨R,0,none⟩) 32 30 T 30 _ _ O ((p.1.below a).more a.size) ((p.2.1.below a).more a.size) ω ω);rw[show min 32 30=30 from rfl,v.2.1]at k;have M:=η (p.2.2.trans (a.mono p.2.2.size));clear a
 go_wp2_with fail;refine k.mono ?_;rintro e N ⟨rfl,H⟩;have h5:=M.trans (H.mono M.size);have K:=η (zU N At nt ct aj ((i.1.below h5).more h5.size) (τ i.out));rw[v.2.2]at K;have L:=η h5;clear H h5
 go_wp2_with fail;refine K.mono ?_;rintro e Z ⟨rfl,G⟩;have X:=η (L.trans (G.mono L.size));clear G
 go_wp2_with fail;go_ret;exact⟨bJ (by rw[u.out]),X.out⟩
inductive CoI (Al Ad:ax) (nl nd cl cd g1 g2:Nat) (c1 c2:Int):ax->Nat->Nat->ax->Nat->Nat->Int->Prop
 | lit:CoI Al Ad nl nd cl cd g1 g2 c1 c2 Al nl cl (some ⟨g1,0,none⟩) 286 286 c1
 | bn:CoI Al Ad nl nd cl cd g1 g2 c1 c2 Ad nd cd (some ⟨g2,0,none⟩) 30 30 c2
theorem Q3 (w:World) (At:ax) (nt ct:Nat) (aj:List bY) (T:lW w w.heap.size At nt aj) (cW:∀t∈aj,0<=t.lit/\t.lit<256) (C:ax) (m cr:Nat) (Z:dI 2 aj m=true):
  Calls Tryz.prog 112 #[.int .i64 2, .slice At nt ct, .slice C m cr] w λe w'=>e= .returned (.int .i64 (Ig aj))/\Below w.heap.size w w':=by
 obtain⟨rv,tU⟩ :=ze Z;have o:=T.1;have HM:=η (qH w 2 At nt ct aj T ω C m cr);have HF:=η Z;have f:=η (⟨T,cW,rv,tU,o⟩ :_/\_/\_/\_/\_);clear T cW Z rv tU o
 go_in
 go_wp2_with fail;refine HM.mono ?_;rintro e w1 ⟨rfl,l⟩;rw[HF.out];have M:=η (wZ w1 At nt ct aj ((f.1.below l).more l.size) (τ f.out) λt ht=> ⟨f.2.2.2.1 t ht,f.2.1 t ht⟩);have KC:=η l;clear l
 go_wp2_with fail;refine M.mono ?_;rintro e w2 ⟨g1,g2,rfl,hM⟩;have U:=η (KC.trans (hM.uY.mono KC.size));have L:=η (y7 w2 At nt ct aj ((f.1.below U.out).more U.size) f.2.2.1 λt ht=> ⟨f.2.2.2.1 t ht,f.2.1 t ht⟩);have Ct:=η hM;clear hM
 go_wp2_with fail;refine L.mono ?_;rintro e z Y;obtain⟨vv,rfl⟩ :∃v,e= .returned v:=by obtain⟨Al,cl,Ad,p,Ah,ch,O,J,e1,_⟩ :=Y;exact⟨_,e1⟩
 obtain⟨Al,Ad,Ah,O,cl,p,ch,J,rfl,s,Yo⟩ :=Hr.new Y;clear Y;have R:Below w2.heap.size w2 (z.alloc (.cells #[.slice Al (fP aj) cl, .slice Ad (fX aj) p, .slice Ah 19 ch, .slice O (cY aj).length J, .int .i64 ((oZ aj:Nat):Int)] 168)):=s.alloc s.size _;have B:Below w.heap.size w (z.alloc (.cells #[.slice Al (fP aj) cl, .slice Ad (fX aj) p, .slice Ah 19 ch, .slice O (cY aj).length J, .int .i64 ((oZ aj:Nat):Int)] 168)):=U.trans (R.mono U.size);have SU:=(Ct.lit.keeps R).rd;have E:=(Ct.bn.keeps R).rd;have b:=η (⟨Yo,B,SU,E⟩ :_/\_/\_/\_);clear s Yo R B SU E;go_upto_region 10 with fail
 obtain⟨a,P⟩ :=ν (z.alloc (.cells #[.slice Al (fP aj) cl, .slice Ad (fX aj) p, .slice Ah 19 ch, .slice O (cY aj).length J, .int .i64 ((oZ aj:Nat):Int)] 168));have X:z.heap.size+1=a.heap.size:=by rw[<-P];simp
 rw[P]at b;rw[P];obtain⟨G,hG⟩ :=ν (z.heap.size);rw[hG]at b X;rw[hG];rw[X]at b;clear P X hG;have ab:=kI aj;have kA:=lK aj;have b1:=mi (eU aj) (jY aj).1 (fP aj) ω;have b2:=mi (dm aj) (jY aj).2 (fX aj) ω;have b3:=Fi aj;have b4:=uH (vy aj) (cY aj) (kY f.2.2.1);have b5:=mF aj;have b6:=uD aj;have pZ:Ig aj=3+Th aj+eX (eU aj) (jY aj).1 (fP aj)+eX (dm aj) (jY aj).2 (fX aj)+((Cg aj:Nat):Int):=rfl;have qD:0<=Th aj/\Th aj<=10000:=by unfold Th;omega
 have u:∀W,Below a.heap.size a W->Calls Tryz.prog 131 #[.pointer (some ⟨G,0,none⟩)] W λe w'=>e= .returned (.int .i64 (Th aj))/\Below a.heap.size a w':=λW h=>
  (Xl W G w2.heap.size a.heap.size aj Al Ad Ah O cl p ch J (b.1.below h (af _)) f.2.2.1 h.size).mono λe w' q=> ⟨q.1,h.trans (q.2.mono h.size)⟩
 have y:∀W,Below a.heap.size a W->∀A n c F k d v,CoI Al Ad (fP aj) (fX aj) cl p g1 g2 (eX (eU aj) (jY aj).1 (fP aj)) (eX (dm aj) (jY aj).2 (fX aj)) A n c F k d v->Calls Tryz.prog 129 #[.slice A n c, .slice F k d] W λe w'=>e= .returned (.int .i64 v)/\Below a.heap.size a w':=λW h A n c F k d v hc=>by
  cases hc with
  | lit=>
    have:=vk Al (some ⟨g1,0,none⟩) (fP aj) 286 cl 286 _ _ W ((b.1.lit.below h).more h.size) ((b.2.2.1.below h).more h.size) ω ω;rw[show min (fP aj) 286=fP aj by omega]at this;exact this.mono λe w' q=> ⟨q.1,h.trans (q.2.mono h.size)⟩
  | bn=>
    have:=vk Ad (some ⟨g2,0,none⟩) (fX aj) 30 p 30 _ _ W ((b.1.bn.below h).more h.size) ((b.2.2.2.below h).more h.size) ω ω;rw[show min (fX aj) 30=fX aj by omega]at this;exact this.mono λe w' q=> ⟨q.1,h.trans (q.2.mono h.size)⟩
 have x:∀W,Below a.heap.size a W->Calls Tryz.prog 130 #[.slice At nt ct] W λe w'=>e= .returned (.int .i64 ((Cg aj:Nat):Int))/\Below a.heap.size a w':=λW h=>
  (zU W At nt ct aj ((f.1.below (b.2.1.trans (h.mono b.2.1.size))).more (aq b.2.1.size h.size)) (τ f.out)).mono λe w' q=> ⟨q.1,h.trans (q.2.mono h.size)⟩
 obtain⟨c1,j⟩ :=ν (eX (eU aj) (jY aj).1 (fP aj));obtain⟨c2,i⟩ :=ν (eX (dm aj) (jY aj).2 (fX aj));obtain⟨K,g⟩ :=ν (Cg aj);obtain⟨r,Q⟩ :=ν (Th aj);obtain⟨nl,o⟩ :=ν (fP aj);obtain⟨nd,D⟩ :=ν (fX aj);rw[j,i,g,Q]at pZ;rw[j,o]at b1;rw[i,D]at b2;rw[g]at b3;rw[Q]at qD;rw[j,i,o,D]at y;rw[g]at x;rw[Q]at u;obtain⟨k0,k1, -⟩ :=b.1.cells;rw[o]at k0;rw[D]at k1;have ah:0<=c1/\c1<=400000000000000/\0<=c2/\c2<=400000000000000/\(0:Int)<=(K:Int)/\(K:Int)<=400000000000000/\0<=r/\r<=10000:=by have:=f.2.2.1;omega
 have HK:Hid (∀W,Below a.heap.size a W->W.cell? ⟨G,0,none⟩ =some (.slice Al nl cl)/\W.cell? ⟨G,1,none⟩ =some (.slice Ad nd p)):=λW h=>by
  obtain⟨V,q1, -⟩ :=(b.1.below h (af _)).cells;rw[o]at V;rw[D]at q1;exact⟨V,q1⟩
 have ac:Hid (IntKind.i64.wrap (IntKind.i64.wrap (IntKind.i64.wrap (IntKind.i64.wrap (3+r)+c1)+c2)+(K:Int))=3+r+c1+c2+(K:Int)):=by
  show _=_;rw[aM (3+r) ω,aM (3+r+c1) ω,aM (3+r+c1+c2) ω,aM (3+r+c1+c2+(K:Int)) ω]
 have KG:=η u;have N:=η y;have Hm:=η x;have SE:=η pZ;have GW:=η b.2.1;have ad:=η (aw a.heap.size a);clear ab kA b1 b2 b3 b4 b5 b6 pZ qD u y x j i g Q o D b L M HM;go_cut [6] (λv6 wx=>v6= .int .i64 (Ig aj)/\Below w.heap.size w wx)
 case first=>
  go_region_law
   (first
     | (have _g:=rE
        go_simp
        go_at_call 130
        refine(Hm _ rE).mono ?_;rintro e w9 ⟨rfl,H⟩)
     | (have _g:=S
        go_simp
        go_at_call 129
        refine(N _ S _ _ _ _ _ _ _ (by constructor)).mono ?_;rintro e w8 ⟨rfl,rE⟩)
     | (have _g:=I
        go_simp
        go_at_call 129
        refine(N _ I _ _ _ _ _ _ _ (by constructor)).mono ?_;rintro e w7 ⟨rfl,S⟩;have q1:=(HK _ S).2)
     | (go_simp
        go_at_call 131
        refine(KG _ (by exact ad.drew)).mono ?_;rintro e w6 ⟨rfl,I⟩;have V:=(HK _ I).1;have q1:=(HK _ I).2))
  all_goals
   have YD:=η H;clear H rE S I
   go_wp2_with fail;go_meet;exact⟨bf (Value.int .i64) (ac.trans SE.symm),GW.trans (YD.mono GW.size)⟩
 obtain⟨rfl,hb⟩ :=hcut;have HB:=η hb;clear hb
 go_wp2_with fail;go_ret;exact⟨rfl,HB.out⟩
theorem Q1 (w:World) (kind:Int) (At:ax) (nt ct:Nat) (aj:List bY) (b:lW w w.heap.size At nt aj) (c:(nt:Int)<=4611686018427387904) (d:∀t∈aj,0<=t.lit/\t.lit<256) (C:ax) (m cr:Nat):
  Calls Tryz.prog 112 #[.int .i64 kind, .slice At nt ct, .slice C m cr] w λe w'=>e= .returned (.int .i64 (if dI kind aj m=true then nE kind aj m else -1))/\Below w.heap.size w w':=by
 by_cases a:dI kind aj m=true
 rotate_left
 · rw[a8 a];exact TL w kind At nt ct aj b c C m cr (by simpa using a)
 rw[aa a]
 have g:kind=0\/kind=1\/kind=2:=by
  unfold dI at a;by_cases f:kind=0
  · exact .inl f
  rw[a8 f]at a;by_cases h:¬(kind=1\/kind=2)\/1048576<=aj.length
  · rw[aa h]at a;exact absurd a δ
  omega
 unfold nE;rcases g with rfl | rfl | rfl
 · rw[aa rfl];refine F4 w At nt ct aj b c C m cr ?_;unfold dI at a;rw[aa rfl]at a;exact cM a
 · rw[a8 δ,aa rfl];exact I0 w At nt ct aj b d C m cr a
 rw[a8 δ,a8 δ];exact Q3 w At nt ct aj b d C m cr a
theorem a2g {l:List bY}:∀t∈l,t.len=0->t.lit.toNat<286->1<=ix (jY l).1 t.lit.toNat:=by
 refine kg (β:=Nat) (motive:=λl=>∀t∈l,t.len=0->t.lit.toNat<286->1<=ix (jY l).1 t.lit.toNat) ?_ ?_ l
 · intro t ht;simp at ht
 intro l u c t ht b a;rw[oc];have e:=DG l;have d:=mq l;rcases aQ.1 ht with ht | ht
 · have:=c t ht b a;unfold OD;split
   · simp only;rw[iN];split <;> omega
   simp only;rw[iN];split <;> omega
 obtain rfl:=bk.1 ht;unfold OD;rw[aa b];simp only;rw[iN,aa ⟨rfl,by rw[d.1];exact a⟩];have:=(e t.lit.toNat).1;omega
theorem Zo {l:List bY}:∀t∈l,cn t->t.len≠0->1<=ix (jY l).1 (257+jq t.len)/\1<=ix (jY l).2 (fe t.bn):=by
 refine kg (β:=Nat) (motive:=λl=>∀t∈l,cn t->t.len≠0->1<=ix (jY l).1 (257+jq t.len)/\1<=ix (jY l).2 (fe t.bn)) ?_ ?_ l
 · intro t ht;simp at ht
 intro l u e t ht b a;rw[oc];have d:=DG l;have c:=mq l;obtain⟨_,_,g,f⟩ :=sN b a;rcases aQ.1 ht with ht | ht
 · have:=e t ht b a;unfold OD;split
   · simp only;rw[iN];refine⟨?_,this.2⟩;split <;> omega
   simp only;rw[iN,iN];constructor <;> (split <;> omega)
 obtain rfl:=bk.1 ht;unfold OD;rw[a8 a];simp only;rw[iN,iN,aa ⟨rfl,by rw[c.1];omega⟩,aa ⟨rfl,by rw[c.2];omega⟩];have:=(d (257+jq t.len)).1;have:=(d (fe t.bn)).2;omega
theorem Bf {l:List bY} (c:l.length<1048576) {s:Nat} (h:1<=ix (jY l).1 s) (b:s<286):1<=ix (eU l) s:=by
 have d:=((mV (jY l).1 15).snd (IC c).1).each s (by rw[(mq l).1];exact b);have e:0<ix (xt l) s:=d.1.2 ω
 have a:s<fP l:=by
  rcases aU s (fP l)with a | a
  · exact a
  have:=kQ (xt l) 257 286 s a b;omega
 unfold eU;rw[kF a];omega
theorem Ua {l:List bY} (c:l.length<1048576) {s:Nat} (h:1<=ix (jY l).2 s) (b:s<30):1<=ix (dm l) s:=by
 have e:=((mV (jY l).2 15).snd (IC c).2).each s (by rw[(mq l).2];exact b);have f:0<ix (qp l) s:=e.1.2 ω
 have a:s<fX l:=by
  rcases aU s (fX l)with a | a
  · exact a
  have:=kQ (qp l) 1 30 s a b;omega
 unfold dm;by_cases d:fX l=1/\ix (qp l) 0=0
 · have:s=0:=ω;subst this;omega
 rw[a8 d,kF a];omega
theorem Zh {l:List bY} (b:l.length<1048576) {t:bY} (ht:t∈l) (c:cn t) (h:0<=t.lit/\t.lit<256):vY (eU l) (dm l) t:=by
 unfold vY;by_cases a:t.len=0
 · rw[aa a];exact Bf b (a2g t ht a ω) ω
 rw[a8 a];obtain⟨_,_,g,f⟩ :=sN c a;obtain⟨e,d⟩ :=Zo t ht c a;exact⟨Bf b e ω,Ua b d ω⟩
theorem Pe {l:List bY} (a:l.length<1048576):1<=ix (eU l) 256:=Bf a (a2f l) ω
theorem Aa:∀s,s<288->1<=ix ij s:=λs a=>by rw[Fk s a];split <;> (try split) <;> (try split) <;> omega
theorem Zm {t:bY} (b:cn t) (e:0<=t.lit/\t.lit<256):vY ij iV t:=by
 unfold vY;by_cases a:t.len=0
 · rw[aa a];exact Aa _ ω
 rw[a8 a];obtain⟨_,_,d,c⟩ :=sN b a;refine⟨Aa _ ω, ?_⟩;have:ix iV (fe t.bn)=5:=by unfold iV;rw[FU _ ω]
 omega
theorem ZZ {a:List Rn}:∀r∈a,yo r->1<=ix (xX a) r.c.toNat:=by
 refine kg (β:=Nat) (motive:=λa=>∀r∈a,yo r->1<=ix (xX a) r.c.toNat) ?_ ?_ a
 · intro r b;simp at b
 intro a u e r b d;rw[vx,iN];have f:=Mx a r.c.toNat;rcases aQ.1 b with b | b
 · have:=e r b d;split <;> omega
 obtain rfl:=bk.1 b;rw[aa ⟨rfl,by rw[qz];have:=d.1;omega⟩];omega
theorem J2 {l:List bY} (d:l.length<1048576):∀r∈cY l,1<=ix (cU l) r.c.toNat:=λr a=>by
 have b:=kY d r a;have e:=((mV (xX (cY l)) 7).snd (Va l)).each r.c.toNat (by rw[qz];have:=b.1;omega);have g:=ZZ r a b;have f:0<ix (cU l) r.c.toNat:=e.1.2 ω;omega
theorem a0R {l:List bY}:cY l≠[]:=λe=>by
 have h:=(JZ _ (eU l++dm l) rfl);unfold cY at e;have d:=nR l;have g:=kI l;cases c:eU l with
 | nil=>rw[c]at d;simp at d;omega
 | cons a r=>
   rw[c,dN,oo]at e;split at e
   · simp at e
   rename_i i
   have f:ik a (runN a (r++dm l)+1)≠[]:=λb=>by
    rw[ik,dif_neg ω]at b;split at b
    · simp at b
    split at b
    · simp at b
    split at b
    · simp at b
    simp at b
   exact f (List.append_eq_nil_iff.1 e).1
theorem WJ {l:List bY} (p:l.length<1048576):gS (sG (cU l) (oZ l))=false:=by
 obtain⟨r,o⟩ :∃r,r∈cY l:=by
  cases h:cY l with
  | nil=>exact absurd h a0R
  | cons r _=>exact⟨r,aI⟩
 have s:=J2 p r o;have q:=(kY p r o).1;have d:r.c.toNat<19:=ω;obtain⟨n,m⟩ :=OO r.c.toNat d;have hN:=uD l
 have a:l8.idxOf r.c.toNat<oZ l:=by
  rcases aU (l8.idxOf r.c.toNat) (oZ l)with f | f
  · exact f
  have h4:=kQ (jI.map λk=>ix (cU l) k.toNat) 4 19 _ f n;have j:∀(L:ag) (g:Int->Int) (i:Nat),i<L.length->ix (L.map g) i=g (ix L i):=λL g i hi=>by simp [ix,hi]
  rw[j _ _ _ n,m]at h4;omega
 have b:=vO (cU l) (k:=oZ l) ω
 have e:ix (sG (cU l) (oZ l)) (l8.idxOf r.c.toNat)=ix (cU l) r.c.toNat:=by
  have j:∀(L:ag) (g:Int->Int) (i:Nat),i<L.length->ix (L.map g) i=g (ix L i):=λL g i hi=>by simp [ix,hi]
  unfold sG;rw[j _ _ _ (by rw[aD];show _<min (oZ l) 19;omega),kF a,m]
 unfold gS;rw[List.all_eq_false];refine⟨ix (sG (cU l) (oZ l)) (l8.idxOf r.c.toNat),sq (by rw[b];exact a), ?_⟩;rw[e];simp;omega
theorem WK (l:List bY):∀i,oZ l<=i->i<19->ix (cU l) (ix jI i).toNat=0:=λi b a=>by
 have h4:=kQ (jI.map λk=>ix (cU l) k.toNat) 4 19 _ b a;have c:∀(L:ag) (g:Int->Int) (i:Nat),i<L.length->ix (L.map g) i=g (ix L i):=λL g i hi=>by simp [ix,hi]
 rw[c _ _ _ a]at h4;exact h4
end Go.Proofs.YtgiimmkmjpbecaaGreat
