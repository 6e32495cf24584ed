/-
  part
-/
import Derived.Test.YtdhmnlpfhfmpfaaGreatPk18
set_option linter.unusedVariables false
set_option maxRecDepth 100000
set_option maxHeartbeats 8000000
namespace Go.Proofs.YtdhmnlpfhfmpfaaGreat
open Go.RowKit
theorem yF (w:World) (At:ay) (nt ct:Nat) (au:List cy) (hT:mn w w.heap.size At nt au) (mU:au.length<1048576) (nL:∀t∈au,cF t/\0<=t.lit/\t.lit<256):
  Calls Tryz.prog 91 #[.slice At nt ct] w (zQ w au):=by
 have bo:Below w.heap.size w (w.alloc (.cells #[.slice none 0 0, .slice none 0 0, .slice none 0 0, .slice none 0 0, .int .i64 0] 135)):=(ax _ w).alloc (ai _) _;have fb:=η (xu (w.alloc (.cells #[.slice none 0 0, .slice none 0 0, .slice none 0 0, .slice none 0 0, .int .i64 0] 135)) At nt ct au ((hT.below bo).more σ) (τ hT.1) nL);have vt:=I7 mU;have Gt:=η vt;have Vv:Ar (w.alloc (.cells #[.slice none 0 0, .slice none 0 0, .slice none 0 0, .slice none 0 0, .int .i64 0] 135)) w.heap.size 5 (Yk zi zi zi zi (.int .i64 0)):=FO w _ _ _ _ _ _;have H0:=η (⟨Vv,bo⟩ :_/\_);have XR:=η mU;clear hT mU nL bo vt Vv;go_enter Tryz.func91,Tryz.ntmps91
 go_wp2_with fail;refine fb.out.mono ?_;rintro e w2 ⟨g1,g2,rfl,hM⟩
 have pW:oH w (w2.alloc (.cells #[.slice none 0 0, .slice none 0 0, .slice none 0 0, .slice none 0 0, .int .i64 0] 135)) w.heap.size w2.heap.size zi zi zi zi (.int .i64 0):=
  ⟨(H0.out.1.keeps hM.vE).alloc _,FO _ _ _ _ _ _ _,(H0.out.2.trans (hM.vE.mono H0.out.2.size)).alloc (H0.out.2.trans (hM.vE.mono H0.out.2.size)).size _,ai _,aB σ hM.vE.size⟩
 have yr:=hM.alloc (.cells #[.slice none 0 0, .slice none 0 0, .slice none 0 0, .slice none 0 0, .int .i64 0] 135);have V6:g1<w2.heap.size/\g2<w2.heap.size:= ⟨(hM.lit.2.lt rfl).2,(hM.bm.2.lt rfl).2⟩;have SY:=η (sQ (w2.alloc (.cells #[.slice none 0 0, .slice none 0 0, .slice none 0 0, .slice none 0 0, .int .i64 0] 135)) (some ⟨g1,0,none⟩) 286 286 _ yr.lit.rd 15 δ);have wU:=η pW;have Ct:=η (⟨yr.bm,V6⟩ :_/\_);clear pW yr V6 hM
 go_wp2_with fail;obtain⟨wa,ae⟩ :=ν (w2.alloc (.cells #[.slice none 0 0, .slice none 0 0, .slice none 0 0, .slice none 0 0, .int .i64 0] 135));obtain⟨P,hP⟩ :=ν (w2.heap.size);obtain⟨R,hR⟩ :=ν (w.heap.size);rw[ae,hP]at wU;rw[ae,hP]at Ct;rw[ae]at SY;rw[ae,hP];rw[show oH w wa w.heap.size P=oH w wa R P by rw[hR]]at wU;rw[hR];clear ae hP hR H0;clear w2;refine SY.out.mono ?_;rintro e w3 ⟨j,x,L,rfl,ca,an, -,cX⟩;have e3:L=xP au:=(cX Gt.out.1).eq;rw[Gt.out.1];subst e3;have h3:=wU.out.keeps ca;have dd:P<wa.heap.size:=wU.out.box.lt;have f:ak j≠some P:=λe=>by have:=(an.2.lt e).1;omega
 have yv:=Ct.out.1.keeps ca;obtain⟨⟨x0, -⟩,z⟩ :=h3.cells;have z0:=z 0 ω;rw[J8]at an⊢
 have cq:ak (some (⟨g2,0,none⟩ :Addr))≠some P:=λe=>by
  have e':g2=P:=by injection e
  have:=Ct.out.2.2;omega
 have GQ:=η (⟨h3.a4I (.slice j 286 x),(an.far (p:= ⟨P,0,none⟩) f (.slice j 286 x)).more (b1:=R+1) (τ wU.out.Km),yv.far (p:= ⟨P,0,none⟩) cq (.slice j 286 x),f,dd⟩ :_/\_/\_/\_/\_);clear z h3 f yv an cX ca dd SY wU Ct cq
 go_wp2_with fail;obtain⟨wb,Dy⟩ :=ν (w3.setCell ⟨P,0,none⟩ (.slice j 286 x));rw[Dy]at GQ;have dq:=η (sQ wb (some ⟨g2,0,none⟩) 30 30 _ GQ.out.2.2.1.rd 15 δ);have Gq:Hid (P<wb.heap.size):=GQ.out.1.box.lt;rw[Dy];clear Dy x0 z0;clear w3;refine dq.out.mono ?_;rintro e w4 ⟨u,y,D,rfl,bL,M, -,cQ⟩;have e4:D=qG au:=(cQ Gt.out.2).eq;rw[Gt.out.2];subst e4;have h4:=GQ.out.1.keeps bL;have f:ak u≠some P:=λe=>by have:=(M.2.lt e).1;have:=Gq.out;omega
 have cp:=GQ.out.2.1.keeps bL;have cn:∀k,ak j=some k->ak u≠some k:=λk h1 h2=>by have:=(M.2.lt h2).1;have:=(GQ.out.2.1.2.lt h1).2;omega
 obtain⟨⟨-,x1, -⟩,z⟩ :=h4.cells;have z1:=z 1 ω;rw[Az]at M⊢;have N:=η (⟨h4.a4J (.slice u 30 y),(⟨cp.far (p:= ⟨P,1,none⟩) GQ.out.2.2.2.1 (.slice u 30 y),(M.far (p:= ⟨P,1,none⟩) f (.slice u 30 y)).more (b1:=R+1) (ε GQ.out.1.Km Gq.out),GQ.out.2.2.2.1,f,cn⟩ :xh (R+1) _ P j u 286 x 30 y (xP au) (qG au))⟩ :_/\_);clear z h4 f cp cn M cQ bL dq GQ;go_upto_region 5 with fail
 obtain⟨wc,bl⟩ :=ν (w4.setCell ⟨P,1,none⟩ (.slice u 30 y));rw[bl]at N;rw[bl];clear bl x1 z1;clear Gq;clear w4 wb;go_cut [] (λwx=>oH w wx R P (.slice j (fP au) x) (.slice u (fX au) y) (.slice none 0 0) (.slice none 0 0) (.int .i64 0)/\xh (R+1) wx P j u (fP au) x (fX au) y ((xP au).take (fP au)) ((qG au).take (fX au)))
 case first=>
  obtain⟨⟨x0,x1,x2,x3,x4⟩,z⟩ :=N.out.1.cells;have z0:=z 0 ω;have z1:=z 1 ω;have cx:Hid (∀W,xh (R+1) W P j u 286 x 30 y (xP au) (qG au)->∀A n c few m,TrI j u x y (fP au) (fX au) A n c few m->Calls Tryz.prog 116 #[.slice A n c, .int .i64 few] W λe w'=>e= .returned (.slice A m c)/\W=w'):=λW h=>XF W h;obtain⟨n1,p9⟩ :=ν (fP au);obtain⟨G,T⟩ :=ν (fX au);obtain⟨l1,yX⟩ :=ν (xP au);obtain⟨l2,B⟩ :=ν (qG au);have hR:=N.out.2;rw[p9,T,yX,B]at cx;rw[yX,B]at hR;have HE:=η (⟨p9,T,yX,B⟩ :_/\_/\_/\_);have hb:n1<=286/\G<=30:=by have:=kT au;have:=lY au;omega
  rw[yX,B]at N;have HB:=η hb;clear p9 T yX B hb Gt XR
  go_wp2_with fail
  go_region_law
   ((go_simp;go_at_call 116;(refine(cx.out _ (by first | exact hR | exact hR.drew) _ _ _ _ _ (by constructor)).mono ?_);rintro e w5 ⟨rfl,rfl⟩))
  all_goals
   obtain⟨p9,T,yX,B⟩ :=HE.out;have h5:=(N.out.1.a4I (.slice j n1 x)).a4J (.slice u G y);have h6:=(N.out.1.a4J (.slice u G y)).a4I (.slice j n1 x);have h7:=((hR.put 0 (.slice j n1 x)).put 1 (.slice u G y)).pre HB.out.1 HB.out.2;have h8:=((hR.put 1 (.slice u G y)).put 0 (.slice j n1 x)).pre HB.out.1 HB.out.2;have fd:=η (⟨h5,h6,h7,h8⟩ :_/\_/\_/\_);have RQ:=η (⟨p9,T,yX,B⟩ :_/\_/\_/\_);clear h5 h6 h7 h8 p9 T yX B HE
   go_wp2_with fail;go_meet;obtain⟨h5,h6,h7,h8⟩ :=fd.out;obtain⟨p9,T,yX,B⟩ :=RQ.out;rw[p9,T,yX,B]
   first | exact⟨h5.drew,h7.drew⟩ | exact⟨h6.drew,h8.drew⟩
 have HC:=η hcut;clear hcut N;have Sg:=lY au;obtain⟨G,T⟩ :=ν (fX au);rw[T]at Sg;obtain⟨v,hv⟩ :=ν (ix (qG au) 0);have Q:=η (⟨T,hv⟩ :_/\_);have yf:=η HC.out;rw[T]at yf;obtain⟨gd,es⟩ :∃gd,u=some ⟨gd,0,none⟩ :=yf.out.2.bm.2.addr ω;subst es;obtain⟨y0,yz⟩ :=yf.out.2.bm.head (i:=0) ω;rw[kQ ω,hv]at y0;obtain⟨⟨x0,x1,x2,x3,x4⟩,z⟩ :=yf.out.1.cells;clear T hv;have HY:=η (⟨y0,yz,x1,Sg⟩ :_/\_/\_/\_);clear y0 yz x0 x1 x2 x3 x4 z;go_upto_region 6 with fail
 go_cut [45] (λec wx=>ec= .bool (decide (G=1/\v=0))/\wx=wc)
 case first=>
  obtain⟨y0,yz,x1,Sg⟩ :=HY.out;by_cases h1:G=1
  · subst h1;by_cases h0:v=0
    · subst h0
      go_wp2_with fail;all_goals go_meet
      all_goals exact⟨rfl,rfl⟩
    have fv:(v==0)=false:=by simpa using h0
    have hf:=η (show false=decide ((1:Nat)=1/\v=0) from(aQ λh=>h0 h.2).symm)
    go_wp2_with fail;all_goals go_meet
    all_goals exact⟨aN Value.bool hf.out,rfl⟩
  have fr:((G:Int)==1)=false:=ξ;have hf:=η (show false=decide (G=1/\v=0) from(aQ λh=>h1 h.1).symm)
  go_wp2_with fail;all_goals go_meet
  all_goals exact⟨aN Value.bool hf.out,rfl⟩
 obtain⟨rfl,ee⟩ :=hcut;obtain rfl:=ee.symm
 go_upto_if 45 with fail
 go_cut [] (λwx=>oH w wx R P (.slice j (fP au) x) (.slice (some ⟨gd,0,none⟩) G y) (.slice none 0 0) (.slice none 0 0) (.int .i64 0)/\xh (R+1) wx P j (some ⟨gd,0,none⟩) (fP au) x G y (eX au) (dn au))
 case first=>
  by_cases hc:G=1/\v=0
  rotate_left
  · rw[aQ hc];have ah:dn au=(qG au).take G:=by unfold dn;rw[aa (by rw[Q.out.1,Q.out.2];exact hc),Q.out.1]
    have O:=η yf.out;rw[<-ah]at O;clear ah
    go_wp2_with fail;all_goals go_meet
    all_goals exact O.out
  rw[aS hc];obtain⟨y0,yz,x1,Sg⟩ :=HY.out;obtain⟨e1,e2⟩ :=hc;have ah:dn au=[1]:=by unfold dn;rw[af ⟨by rw[Q.out.1];exact e1,by rw[Q.out.2];exact e2⟩]
  have Y:Hid (∀W,xh (R+1) W P j (some ⟨gd,0,none⟩) (fP au) x G y ((xP au).take (fP au)) ((qG au).take G)->xh (R+1) (W.setCell ⟨gd,0,none⟩ (.int .i64 1)) P j (some ⟨gd,0,none⟩) (fP au) x G y (eX au) (dn au)):=λW h=>by
   refine⟨h.lit.far (p:= ⟨gd,0,none⟩) (λe=>h.ld _ e rfl) _, ?_,h.lp,h.dp,h.ld⟩;have U:=h.bm.put (i:=0) ω 1;rw[ah]
   have e9:((qG au).take G).set 0 1=[1]:=by
    have co:=Az au;rw[e1];cases Qh:qG au with
    | nil=>rw[Qh]at co;simp at co
    | cons a b=>simp
   rw[e9]at U;exact U
  have hP:gd≠P:=λe=>yf.out.2.dp (by rw[e];rfl);have cA:R≠gd:=λe=>by have h1:R+1<=gd:=(yf.out.2.bm.2.lt rfl).1;omega
  have O:=η (⟨yf.out.1.far (p:= ⟨gd,0,none⟩) cA (λe=>hP e.symm) (by have h1:R+1<=gd:=(yf.out.2.bm.2.lt rfl).1;have h2:=yf.out.1.Rh;show w.heap.size<=gd;omega) (.int .i64 1),Y.out _ yf.out.2⟩ :_/\_);subst e1;clear ah Y hP cA e2
  go_wp2_with fail;all_goals go_meet
  all_goals exact O.out
 have Z:=η hcut;clear hcut yf HC HY;obtain⟨u,de⟩ :∃A:ay,(some ⟨gd,0,none⟩ :ay)=A:= ⟨_,rfl⟩;rw[de]at Z;rw[<-Q.out.1]at Z;obtain⟨nl,fz⟩ :=ν (fP au);obtain⟨nd,B9⟩ :=ν (fX au);obtain⟨l,hl⟩ :=ν (eX au);obtain⟨d,hd⟩ :=ν (dn au);rw[fz,B9,hl,hd]at Z;have ap:nl<=286/\nd<=30:=by have:=kT au;have:=lY au;omega
 have CI:∀i,i<(l++d).length->0<=ix (l++d) i:=λi hi=>by
  rw[<-hl,<-hd]at hi⊢;exact(EF XR.out i hi).1
 have eS:Hid (dc au=jL (l++d)):=by show _=_;rw[<-hl,<-hd];rfl
 have HE:=η (⟨fz,B9,hl,hd,ap,CI⟩ :_/\_/\_/\_/\_/\_);clear fz B9 hl hd ap CI de Q;go_upto_region 8 with fail
 go_cut [] (λwx=>∃Ar nr cr,oH w wx R P (.slice j nl x) (.slice u nd y) (.slice none 0 0) (.slice Ar nr cr) (.int .i64 0)/\xh (R+1) wx P j u nl x nd y l d/\lA wx (R+1) Ar nr cr (dc au)/\ak Ar≠some P)
 case first=>
  obtain⟨i0,hi,ac,ab,H⟩ :=aL zX;have Hi:=η (⟨hi,ac,ab,H⟩ :_/\_/\_/\_);clear hi ac ab H;obtain⟨⟨x0,x1,x2,x3,x4⟩,z⟩ :=Z.out.1.cells;have cz:=Z.out.1.alloc (.cells #[] 3);have Ij:=Z.out.2.alloc (.cells #[] 3);have ex:ba .i64 (wc.alloc (.cells #[] 3)) (R+1) 3 (some ⟨wc.heap.size,0,none⟩) 0 0 []:=ba.lit (k:= .i64) (w:=wc) rfl [] 3 (ε Z.out.1.box.lt Z.out.1.Km) δ;obtain⟨⟨y0,y1, -, -, -⟩, -⟩ :=cz.cells;have cb:=Z.out.1.box.lt;have bv:=Z.out.1.Km;have ef:wc.heap.size≠P:=ω;obtain⟨fz,B9,hl,hd,ap,CI⟩ :=HE.out;have ch:R+1<=(wc.alloc (.cells #[] 3)).heap.size:=ξ;have ds:Hid (∀k,wc.heap.size<=k->R<k/\k≠P/\ak j≠some k/\ak u≠some k):=λk I=> ⟨ω,ω,λe=>τ ((Z.out.2.lit.2.lt e).2),λe=>τ ((Z.out.2.bm.2.lt e).2)⟩;have fa:Hid (∀k,ak (some (⟨wc.heap.size,0,none⟩ :Addr))=some k->R<k/\k≠P/\ak j≠some k/\ak u≠some k):=λk I=>ds.out k (by injection I with I;exact Nat.le_of_eq I);have fy:=η ap;clear fz B9 hl hd CI Gt XR x2 x3 x4 z cb bv ef;have ev:=cz.drew;have ZH:=Ij.drew
  go_wp2_with fail
  go_region_law
   (first
     | (have _g:=nV
        go_simp
        go_at_call 117
        refine dk.out.mono ?_;rintro e w6 ⟨Ar,nr,cr,rfl,kP,nj⟩;have s6:=q5.1.keeps nj;have r6:=q5.2.keeps nj;obtain⟨⟨-, -, -,v3, -⟩,vz⟩ :=s6.cells;have dA:=vz 3 ω)
     | (have _g:=M
        refine eN .i64 (R+1) 3 i0 8 rfl (.tmp 52) (.tmp 54) _ rfl Tryz.underlying63 Hi.out.1 Hi.out.2.1 Hi.out.2.2.1 Hi.out.2.2.2 rfl M rfl q4.2.bm.rd ω ω Bf ?_;intro A5 c5 w5 nV oz jD;have q5:=Ji q4.1 q4.2 (λk I=>ds.out k (eu k I)) oz;have SB:=X5 w5 A5 (nl+nd) c5 _ (l++d) nV.rd (ai _) ω HE.out.2.2.2.2.2;rw[<-eS.out]at SB;have dk:=η SB;clear SB)
     | (refine eN .i64 (R+1) 3 i0 8 rfl (.tmp 49) (.tmp 51) _ rfl Tryz.underlying63 Hi.out.1 Hi.out.2.1 Hi.out.2.2.1 Hi.out.2.2.2 rfl ex rfl Ij.lit.rd ω ω ch ?_
        intro A4 c4 w4 M cs dT;rw[bS,aZ]at M;have q4:=Ji ev ZH fa.out cs;obtain⟨⟨-,v1, -, -, -⟩, -⟩ :=q4.1.cells;have Bf:R+1<=w4.heap.size:=aw ch cs.size
        have eu:∀k,ak A4=some k->wc.heap.size<=k:=λk I=>by
         rcases dT with h | h
         · rw[h]at I;injection I with I;exact Nat.le_of_eq I
         rw[h]at I;injection I with I;rw[<-I];simp))
  all_goals
   have S:ak Ar≠some P:=λe=>by have h1:w5.heap.size<=P:=(kP.2.lt e).1;have h2:=q5.1.box.lt;omega
   have Y:=η (⟨s6.b1e (.slice Ar nr cr),r6.put 3 (.slice Ar nr cr),(show lA (w6.setCell ⟨P,3,none⟩ (.slice Ar nr cr)) (R+1) Ar nr cr (dc au) from⟨kP.1,((kP.more (b1:=R+1) (aw Bf oz.size)).2).far (p:= ⟨P,3,none⟩) S _⟩),S⟩ :_/\_/\_/\_);clear s6 r6 v3 vz dA S dk
   go_wp2_with fail;go_meet;exact⟨Ar,nr,cr,Y.out⟩
 obtain⟨Ar,nr,cr,lJ,am,M,cl⟩ :=hcut;obtain⟨i0,hi,ac,ab,H⟩ :=aL zX;have oZ:∀W,(Instr.makeSlice 63 (.int .i64 19) (.int .i64 19)).run Tryz.prog W= .ok (.slice (some ⟨W.heap.size,0,none⟩) 19 19) (W.alloc (.cells (eH 19 (.int .i64 0)) 3)):=λW=>fV (P:=Tryz.prog) 63 3 i0 (.int .i64 0) Tryz.underlying63 hi ac ab rfl .i64 .i64 19 (by rw[H];omega) ω W;have cb:=lJ.box.lt;have bv:=lJ.Km
 have hH:PlH w (wc.alloc (.cells (eH 19 (.int .i64 0)) 3)) R P wc.heap.size j u nl x nd y l d Ar nr cr (dc au) (yx []):=
  ⟨lJ.alloc _,am.alloc _,M.alloc _,cl,ba.zeros wc rfl 19 _ ω ω,ω,λe=>τ ((am.lit.2.lt e).2),λe=>τ ((am.bm.2.lt e).2),λe=>τ ((M.2.lt e).2)⟩
 obtain⟨⟨-, -, -,v3, -⟩,vz⟩ :=(lJ.alloc (.cells (eH 19 (.int .i64 0)) 3)).cells;have HH:=η hH;have CG:=η M.1;have rV:=mP au;have eg:nr<=316:=by rw[M.1];exact rV
 have fm:(0:Int)<=nr/\(nr:Int)<=316:=ω;have a4Y:=η (lu XR.out);clear lJ am M cl hi ac ab H cb bv hH vz rV eg Z
 go_wp2_with fail;clear oZ v3;obtain⟨gh,bI⟩ :=ν (wc.heap.size);obtain⟨wd,bi⟩ :=ν (wc.alloc (.cells (eH 19 (.int .i64 0)) 3));rw[bI,bi]at HH;rw[bI,bi];clear bI bi;obtain⟨F,J⟩ :=ν (dc au);rw[J]at HH CG a4Y;have Gu:=η J;clear J;go_loopg [62] nr (λ(gk:Nat) (v62:Value) wx=>∃k:Nat,v62= .int .i64 k/\k<=nr/\Hid (PlH w wx R P gh j u nl x nd y l d Ar nr cr F (yx (F.take k)))/\Hid (gk=nr-k))
 case atStart=>exact⟨0,rfl,aF _,HH.out,rfl⟩
 clear HH;obtain⟨k,rfl,I,hs,hg⟩ :=hrel;by_cases al:k<nr
 · have pM:(k:Int)<(nr:Int)/\(0:Int)<=(k:Int):=ω;obtain⟨ad,hA,et,a0,a1,a2⟩ :=hs.out.o.rd.XV al;have xG:k<F.length:=by rw[<-CG.out];exact al
   have ky:=a4Y.out _ (BF xG);have jJ:=FZ xG;obtain⟨⟨C,V,E⟩,hr⟩ :∃r,pJ F k=r:= ⟨_,rfl⟩;rw[hr]at a0 a1 a2 ky jJ;have cw:0<=C/\C<=18:=ky.1;obtain⟨c,rfl⟩ :=aJ cw.1;replace a0:wr.cell? (ad.add (k*3))=some (.int .i64 (c:Int)):=a0;replace a1:wr.cell? { block:=(ad.add (k*3)).block,off:=(ad.add (k*3)).off+1 }=some (.int .i64 V):=a1;replace a2:wr.cell? { block:=(ad.add (k*3)).block,off:=(ad.add (k*3)).off+2 }=some (.int .i64 E):=a2;have cv:c<19:=ω;have F8:(0:Int)<=(c:Int)/\(c:Int)<19:=ω;have bt:=hs.out.alloc (.cells #[.int .i64 (c:Int), .int .i64 V, .int .i64 E] 166);obtain⟨y0,yz⟩ :=bt.h.head (i:=c) cv;have jW:=LA (F.take k) c;have B5:(F.take k).length<=k:=by rw[aD];exact eW _ _
   have cu:=bt.set cv (ix (yx (F.take k)) c+1);have cj:(yx (F.take k)).set c (ix (yx (F.take k)) c+1)=yx (F.take (k+1)):=by rw[jJ,vS];rfl
   rw[cj]at cu;obtain⟨X,hX⟩ :=ν (ix (yx (F.take k)) c);rw[hX]at cu jW y0;have Q9:0<=X/\X<=316:=ω;have Y:=η cu;have oG:=η al;subst hA;clear et ky jJ hr cw bt jW B5 cu cj hX xG al
   go_wp2_with fail;go_roundg (nr-(k+1))
   case measure=>have:=hg.out;have:=oG.out;omega
   case rel=>exact⟨k+1,by go_num,oG.out,Y.out,rfl⟩
 obtain rfl:k=nr:=ω;have pM:¬(k:Int)<(k:Int):=ω;have jJ:F.take k=F:=aC (by rw[<-CG.out];exact ai _);have hH:=hs.out;rw[jJ]at hH;have dl:=η (sQ wr (some ⟨gh,0,none⟩) 19 19 _ hH.h.rd 7 δ);have O:=η hH;clear jJ hH hs hg al I
 go_wp2_with fail;refine dl.out.mono ?_;rintro e w5 ⟨AH,cH,L,rfl,mr,nV, -,cJ⟩;have vt:=UY au;rw[Gu.out]at vt
 have e5:L=cY au:=by
  have:=(cJ vt).eq;rw[this,<-Gu.out];rfl
 rw[vt];subst e5;have B7:=mO au;have s5:=O.out.s.keeps mr;have r5:=O.out.r.keeps mr;have o5:=O.out.o.keeps mr;have f:ak AH≠some P:=λe=>by have h1:=(nV.2.lt e).1;have h2:=O.out.s.box.lt;omega
 obtain⟨⟨-, -,v2, -, -⟩,vz⟩ :=s5.cells;have ea:=vz 2 ω;rw[B7]at nV⊢;have s6:=s5.b1d (.slice AH 19 cH);have r6:=r5.put 2 (.slice AH 19 cH);have o6:lA (w5.setCell ⟨P,2,none⟩ (.slice AH 19 cH)) (R+1) Ar k cr F:= ⟨o5.1,o5.2.far (p:= ⟨P,2,none⟩) O.out.op _⟩;have h6:=(nV.far (p:= ⟨P,2,none⟩) f (.slice AH 19 cH)).more (b1:=R+1) (ε O.out.s.Km O.out.s.box.lt);obtain⟨⟨-, -, -, -,x4⟩,xz⟩ :=s6.cells;have du:=xz 4 ω;have s7:=s6.a0L (.int .i64 19);have r7:=r6.put 4 (.int .i64 19);have o7:lA ((w5.setCell ⟨P,2,none⟩ (.slice AH 19 cH)).setCell ⟨P,4,none⟩ (.int .i64 19)) (R+1) Ar k cr F:= ⟨o6.1,o6.2.far (p:= ⟨P,4,none⟩) O.out.op _⟩;have h7:=h6.far (p:= ⟨P,4,none⟩) f (.int .i64 19);have H7:=η (⟨s7,r7,o7,h7,f,O.out.op⟩ :_/\_/\_/\_/\_/\_);clear vt B7 s5 r5 o5 f vz s6 r6 o6 h6 xz s7 r7 o7 h7 nV cJ mr dl O;go_upto_region 17 with fail
 obtain⟨wf,Kl⟩ :=ν ((w5.setCell ⟨P,2,none⟩ (.slice AH 19 cH)).setCell ⟨P,4,none⟩ (.int .i64 19));rw[Kl]at H7;rw[Kl];clear Kl v2 ea x4 du;clear w5;go_cut [9] (λv9 wx=>∃go,v9= .pointer (some ⟨go,0,none⟩)/\sg wx go/\wf.heap.size<=go/\Below wf.heap.size wf wx)
 case first=>
  go_wp2_with fail;refine(DO wf).mono ?_;rintro e w6 ⟨rfl,rfl⟩;have Cu:Hid (wf.heap.size+1=(wf.alloc (.cells kL 167)).heap.size):=by show _=_;simp
  go_wp2_with (refine ve rfl (.tmp 9) (.tmp 81) rfl rfl (wf.heap.size+1) Cu.out rfl rfl _ rfl ?_)
  go_meet;exact⟨_,rfl,by have U:=sg.new (wf.alloc (.cells kL 167));rw[<-Cu.out]at U;exact U,fq _,((ax _ _).alloc (ai _) _).alloc σ _⟩
 obtain⟨go,rfl,cm,er,ZN⟩ :=hcut;obtain⟨s7,r7,o7,h7,f,ci⟩ :=H7.out;have cg:K5 w wf R P j u AH Ar nl x nd y cH k cr l d F (cY au) 19:= ⟨s7,r7,o7,ci,h7,f⟩;have aE:=cg.keeps ZN;have da:P≠go:=by have:=s7.box.lt;omega
 have cB:R≠go:=by have:=s7.box.lt;have:=s7.Km;omega
 obtain⟨hd,tJ⟩ :=ν (cY au);have HN:Hid (ly (jF.map λk=>ix hd k.toNat) 4 19=pI au):=by show _=_;rw[<-tJ];rfl
 have lG:Hid (∀i,i<19->0<=ix hd i/\ix hd i<=7):=λi hi=>by
  rw[<-tJ];exact sj (kF au) i (by rw[mO];exact hi)
 rw[tJ]at aE;have HZ:=η (⟨aE,cm,da,cB⟩ :_/\_/\_/\_);have SV:=η tJ;clear s7 r7 o7 h7 f ci cg aE cm er ZN da cB tJ H7
 go_wp2_with fail;go_loopg [9] 19 (λ(gk:Nat) (v9:Value) wx=>∃go n:Nat,v9= .pointer (some ⟨go,0,none⟩)/\Hid (K5 w wx R P j u AH Ar nl x nd y cH k cr l d F hd n)/\Hid (sg wx go)/\P≠go/\R≠go/\4<=n/\n<=19/\Hid (ly (jF.map λk=>ix hd k.toNat) 4 n=pI au)/\Hid (gk=n))
 case atStart=>exact⟨go,19,rfl,HZ.out.1,HZ.out.2.1,HZ.out.2.2.1,HZ.out.2.2.2,ω,ω,HN.out,rfl⟩
 clear HZ HN;clear go;obtain⟨go,n,rfl,hz,S,ew,fn,ej,en,bp,hg⟩ :=hrel;obtain⟨q,rfl⟩ :∃q,n=q+1:= ⟨n-1,ω⟩;obtain⟨n,bx⟩ :=ν (q+1);have Sv:=FN q ω;obtain⟨K,hK⟩ :=aJ Sv.1;have ZA:K<19:=ω
 have bB:ix (jF.map λk=>ix hd k.toNat) q=ix hd K:=by
  have e1:∀(L:aj) (g:Int->Int) (i:Nat),i<L.length->ix (L.map g) i=g (ix L i):=λL g i hi=>by simp [ix,hi]
  rw[e1 _ _ _ (by show q<19;omega),hK];rfl
 obtain⟨X,hX⟩ :=ν (ix hd K);have c1:=S.out.cell (i:=q) ω;rw[hK]at c1;obtain⟨ga,ao⟩ :∃ga,AH=some ⟨ga,0,none⟩ :=hz.out.h.2.addr ω;have c2:=hz.out.h;rw[ao]at c2;have c3:=(c2.head (i:=K) ZA).1;rw[hX]at c3;have bs:=hz.out.s;rw[ao]at bs;obtain⟨⟨-, -,d2, -,d4⟩,dz⟩ :=bs.cells;have dj:=dz 4 ω
 have cc:Hid (¬(4<n/\X=0)->n=pI au):=λh=>by
  have U:=bp.out;rw[C5 (by rw[bB,hX];omega)]at U;omega
 have cd:Hid (4<n/\X=0->ly (jF.map λk=>ix hd k.toNat) 4 q=pI au):=λh=>by
  have U:=bp.out;rw[JV ⟨ω,by rw[bB,hX];exact h.2⟩]at U;exact U
 have VJ:(n:Int)-1=(q:Int):=ω;have fi:IntKind.i64.wrap ((n:Int)-1)=(q:Int):=by rw[VJ];exact qm ω
 have fl:(0:Int)<=(q:Int)/\(q:Int)<19/\(0:Int)<=(K:Int)/\(K:Int)<19/\(4:Int)<=(n:Int)/\(n:Int)<=19:=ω;rw[bx]at hz hg ej en d4;have ce:=η (⟨bx,ao⟩ :_/\_);have HD:=η (⟨c1,c3,d2,d4⟩ :_/\_/\_/\_);clear c1 c2 c3 ao bs d2 d4 dz dj bB hX hK Sv bx bp;go_upto_region 18 with fail
 go_cut [96] (λeb wx=>eb= .bool (decide (4<n/\X=0))/\Hid (K5 w wx R P j u AH Ar nl x nd y cH k cr l d F hd n)/\Hid (sg wx go))
 case first=>
  obtain⟨c1,c3,d2,d4⟩ :=HD.out;by_cases h4:4<n
  · have ey:(4:Int)<(n:Int):=ω;by_cases h0:X=0
    · subst h0;have hf:=η (show true=decide (4<n/\(0:Int)=0) from(aS ⟨h4,rfl⟩).symm)
      go_wp2_with fail;go_quiet (fail);all_goals go_wp2_with fail
      all_goals go_meet
      all_goals exact⟨aN Value.bool hf.out,hz.out.drewN _,S.out⟩
    have fs:(X==0)=false:=by simpa using h0
    have hf:=η (show false=decide (4<n/\X=0) from(aQ λh=>h0 h.2).symm)
    go_wp2_with fail;go_quiet (fail);all_goals go_wp2_with fail
    all_goals go_meet
    all_goals exact⟨aN Value.bool hf.out,hz.out.drewN _,S.out⟩
  have ey:decide ((4:Int)<(n:Int))=false:=ξ;have hf:=η (show false=decide (4<n/\X=0) from(aQ λh=>h4 h.1).symm)
  go_wp2_with fail;go_quiet (fail);all_goals go_wp2_with fail
  all_goals go_meet
  all_goals exact⟨aN Value.bool hf.out,hz.out.drewN _,S.out⟩
 clear HD hz S;obtain⟨rfl,hz,S⟩ :=hcut;by_cases hc:4<n/\X=0
 · rw[aS hc];obtain⟨⟨-, -, -, -,d4⟩,dz⟩ :=hz.out.s.cells;have dj:=dz 4 ω;have HO:Hid (sg (wc.setCell ⟨P,4,none⟩ (.int .i64 (q:Int))) go):=S.out.far (p:= ⟨P,4,none⟩) (λe=>ew e.symm) _;have H:=(hz.out.a0L q).alloc (.cells kL 167)
   have ck:sg ((wc.setCell ⟨P,4,none⟩ (.int .i64 (q:Int))).alloc (.cells kL 167)) wc.heap.size:=by
    have U:=sg.new (wc.setCell ⟨P,4,none⟩ (.int .i64 (q:Int)));have e9:(wc.setCell ⟨P,4,none⟩ (.int .i64 (q:Int))).heap.size=wc.heap.size:=by simp [World.setCell]
    rw[e9]at U;exact U
   have Cu:Hid (wc.heap.size=(wc.setCell ⟨P,4,none⟩ (.int .i64 (q:Int))).heap.size):=by show _=_;simp [World.setCell]
   have db:=hz.out.s.box.lt;have cG:=hz.out.s.res.lt;have Y:=η (⟨H,ck,Nat.ne_of_lt db,Nat.ne_of_lt cG,hc.1,cd.out hc⟩ :_/\_/\_/\_/\_/\_);clear H ck dz hz S hc cc cd db cG
   go_wp2_with (first
    | (refine wpList_load_row rfl 167 (.tmp 9) rfl go rfl 167 kL (0,0) _ HO.out Tryz.underlying167 rfl (by kernel_rfl) ?_)
    | (refine ve rfl (.tmp 9) (.tmp 101) rfl rfl wc.heap.size Cu.out rfl rfl _ rfl ?_))
   go_roundg q
   case measure=>have:=hg.out;have:=ce.out.1;omega
   case rel=>exact⟨wc.heap.size,q,rfl,Y.out.1,Y.out.2.1,Y.out.2.2.1,Y.out.2.2.2.1,ε Y.out.2.2.2.2.1 ce.out.1,τ ce.out.1,Y.out.2.2.2.2.2,rfl⟩
 rw[aQ hc];obtain⟨⟨d0,d1,d2,d3,d4⟩, -⟩ :=hz.out.s.cells;have J:=hz.out.s.res;have r0:=J.frozen' (i:=0) ω;have r1:=J.frozen' (i:=1) ω;have r2:=J.frozen' (i:=2) ω;have r3:=J.frozen' (i:=3) ω;have r4:=J.frozen' (i:=4) ω;have c0:=J.cell (i:=0) ω;have c1:=J.cell (i:=1) ω;have c2:=J.cell (i:=2) ω;have c3:=J.cell (i:=3) ω;have c4:=J.cell (i:=4) ω;have be:=hz.out;rw[<-SV.out,<-Gu.out,<-HE.out.2.2.1,<-HE.out.2.2.2.1]at be;have OY:=η (WI be HE.out.1 HE.out.2.1 (cc.out hc));have a8H:=η (λa b c d e=>a0N (a:=a) (b:=b) (c:=c) (d:=d) (e:=e) J);clear be J S hc cc cd hz
 go_wp2_with ((with_reducible (show bodyPost _ _ _ _ _ _));exact bj (FW (a8H.out (.slice j nl x) (.slice u nd y) (.slice AH 19 cH) (.slice Ar k cr) (.int .i64 (n:Int))) rfl) rfl (OY.out (.slice j nl x) (.slice u nd y) (.slice AH 19 cH) (.slice Ar k cr) (.int .i64 (n:Int))))
def yv (kind:Int) (last:Bool) (L:aj):aj:=L++dw (if last then 1 else 0) 1++dw kind 2
def lK (kind:Int) (au:List cy) (raw:aj) (last:Bool) (L:aj):aj:=
 if kind=0 then CR (yv kind last L) raw else if kind=1 then yv kind last L++kr im iU au else yv kind last L++mh au++kr (eX au) (dn au) au
theorem nU (kind:Int) (last:Bool) (L:aj):(yv kind last L).length=L.length+3:=by unfold yv;rw[ag,ag,aR,aR]
theorem kH.step {w w1 w2:World} {b0 g:Nat} {A A1:ay} {a:aj} (h:bk w w1 (foot A g)) (wV:∀k,ak A1=some k->ak A=some k\/w.heap.size<=k) (b:kH w1 w2 b0 g A1 a):kH w w2 b0 g A a:=by
 obtain⟨⟨A',n',c',q1,q2⟩,q3⟩ :=b;exact kH.next h wV q1 q3 q2
theorem BL {w:World} {g:Nat} {A A1 B:ay} (wV:∀k,ak A1=some k->ak A=some k\/w.heap.size<=k) (d:∀a,B=some a->a.block<w.heap.size) (h:∀a,B=some a->¬foot A g a.block):∀a,B=some a->¬foot A1 g a.block:=λa e b=>by
 rcases b with b | b
 · exact h a e (.inl b)
 rcases wV _ b with c | c
 · exact h a e (.inr c)
 have:=d a e;omega
theorem Gk (w:World) (b0 g n c:Nat) (A:ay) (L:aj) (q:qw w b0 g A n c L) (At:ay) (nt ct:Nat) (au:List cy) (E:mn w w.heap.size At nt au) (K:(nt:Int)<=4611686018427387904)
  (C:ay) (m cr:Nat) (raw:aj) (i:bT .u8 w w.heap.size C m raw) (h:0<m->∀z,C=some z->¬foot A g z.block) (b:∀x∈raw,0<=x/\x<256) (last:Bool) (j:m<=65535) (a:L.length<=2000000000000):
  Calls Tryz.prog 65 #[.pointer (some ⟨g,0,none⟩), .int .i64 0, .slice At nt ct, .slice C m cr, .bool last] w λe w'=>e= .returned (.bool true)/\kH w w' b0 g A (CR (yv 0 last L) raw):=by
 have R:=η (qV w 0 At nt ct au E K C m cr);have S:=η (show dS 0 au m=true by unfold dS;rw[af rfl];exact aS j);have t:=η (⟨q,i,h,b,j,a⟩ :_/\_/\_/\_/\_/\_);obtain⟨mk,r⟩ :=ν ((if last=true then(1:Int)else 0):Int);have D:Hid (yv 0 last L=L++dw mk 1++dw 0 2):=by show _=_;rw[<-r];rfl
 have o:=η r;have V:0<=mk/\mk<=1:=by cases last <;> simp at r <;> omega
 clear E q i h b j a r;go_enter Tryz.func65,Tryz.ntmps65
 go_wp2_with fail;refine R.out.mono ?_;rintro e w1 ⟨rfl,f⟩;rw[S.out];have O:=η (kH.start t.out.1 f);have X:=η f;clear f
 go_upto_if 24 with fail
 go_cut [11] (λu wx=>u= .int .u32 mk/\wx=w1)
 case first=>
  cases last with
  | false=>
    obtain rfl:mk=0:=o.out.symm
    go_wp2_with fail;go_meet;exact⟨rfl,rfl⟩
  | true=>
    obtain rfl:mk=1:=o.out.symm
    go_wp2_with fail;go_meet;exact⟨rfl,rfl⟩
 obtain⟨rfl,v⟩ :=hcut;obtain rfl:=v.symm;have Q:=η (O.out.put mk 1 ω δ (τ t.out.2.2.2.2.2))
 go_wp2_with fail;refine Q.out.mono ?_;rintro e w2 ⟨rfl,G⟩;have P:=η (G.put 0 2 δ δ (by rw[ag,aR];have:=t.out.2.2.2.2.2;omega));clear G
 go_wp2_with fail;refine P.out.mono ?_;rintro e I ⟨rfl,F⟩;rw[<-D.out]at F;obtain⟨⟨T,J,N,k,wW⟩,d⟩ :=F;obtain⟨q,i,h,b,j,a⟩ :=t.out
 have l:=MN I b0 g J N w.heap.size m cr T C _ raw k (d.ri i (ai _) h) d.size (λH=>BL wW (λz e=>by
  obtain⟨W,s,y,_⟩ :=i.2 H;rw[e]at s;injection s with s;rw[s];exact y) (h H)) b (by rw[nU];omega) j
 have B:=η l;have p:=η (⟨wW,d⟩ :_/\_);clear l k wW d q i h b j a
 go_wp2_with fail;refine B.out.mono ?_;rintro e U ⟨rfl,h4⟩;have M:=η (kH.step p.out.2 p.out.1 h4);clear h4
 go_wp2_with fail;go_ret;exact⟨rfl,M.out⟩
theorem zC {au:List cy} {m:Nat} (a:dS 2 au m=true):au.length<1048576/\∀t∈au,cF t:=by
 unfold dS at a;rw[aa δ]at a;by_cases h:¬((2:Int)=1\/(2:Int)=2)\/1048576<=au.length
 · rw[af h]at a;exact absurd a δ
 rw[aa h,gM]at a;exact⟨ω,λt ht=>cP (a t ht)⟩
theorem Jh {t:List cy} (ht:t.length<1048576):(mh t).length<=10000:=by
 have c:=G0 (hd:=cY t) (λi hi=>by have:=sj (kF t) i hi;omega) (dc t) (lu ht);have b:=mP t;have a:=uQ t;unfold mh;simp only [List.length_append,aR];rw[sV _ _ ω];omega
theorem RH (w:World) (b0 g n c:Nat) (A:ay) (L:aj) (Q:qw w b0 g A n c L) (At:ay) (nt ct:Nat) (au:List cy) (z:mn w w.heap.size At nt au) (F:0<nt->∀j,At=some j->¬foot A g j.block) (H:∀t∈au,0<=t.lit/\t.lit<256)
  (C:ay) (m cr:Nat) (last:Bool) (hm:dS 2 au m=true) (d:L.length<=2000000000000):
  Calls Tryz.prog 65 #[.pointer (some ⟨g,0,none⟩), .int .i64 2, .slice At nt ct, .slice C m cr, .bool last] w λe w'=>e= .returned (.bool true)/\kH w w' b0 g A (yv 2 last L++mh au++kr (eX au) (dn au) au):=by
 obtain⟨r,G⟩ :=zC hm;have S:=z.1;have HM:=η (qV w 2 At nt ct au z ω C m cr);have HF:=η hm;have i:=η (⟨Q,z,F,H,r,G,d,S⟩ :_/\_/\_/\_/\_/\_/\_/\_);obtain⟨mk,T⟩ :=ν ((if last=true then(1:Int)else 0):Int);have am:Hid (yv 2 last L=L++dw mk 1++dw 2 2):=by show _=_;rw[<-T];rfl
 have N:=η T;have O2:0<=mk/\mk<=1:=by cases last <;> simp at T <;> omega
 clear z Q F H hm r G d T S;go_enter Tryz.func65,Tryz.ntmps65
 go_wp2_with fail;refine HM.out.mono ?_;rintro e w1 ⟨rfl,x⟩;rw[HF.out];have XS:=η (kH.start i.out.1 x);have N7:=η x;clear x
 go_upto_if 24 with fail
 go_cut [11] (λZ wx=>Z= .int .u32 mk/\wx=w1)
 case first=>
  cases last with
  | false=>
    obtain rfl:mk=0:=N.out.symm
    go_wp2_with fail;go_meet;exact⟨rfl,rfl⟩
  | true=>
    obtain rfl:mk=1:=N.out.symm
    go_wp2_with fail;go_meet;exact⟨rfl,rfl⟩
 obtain⟨rfl,ab⟩ :=hcut;obtain rfl:=ab.symm;have vh:=η (XS.out.put mk 1 ω δ (τ i.out.2.2.2.2.2.2.1))
 go_wp2_with fail;refine vh.out.mono ?_;rintro e w2 ⟨rfl,h2⟩;have Ex:=η (h2.put 2 2 δ δ (by rw[ag,aR];have:=i.out.2.2.2.2.2.2.1;omega));clear h2
 go_wp2_with fail;refine Ex.out.mono ?_;rintro e l ⟨rfl,h3⟩;rw[<-am.out]at h3;obtain⟨⟨A3,n3,c3,f,wW⟩,a⟩ :=h3;have b:mn l l.heap.size At nt au:=(i.out.2.1.fC a (ai _) i.out.2.2.1).more a.size;have al:=η (yF l At nt ct au b i.out.2.2.2.2.1 λt ht=> ⟨i.out.2.2.2.2.2.1 t ht,i.out.2.2.2.1 t ht⟩);have H3:=η (⟨f,wW,a,b⟩ :_/\_/\_/\_);clear f wW a b
 go_wp2_with fail;refine al.out.mono ?_;rintro e q zb;obtain⟨vv,rfl⟩ :∃v,e= .returned v:=by obtain⟨Al,cl,Ad,M,Ah,ch,V,U,e1,_⟩ :=zb;exact⟨_,e1⟩
 obtain⟨Al,Ad,Ah,V,cl,M,ch,U,rfl,u,Ye⟩ :=GV.new zb;clear zb;have iG:Below l.heap.size l (q.alloc (.cells #[.slice Al (fP au) cl, .slice Ad (fX au) M, .slice Ah 19 ch, .slice V (dc au).length U, .int .i64 ((pI au:Nat):Int)] 135)):=u.alloc u.size _;have Qz:=MA _ b0 g n3 c3 A3 _ (H3.out.1.keeps iG) q.heap.size l.heap.size (q.heap.size+1) au Al Ad Ah V cl M ch U Ye i.out.2.2.2.2.1 σ (λk I=>(H3.out.1.eK I).2) (by rw[nU];have:=i.out.2.2.2.2.2.2.1;omega);have B:=η Qz;have O:=η (⟨iG,Ye⟩ :_/\_);clear u Ye iG Qz
 go_wp2_with fail;obtain⟨X,P⟩ :=ν (q.alloc (.cells #[.slice Al (fP au) cl, .slice Ad (fX au) M, .slice Ah 19 ch, .slice V (dc au).length U, .int .i64 ((pI au:Nat):Int)] 135));have Bf:q.heap.size+1=X.heap.size:=by rw[<-P];simp
 rw[P]at B O;rw[P];have Cu:=η Bf;clear P Bf;refine B.out.mono ?_;rintro e Y ⟨rfl,h5⟩;obtain⟨⟨A5,n5,c5,D,rI⟩,s⟩ :=h5;obtain⟨f,wW,a,b⟩ :=H3.out;obtain⟨Q,z,F,H,r,G,d,S⟩ :=i.out;have R:=O.out.2.fC s (by rw[Cu.out];exact ai _) λk I=> .inl (f.eK I).2;obtain⟨k0,k1, -⟩ :=R.cells
 have VE:0<nt->∀j,At=some j->¬foot A3 g j.block:=λK=>BL wW (λj e=>by
  obtain⟨Cw,p,y,_⟩ :=z.2 K;rw[e]at p;injection p with p;rw[p];exact y) (F K)
 have o:l.heap.size<=X.heap.size:=O.out.1.size
 have E:0<nt->∀j,At=some j->¬foot A5 g j.block:=λK=>BL rI (λj e=>by
  obtain⟨Cw,p,y,_⟩ :=b.2 K;rw[e]at p;injection p with p;rw[p];exact aB y o) (VE K)
 have J:mn Y l.heap.size At nt au:=(b.below O.out.1).fC s o VE;have ac:=kT au;have jW:=lY au
 have jJ:=uZ Y b0 g n5 c5 A5 _ D l.heap.size At nt ct au J (aw o s.size) E (λt ht=> ⟨G t ht,H t ht⟩) (by rw[ag,nU];have:=Jh r;omega)
  (q.heap.size+1) Al (fP au) cl (eX au) R.lit (by rw[Cu.out];exact s.size) ω (lr r) (q.heap.size+1) Ad (fX au) M (dn au) R.bm (by rw[Cu.out];exact s.size) ω (kE r)
 have ae:=η jJ;have ah:Hid (∀W L',kH Y W b0 g A5 L'->kH w W b0 g A L'):=λW L' h=>kH.step a wW (kH.step (w1:=X) (A1:=A3) (bk.bJ O.out.1) (λk I=> .inl I) (kH.step s rI h));clear jJ D rI s f wW a b Q z F H r G d S R VE o E J ac jW B
 go_wp2_with fail;refine ae.out.mono ?_;rintro e w6 ⟨rfl,h6⟩;have cu:=η (ah.out _ _ h6);clear h6 k0 k1
 go_wp2_with fail;go_ret;exact⟨rfl,cu.out⟩
theorem En (w:World) (b0 g n c:Nat) (A:ay) (L:aj) (f:qw w b0 g A n c L) (kind:Int) (At:ay) (nt ct:Nat) (au:List cy) (j:mn w w.heap.size At nt au) (r:(nt:Int)<=4611686018427387904) (k:0<nt->∀d,At=some d->¬foot A g d.block) (l:∀t∈au,0<=t.lit/\t.lit<256)
  (C:ay) (m cr:Nat) (raw:aj) (q:bT .u8 w w.heap.size C m raw) (p:0<m->∀d,C=some d->¬foot A g d.block) (i:∀x∈raw,0<=x/\x<256) (last:Bool) (a:dS kind au m=true) (b:L.length<=2000000000000):
  Calls Tryz.prog 65 #[.pointer (some ⟨g,0,none⟩), .int .i64 kind, .slice At nt ct, .slice C m cr, .bool last] w λe w'=>e= .returned (.bool true)/\kH w w' b0 g A (lK kind au raw last L):=by
 have s:kind=0\/kind=1\/kind=2:=by
  unfold dS at a;by_cases o:kind=0
  · exact .inl o
  rw[aa o]at a;by_cases h:¬(kind=1\/kind=2)\/1048576<=au.length
  · rw[af h]at a;exact absurd a δ
  omega
 unfold lK;rcases s with rfl | rfl | rfl
 · rw[af rfl];refine Gk w b0 g n c A L f At nt ct au j r C m cr raw q p i last ?_ b;unfold dS at a;rw[af rfl]at a;exact cP a
 · rw[aa δ,af rfl];exact JX w b0 g n c A L f At nt ct au j k l C m cr last a ω
 rw[aa δ,aa δ];exact RH w b0 g n c A L f At nt ct au j k l C m cr last a b
def Nt (t:List cy):Int:=3+fc im (kf t).1 286+fc iU (kf t).2 30+((Cj t:Nat):Int)
def Hr (t:List cy):Int:=3+SI t+fc (eX t) (kf t).1 (fP t)+fc (dn t) (kf t).2 (fX t)+((Cj t:Nat):Int)
def nM (kind:Int) (t:List cy) (m:Nat):Int:=if kind=0 then 40+8*(m:Int)else if kind=1 then Nt t else Hr t
theorem FH {au:List cy} {m:Nat} (a:dS 1 au m=true):au.length<1048576/\∀t∈au,cF t:=by
 unfold dS at a;rw[aa δ]at a;by_cases h:¬((1:Int)=1\/(1:Int)=2)\/1048576<=au.length
 · rw[af h]at a;exact absurd a δ
 rw[aa h,gM]at a;exact⟨ω,λt ht=>cP (a t ht)⟩
theorem Pn {b:Nat} {w w':World} (h:Below b w w') (q:Nat):Below b w (w'.drewN q):= ⟨h.os,h.tape,h.output,h.size,h.block⟩
theorem vL (A C:ay) (n m c d:Nat) (l f:aj) (w:World) (g:bT .i64 w w.heap.size A n l) (hf:bT .i64 w w.heap.size C m f) (a:n<=1000) (b:m<=1000):
  Calls Tryz.prog 119 #[.slice A n c, .slice C m d] w λe w'=>e= .returned (.int .i64 (fc l f (min n m)))/\Below w.heap.size w w':=
 (Tz A C n m c d l f w w.heap.size g hf a b).mono λe w' h=> ⟨h.1,by obtain⟨q,rfl⟩ :=h.2;exact Pn (ax _ w) q⟩
theorem Hc (w:World) (At:ay) (nt ct:Nat) (au:List cy) (n:mn w w.heap.size At nt au) (E:∀t∈au,0<=t.lit/\t.lit<256) (C:ay) (m cr:Nat) (q:dS 1 au m=true):
  Calls Tryz.prog 93 #[.int .i64 1, .slice At nt ct, .slice C m cr] w λe w'=>e= .returned (.int .i64 (Nt au))/\Below w.heap.size w w':=by
 obtain⟨D,B⟩ :=FH q;have A:=n.1;have U:=η (qV w 1 At nt ct au n ω C m cr);have V:=η q;have i:=η (⟨n,E,D,B,A⟩ :_/\_/\_/\_/\_);have W:Hid (mE im (kf au).1 286 ω=mE im (kf au).1 286 ω):=rfl;have b1:=mE im (kf au).1 286 ω;have b2:=mE iU (kf au).2 30 ω;have b3:=EO au;have h:Nt au=3+fc im (kf au).1 286+fc iU (kf au).2 30+((Cj au:Nat):Int):=rfl;obtain⟨c1,d⟩ :=ν (fc im (kf au).1 286);obtain⟨c2,c⟩ :=ν (fc iU (kf au).2 30);obtain⟨J,b⟩ :=ν (Cj au);rw[d,c,b]at h;rw[d]at b1;rw[c]at b2;rw[b]at b3;have Q:0<=c1/\c1<=400000000000000/\0<=c2/\c2<=400000000000000/\(0:Int)<=(J:Int)/\(J:Int)<=400000000000000:=ω;have u:=η h;have v:=η (⟨d,c,b⟩ :_/\_/\_);clear n E q D B A b1 b2 b3 h d c b W;go_enter Tryz.func93,Tryz.ntmps93
 go_wp2_with fail;refine U.out.mono ?_;rintro e w1 ⟨rfl,g⟩;rw[V.out];have s:=η (xu w1 At nt ct au ((i.out.1.below g).more g.size) (τ i.out) λt ht=> ⟨i.out.2.2.2.1 t ht,i.out.2.1 t ht⟩);have x:=η g;clear g
 go_wp2_with fail;refine s.out.mono ?_;rintro e w2 ⟨S,R,rfl,I⟩;have r:=η (pV w2);have o:=η I;clear I
 go_wp2_with fail;refine r.out.mono ?_;rintro e P ⟨Y,cf,Ad,T,rfl,z,y,f⟩;have F:=(o.out.lit.keeps f).rd;have j:=(o.out.bm.keeps f).rd;have l:=η (vL Y (some ⟨S,0,none⟩) 288 286 cf 286 _ _ P z.rd F ω ω);rw[show min 288 286=286 from rfl,v.out.1]at l;have p:=η (⟨y.rd,j,x.out.trans (o.out.vE.mono x.out.size |>.trans (f.mono (aw x.out.size o.out.vE.size)))⟩ :_/\_/\_);clear z y f F j
 go_wp2_with fail;refine l.out.mono ?_;rintro e O ⟨rfl,a⟩;have k:=η (vL Ad (some ⟨R,0,none⟩) 32 30 T 30 _ _ O ((p.out.1.below a).more a.size) ((p.out.2.1.below a).more a.size) ω ω);rw[show min 32 30=30 from rfl,v.out.2.1]at k;have M:=η (p.out.2.2.trans (a.mono p.out.2.2.size));clear a
 go_wp2_with fail;refine k.out.mono ?_;rintro e N ⟨rfl,H⟩;have h5:=M.out.trans (H.mono M.out.size);have K:=η (AB N At nt ct au ((i.out.1.below h5).more h5.size) (τ i.out));rw[v.out.2.2]at K;have L:=η h5;clear H h5
 go_wp2_with fail;refine K.out.mono ?_;rintro e Z ⟨rfl,G⟩;have X:=η (L.out.trans (G.mono L.out.size));clear G
 go_wp2_with fail;go_ret;exact⟨bZ (by rw[u.out]),X.out⟩
inductive CoI (Al Ad:ay) (nl nd cl cd g1 g2:Nat) (c1 c2:Int):ay->Nat->Nat->ay->Nat->Nat->Int->Prop
 | lit:CoI Al Ad nl nd cl cd g1 g2 c1 c2 Al nl cl (some ⟨g1,0,none⟩) 286 286 c1
 | bm:CoI Al Ad nl nd cl cd g1 g2 c1 c2 Ad nd cd (some ⟨g2,0,none⟩) 30 30 c2
theorem Pj (w:World) (At:ay) (nt ct:Nat) (au:List cy) (S:mn w w.heap.size At nt au) (cQ:∀t∈au,0<=t.lit/\t.lit<256) (C:ay) (m cr:Nat) (Y:dS 2 au m=true):
  Calls Tryz.prog 93 #[.int .i64 2, .slice At nt ct, .slice C m cr] w λe w'=>e= .returned (.int .i64 (Hr au))/\Below w.heap.size w w':=by
 obtain⟨rU,vr⟩ :=zC Y;have o:=S.1;have HM:=η (qV w 2 At nt ct au S ω C m cr);have HF:=η Y;have f:=η (⟨S,cQ,rU,vr,o⟩ :_/\_/\_/\_/\_);clear S cQ Y rU vr o;go_enter Tryz.func93,Tryz.ntmps93
 go_wp2_with fail;refine HM.out.mono ?_;rintro e w1 ⟨rfl,l⟩;rw[HF.out];have L:=η (xu w1 At nt ct au ((f.out.1.below l).more l.size) (τ f.out) λt ht=> ⟨f.out.2.2.2.1 t ht,f.out.2.1 t ht⟩);have N7:=η l;clear l
 go_wp2_with fail;refine L.out.mono ?_;rintro e w2 ⟨g1,g2,rfl,hM⟩;have T:=η (N7.out.trans (hM.vE.mono N7.out.size));have K:=η (yF w2 At nt ct au ((f.out.1.below T.out).more T.out.size) f.out.2.2.1 λt ht=> ⟨f.out.2.2.2.1 t ht,f.out.2.1 t ht⟩);have Ct:=η hM;clear hM
 go_wp2_with fail;refine K.out.mono ?_;rintro e z X;obtain⟨vv,rfl⟩ :∃v,e= .returned v:=by obtain⟨Al,cl,Ad,p,Ah,ch,N,I,e1,_⟩ :=X;exact⟨_,e1⟩
 obtain⟨Al,Ad,Ah,N,cl,p,ch,I,rfl,s,Ye⟩ :=GV.new X;clear X;have Q:Below w2.heap.size w2 (z.alloc (.cells #[.slice Al (fP au) cl, .slice Ad (fX au) p, .slice Ah 19 ch, .slice N (dc au).length I, .int .i64 ((pI au:Nat):Int)] 135)):=s.alloc s.size _;have B:Below w.heap.size w (z.alloc (.cells #[.slice Al (fP au) cl, .slice Ad (fX au) p, .slice Ah 19 ch, .slice N (dc au).length I, .int .i64 ((pI au:Nat):Int)] 135)):=T.out.trans (Q.mono T.out.size);have Si:=(Ct.out.lit.keeps Q).rd;have E:=(Ct.out.bm.keeps Q).rd;have b:=η (⟨Ye,B,Si,E⟩ :_/\_/\_/\_);clear s Ye Q B Si E;go_upto_region 10 with fail
 obtain⟨a,O⟩ :=ν (z.alloc (.cells #[.slice Al (fP au) cl, .slice Ad (fX au) p, .slice Ah 19 ch, .slice N (dc au).length I, .int .i64 ((pI au:Nat):Int)] 135));have V:z.heap.size+1=a.heap.size:=by rw[<-O];simp
 rw[O]at b;rw[O];obtain⟨G,hG⟩ :=ν (z.heap.size);rw[hG]at b V;rw[hG];rw[V]at b;clear O V hG;have ab:=kT au;have jW:=lY au;have b1:=mE (eX au) (kf au).1 (fP au) ω;have b2:=mE (dn au) (kf au).2 (fX au) ω;have b3:=EO au;have b4:=uV (vT au) (dc au) (lu f.out.2.2.1);have b5:=mP au;have b6:=uQ au;have Z:Hr au=3+SI au+fc (eX au) (kf au).1 (fP au)+fc (dn au) (kf au).2 (fX au)+((Cj au:Nat):Int):=rfl;have uh:0<=SI au/\SI au<=10000:=by unfold SI;omega
 have u:∀W,Below a.heap.size a W->Calls Tryz.prog 121 #[.pointer (some ⟨G,0,none⟩)] W λe w'=>e= .returned (.int .i64 (SI au))/\Below a.heap.size a w':=λW h=>
  (X8 W G w2.heap.size a.heap.size au Al Ad Ah N cl p ch I (b.out.1.below h (ai _)) f.out.2.2.1 h.size).mono λe w' q=> ⟨q.1,h.trans (q.2.mono h.size)⟩
 have y:∀W,Below a.heap.size a W->∀A n c F k d v,CoI Al Ad (fP au) (fX au) cl p g1 g2 (fc (eX au) (kf au).1 (fP au)) (fc (dn au) (kf au).2 (fX au)) A n c F k d v->Calls Tryz.prog 119 #[.slice A n c, .slice F k d] W λe w'=>e= .returned (.int .i64 v)/\Below a.heap.size a w':=λW h A n c F k d v hc=>by
  cases hc with
  | lit=>
    have:=vL Al (some ⟨g1,0,none⟩) (fP au) 286 cl 286 _ _ W ((b.out.1.lit.below h).more h.size) ((b.out.2.2.1.below h).more h.size) ω ω;rw[show min (fP au) 286=fP au by omega]at this;exact this.mono λe w' q=> ⟨q.1,h.trans (q.2.mono h.size)⟩
  | bm=>
    have:=vL Ad (some ⟨g2,0,none⟩) (fX au) 30 p 30 _ _ W ((b.out.1.bm.below h).more h.size) ((b.out.2.2.2.below h).more h.size) ω ω;rw[show min (fX au) 30=fX au by omega]at this;exact this.mono λe w' q=> ⟨q.1,h.trans (q.2.mono h.size)⟩
 have x:∀W,Below a.heap.size a W->Calls Tryz.prog 120 #[.slice At nt ct] W λe w'=>e= .returned (.int .i64 ((Cj au:Nat):Int))/\Below a.heap.size a w':=λW h=>
  (AB W At nt ct au ((f.out.1.below (b.out.2.1.trans (h.mono b.out.2.1.size))).more (aw b.out.2.1.size h.size)) (τ f.out)).mono λe w' q=> ⟨q.1,h.trans (q.2.mono h.size)⟩
 obtain⟨c1,j⟩ :=ν (fc (eX au) (kf au).1 (fP au));obtain⟨c2,i⟩ :=ν (fc (dn au) (kf au).2 (fX au));obtain⟨J,g⟩ :=ν (Cj au);obtain⟨r,P⟩ :=ν (SI au);obtain⟨nl,o⟩ :=ν (fP au);obtain⟨nd,D⟩ :=ν (fX au);rw[j,i,g,P]at Z;rw[j,o]at b1;rw[i,D]at b2;rw[g]at b3;rw[P]at uh;rw[j,i,o,D]at y;rw[g]at x;rw[P]at u;obtain⟨k0,k1, -⟩ :=b.out.1.cells;rw[o]at k0;rw[D]at k1;have ae:0<=c1/\c1<=400000000000000/\0<=c2/\c2<=400000000000000/\(0:Int)<=(J:Int)/\(J:Int)<=400000000000000/\0<=r/\r<=10000:=by have:=f.out.2.2.1;omega
 have HK:Hid (∀W,Below a.heap.size a W->W.cell? ⟨G,0,none⟩ =some (.slice Al nl cl)/\W.cell? ⟨G,1,none⟩ =some (.slice Ad nd p)):=λW h=>by
  obtain⟨U,q1, -⟩ :=(b.out.1.below h (ai _)).cells;rw[o]at U;rw[D]at q1;exact⟨U,q1⟩
 have ac:Hid (IntKind.i64.wrap (IntKind.i64.wrap (IntKind.i64.wrap (IntKind.i64.wrap (3+r)+c1)+c2)+(J:Int))=3+r+c1+c2+(J:Int)):=by
  show _=_;rw[aM (3+r) ω,aM (3+r+c1) ω,aM (3+r+c1+c2) ω,aM (3+r+c1+c2+(J:Int)) ω]
 have Cu:=η u;have M:=η y;have GJ:=η x;have RN:=η Z;have Gv:=η b.out.2.1;have ad:=η (ax a.heap.size a);clear ab jW b1 b2 b3 b4 b5 b6 Z uh u y x j i g P o D b K L HM;go_cut [6] (λv6 wx=>v6= .int .i64 (Hr au)/\Below w.heap.size w wx)
 case first=>
  go_region_law
   (first
     | (have _g:=uB
        go_simp
        go_at_call 120
        refine(GJ.out _ uB).mono ?_;rintro e w9 ⟨rfl,ZN⟩)
     | (have _g:=R
        go_simp
        go_at_call 119
        refine(M.out _ R _ _ _ _ _ _ _ (by constructor)).mono ?_;rintro e w8 ⟨rfl,uB⟩)
     | (have _g:=H
        go_simp
        go_at_call 119
        refine(M.out _ H _ _ _ _ _ _ _ (by constructor)).mono ?_;rintro e w7 ⟨rfl,R⟩;have q1:=(HK.out _ R).2)
     | (go_simp
        go_at_call 121
        refine(Cu.out _ (by exact ad.out.drew)).mono ?_;rintro e w6 ⟨rfl,H⟩;have U:=(HK.out _ H).1;have q1:=(HK.out _ H).2))
  all_goals
   have Yu:=η ZN;clear ZN uB R H
   go_wp2_with fail;go_meet;exact⟨aN (Value.int .i64) (ac.out.trans RN.out.symm),Gv.out.trans (Yu.out.mono Gv.out.size)⟩
 obtain⟨rfl,hb⟩ :=hcut;have HB:=η hb;clear hb
 go_wp2_with fail;go_ret;exact⟨rfl,HB.out⟩
theorem Ph (w:World) (kind:Int) (At:ay) (nt ct:Nat) (au:List cy) (b:mn w w.heap.size At nt au) (c:(nt:Int)<=4611686018427387904) (d:∀t∈au,0<=t.lit/\t.lit<256) (C:ay) (m cr:Nat):
  Calls Tryz.prog 93 #[.int .i64 kind, .slice At nt ct, .slice C m cr] w λe w'=>e= .returned (.int .i64 (if dS kind au m=true then nM kind au m else -1))/\Below w.heap.size w w':=by
 by_cases a:dS kind au m=true
 rotate_left
 · rw[aa a];exact Tl w kind At nt ct au b c C m cr (by simpa using a)
 rw[af a]
 have g:kind=0\/kind=1\/kind=2:=by
  unfold dS at a;by_cases f:kind=0
  · exact .inl f
  rw[aa f]at a;by_cases h:¬(kind=1\/kind=2)\/1048576<=au.length
  · rw[af h]at a;exact absurd a δ
  omega
 unfold nM;rcases g with rfl | rfl | rfl
 · rw[af rfl];refine EE w At nt ct au b c C m cr ?_;unfold dS at a;rw[af rfl]at a;exact cP a
 · rw[aa δ,af rfl];exact Hc w At nt ct au b d C m cr a
 rw[aa δ,aa δ];exact Pj w At nt ct au b d C m cr a
theorem a2K {l:List cy}:∀t∈l,t.len=0->t.lit.toNat<286->1<=ix (kf l).1 t.lit.toNat:=by
 refine kx (β:=Nat) (motive:=λl=>∀t∈l,t.len=0->t.lit.toNat<286->1<=ix (kf l).1 t.lit.toNat) ?_ ?_ l
 · intro t ht;simp at ht
 intro l u c t ht b a;rw[ox];have e:=Di l;have d:=mJ l;rcases aP.1 ht with ht | ht
 · have:=c t ht b a;unfold NF;split
   · simp only;rw[iP];split <;> omega
   simp only;rw[iP];split <;> omega
 obtain rfl:=bf.1 ht;unfold NF;rw[af b];simp only;rw[iP,af ⟨rfl,by rw[d.1];exact a⟩];have:=(e t.lit.toNat).1;omega
theorem Zg {l:List cy}:∀t∈l,cF t->t.len≠0->1<=ix (kf l).1 (257+jm t.len)/\1<=ix (kf l).2 (fj t.bm):=by
 refine kx (β:=Nat) (motive:=λl=>∀t∈l,cF t->t.len≠0->1<=ix (kf l).1 (257+jm t.len)/\1<=ix (kf l).2 (fj t.bm)) ?_ ?_ l
 · intro t ht;simp at ht
 intro l u e t ht b a;rw[ox];have d:=Di l;have c:=mJ l;obtain⟨_,_,g,f⟩ :=tz b a;rcases aP.1 ht with ht | ht
 · have:=e t ht b a;unfold NF;split
   · simp only;rw[iP];refine⟨?_,this.2⟩;split <;> omega
   simp only;rw[iP,iP];constructor <;> (split <;> omega)
 obtain rfl:=bf.1 ht;unfold NF;rw[aa a];simp only;rw[iP,iP,af ⟨rfl,by rw[c.1];omega⟩,af ⟨rfl,by rw[c.2];omega⟩];have:=(d (257+jm t.len)).1;have:=(d (fj t.bm)).2;omega
theorem Bn {l:List cy} (c:l.length<1048576) {s:Nat} (h:1<=ix (kf l).1 s) (b:s<286):1<=ix (eX l) s:=by
 have d:=((nA (kf l).1 15).snd (I7 c).1).each s (by rw[(mJ l).1];exact b);have e:0<ix (xP l) s:=d.1.2 ω
 have a:s<fP l:=by
  rcases aV s (fP l)with a | a
  · exact a
  have:=l8 (xP l) 257 286 s a b;omega
 unfold eX;rw[kQ a];omega
theorem TJ {l:List cy} (c:l.length<1048576) {s:Nat} (h:1<=ix (kf l).2 s) (b:s<30):1<=ix (dn l) s:=by
 have e:=((nA (kf l).2 15).snd (I7 c).2).each s (by rw[(mJ l).2];exact b);have f:0<ix (qG l) s:=e.1.2 ω
 have a:s<fX l:=by
  rcases aV s (fX l)with a | a
  · exact a
  have:=l8 (qG l) 1 30 s a b;omega
 unfold dn;by_cases d:fX l=1/\ix (qG l) 0=0
 · have:s=0:=ω;subst this;omega
 rw[aa d,kQ a];omega
theorem Z6 {l:List cy} (b:l.length<1048576) {t:cy} (ht:t∈l) (c:cF t) (h:0<=t.lit/\t.lit<256):wN (eX l) (dn l) t:=by
 unfold wN;by_cases a:t.len=0
 · rw[af a];exact Bn b (a2K t ht a ω) ω
 rw[aa a];obtain⟨_,_,g,f⟩ :=tz c a;obtain⟨e,d⟩ :=Zg t ht c a;exact⟨Bn b e ω,TJ b d ω⟩
theorem Oh {l:List cy} (a:l.length<1048576):1<=ix (eX l) 256:=Bn a (a2J l) ω
theorem AJ:∀s,s<288->1<=ix im s:=λs a=>by rw[EP s a];split <;> (try split) <;> (try split) <;> omega
theorem Zd {t:cy} (b:cF t) (e:0<=t.lit/\t.lit<256):wN im iU t:=by
 unfold wN;by_cases a:t.len=0
 · rw[af a];exact AJ _ ω
 rw[aa a];obtain⟨_,_,d,c⟩ :=tz b a;refine⟨AJ _ ω, ?_⟩;have:ix iU (fj t.bm)=5:=by unfold iU;rw[Fz _ ω]
 omega
theorem ZZ {a:List Rn}:∀r∈a,yQ r->1<=ix (yx a) r.c.toNat:=by
 refine kx (β:=Nat) (motive:=λa=>∀r∈a,yQ r->1<=ix (yx a) r.c.toNat) ?_ ?_ a
 · intro r b;simp at b
 intro a u e r b d;rw[vS,iP];have f:=LA a r.c.toNat;rcases aP.1 b with b | b
 · have:=e r b d;split <;> omega
 obtain rfl:=bf.1 b;rw[af ⟨rfl,by rw[qL];have:=d.1;omega⟩];omega
theorem IB {l:List cy} (d:l.length<1048576):∀r∈dc l,1<=ix (cY l) r.c.toNat:=λr a=>by
 have b:=lu d r a;have e:=((nA (yx (dc l)) 7).snd (UY l)).each r.c.toNat (by rw[qL];have:=b.1;omega);have g:=ZZ r a b;have f:0<ix (cY l) r.c.toNat:=e.1.2 ω;omega
theorem a0W {l:List cy}:dc l≠[]:=λe=>by
 have h:=(Jy _ (eX l++dn l) rfl);unfold dc at e;have d:=o9 l;have g:=kT l;cases c:eX l with
 | nil=>rw[c]at d;simp at d;omega
 | cons a r=>
   rw[c,dD,oC]at e;split at e
   · simp at e
   rename_i i
   have f:iq a (runN a (r++dn l)+1)≠[]:=λb=>by
    rw[iq,dif_neg ω]at b;split at b
    · simp at b
    split at b
    · simp at b
    split at b
    · simp at b
    simp at b
   exact f (List.append_eq_nil_iff.1 e).1
theorem Wy {l:List cy} (p:l.length<1048576):gU (sW (cY l) (pI l))=false:=by
 obtain⟨r,o⟩ :∃r,r∈dc l:=by
  cases h:dc l with
  | nil=>exact absurd h a0W
  | cons r _=>exact⟨r,aH⟩
 have s:=IB p r o;have q:=(lu p r o).1;have d:r.c.toNat<19:=ω;obtain⟨n,m⟩ :=NQ r.c.toNat d;have hN:=uQ l
 have a:lD.idxOf r.c.toNat<pI l:=by
  rcases aV (lD.idxOf r.c.toNat) (pI l)with f | f
  · exact f
  have h4:=l8 (jF.map λk=>ix (cY l) k.toNat) 4 19 _ f n;have j:∀(L:aj) (g:Int->Int) (i:Nat),i<L.length->ix (L.map g) i=g (ix L i):=λL g i hi=>by simp [ix,hi]
  rw[j _ _ _ n,m]at h4;omega
 have b:=wE (cY l) (k:=pI l) ω
 have e:ix (sW (cY l) (pI l)) (lD.idxOf r.c.toNat)=ix (cY l) r.c.toNat:=by
  have j:∀(L:aj) (g:Int->Int) (i:Nat),i<L.length->ix (L.map g) i=g (ix L i):=λL g i hi=>by simp [ix,hi]
  unfold sW;rw[j _ _ _ (by rw[aD];show _<min (pI l) 19;omega),kQ a,m]
 unfold gU;rw[List.all_eq_false];refine⟨ix (sW (cY l) (pI l)) (lD.idxOf r.c.toNat),Bh (by rw[b];exact a), ?_⟩;rw[e];simp;omega
theorem Wz (l:List cy):∀i,pI l<=i->i<19->ix (cY l) (ix jF i).toNat=0:=λi b a=>by
 have h4:=l8 (jF.map λk=>ix (cY l) k.toNat) 4 19 _ b a;have c:∀(L:aj) (g:Int->Int) (i:Nat),i<L.length->ix (L.map g) i=g (ix L i):=λL g i hi=>by simp [ix,hi]
 rw[c _ _ _ a]at h4;exact h4
end Go.Proofs.YtdhmnlpfhfmpfaaGreat
