/-
  part
-/
import Derived.Test.YtddhegejmkgmjaaGreatPk17
set_option linter.unusedVariables false
set_option maxRecDepth 100000
set_option maxHeartbeats 8000000
namespace Go.Proofs.YtddhegejmkgmjaaGreat
open Go.RowKit
theorem sD (w:World) (At:Option Addr) (nt ct:Nat) (a8:List aF) (hT:ig w w.heap.size At nt a8) (iI:a8.length<1048576) (iZ:∀t∈a8,aH t/\0<=t.lit/\t.lit<256):
  Calls Tryz.prog 73 #[.slice At nt ct] w (tY w a8):=by
 have aE:Below w.heap.size w (w.alloc (.cells #[.slice none 0 0, .slice none 0 0, .slice none 0 0, .slice none 0 0, .int .i64 0] 116)):=(Below.refl _ w).alloc (Nat.le_refl _) _;have Yo:=η (rp (w.alloc (.cells #[.slice none 0 0, .slice none 0 0, .slice none 0 0, .slice none 0 0, .int .i64 0] 116)) At nt ct a8 ((hT.below aE).more σ) (by have:=hT.1;omega) iZ);have mJ:=Cr iI;have Bo:=η mJ;have O2:Ar (w.alloc (.cells #[.slice none 0 0, .slice none 0 0, .slice none 0 0, .slice none 0 0, .int .i64 0] 116)) w.heap.size 5 (QA tv tv tv tv (.int .i64 0)):=AJ w _ _ _ _ _ _;have H0:=η (⟨O2,aE⟩ :_/\_);have PZ:=η iI;clear hT iI iZ aE mJ O2;go_enter Tryz.func73,Tryz.ntmps73
 go_wp2_with fail
 refine Yo.out.mono ?_;rintro e w2 ⟨g1,g2,rfl,hM⟩
 have kI:jG w (w2.alloc (.cells #[.slice none 0 0, .slice none 0 0, .slice none 0 0, .slice none 0 0, .int .i64 0] 116)) w.heap.size w2.heap.size tv tv tv tv (.int .i64 0):=
  ⟨(H0.out.1.keeps hM.ou).alloc _,AJ _ _ _ _ _ _ _,(H0.out.2.trans (hM.ou.mono H0.out.2.size)).alloc (H0.out.2.trans (hM.ou.mono H0.out.2.size)).size _,Nat.le_refl _,Nat.lt_of_lt_of_le σ hM.ou.size⟩
 have wM:=hM.alloc (.cells #[.slice none 0 0, .slice none 0 0, .slice none 0 0, .slice none 0 0, .int .i64 0] 116);have cc:g1<w2.heap.size/\g2<w2.heap.size:= ⟨(hM.lit.2.lt rfl).2,(hM.ak.2.lt rfl).2⟩;have LR:=η (nB (w2.alloc (.cells #[.slice none 0 0, .slice none 0 0, .slice none 0 0, .slice none 0 0, .int .i64 0] 116)) (some ⟨g1,0,none⟩) 286 286 _ wM.lit.rd 15 δ);have tX:=η kI;have wG:=η (⟨wM.ak,cc⟩ :_/\_);clear kI wM cc hM
 go_wp2_with fail
 obtain⟨wa,ah⟩ :=ν (w2.alloc (.cells #[.slice none 0 0, .slice none 0 0, .slice none 0 0, .slice none 0 0, .int .i64 0] 116));obtain⟨P,hP⟩ :=ν (w2.heap.size);obtain⟨R,hR⟩ :=ν (w.heap.size);rw[ah,hP]at tX;rw[ah,hP]at wG;rw[ah]at LR;rw[ah,hP];rw[show jG w wa w.heap.size P=jG w wa R P by rw[hR]]at tX;rw[hR];clear ah hP hR H0;clear w2;refine LR.out.mono ?_;rintro e w3 ⟨j,x,L,rfl,bl,Si, -,YJ⟩;have e3:L=rM a8:=(YJ Bo.out.1).eq;rw[Bo.out.1];subst e3;have h3:=tX.out.keeps bl;have cq:P<wa.heap.size:=tX.out.box.lt;have f:aa j≠some P:=λe=>by have:=(Si.2.lt e).1;omega
 have ru:=wG.out.1.keeps bl;obtain⟨⟨x0, -⟩,z⟩ :=h3.cells;have z0:=z 0 ω;rw[Db]at Si⊢
 have ca:aa (some (⟨g2,0,none⟩ :Addr))≠some P:=λe=>by
  have e':g2=P:=by injection e
  have:=wG.out.2.2;omega
 have Q6:=η (⟨h3.Y3 (.slice j 286 x),(Si.far (p:= ⟨P,0,none⟩) f (.slice j 286 x)).more (b1:=R+1) (by have:=tX.out.EA;omega),ru.far (p:= ⟨P,0,none⟩) ca (.slice j 286 x),f,cq⟩ :_/\_/\_/\_/\_);clear z h3 f ru Si YJ bl cq LR tX wG ca
 go_wp2_with fail
 obtain⟨wb,xL⟩ :=ν (w3.setCell ⟨P,0,none⟩ (.slice j 286 x));rw[xL]at Q6;have cz:=η (nB wb (some ⟨g2,0,none⟩) 30 30 _ Q6.out.2.2.1.rd 15 δ);have Zg:Hid (P<wb.heap.size):=Q6.out.1.box.lt;rw[xL];clear xL x0 z0;clear w3;refine cz.out.mono ?_;rintro e w4 ⟨u,y,D,rfl,bk,N, -,cm⟩;have e4:D=ll a8:=(cm Bo.out.2).eq;rw[Bo.out.2];subst e4;have h4:=Q6.out.1.keeps bk;have f:aa u≠some P:=λe=>by have:=(N.2.lt e).1;have:=Zg.out;omega
 have bS:=Q6.out.2.1.keeps bk;have WY:∀k,aa j=some k->aa u≠some k:=λk h1 h2=>by have:=(N.2.lt h2).1;have:=(Q6.out.2.1.2.lt h1).2;omega
 obtain⟨⟨-,x1, -⟩,z⟩ :=h4.cells;have z1:=z 1 ω;rw[um]at N⊢;have Vo:=η (⟨h4.Y4 (.slice u 30 y),(⟨bS.far (p:= ⟨P,1,none⟩) Q6.out.2.2.2.1 (.slice u 30 y),(N.far (p:= ⟨P,1,none⟩) f (.slice u 30 y)).more (b1:=R+1) (by have:=Q6.out.1.EA;have:=Zg.out;omega),Q6.out.2.2.2.1,f,WY⟩ :qU (R+1) _ P j u 286 x 30 y (rM a8) (ll a8))⟩ :_/\_);clear z h4 f bS WY N cm bk cz Q6
 go_upto_region 5 with fail
 obtain⟨wc,aC⟩ :=ν (w4.setCell ⟨P,1,none⟩ (.slice u 30 y));rw[aC]at Vo;rw[aC];clear aC x1 z1;clear Zg;clear w4 wb
 go_cut [] (λwx=>jG w wx R P (.slice j (bZ a8) x) (.slice u (cG a8) y) (.slice none 0 0) (.slice none 0 0) (.int .i64 0)/\qU (R+1) wx P j u (bZ a8) x (cG a8) y ((rM a8).take (bZ a8)) ((ll a8).take (cG a8)))
 case first=>
  obtain⟨⟨x0,x1,x2,x3,x4⟩,z⟩ :=Vo.out.1.cells;have z0:=z 0 ω;have z1:=z 1 ω;have cg:Hid (∀W,qU (R+1) W P j u 286 x 30 y (rM a8) (ll a8)->∀A n c few m,TrI j u x y (bZ a8) (cG a8) A n c few m->Calls Tryz.prog 93 #[.slice A n c, .int .i64 few] W λe w'=>e= .returned (.slice A m c)/\W=w'):=λW h=>PO W h
  obtain⟨n1,kW⟩ :=ν (bZ a8);obtain⟨G,S⟩ :=ν (cG a8);obtain⟨l1,sZ⟩ :=ν (rM a8);obtain⟨l2,B⟩ :=ν (ll a8);have hR:=Vo.out.2;rw[kW,S,sZ,B]at cg;rw[sZ,B]at hR;have HE:=η (⟨kW,S,sZ,B⟩ :_/\_/\_/\_);have hb:n1<=286/\G<=30:=by have:=fQ a8;have:=gV a8;omega
  rw[sZ,B]at Vo;have HB:=η hb;clear kW S sZ B hb Bo PZ
  go_wp2_with fail
  go_region_law
   ((go_simp;go_at_call 93;(refine(cg.out _ (by first | exact hR | exact hR.drew) _ _ _ _ _ (by constructor)).mono ?_);rintro e w5 ⟨rfl,rfl⟩))
  all_goals
   obtain⟨kW,S,sZ,B⟩ :=HE.out;have h5:=(Vo.out.1.Y3 (.slice j n1 x)).Y4 (.slice u G y);have h6:=(Vo.out.1.Y4 (.slice u G y)).Y3 (.slice j n1 x);have h7:=((hR.put 0 (.slice j n1 x)).put 1 (.slice u G y)).pre HB.out.1 HB.out.2;have h8:=((hR.put 1 (.slice u G y)).put 0 (.slice j n1 x)).pre HB.out.1 HB.out.2;have dM:=η (⟨h5,h6,h7,h8⟩ :_/\_/\_/\_);have QK:=η (⟨kW,S,sZ,B⟩ :_/\_/\_/\_);clear h5 h6 h7 h8 kW S sZ B HE
   go_wp2_with fail
   go_meet
   obtain⟨h5,h6,h7,h8⟩ :=dM.out;obtain⟨kW,S,sZ,B⟩ :=QK.out;rw[kW,S,sZ,B]
   first | exact⟨h5.drew,h7.drew⟩ | exact⟨h6.drew,h8.drew⟩
 case rest=>
  have HC:=η hcut;clear hcut Vo;have RB:=gV a8;obtain⟨G,S⟩ :=ν (cG a8);rw[S]at RB;obtain⟨v,hv⟩ :=ν (ix (ll a8) 0);have Vf:=η (⟨S,hv⟩ :_/\_);have rY:=η HC.out;rw[S]at rY;obtain⟨gd,dh⟩ :∃gd,u=some ⟨gd,0,none⟩ :=rY.out.2.ak.2.addr ω;subst dh;obtain⟨y0,yz⟩ :=rY.out.2.ak.head (i:=0) ω;rw[fK ω,hv]at y0;obtain⟨⟨x0,x1,x2,x3,x4⟩,z⟩ :=rY.out.1.cells;clear S hv;have HY:=η (⟨y0,yz,x1,RB⟩ :_/\_/\_/\_);clear y0 yz x0 x1 x2 x3 x4 z
  go_upto_region 6 with fail
  go_cut [45] (λda wx=>da= .bool (decide (G=1/\v=0))/\wx=wc)
  case first=>
   obtain⟨y0,yz,x1,RB⟩ :=HY.out;by_cases h1:G=1
   · subst h1;by_cases h0:v=0
     · subst h0
       go_wp2_with fail
       all_goals go_meet
       all_goals exact⟨rfl,rfl⟩
     · have ec:(v==0)=false:=by simpa using h0
       have hf:=η (show false=decide ((1:Nat)=1/\v=0) from(decide_eq_false λh=>h0 h.2).symm)
       go_wp2_with fail
       all_goals go_meet
       all_goals exact⟨congrArg Value.bool hf.out,rfl⟩
   · have VP:((G:Int)==1)=false:=ξ;have hf:=η (show false=decide (G=1/\v=0) from(decide_eq_false λh=>h1 h.1).symm)
     go_wp2_with fail
     all_goals go_meet
     all_goals exact⟨congrArg Value.bool hf.out,rfl⟩
  case rest=>
   obtain⟨rfl,db⟩ :=hcut;obtain rfl:=db.symm
   go_upto_if 45 with fail
   go_cut [] (λwx=>jG w wx R P (.slice j (bZ a8) x) (.slice (some ⟨gd,0,none⟩) G y) (.slice none 0 0) (.slice none 0 0) (.int .i64 0)/\qU (R+1) wx P j (some ⟨gd,0,none⟩) (bZ a8) x G y (bM a8) (aV a8))
   case first=>
    by_cases hc:G=1/\v=0
    · rw[decide_eq_true hc];obtain⟨y0,yz,x1,RB⟩ :=HY.out;obtain⟨e1,e2⟩ :=hc;have YZ:aV a8=[1]:=by unfold aV;rw[if_pos ⟨by rw[Vf.out.1];exact e1,by rw[Vf.out.2];exact e2⟩]
      have U:Hid (∀W,qU (R+1) W P j (some ⟨gd,0,none⟩) (bZ a8) x G y ((rM a8).take (bZ a8)) ((ll a8).take G)->qU (R+1) (W.setCell ⟨gd,0,none⟩ (.int .i64 1)) P j (some ⟨gd,0,none⟩) (bZ a8) x G y (bM a8) (aV a8)):=λW h=>by
       refine⟨h.lit.far (p:= ⟨gd,0,none⟩) (λe=>h.ld _ e rfl) _, ?_,h.lp,h.dp,h.ld⟩;have T:=h.ak.put (i:=0) ω 1;rw[YZ]
       have e9:((ll a8).take G).set 0 1=[1]:=by
        have bI:=um a8;rw[e1];cases dj:ll a8 with
        | nil=>rw[dj]at bI;simp at bI
        | cons a b=>simp
       rw[e9]at T;exact T
      have hP:gd≠P:=λe=>rY.out.2.dp (by rw[e];rfl)
      have ci:R≠gd:=λe=>by have h1:R+1<=gd:=(rY.out.2.ak.2.lt rfl).1;omega
      have O:=η (⟨rY.out.1.far (p:= ⟨gd,0,none⟩) ci (λe=>hP e.symm) (by have h1:R+1<=gd:=(rY.out.2.ak.2.lt rfl).1;have h2:=rY.out.1.KM;show w.heap.size<=gd;omega) (.int .i64 1),U.out _ rY.out.2⟩ :_/\_);subst e1;clear YZ U hP ci e2
      go_wp2_with fail
      all_goals go_meet
      all_goals exact O.out
    · rw[decide_eq_false hc];have YZ:aV a8=(ll a8).take G:=by unfold aV;rw[if_neg (by rw[Vf.out.1,Vf.out.2];exact hc),Vf.out.1]
      have O:=η rY.out;rw[<-YZ]at O;clear YZ
      go_wp2_with fail
      all_goals go_meet
      all_goals exact O.out
   case rest=>
    have Y:=η hcut;clear hcut rY HC HY;obtain⟨u,Es⟩ :∃A:Option Addr,(some ⟨gd,0,none⟩ :Option Addr)=A:= ⟨_,rfl⟩;rw[Es]at Y;rw[<-Vf.out.1]at Y;obtain⟨nl,bT⟩ :=ν (bZ a8);obtain⟨nd,wC⟩ :=ν (cG a8);obtain⟨l,hl⟩ :=ν (bM a8);obtain⟨d,hd⟩ :=ν (aV a8);rw[bT,wC,hl,hd]at Y;have an:nl<=286/\nd<=30:=by have:=fQ a8;have:=gV a8;omega
    have xb:∀i,i<(l++d).length->0<=ix (l++d) i:=λi hi=>by
     rw[<-hl,<-hd]at hi⊢;exact(yT PZ.out i hi).1
    have dG:Hid (aP a8=eQ (l++d)):=by show _=_;rw[<-hl,<-hd];rfl
    have HE:=η (⟨bT,wC,hl,hd,an,xb⟩ :_/\_/\_/\_/\_/\_);clear bT wC hl hd an xb Es Vf
    go_upto_region 8 with fail
    go_cut [] (λwx=>∃Ar nr cr,jG w wx R P (.slice j nl x) (.slice u nd y) (.slice none 0 0) (.slice Ar nr cr) (.int .i64 0)/\qU (R+1) wx P j u nl x nd y l d/\gD wx (R+1) Ar nr cr (aP a8)/\aa Ar≠some P)
    case first=>
     obtain⟨i0,hi,ac,ab,I⟩ :=info_parts ue;have Hi:=η (⟨hi,ac,ab,I⟩ :_/\_/\_/\_);clear hi ac ab I;obtain⟨⟨x0,x1,x2,x3,x4⟩,z⟩ :=Y.out.1.cells;have ch:=Y.out.1.alloc (.cells #[] 3);have Nd:=Y.out.2.alloc (.cells #[] 3);have du:ag .i64 (wc.alloc (.cells #[] 3)) (R+1) 3 (some ⟨wc.heap.size,0,none⟩) 0 0 []:=ag.lit (k:= .i64) (w:=wc) rfl [] 3 (by have:=Y.out.1.box.lt;have:=Y.out.1.EA;omega) δ;obtain⟨⟨y0,y1, -, -, -⟩, -⟩ :=ch.cells;have bn:=Y.out.1.box.lt;have bb:=Y.out.1.EA;have dc:wc.heap.size≠P:=ω;obtain⟨bT,wC,hl,hd,an,xb⟩ :=HE.out;have bv:R+1<=(wc.alloc (.cells #[] 3)).heap.size:=ξ;have cA:Hid (∀k,wc.heap.size<=k->R<k/\k≠P/\aa j≠some k/\aa u≠some k):=λk J=> ⟨ω,ω,λe=>by have:=(Y.out.2.lit.2.lt e).2;omega,λe=>by have:=(Y.out.2.ak.2.lt e).2;omega⟩
     have dH:Hid (∀k,aa (some (⟨wc.heap.size,0,none⟩ :Addr))=some k->R<k/\k≠P/\aa j≠some k/\aa u≠some k):=λk J=>cA.out k (by injection J with J;exact Nat.le_of_eq J)
     have ee:=η an;clear bT wC hl hd xb Bo PZ x2 x3 x4 z bn bb dc;have dq:=ch.drew;have RF:=Nd.drew
     go_wp2_with fail
     go_region_law
      (first
        | (have _g:=fF
           go_simp
           go_at_call 94
           refine cw.out.mono ?_;rintro e w6 ⟨Ar,nr,cr,rfl,fI,jf⟩;have s6:=q5.1.keeps jf;have r6:=q5.2.keeps jf;obtain⟨⟨-, -, -,v3, -⟩,vz⟩ :=s6.cells;have cQ:=vz 3 ω)
        | (have _g:=N
           refine dv .i64 (R+1) 3 i0 8 rfl (.tmp 52) (.tmp 54) _ rfl Tryz.underlying51 Hi.out.1 Hi.out.2.1 Hi.out.2.2.1 Hi.out.2.2.2 rfl N rfl q4.2.ak.rd ω ω uT ?_;intro A5 c5 w5 fF jC eJ;have q5:=Dp q4.1 q4.2 (λk J=>cA.out k (dl k J)) jC;have Lz:=Ps w5 A5 (nl+nd) c5 _ (l++d) fF.rd (Nat.le_refl _) ω HE.out.2.2.2.2.2;rw[<-dG.out]at Lz;have cw:=η Lz;clear Lz)
        | (refine dv .i64 (R+1) 3 i0 8 rfl (.tmp 49) (.tmp 51) _ rfl Tryz.underlying51 Hi.out.1 Hi.out.2.1 Hi.out.2.2.1 Hi.out.2.2.2 rfl du rfl Nd.lit.rd ω ω bv ?_
           intro A4 c4 w4 N cb bG;rw[Nat.zero_add,List.nil_append]at N;have q4:=Dp dq RF dH.out cb;obtain⟨⟨-,v1, -, -, -⟩, -⟩ :=q4.1.cells;have uT:R+1<=w4.heap.size:=Nat.le_trans bv cb.size
           have dl:∀k,aa A4=some k->wc.heap.size<=k:=λk J=>by
            rcases bG with h | h
            · rw[h]at J;injection J with J;exact Nat.le_of_eq J
            · rw[h]at J;injection J with J;rw[<-J];simp))
     all_goals
      have Q:aa Ar≠some P:=λe=>by have h1:w5.heap.size<=P:=(fI.2.lt e).1;have h2:=q5.1.box.lt;omega
      have U:=η (⟨s6.a5B (.slice Ar nr cr),r6.put 3 (.slice Ar nr cr),(show gD (w6.setCell ⟨P,3,none⟩ (.slice Ar nr cr)) (R+1) Ar nr cr (aP a8) from⟨fI.1,((fI.more (b1:=R+1) (Nat.le_trans uT jC.size)).2).far (p:= ⟨P,3,none⟩) Q _⟩),Q⟩ :_/\_/\_/\_);clear s6 r6 v3 vz cQ Q cw
      go_wp2_with fail
      go_meet
      exact⟨Ar,nr,cr,U.out⟩
    case rest=>
     obtain⟨Ar,nr,cr,gZ,am,N,bB⟩ :=hcut;obtain⟨i0,hi,ac,ab,I⟩ :=info_parts ue;have jT:∀W,(Instr.makeSlice 51 (.int .i64 19) (.int .i64 19)).run Tryz.prog W= .ok (.slice (some ⟨W.heap.size,0,none⟩) 19 19) (W.alloc (.cells (cn 19 (.int .i64 0)) 3)):=λW=>cF (P:=Tryz.prog) 51 3 i0 (.int .i64 0) Tryz.underlying51 hi ac ab rfl .i64 .i64 19 (by rw[I];omega) ω W
     have bn:=gZ.box.lt;have bb:=gZ.EA
     have hH:TC w (wc.alloc (.cells (cn 19 (.int .i64 0)) 3)) R P wc.heap.size j u nl x nd y l d Ar nr cr (aP a8) (uC []):=
      ⟨gZ.alloc _,am.alloc _,N.alloc _,bB,ag.zeros wc rfl 19 _ ω ω,ω,λe=>by have:=(am.lit.2.lt e).2;omega,λe=>by have:=(am.ak.2.lt e).2;omega,λe=>by have:=(N.2.lt e).2;omega⟩
     obtain⟨⟨-, -, -,v3, -⟩,vz⟩ :=(gZ.alloc (.cells (cn 19 (.int .i64 0)) 3)).cells;have HH:=η hH;have wY:=η N.1;have oZ:=iE a8;have dd:nr<=316:=by rw[N.1];exact oZ
     have dT:(0:Int)<=nr/\(nr:Int)<=316:=ω;have Zu:=η (gB PZ.out);clear gZ am N bB hi ac ab I bn bb hH vz oZ dd Y
     go_wp2_with fail
     clear jT v3;obtain⟨gh,bi⟩ :=ν (wc.heap.size);obtain⟨wd,ap⟩ :=ν (wc.alloc (.cells (cn 19 (.int .i64 0)) 3));rw[bi,ap]at HH;rw[bi,ap];clear bi ap;obtain⟨F,M⟩ :=ν (aP a8);rw[M]at HH wY Zu;have Bq:=η M;clear M
     go_loopg [62] nr (λ(gk:Nat) (v62:Value) wx=>∃k:Nat,v62= .int .i64 k/\k<=nr/\Hid (TC w wx R P gh j u nl x nd y l d Ar nr cr F (uC (F.take k)))/\Hid (gk=nr-k))
     case atStart=>exact⟨0,rfl,Nat.zero_le _,HH.out,rfl⟩
     case round=>
      clear HH;obtain⟨k,rfl,J,hs,hg⟩ :=hrel;by_cases al:k<nr
      · have mA:(k:Int)<(nr:Int)/\(0:Int)<=(k:Int):=ω;obtain⟨ad,hA,dk,a0,a1,a2⟩ :=hs.out.o.rd.Q8 al;have mg:k<F.length:=by rw[<-wY.out];exact al
        have fJ:=Zu.out _ (vB mg);have eG:=AY mg;obtain⟨⟨C,V,E⟩,hr⟩ :∃r,kr F k=r:= ⟨_,rfl⟩;rw[hr]at a0 a1 a2 fJ eG;have ce:0<=C/\C<=18:=fJ.1;obtain⟨c,rfl⟩ :=Int.eq_ofNat_of_zero_le ce.1;replace a0:wr.cell? (ad.add (k*3))=some (.int .i64 (c:Int)):=a0;replace a1:wr.cell? { block:=(ad.add (k*3)).block,off:=(ad.add (k*3)).off+1 }=some (.int .i64 V):=a1;replace a2:wr.cell? { block:=(ad.add (k*3)).block,off:=(ad.add (k*3)).off+2 }=some (.int .i64 E):=a2;have cd:c<19:=ω;have Ex:(0:Int)<=(c:Int)/\(c:Int)<19:=ω;have Sy:=hs.out.alloc (.cells #[.int .i64 (c:Int), .int .i64 V, .int .i64 E] 141);obtain⟨y0,yz⟩ :=Sy.h.head (i:=c) cd;have fH:=FP (F.take k) c;have uK:(F.take k).length<=k:=by rw[List.length_take];exact Nat.min_le_left _ _
        have aA:=Sy.set cd (ix (uC (F.take k)) c+1);have Xn:(uC (F.take k)).set c (ix (uC (F.take k)) c+1)=uC (F.take (k+1)):=by rw[eG,qg];rfl
        rw[Xn]at aA;obtain⟨X,hX⟩ :=ν (ix (uC (F.take k)) c);rw[hX]at aA fH y0;have Ng:0<=X/\X<=316:=ω;have U:=η aA;have jJ:=η al;subst hA;clear dk fJ eG hr ce Sy fH uK aA Xn hX mg al
        go_wp2_with fail
        go_roundg (nr-(k+1))
        case measure=>have:=hg.out;have:=jJ.out;omega
        case rel=>exact⟨k+1,by go_num,jJ.out,U.out,rfl⟩
      · obtain rfl:k=nr:=ω;have mA:¬(k:Int)<(k:Int):=ω;have eG:F.take k=F:=List.take_of_length_le (by rw[<-wY.out];exact Nat.le_refl _);have hH:=hs.out;rw[eG]at hH;have cx:=η (nB wr (some ⟨gh,0,none⟩) 19 19 _ hH.h.rd 7 δ);have O:=η hH;clear eG hH hs hg al J
        go_wp2_with fail
        refine cx.out.mono ?_;rintro e w5 ⟨Z,cH,L,rfl,fN,fF, -,cl⟩;have mJ:=Ny a8;rw[Bq.out]at mJ
        have e5:L=aO a8:=by
         have:=(cl mJ).eq;rw[this,<-Bq.out];rfl
        rw[mJ];subst e5;have Ul:=iD a8;have s5:=O.out.s.keeps fN;have r5:=O.out.r.keeps fN;have o5:=O.out.o.keeps fN;have f:aa Z≠some P:=λe=>by have h1:=(fF.2.lt e).1;have h2:=O.out.s.box.lt;omega
        obtain⟨⟨-, -,v2, -, -⟩,vz⟩ :=s5.cells;have cV:=vz 2 ω;rw[Ul]at fF⊢;have s6:=s5.a5A (.slice Z 19 cH);have r6:=r5.put 2 (.slice Z 19 cH);have o6:gD (w5.setCell ⟨P,2,none⟩ (.slice Z 19 cH)) (R+1) Ar k cr F:= ⟨o5.1,o5.2.far (p:= ⟨P,2,none⟩) O.out.op _⟩;have h6:=(fF.far (p:= ⟨P,2,none⟩) f (.slice Z 19 cH)).more (b1:=R+1) (by have h1:=O.out.s.EA;have h2:=O.out.s.box.lt;omega);obtain⟨⟨-, -, -, -,x4⟩,xz⟩ :=s6.cells;have cB:=xz 4 ω;have s7:=s6.SV (.int .i64 19);have r7:=r6.put 4 (.int .i64 19);have o7:gD ((w5.setCell ⟨P,2,none⟩ (.slice Z 19 cH)).setCell ⟨P,4,none⟩ (.int .i64 19)) (R+1) Ar k cr F:= ⟨o6.1,o6.2.far (p:= ⟨P,4,none⟩) O.out.op _⟩;have h7:=h6.far (p:= ⟨P,4,none⟩) f (.int .i64 19);have H7:=η (⟨s7,r7,o7,h7,f,O.out.op⟩ :_/\_/\_/\_/\_/\_);clear mJ Ul s5 r5 o5 f vz s6 r6 o6 h6 xz s7 r7 o7 h7 fF cl fN cx O
        go_upto_region 17 with fail
        obtain⟨wf,xe⟩ :=ν ((w5.setCell ⟨P,2,none⟩ (.slice Z 19 cH)).setCell ⟨P,4,none⟩ (.int .i64 19));rw[xe]at H7;rw[xe];clear xe v2 cV x4 cB;clear w5
        go_cut [9] (λv9 wx=>∃go,v9= .pointer (some ⟨go,0,none⟩)/\mM wx go/\wf.heap.size<=go/\Below wf.heap.size wf wx)
        case first=>
         go_wp2_with fail
         refine(xY wf).mono ?_;rintro e w6 ⟨rfl,rfl⟩;have Ep:Hid (wf.heap.size+1=(wf.alloc (.cells fG 142)).heap.size):=by show _=_;simp
         go_wp2_with (refine pI rfl (.tmp 9) (.tmp 81) rfl rfl (wf.heap.size+1) Ep.out rfl rfl _ rfl ?_)
         go_meet
         exact⟨_,rfl,by have T:=mM.new (wf.alloc (.cells fG 142));rw[<-Ep.out]at T;exact T,Nat.le_succ _,((Below.refl _ _).alloc (Nat.le_refl _) _).alloc σ _⟩
        case rest=>
         obtain⟨go,rfl,Io,df,FJ⟩ :=hcut;obtain⟨s7,r7,o7,h7,f,UE⟩ :=H7.out;have bt:yN w wf R P j u Z Ar nl x nd y cH k cr l d F (aO a8) 19:= ⟨s7,r7,o7,UE,h7,f⟩;have Ot:=bt.keeps FJ;have co:P≠go:=by have:=s7.box.lt;omega
         have cj:R≠go:=by have:=s7.box.lt;have:=s7.EA;omega
         obtain⟨hd,nX⟩ :=ν (aO a8);have HN:Hid (gC (eL.map λk=>ix hd k.toNat) 4 19=ko a8):=by show _=_;rw[<-nX];rfl
         have iq:Hid (∀i,i<19->0<=ix hd i/\ix hd i<=7):=λi hi=>by
          rw[<-nX];exact mO (fA a8) i (by rw[iD];exact hi)
         rw[nX]at Ot;have HZ:=η (⟨Ot,Io,co,cj⟩ :_/\_/\_/\_);have Tq:=η nX;clear s7 r7 o7 h7 f UE bt Ot Io df FJ co cj nX H7
         go_wp2_with fail
         go_loopg [9] 19 (λ(gk:Nat) (v9:Value) wx=>∃go n:Nat,v9= .pointer (some ⟨go,0,none⟩)/\Hid (yN w wx R P j u Z Ar nl x nd y cH k cr l d F hd n)/\Hid (mM wx go)/\P≠go/\R≠go/\4<=n/\n<=19/\Hid (gC (eL.map λk=>ix hd k.toNat) 4 n=ko a8)/\Hid (gk=n))
         case atStart=>exact⟨go,19,rfl,HZ.out.1,HZ.out.2.1,HZ.out.2.2.1,HZ.out.2.2.2,ω,ω,HN.out,rfl⟩
         case round=>
          clear HZ HN;clear go;obtain⟨go,n,rfl,H,Q,ds,ea,YW,de,aI,hg⟩ :=hrel;obtain⟨q,rfl⟩ :∃q,n=q+1:= ⟨n-1,ω⟩;obtain⟨n,bd⟩ :=ν (q+1);have Qt:=AG q ω;obtain⟨K,hK⟩ :=Int.eq_ofNat_of_zero_le Qt.1;have Rz:K<19:=ω
          have be:ix (eL.map λk=>ix hd k.toNat) q=ix hd K:=by
           have e1:∀(L:List Int) (g:Int->Int) (i:Nat),i<L.length->ix (L.map g) i=g (ix L i):=λL g i hi=>by simp [ix,hi]
           rw[e1 _ _ _ (by show q<19;omega),hK];rfl
          obtain⟨X,hX⟩ :=ν (ix hd K);have c1:=Q.out.cell (i:=q) ω;rw[hK]at c1;obtain⟨ga,Ug⟩ :∃ga,Z=some ⟨ga,0,none⟩ :=H.out.h.2.addr ω;have c2:=H.out.h;rw[Ug]at c2;have c3:=(c2.head (i:=K) Rz).1;rw[hX]at c3;have aS:=H.out.s;rw[Ug]at aS;obtain⟨⟨-, -,d2, -,d4⟩,dz⟩ :=aS.cells;have cs:=dz 4 ω
          have bo:Hid (¬(4<n/\X=0)->n=ko a8):=λh=>by
           have T:=aI.out;rw[vQ (by rw[be,hX];omega)]at T;omega
          have bp:Hid (4<n/\X=0->gC (eL.map λk=>ix hd k.toNat) 4 q=ko a8):=λh=>by
           have T:=aI.out;rw[Ec ⟨ω,by rw[be,hX];exact h.2⟩]at T;exact T
          have Od:(n:Int)-1=(q:Int):=ω;have dN:IntKind.i64.wrap ((n:Int)-1)=(q:Int):=by rw[Od];exact kR ω
          have Uz:(0:Int)<=(q:Int)/\(q:Int)<19/\(0:Int)<=(K:Int)/\(K:Int)<19/\(4:Int)<=(n:Int)/\(n:Int)<=19:=ω;rw[bd]at H hg YW de d4;have bs:=η (⟨bd,Ug⟩ :_/\_);have HD:=η (⟨c1,c3,d2,d4⟩ :_/\_/\_/\_);clear c1 c2 c3 Ug aS d2 d4 dz cs be hX hK Qt bd aI
          go_upto_region 18 with fail
          go_cut [96] (λcZ wx=>cZ= .bool (decide (4<n/\X=0))/\Hid (yN w wx R P j u Z Ar nl x nd y cH k cr l d F hd n)/\Hid (mM wx go))
          case first=>
           obtain⟨c1,c3,d2,d4⟩ :=HD.out;by_cases h4:4<n
           · have dx:(4:Int)<(n:Int):=ω;by_cases h0:X=0
             · subst h0;have hf:=η (show true=decide (4<n/\(0:Int)=0) from(decide_eq_true ⟨h4,rfl⟩).symm)
               go_wp2_with fail
               go_quiet (fail)
               all_goals go_wp2_with fail
               all_goals go_meet
               all_goals exact⟨congrArg Value.bool hf.out,H.out.drewN _,Q.out⟩
             · have eb:(X==0)=false:=by simpa using h0
               have hf:=η (show false=decide (4<n/\X=0) from(decide_eq_false λh=>h0 h.2).symm)
               go_wp2_with fail
               go_quiet (fail)
               all_goals go_wp2_with fail
               all_goals go_meet
               all_goals exact⟨congrArg Value.bool hf.out,H.out.drewN _,Q.out⟩
           · have dx:decide ((4:Int)<(n:Int))=false:=ξ;have hf:=η (show false=decide (4<n/\X=0) from(decide_eq_false λh=>h4 h.1).symm)
             go_wp2_with fail
             go_quiet (fail)
             all_goals go_wp2_with fail
             all_goals go_meet
             all_goals exact⟨congrArg Value.bool hf.out,H.out.drewN _,Q.out⟩
          case rest=>
           clear HD H Q;obtain⟨rfl,H,Q⟩ :=hcut;by_cases hc:4<n/\X=0
           · rw[decide_eq_true hc];obtain⟨⟨-, -, -, -,d4⟩,dz⟩ :=H.out.s.cells;have cs:=dz 4 ω;have HO:Hid (mM (wc.setCell ⟨P,4,none⟩ (.int .i64 (q:Int))) go):=Q.out.far (p:= ⟨P,4,none⟩) (λe=>ds e.symm) _;have I:=(H.out.SV q).alloc (.cells fG 142)
             have bx:mM ((wc.setCell ⟨P,4,none⟩ (.int .i64 (q:Int))).alloc (.cells fG 142)) wc.heap.size:=by
              have T:=mM.new (wc.setCell ⟨P,4,none⟩ (.int .i64 (q:Int)));have e9:(wc.setCell ⟨P,4,none⟩ (.int .i64 (q:Int))).heap.size=wc.heap.size:=by simp [World.setCell]
              rw[e9]at T;exact T
             have Ep:Hid (wc.heap.size=(wc.setCell ⟨P,4,none⟩ (.int .i64 (q:Int))).heap.size):=by show _=_;simp [World.setCell]
             have cp:=H.out.s.box.lt;have ck:=H.out.s.res.lt;have U:=η (⟨I,bx,Nat.ne_of_lt cp,Nat.ne_of_lt ck,hc.1,bp.out hc⟩ :_/\_/\_/\_/\_/\_);clear I bx dz H Q hc bo bp cp ck
             go_wp2_with (first
              | (refine wpList_load_row rfl 142 (.tmp 9) rfl go rfl 142 fG (0,0) _ HO.out Tryz.underlying142 rfl (by kernel_rfl) ?_)
              | (refine pI rfl (.tmp 9) (.tmp 101) rfl rfl wc.heap.size Ep.out rfl rfl _ rfl ?_))
             go_roundg q
             case measure=>have:=hg.out;have:=bs.out.1;omega
             case rel=>exact⟨wc.heap.size,q,rfl,U.out.1,U.out.2.1,U.out.2.2.1,U.out.2.2.2.1,by have:=U.out.2.2.2.2.1;have:=bs.out.1;omega,by have:=bs.out.1;omega,U.out.2.2.2.2.2,rfl⟩
           · rw[decide_eq_false hc];obtain⟨⟨d0,d1,d2,d3,d4⟩, -⟩ :=H.out.s.cells;have M:=H.out.s.res;have r0:=M.frozen' (i:=0) ω;have r1:=M.frozen' (i:=1) ω;have r2:=M.frozen' (i:=2) ω;have r3:=M.frozen' (i:=3) ω;have r4:=M.frozen' (i:=4) ω;have c0:=M.cell (i:=0) ω;have c1:=M.cell (i:=1) ω;have c2:=M.cell (i:=2) ω;have c3:=M.cell (i:=3) ω;have c4:=M.cell (i:=4) ω;have ao:=H.out;rw[<-Tq.out,<-Bq.out,<-HE.out.2.2.1,<-HE.out.2.2.2.1]at ao;have J6:=η (P9 ao HE.out.1 HE.out.2.1 (bo.out hc));have a34:=η (λa b c d e=>SY (a:=a) (b:=b) (c:=c) (d:=d) (e:=e) M);clear ao M Q hc bo bp H
             go_wp2_with ((with_reducible (show bodyPost _ _ _ _ _ _));exact bodyPost_ret (AV (a34.out (.slice j nl x) (.slice u nd y) (.slice Z 19 cH) (.slice Ar k cr) (.int .i64 (n:Int))) rfl) rfl (J6.out (.slice j nl x) (.slice u nd y) (.slice Z 19 cH) (.slice Ar k cr) (.int .i64 (n:Int))))
def ru (kind:Int) (last:Bool) (L:List Int):List Int:=L++aX (if last then 1 else 0) 1++aX kind 2
def gI (kind:Int) (a8:List aF) (raw:List Int) (last:Bool) (L:List Int):List Int:=
 if kind=0 then xj (ru kind last L) raw else if kind=1 then ru kind last L++fp cY dP a8 else ru kind last L++ib a8++fp (bM a8) (aV a8) a8
theorem jg (kind:Int) (last:Bool) (L:List Int):(ru kind last L).length=L.length+3:=by unfold ru;rw[List.length_append,List.length_append,af,af]
theorem eR.step {w w1 w2:World} {b0 g:Nat} {A A1:Option Addr} {a:List Int} (h:aq w w1 (foot A g)) (qM:∀k,aa A1=some k->aa A=some k\/w.heap.size<=k) (e:eR w1 w2 b0 g A1 a):eR w w2 b0 g A a:=by
 obtain⟨⟨A',n',c',d,c⟩,b⟩ :=e;exact eR.next h qM d b c
theorem vG {w:World} {g:Nat} {A A1 B:Option Addr} (qM:∀k,aa A1=some k->aa A=some k\/w.heap.size<=k) (d:∀a,B=some a->a.block<w.heap.size) (h:∀a,B=some a->¬foot A g a.block):∀a,B=some a->¬foot A1 g a.block:=λa e b=>by
 rcases b with b | b
 · exact h a e (.inl b)
 · rcases qM _ b with c | c
   · exact h a e (.inr c)
   · have:=d a e;omega
theorem Bg (w:World) (b0 g n c:Nat) (A:Option Addr) (L:List Int) (o:kv w b0 g A n c L) (At:Option Addr) (nt ct:Nat) (a8:List aF) (B:ig w w.heap.size At nt a8) (K:(nt:Int)<=4611686018427387904)
  (C:Option Addr) (m cr:Nat) (raw:List Int) (i:aT .u8 w w.heap.size C m raw) (h:0<m->∀v,C=some v->¬foot A g v.block) (b:∀x∈raw,0<=x/\x<256) (last:Bool) (j:m<=65535) (a:L.length<=2000000000000):
  Calls Tryz.prog 51 #[.pointer (some ⟨g,0,none⟩), .int .i64 0, .slice At nt ct, .slice C m cr, .bool last] w λe w'=>e= .returned (.bool true)/\eR w w' b0 g A (xj (ru 0 last L) raw):=by
 have R:=η (lN w 0 At nt ct a8 B K C m cr);have S:=η (show bh 0 a8 m=true by unfold bh;rw[if_pos rfl];exact decide_eq_true j);have r:=η (⟨o,i,h,b,j,a⟩ :_/\_/\_/\_/\_/\_);obtain⟨mk,p⟩ :=ν ((if last=true then(1:Int)else 0):Int);have z:Hid (ru 0 last L=L++aX mk 1++aX 0 2):=by show _=_;rw[<-p];rfl
 have G:=η p;have V:0<=mk/\mk<=1:=by cases last <;> simp at p <;> omega
 clear B o i h b j a p;go_enter Tryz.func51,Tryz.ntmps51
 go_wp2_with fail
 refine R.out.mono ?_;rintro e w1 ⟨rfl,f⟩;rw[S.out];have O:=η (eR.start r.out.1 f);have X:=η f;clear f
 go_upto_if 24 with fail
 go_cut [11] (λs wx=>s= .int .u32 mk/\wx=w1)
 case first=>
  cases last with
  | false=>
    obtain rfl:mk=0:=G.out.symm
    go_wp2_with fail
    go_meet
    exact⟨rfl,rfl⟩
  | true=>
    obtain rfl:mk=1:=G.out.symm
    go_wp2_with fail
    go_meet
    exact⟨rfl,rfl⟩
 case rest=>
  obtain⟨rfl,t⟩ :=hcut;obtain rfl:=t.symm;have Q:=η (O.out.put mk 1 ω δ (by have:=r.out.2.2.2.2.2;omega))
  go_wp2_with fail
  refine Q.out.mono ?_;rintro e w2 ⟨rfl,E⟩;have P:=η (E.put 0 2 δ δ (by rw[List.length_append,af];have:=r.out.2.2.2.2.2;omega));clear E
  go_wp2_with fail
  refine P.out.mono ?_;rintro e I ⟨rfl,D⟩;rw[<-z.out]at D;obtain⟨⟨T,J,N,k,qN⟩,d⟩ :=D;obtain⟨o,i,h,b,j,a⟩ :=r.out
  have l:=GN I b0 g J N w.heap.size m cr T C _ raw k (d.oH i (Nat.le_refl _) h) d.size (λF=>vG qN (λv e=>by
   obtain⟨W,q,u,_⟩ :=i.2 F;rw[e]at q;injection q with q;rw[q];exact u) (h F)) b (by rw[jg];omega) j
  have y:=η l;have H:=η (⟨qN,d⟩ :_/\_);clear l k qN d o i h b j a
  go_wp2_with fail
  refine y.out.mono ?_;rintro e U ⟨rfl,h4⟩;have M:=η (eR.step H.out.2 H.out.1 h4);clear h4
  go_wp2_with fail
  go_ret
  exact⟨rfl,M.out⟩
theorem tL {a8:List aF} {m:Nat} (a:bh 2 a8 m=true):a8.length<1048576/\∀t∈a8,aH t:=by
 unfold bh at a;rw[if_neg δ]at a;by_cases h:¬((2:Int)=1\/(2:Int)=2)\/1048576<=a8.length
 · rw[if_pos h]at a;exact absurd a δ
 · rw[if_neg h,List.all_eq_true]at a;exact⟨ω,λt ht=>of_decide_eq_true (a t ht)⟩
theorem Dn {t:List aF} (ht:t.length<1048576):(ib t).length<=10000:=by
 have c:=AZ (hd:=aO t) (λi hi=>by have:=mO (fA t) i hi;omega) (aP t) (gB ht);have b:=iE t;have a:=py t;unfold ib;simp only [List.length_append,af];rw[nG _ _ ω];omega
theorem L6 (w:World) (b0 g n c:Nat) (A:Option Addr) (L:List Int) (N:kv w b0 g A n c L) (At:Option Addr) (nt ct:Nat) (a8:List aF) (z:ig w w.heap.size At nt a8) (D:0<nt->∀i,At=some i->¬foot A g i.block) (F:∀t∈a8,0<=t.lit/\t.lit<256)
  (C:Option Addr) (m cr:Nat) (last:Bool) (hm:bh 2 a8 m=true) (b:L.length<=2000000000000):
  Calls Tryz.prog 51 #[.pointer (some ⟨g,0,none⟩), .int .i64 2, .slice At nt ct, .slice C m cr, .bool last] w λe w'=>e= .returned (.bool true)/\eR w w' b0 g A (ru 2 last L++ib a8++fp (bM a8) (aV a8) a8):=by
 obtain⟨q,E⟩ :=tL hm;have P:=z.1;have HM:=η (lN w 2 At nt ct a8 z ω C m cr);have HF:=η hm;have f:=η (⟨N,z,D,F,q,E,b,P⟩ :_/\_/\_/\_/\_/\_/\_/\_);obtain⟨mk,Q⟩ :=ν ((if last=true then(1:Int)else 0):Int);have ac:Hid (ru 2 last L=L++aX mk 1++aX 2 2):=by show _=_;rw[<-Q];rfl
 have Vc:=η Q;have uM:0<=mk/\mk<=1:=by cases last <;> simp at Q <;> omega
 clear z N D F hm q E b Q P;go_enter Tryz.func51,Tryz.ntmps51
 go_wp2_with fail
 refine HM.out.mono ?_;rintro e w1 ⟨rfl,u⟩;rw[HF.out];have Q0:=η (eR.start f.out.1 u);have En:=η u;clear u
 go_upto_if 24 with fail
 go_cut [11] (λX wx=>X= .int .u32 mk/\wx=w1)
 case first=>
  cases last with
  | false=>
    obtain rfl:mk=0:=Vc.out.symm
    go_wp2_with fail
    go_meet
    exact⟨rfl,rfl⟩
  | true=>
    obtain rfl:mk=1:=Vc.out.symm
    go_wp2_with fail
    go_meet
    exact⟨rfl,rfl⟩
 case rest=>
  obtain⟨rfl,Y⟩ :=hcut;obtain rfl:=Y.symm;have J8:=η (Q0.out.put mk 1 ω δ (by have:=f.out.2.2.2.2.2.2.1;omega))
  go_wp2_with fail
  refine J8.out.mono ?_;rintro e w2 ⟨rfl,h2⟩;have BL:=η (h2.put 2 2 δ δ (by rw[List.length_append,af];have:=f.out.2.2.2.2.2.2.1;omega));clear h2
  go_wp2_with fail
  refine BL.out.mono ?_;rintro e j ⟨rfl,h3⟩;rw[<-ac.out]at h3;obtain⟨⟨A3,n3,c3,d,qN⟩,a⟩ :=h3;have y:ig j j.heap.size At nt a8:=(f.out.2.1.cv a (Nat.le_refl _) f.out.2.2.1).more a.size;have Yr:=η (sD j At nt ct a8 y f.out.2.2.2.2.1 λt ht=> ⟨f.out.2.2.2.2.2.1 t ht,f.out.2.2.2.1 t ht⟩);have H3:=η (⟨d,qN,a,y⟩ :_/\_/\_/\_);clear d qN a y
  go_wp2_with fail
  refine Yr.out.mono ?_;rintro e p tq;obtain⟨vv,rfl⟩ :∃v,e= .returned v:=by obtain⟨Al,cl,Ad,J,T,ch,S,R,e1,_⟩ :=tq;exact⟨_,e1⟩
  obtain⟨Al,Ad,T,S,cl,J,ch,R,rfl,s,Qu⟩ :=BP.new tq;clear tq;have dx:Below j.heap.size j (p.alloc (.cells #[.slice Al (bZ a8) cl, .slice Ad (cG a8) J, .slice T 19 ch, .slice S (aP a8).length R, .int .i64 ((ko a8:Nat):Int)] 116)):=s.alloc s.size _;have K9:=Gy _ b0 g n3 c3 A3 _ (H3.out.1.keeps dx) p.heap.size j.heap.size (p.heap.size+1) a8 Al Ad T S cl J ch R Qu f.out.2.2.2.2.1 σ (λk G=>(H3.out.1.bH G).2) (by rw[jg];have:=f.out.2.2.2.2.2.2.1;omega);have B:=η K9;have K:=η (⟨dx,Qu⟩ :_/\_);clear s Qu dx K9
  go_wp2_with fail
  obtain⟨U,M⟩ :=ν (p.alloc (.cells #[.slice Al (bZ a8) cl, .slice Ad (cG a8) J, .slice T 19 ch, .slice S (aP a8).length R, .int .i64 ((ko a8:Nat):Int)] 116));have uT:p.heap.size+1=U.heap.size:=by rw[<-M];simp
  rw[M]at B K;rw[M];have Ep:=η uT;clear M uT;refine B.out.mono ?_;rintro e V ⟨rfl,h5⟩;obtain⟨⟨A5,n5,c5,UI,qO⟩,r⟩ :=h5;obtain⟨d,qN,a,y⟩ :=H3.out;obtain⟨N,z,D,F,q,E,b,P⟩ :=f.out;have O:=K.out.2.cv r (by rw[Ep.out];exact Nat.le_refl _) λk G=> .inl (d.bH G).2
  obtain⟨k0,k1, -⟩ :=O.cells
  have Z:0<nt->∀i,At=some i->¬foot A3 g i.block:=λI=>vG qN (λi e=>by
   obtain⟨EN,o,x,_⟩ :=z.2 I;rw[e]at o;injection o with o;rw[o];exact x) (D I)
  have l:j.heap.size<=U.heap.size:=K.out.1.size
  have UF:0<nt->∀i,At=some i->¬foot A5 g i.block:=λI=>vG qO (λi e=>by
   obtain⟨EN,o,x,_⟩ :=y.2 I;rw[e]at o;injection o with o;rw[o];exact Nat.lt_of_lt_of_le x l) (Z I)
  have H:ig V j.heap.size At nt a8:=(y.below K.out.1).cv r l Z;have ab:=fQ a8;have fH:=gV a8
  have eG:=pG V b0 g n5 c5 A5 _ UI j.heap.size At nt ct a8 H (Nat.le_trans l r.size) UF (λt ht=> ⟨E t ht,F t ht⟩) (by rw[List.length_append,jg];have:=Dn q;omega)
   (p.heap.size+1) Al (bZ a8) cl (bM a8) O.lit (by rw[Ep.out];exact r.size) ω (gz q) (p.heap.size+1) Ad (cG a8) J (aV a8) O.ak (by rw[Ep.out];exact r.size) ω (fz q)
  have Er:=η eG;have Zw:Hid (∀W L',eR V W b0 g A5 L'->eR w W b0 g A L'):=λW L' h=>eR.step a qN (eR.step (w1:=U) (A1:=A3) (aq.aB K.out.1) (λk G=> .inl G) (eR.step r qO h))
  clear eG UI qO r d qN a y N z D F q E b P O Z l UF H ab fH B
  go_wp2_with fail
  refine Er.out.mono ?_;rintro e w6 ⟨rfl,h6⟩;have aA:=η (Zw.out _ _ h6);clear h6 k0 k1
  go_wp2_with fail
  go_ret
  exact⟨rfl,aA.out⟩
theorem yB (w:World) (b0 g n c:Nat) (A:Option Addr) (L:List Int) (f:kv w b0 g A n c L) (kind:Int) (At:Option Addr) (nt ct:Nat) (a8:List aF) (j:ig w w.heap.size At nt a8) (r:(nt:Int)<=4611686018427387904) (k:0<nt->∀d,At=some d->¬foot A g d.block) (l:∀t∈a8,0<=t.lit/\t.lit<256)
  (C:Option Addr) (m cr:Nat) (raw:List Int) (q:aT .u8 w w.heap.size C m raw) (p:0<m->∀d,C=some d->¬foot A g d.block) (i:∀x∈raw,0<=x/\x<256) (last:Bool) (a:bh kind a8 m=true) (b:L.length<=2000000000000):
  Calls Tryz.prog 51 #[.pointer (some ⟨g,0,none⟩), .int .i64 kind, .slice At nt ct, .slice C m cr, .bool last] w λe w'=>e= .returned (.bool true)/\eR w w' b0 g A (gI kind a8 raw last L):=by
 have s:kind=0\/kind=1\/kind=2:=by
  unfold bh at a;by_cases o:kind=0
  · exact .inl o
  · rw[if_neg o]at a;by_cases h:¬(kind=1\/kind=2)\/1048576<=a8.length
    · rw[if_pos h]at a;exact absurd a δ
    · omega
 unfold gI;rcases s with rfl | rfl | rfl
 · rw[if_pos rfl];refine Bg w b0 g n c A L f At nt ct a8 j r C m cr raw q p i last ?_ b;unfold bh at a;rw[if_pos rfl]at a;exact of_decide_eq_true a
 · rw[if_neg δ,if_pos rfl];exact Ee w b0 g n c A L f At nt ct a8 j k l C m cr last a ω
 · rw[if_neg δ,if_neg δ];exact L6 w b0 g n c A L f At nt ct a8 j k l C m cr last a b
def Hy (t:List aF):Int:=3+aZ cY (fk t).1 286+aZ dP (fk t).2 30+((wu t:Nat):Int)
def Cc (t:List aF):Int:=3+LJ t+aZ (bM t) (fk t).1 (bZ t)+aZ (aV t) (fk t).2 (cG t)+((wu t:Nat):Int)
def j3 (kind:Int) (t:List aF) (m:Nat):Int:=if kind=0 then 40+8*(m:Int)else if kind=1 then Hy t else Cc t
theorem Az {a8:List aF} {m:Nat} (a:bh 1 a8 m=true):a8.length<1048576/\∀t∈a8,aH t:=by
 unfold bh at a;rw[if_neg δ]at a;by_cases h:¬((1:Int)=1\/(1:Int)=2)\/1048576<=a8.length
 · rw[if_pos h]at a;exact absurd a δ
 · rw[if_neg h,List.all_eq_true]at a;exact⟨ω,λt ht=>of_decide_eq_true (a t ht)⟩
theorem Ji {b:Nat} {w w':World} (h:Below b w w') (q:Nat):Below b w (w'.drewN q):= ⟨h.os,h.tape,h.output,h.size,h.block⟩
theorem qa (A C:Option Addr) (n m c d:Nat) (l f:List Int) (w:World) (g:aT .i64 w w.heap.size A n l) (i:aT .i64 w w.heap.size C m f) (a:n<=1000) (b:m<=1000):
  Calls Tryz.prog 96 #[.slice A n c, .slice C m d] w λe w'=>e= .returned (.int .i64 (aZ l f (min n m)))/\Below w.heap.size w w':=
 (Mu A C n m c d l f w w.heap.size g i a b).mono λe w' h=> ⟨h.1,by obtain⟨q,rfl⟩ :=h.2;exact Ji (Below.refl _ w) q⟩
theorem BX (w:World) (At:Option Addr) (nt ct:Nat) (a8:List aF) (l:ig w w.heap.size At nt a8) (B:∀t∈a8,0<=t.lit/\t.lit<256) (C:Option Addr) (m cr:Nat) (p:bh 1 a8 m=true):
  Calls Tryz.prog 75 #[.int .i64 1, .slice At nt ct, .slice C m cr] w λe w'=>e= .returned (.int .i64 (Hy a8))/\Below w.heap.size w w':=by
 obtain⟨A,z⟩ :=Az p;have y:=l.1;have V:=η (lN w 1 At nt ct a8 l ω C m cr);have X:=η p;have i:=η (⟨l,B,A,z,y⟩ :_/\_/\_/\_/\_);have Y:Hid (iu cY (fk a8).1 286 ω=iu cY (fk a8).1 286 ω):=rfl;have b1:=iu cY (fk a8).1 286 ω;have J:=iu dP (fk a8).2 30 ω;have I:=ze a8;have h:Hy a8=3+aZ cY (fk a8).1 286+aZ dP (fk a8).2 30+((wu a8:Nat):Int):=rfl;obtain⟨c1,d⟩ :=ν (aZ cY (fk a8).1 286);obtain⟨c2,c⟩ :=ν (aZ dP (fk a8).2 30);obtain⟨H,b⟩ :=ν (wu a8);rw[d,c,b]at h;rw[d]at b1;rw[c]at J;rw[b]at I;have R:0<=c1/\c1<=400000000000000/\0<=c2/\c2<=400000000000000/\(0:Int)<=(H:Int)/\(H:Int)<=400000000000000:=ω;have r:=η h;have s:=η (⟨d,c,b⟩ :_/\_/\_);clear l B p A z y b1 J I h d c b Y;go_enter Tryz.func75,Tryz.ntmps75
 go_wp2_with fail
 refine V.out.mono ?_;rintro e w1 ⟨rfl,g⟩;rw[X.out];have W:=η (rp w1 At nt ct a8 ((i.out.1.below g).more g.size) (by have:=i.out;omega) λt ht=> ⟨i.out.2.2.2.1 t ht,i.out.2.1 t ht⟩);have u:=η g;clear g
 go_wp2_with fail
 refine W.out.mono ?_;rintro e w2 ⟨T,S,rfl,G⟩;have q:=η (kH w2);have n:=η G;clear G
 go_wp2_with fail
 refine q.out.mono ?_;rintro e Q ⟨Af,cf,Ad,U,rfl,x,v,f⟩;have D:=(n.out.lit.keeps f).rd;have j:=(n.out.ak.keeps f).rd;have k:=η (qa Af (some ⟨T,0,none⟩) 288 286 cf 286 _ _ Q x.rd D ω ω);rw[show min 288 286=286 from rfl,s.out.1]at k;have o:=η (⟨v.rd,j,u.out.trans (n.out.ou.mono u.out.size |>.trans (f.mono (Nat.le_trans u.out.size n.out.ou.size)))⟩ :_/\_/\_);clear x v f D j
 go_wp2_with fail
 refine k.out.mono ?_;rintro e P ⟨rfl,a⟩;have K:=η (qa Ad (some ⟨S,0,none⟩) 32 30 U 30 _ _ P ((o.out.1.below a).more a.size) ((o.out.2.1.below a).more a.size) ω ω);rw[show min 32 30=30 from rfl,s.out.2.1]at K;have N:=η (o.out.2.2.trans (a.mono o.out.2.2.size));clear a
 go_wp2_with fail
 refine K.out.mono ?_;rintro e O ⟨rfl,F⟩;have h5:=N.out.trans (F.mono N.out.size);have L:=η (uq O At nt ct a8 ((i.out.1.below h5).more h5.size) (by have:=i.out;omega));rw[s.out.2.2]at L;have M:=η h5;clear F h5
 go_wp2_with fail
 refine L.out.mono ?_;rintro e w6 ⟨rfl,E⟩;have Z:=η (M.out.trans (E.mono M.out.size));clear E
 go_wp2_with fail
 go_ret
 exact⟨aK (by rw[r.out]),Z.out⟩
inductive CoI (Al Ad:Option Addr) (nl nd cl cd g1 g2:Nat) (c1 c2:Int):Option Addr->Nat->Nat->Option Addr->Nat->Nat->Int->Prop
 | lit:CoI Al Ad nl nd cl cd g1 g2 c1 c2 Al nl cl (some ⟨g1,0,none⟩) 286 286 c1
 | ak:CoI Al Ad nl nd cl cd g1 g2 c1 c2 Ad nd cd (some ⟨g2,0,none⟩) 30 30 c2
theorem Jh (w:World) (At:Option Addr) (nt ct:Nat) (a8:List aF) (R:ig w w.heap.size At nt a8) (aS:∀t∈a8,0<=t.lit/\t.lit<256) (C:Option Addr) (m cr:Nat) (X:bh 2 a8 m=true):
  Calls Tryz.prog 75 #[.int .i64 2, .slice At nt ct, .slice C m cr] w λe w'=>e= .returned (.int .i64 (Cc a8))/\Below w.heap.size w w':=by
 obtain⟨mI,kL⟩ :=tL X;have o:=R.1;have HM:=η (lN w 2 At nt ct a8 R ω C m cr);have HF:=η X;have f:=η (⟨R,aS,mI,kL,o⟩ :_/\_/\_/\_/\_);clear R aS X mI kL o;go_enter Tryz.func75,Tryz.ntmps75
 go_wp2_with fail
 refine HM.out.mono ?_;rintro e w1 ⟨rfl,l⟩;rw[HF.out];have Yo:=η (rp w1 At nt ct a8 ((f.out.1.below l).more l.size) (by have:=f.out;omega) λt ht=> ⟨f.out.2.2.2.1 t ht,f.out.2.1 t ht⟩);have En:=η l;clear l
 go_wp2_with fail
 refine Yo.out.mono ?_;rintro e w2 ⟨g1,g2,rfl,hM⟩;have S:=η (En.out.trans (hM.ou.mono En.out.size));have Yr:=η (sD w2 At nt ct a8 ((f.out.1.below S.out).more S.out.size) f.out.2.2.1 λt ht=> ⟨f.out.2.2.2.1 t ht,f.out.2.1 t ht⟩);have wG:=η hM;clear hM
 go_wp2_with fail
 refine Yr.out.mono ?_;rintro e z V;obtain⟨vv,rfl⟩ :∃v,e= .returned v:=by obtain⟨Al,cl,Ad,p,L,ch,K,I,e1,_⟩ :=V;exact⟨_,e1⟩
 obtain⟨Al,Ad,L,K,cl,p,ch,I,rfl,s,Qu⟩ :=BP.new V;clear V;have P:Below w2.heap.size w2 (z.alloc (.cells #[.slice Al (bZ a8) cl, .slice Ad (cG a8) p, .slice L 19 ch, .slice K (aP a8).length I, .int .i64 ((ko a8:Nat):Int)] 116)):=s.alloc s.size _;have B:Below w.heap.size w (z.alloc (.cells #[.slice Al (bZ a8) cl, .slice Ad (cG a8) p, .slice L 19 ch, .slice K (aP a8).length I, .int .i64 ((ko a8:Nat):Int)] 116)):=S.out.trans (P.mono S.out.size);have Lr:=(wG.out.lit.keeps P).rd;have E:=(wG.out.ak.keeps P).rd;have b:=η (⟨Qu,B,Lr,E⟩ :_/\_/\_/\_);clear s Qu P B Lr E
 go_upto_region 10 with fail
 obtain⟨a,N⟩ :=ν (z.alloc (.cells #[.slice Al (bZ a8) cl, .slice Ad (cG a8) p, .slice L 19 ch, .slice K (aP a8).length I, .int .i64 ((ko a8:Nat):Int)] 116));have U:z.heap.size+1=a.heap.size:=by rw[<-N];simp
 rw[N]at b;rw[N];obtain⟨G,hG⟩ :=ν (z.heap.size);rw[hG]at b U;rw[hG];rw[U]at b;clear N U hG;have Z:=fQ a8;have fH:=gV a8;have b1:=iu (bM a8) (fk a8).1 (bZ a8) ω;have b2:=iu (aV a8) (fk a8).2 (cG a8) ω;have b3:=ze a8;have b4:=pC (qh a8) (aP a8) (gB f.out.2.2.1);have b5:=iE a8;have b6:=py a8;have Y:Cc a8=3+LJ a8+aZ (bM a8) (fk a8).1 (bZ a8)+aZ (aV a8) (fk a8).2 (cG a8)+((wu a8:Nat):Int):=rfl;have nY:0<=LJ a8/\LJ a8<=10000:=by unfold LJ;omega
 have u:∀W,Below a.heap.size a W->Calls Tryz.prog 98 #[.pointer (some ⟨G,0,none⟩)] W λe w'=>e= .returned (.int .i64 (LJ a8))/\Below a.heap.size a w':=λW h=>
  (Pu W G w2.heap.size a.heap.size a8 Al Ad L K cl p ch I (b.out.1.below h (Nat.le_refl _)) f.out.2.2.1 h.size).mono λe w' q=> ⟨q.1,h.trans (q.2.mono h.size)⟩
 have y:∀W,Below a.heap.size a W->∀A n c F k d v,CoI Al Ad (bZ a8) (cG a8) cl p g1 g2 (aZ (bM a8) (fk a8).1 (bZ a8)) (aZ (aV a8) (fk a8).2 (cG a8)) A n c F k d v->Calls Tryz.prog 96 #[.slice A n c, .slice F k d] W λe w'=>e= .returned (.int .i64 v)/\Below a.heap.size a w':=λW h A n c F k d v hc=>by
  cases hc with
  | lit=>
    have:=qa Al (some ⟨g1,0,none⟩) (bZ a8) 286 cl 286 _ _ W ((b.out.1.lit.below h).more h.size) ((b.out.2.2.1.below h).more h.size) ω ω;rw[show min (bZ a8) 286=bZ a8 by omega]at this;exact this.mono λe w' q=> ⟨q.1,h.trans (q.2.mono h.size)⟩
  | ak=>
    have:=qa Ad (some ⟨g2,0,none⟩) (cG a8) 30 p 30 _ _ W ((b.out.1.ak.below h).more h.size) ((b.out.2.2.2.below h).more h.size) ω ω;rw[show min (cG a8) 30=cG a8 by omega]at this;exact this.mono λe w' q=> ⟨q.1,h.trans (q.2.mono h.size)⟩
 have x:∀W,Below a.heap.size a W->Calls Tryz.prog 97 #[.slice At nt ct] W λe w'=>e= .returned (.int .i64 ((wu a8:Nat):Int))/\Below a.heap.size a w':=λW h=>
  (uq W At nt ct a8 ((f.out.1.below (b.out.2.1.trans (h.mono b.out.2.1.size))).more (Nat.le_trans b.out.2.1.size h.size)) (by have:=f.out;omega)).mono λe w' q=> ⟨q.1,h.trans (q.2.mono h.size)⟩
 obtain⟨c1,j⟩ :=ν (aZ (bM a8) (fk a8).1 (bZ a8));obtain⟨c2,i⟩ :=ν (aZ (aV a8) (fk a8).2 (cG a8));obtain⟨J,g⟩ :=ν (wu a8);obtain⟨r,O⟩ :=ν (LJ a8);obtain⟨nl,o⟩ :=ν (bZ a8);obtain⟨nd,D⟩ :=ν (cG a8);rw[j,i,g,O]at Y;rw[j,o]at b1;rw[i,D]at b2;rw[g]at b3;rw[O]at nY;rw[j,i,o,D]at y;rw[g]at x;rw[O]at u;obtain⟨k0,k1, -⟩ :=b.out.1.cells;rw[o]at k0;rw[D]at k1;have ac:0<=c1/\c1<=400000000000000/\0<=c2/\c2<=400000000000000/\(0:Int)<=(J:Int)/\(J:Int)<=400000000000000/\0<=r/\r<=10000:=by have:=f.out.2.2.1;omega
 have HK:Hid (∀W,Below a.heap.size a W->W.cell? ⟨G,0,none⟩ =some (.slice Al nl cl)/\W.cell? ⟨G,1,none⟩ =some (.slice Ad nd p)):=λW h=>by
  obtain⟨T,M, -⟩ :=(b.out.1.below h (Nat.le_refl _)).cells;rw[o]at T;rw[D]at M;exact⟨T,M⟩
 have Vp:Hid (IntKind.i64.wrap (IntKind.i64.wrap (IntKind.i64.wrap (IntKind.i64.wrap (3+r)+c1)+c2)+(J:Int))=3+r+c1+c2+(J:Int)):=by
  show _=_
  rw[IntWalk.i64_in (3+r) ω,IntWalk.i64_in (3+r+c1) ω,IntWalk.i64_in (3+r+c1+c2) ω,IntWalk.i64_in (3+r+c1+c2+(J:Int)) ω]
 have Ep:=η u;have V7:=η y;have J5:=η x;have Le:=η Y;have Br:=η b.out.2.1;have ab:=η (Below.refl a.heap.size a);clear Z fH b1 b2 b3 b4 b5 b6 Y nY u y x j i g O o D b Yr Yo HM
 go_cut [6] (λv6 wx=>v6= .int .i64 (Cc a8)/\Below w.heap.size w wx)
 case first=>
  go_region_law
   (first
     | (have _g:=kx
        go_simp
        go_at_call 97
        refine(J5.out _ kx).mono ?_;rintro e w9 ⟨rfl,FJ⟩)
     | (have _g:=Q
        go_simp
        go_at_call 96
        refine(V7.out _ Q _ _ _ _ _ _ _ (by constructor)).mono ?_;rintro e w8 ⟨rfl,kx⟩)
     | (have _g:=H
        go_simp
        go_at_call 96
        refine(V7.out _ H _ _ _ _ _ _ _ (by constructor)).mono ?_;rintro e w7 ⟨rfl,Q⟩;have M:=(HK.out _ Q).2)
     | (go_simp
        go_at_call 98
        refine(Ep.out _ (by exact ab.out.drew)).mono ?_;rintro e w6 ⟨rfl,H⟩;have T:=(HK.out _ H).1;have M:=(HK.out _ H).2))
  all_goals
   have QJ:=η FJ;clear FJ kx Q H
   go_wp2_with fail
   go_meet
   exact⟨congrArg (Value.int .i64) (Vp.out.trans Le.out.symm),Br.out.trans (QJ.out.mono Br.out.size)⟩
 case rest=>
  obtain⟨rfl,hb⟩ :=hcut;have HB:=η hb;clear hb
  go_wp2_with fail
  go_ret
  exact⟨rfl,HB.out⟩
theorem Jg (w:World) (kind:Int) (At:Option Addr) (nt ct:Nat) (a8:List aF) (b:ig w w.heap.size At nt a8) (c:(nt:Int)<=4611686018427387904) (d:∀t∈a8,0<=t.lit/\t.lit<256) (C:Option Addr) (m cr:Nat):
  Calls Tryz.prog 75 #[.int .i64 kind, .slice At nt ct, .slice C m cr] w λe w'=>e= .returned (.int .i64 (if bh kind a8 m=true then j3 kind a8 m else -1))/\Below w.heap.size w w':=by
 by_cases a:bh kind a8 m=true
 · rw[if_pos a]
   have g:kind=0\/kind=1\/kind=2:=by
    unfold bh at a;by_cases f:kind=0
    · exact .inl f
    · rw[if_neg f]at a;by_cases h:¬(kind=1\/kind=2)\/1048576<=a8.length
      · rw[if_pos h]at a;exact absurd a δ
      · omega
   unfold j3;rcases g with rfl | rfl | rfl
   · rw[if_pos rfl];refine yR w At nt ct a8 b c C m cr ?_;unfold bh at a;rw[if_pos rfl]at a;exact of_decide_eq_true a
   · rw[if_neg δ,if_pos rfl];exact BX w At nt ct a8 b d C m cr a
   · rw[if_neg δ,if_neg δ];exact Jh w At nt ct a8 b d C m cr a
 · rw[if_neg a];exact Mh w kind At nt ct a8 b c C m cr (by simpa using a)
theorem VM {l:List aF}:∀t∈l,t.len=0->t.lit.toNat<286->1<=ix (fk l).1 t.lit.toNat:=by
 refine fu (β:=Nat) (motive:=λl=>∀t∈l,t.len=0->t.lit.toNat<286->1<=ix (fk l).1 t.lit.toNat) ?_ ?_ l
 · intro t ht;simp at ht
 · intro l u c t ht b a;rw[jB];have e:=xE l;have d:=iy l;rcases List.mem_append.1 ht with ht | ht
   · have:=c t ht b a;unfold I4
     split
     · simp only;rw[dL];split <;> omega
     · simp only;rw[dL];split <;> omega
   · obtain rfl:=List.mem_singleton.1 ht;unfold I4;rw[if_pos b];simp only;rw[dL,if_pos ⟨rfl,by rw[d.1];exact a⟩];have:=(e t.lit.toNat).1;omega
theorem Rs {l:List aF}:∀t∈l,aH t->t.len≠0->1<=ix (fk l).1 (257+ej t.len)/\1<=ix (fk l).2 (bO t.ak):=by
 refine fu (β:=Nat) (motive:=λl=>∀t∈l,aH t->t.len≠0->1<=ix (fk l).1 (257+ej t.len)/\1<=ix (fk l).2 (bO t.ak)) ?_ ?_ l
 · intro t ht;simp at ht
 · intro l u e t ht b a;rw[jB];have d:=xE l;have c:=iy l;obtain⟨_,_,g,f⟩ :=nO b a;rcases List.mem_append.1 ht with ht | ht
   · have:=e t ht b a;unfold I4
     split
     · simp only;rw[dL];refine⟨?_,this.2⟩;split <;> omega
     · simp only;rw[dL,dL];constructor <;> (split <;> omega)
   · obtain rfl:=List.mem_singleton.1 ht;unfold I4;rw[if_neg a];simp only;rw[dL,dL,if_pos ⟨rfl,by rw[c.1];omega⟩,if_pos ⟨rfl,by rw[c.2];omega⟩];have:=(d (257+ej t.len)).1;have:=(d (bO t.ak)).2;omega
theorem uX {l:List aF} (c:l.length<1048576) {s:Nat} (h:1<=ix (fk l).1 s) (b:s<286):1<=ix (bM l) s:=by
 have d:=((iO (fk l).1 15).snd (Cr c).1).each s (by rw[(iy l).1];exact b);have e:0<ix (rM l) s:=d.1.2 ω
 have a:s<bZ l:=by
  rcases Nat.lt_or_ge s (bZ l)with a | a
  · exact a
  · have:=fY (rM l) 257 286 s a b;omega
 unfold bM;rw[fK a];omega
theorem ME {l:List aF} (c:l.length<1048576) {s:Nat} (h:1<=ix (fk l).2 s) (b:s<30):1<=ix (aV l) s:=by
 have e:=((iO (fk l).2 15).snd (Cr c).2).each s (by rw[(iy l).2];exact b);have f:0<ix (ll l) s:=e.1.2 ω
 have a:s<cG l:=by
  rcases Nat.lt_or_ge s (cG l)with a | a
  · exact a
  · have:=fY (ll l) 1 30 s a b;omega
 unfold aV;by_cases d:cG l=1/\ix (ll l) 0=0
 · have:s=0:=ω;subst this;omega
 · rw[if_neg d,fK a];omega
theorem Rj {l:List aF} (b:l.length<1048576) {t:aF} (ht:t∈l) (c:aH t) (h:0<=t.lit/\t.lit<256):qH (bM l) (aV l) t:=by
 unfold qH;by_cases a:t.len=0
 · rw[if_pos a];exact uX b (VM t ht a ω) ω
 · rw[if_neg a];obtain⟨_,_,g,f⟩ :=nO c a;obtain⟨e,d⟩ :=Rs t ht c a;exact⟨uX b e ω,ME b d ω⟩
theorem IC {l:List aF} (a:l.length<1048576):1<=ix (bM l) 256:=uX a (VL l) ω
theorem uv:∀s,s<288->1<=ix cY s:=λs a=>by rw[zj s a];split <;> (try split) <;> (try split) <;> omega
theorem Rp {t:aF} (b:aH t) (e:0<=t.lit/\t.lit<256):qH cY dP t:=by
 unfold qH;by_cases a:t.len=0
 · rw[if_pos a];exact uv _ ω
 · rw[if_neg a];obtain⟨_,_,d,c⟩ :=nO b a;refine⟨uv _ ω, ?_⟩;have:ix dP (bO t.ak)=5:=by unfold dP;rw[Am _ ω]
   omega
theorem RU {a:List Rn}:∀r∈a,sS r->1<=ix (uC a) r.c.toNat:=by
 refine fu (β:=Nat) (motive:=λa=>∀r∈a,sS r->1<=ix (uC a) r.c.toNat) ?_ ?_ a
 · intro r b;simp at b
 · intro a u e r b d;rw[qg,dL];have f:=FP a r.c.toNat;rcases List.mem_append.1 b with b | b
   · have:=e r b d
     split <;> omega
   · obtain rfl:=List.mem_singleton.1 b;rw[if_pos ⟨rfl,by rw[lA];have:=d.1;omega⟩];omega
theorem CD {l:List aF} (d:l.length<1048576):∀r∈aP l,1<=ix (aO l) r.c.toNat:=λr a=>by
 have b:=gB d r a;have e:=((iO (uC (aP l)) 7).snd (Ny l)).each r.c.toNat (by rw[lA];have:=b.1;omega);have g:=RU r a b;have f:0<ix (aO l) r.c.toNat:=e.1.2 ω;omega
theorem T6 {l:List aF}:aP l≠[]:=λe=>by
 have h:=(DD _ (bM l++aV l) rfl);unfold aP at e;have d:=jl l;have g:=fQ l;cases c:bM l with
 | nil=>rw[c]at d;simp at d;omega
 | cons a r=>
   rw[c,List.cons_append,jF]at e
   split at e
   · simp at e
   · rename_i i
     have f:dg a (runN a (r++aV l)+1)≠[]:=λb=>by
      rw[dg,dif_neg ω]at b
      split at b
      · simp at b
      · split at b
        · simp at b
        · split at b
          · simp at b
          · simp at b
     exact f (List.append_eq_nil_iff.1 e).1
theorem OX {l:List aF} (p:l.length<1048576):cU (nH (aO l) (ko l))=false:=by
 obtain⟨r,o⟩ :∃r,r∈aP l:=by
  cases h:aP l with
  | nil=>exact absurd h T6
  | cons r _=>exact⟨r,List.mem_cons_self⟩
 have t:=CD p r o;have q:=(gB p r o).1;have d:r.c.toNat<19:=ω;obtain⟨n,m⟩ :=Ic r.c.toNat d;have s:=py l
 have a:gG.idxOf r.c.toNat<ko l:=by
  rcases Nat.lt_or_ge (gG.idxOf r.c.toNat) (ko l)with f | f
  · exact f
  · have h4:=fY (eL.map λk=>ix (aO l) k.toNat) 4 19 _ f n;have j:∀(L:List Int) (g:Int->Int) (i:Nat),i<L.length->ix (L.map g) i=g (ix L i):=λL g i hi=>by simp [ix,hi]
    rw[j _ _ _ n,m]at h4;omega
 have b:=qz (aO l) (k:=ko l) ω
 have e:ix (nH (aO l) (ko l)) (gG.idxOf r.c.toNat)=ix (aO l) r.c.toNat:=by
  have j:∀(L:List Int) (g:Int->Int) (i:Nat),i<L.length->ix (L.map g) i=g (ix L i):=λL g i hi=>by simp [ix,hi]
  unfold nH;rw[j _ _ _ (by rw[List.length_take];show _<min (ko l) 19;omega),fK a,m]
 unfold cU;rw[List.all_eq_false];refine⟨ix (nH (aO l) (ko l)) (gG.idxOf r.c.toNat),lJ (by rw[b];exact a), ?_⟩;rw[e];simp;omega
theorem OY (l:List aF):∀i,ko l<=i->i<19->ix (aO l) (ix eL i).toNat=0:=λi b a=>by
 have h4:=fY (eL.map λk=>ix (aO l) k.toNat) 4 19 _ b a;have c:∀(L:List Int) (g:Int->Int) (i:Nat),i<L.length->ix (L.map g) i=g (ix L i):=λL g i hi=>by simp [ix,hi]
 rw[c _ _ _ a]at h4;exact h4
end Go.Proofs.YtddhegejmkgmjaaGreat
