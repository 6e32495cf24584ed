/-
  The walk of the statement ZlibTurned.
-/
import Derived.Test.YtddhegejmkgmjaaGreatPk29
import Derived.Test.YtddhegejmkgmjaaGreatTurnP
import Derived.Test.YtddhegejmkgmjaaGreatPk31
namespace Go.Proofs.YtddhegejmkgmjaaGreat
open Go.RowKit
set_option linter.unusedVariables false
set_option maxRecDepth 100000
set_option maxHeartbeats 8000000
theorem eT.a2R {X P:List Int} {d:eU} (h:eT X P d):jP (P++(cN d).L) X:=by
 obtain⟨t,c,b,a,h4,h5⟩ :=h.close;exact⟨⟨t,c,b,a⟩,h4,h5⟩
theorem set_tail {a T:List Int} {k:Nat} {v:Int} (h:a.length<=k):(a++T).set k v=a++T.set (k-a.length) v:=by
 rw[List.set_append,if_neg ω]
theorem C7 {x:Int} (h:(Lit.int .u16 x).wf=true):0<=x/\x<65536:=by
 simp [Lit.wf,IntKind.min,IntKind.max,IntKind.signed,IntKind.bits]at h
 omega
theorem jP.spoilt {B X:List Int} (h:jP B X) (q:X.length<=1048576) {k:Nat} {v:Int} (s:(bg B (cM (bC 1 X))).length-4<=k) (o:k<(bg B (cM (bC 1 X))).length) (hv:0<=v/\v<256) (a:v≠ix (bg B (cM (bC 1 X))) k):
  zE ((bg B (cM (bC 1 X))).set k v) 1048576 true=4:=by
 have r:(bg B (cM (bC 1 X))).length=([120,156]++gK B).length+4:=by unfold bg;rw[List.length_append];rfl
 have n:(bg B (cM (bC 1 X))).set k v=bg B ((cM (bC 1 X)).set (k-([120,156]++gK B).length) v):=by
  unfold bg;exact set_tail ω
 obtain⟨j,f⟩ :=ν (k-([120,156]++gK B).length);have p:j<4:=ω
 have g:∀x∈(cM (bC 1 X)).set j v,0<=x/\x<256:=λx m=>by
  rcases List.mem_or_eq_of_mem_set m with d | d
  · exact pW (iG 1 X) x d
  · rw[d];exact hv
 have b:ix (bg B (cM (bC 1 X))) k=ix (cM (bC 1 X)) j:=by
  unfold bg;rw[aL,if_neg ω,f]
 have i:((cM (bC 1 X)).set j v).length=4:=by simp [cM]
 have c:(cM (bC 1 X)).set j v≠cM (bC 1 X):=λe=>by
  have l:ix ((cM (bC 1 X)).set j v) j=v:=by
   rw[Ga _ _ _ _ (by simp [cM];omega),if_pos rfl]
  rw[e,<-b]at l;exact a l.symm
 rw[n,f,h.e_ _ g 1048576 q];unfold oC;rw[i,if_neg ω,if_pos (QY i g (iG 1 X) c)]
theorem jP.more {B X:List Int} (h:jP B X) (c:X.length<=1048576) (l:List Int) (b:∀v∈l,0<=v/\v<256):zE (bg B (cM (bC 1 X))++l) 1048576 true=if l.length=0 then 8 else 2:=by
 have e:bg B (cM (bC 1 X))++l=bg B (cM (bC 1 X)++l):=by unfold bg;rw[List.append_assoc]
 rw[e,h.e_ _ (λv hv=>by
  rcases List.mem_append.1 hv with a | a
  · exact pW (iG 1 X) v a
  · exact b v a) 1048576 c]
 exact Em _ (iG 1 X) l
theorem zturned_law (A:Option Addr) (n cp:Nat) (b:List Int) (at_ yS:Int) (C:Option Addr) (m cm:Nat) (more:List Int) (w:World) (hA:ZH .u8 w A n cp b) (R:(Lit.int .u16 at_).wf=true) (Nr:(Lit.int .u8 yS).wf=true) (hC:ZH .u8 w C m cm more):
  Calls Tryz.prog 4 #[.slice A n cp, .int .u16 at_, .int .u8 yS, .slice C m cm] w λe w'=>e= .returned (.bool true)/\Below w.heap.size w w':=by
 obtain⟨hr,ap,xe,df,bb⟩ :=hA;obtain⟨s,ao,XF,Nt,aS⟩ :=hC;have O:∀v∈b,0<=v/\v<256:=λv hv=>bounds_u8 (xe v hv)
 have Wu:∀v∈more,0<=v/\v<256:=λv hv=>bounds_u8 (XF v hv)
 have Wj:=C7 R;have uz:=bounds_u8 Nr;have hm:n=b.length:=hr.1;by_cases eK:1000<n\/yS=0\/100<m
 · have N:(1000:Int)<n\/(¬(1000:Int)<n/\yS=0)\/(¬(1000:Int)<n/\yS≠0/\(100:Int)<m):=ω;clear hr ap xe df bb s ao XF Nt aS O Wu Wj hm eK R Nr;rcases N with h | ⟨h,rfl⟩ | ⟨h,h0,T⟩
   · go_enter Tryz.func4,Tryz.ntmps4
     go_wp2_with fail
     refine(eH w).mono ?_;rintro e wa ⟨rfl,wQ⟩
     go_wp2_with fail
     go_ret
     exact⟨rfl,wQ⟩
   · go_enter Tryz.func4,Tryz.ntmps4
     go_wp2_with fail
     refine(eH w).mono ?_;rintro e wa ⟨rfl,wQ⟩
     go_wp2_with fail
     go_ret
     exact⟨rfl,wQ⟩
   · have bi:(yS==0)=false:=by simpa using h0
     go_enter Tryz.func4,Tryz.ntmps4
     go_wp2_with fail
     refine(eH w).mono ?_;rintro e wa ⟨rfl,wQ⟩
     go_wp2_with fail
     go_ret
     exact⟨rfl,wQ⟩
 · have rE:¬(1000:Int)<n/\¬(100:Int)<m:=ω;have bi:(yS==0)=false:=ξ;obtain⟨i0,hi,ah,ac,ab⟩ :=info_parts jy;have Hi:=η (⟨hi,ah,ac,ab⟩ :_/\_/\_/\_);have HN:=η (yD 6 w δ);have l:=η (⟨hr,df,O,hm,eK⟩ :_/\_/\_/\_/\_);have HC:=η (⟨s,Nt,Wu,s.1⟩ :_/\_/\_/\_);have HB:=η (⟨Wj,uz⟩ :_/\_);clear hr ap xe df bb s ao XF Nt aS O Wu Wj uz hm eK R Nr hi ah ac ab;go_enter Tryz.func4,Tryz.ntmps4
   go_wp2_with fail
   refine HN.out.mono ?_;rintro r w1 ⟨g,E,rfl,T,bd⟩;have H1:=η (⟨T,bd⟩ :_/\_);clear T bd HN
   go_wp2_with fail
   refine(eH w1).mono ?_;rintro r w2 ⟨rfl,Q⟩;have Z:=H1.out.1.keeps Q;have wP:=H1.out.2.trans (Q.mono H1.out.2.size)
   have HW:=η (sO Z (DB.new 6) A n cp b ((l.out.1.below wP).more wP.size) l.out.2.1 (λh0 ad e hE=>by
    obtain⟨a0,e0,bx,_⟩ :=l.out.1.2 h0;rw[e]at e0;injection e0 with e0;subst e0;have:=(Z.Ei _ hE).1;omega) l.out.2.2.1 (by rw[List.nil_append];have:=l.out;omega) (by have:=l.out;omega))
   have H2:=η wP;clear Z wP Q H1
   go_wp2_with fail
   refine HW.out.mono ?_;rintro r w3 ⟨rfl,E3,h3,al⟩;have S:=DB.write n (K:=0) (X:=[]) (P:=[]) (d:=vd 6) b (DB.new 6) (by have:=l.out.2.2.2.1;omega) (by rw[List.nil_append];have:=l.out;omega) l.out.2.2.1;have Bk:=η (sN h3 S (by have:=l.out;omega));have H3:=η (⟨H2.out.trans al.1,S⟩ :_/\_);clear h3 al S HW H2
   go_wp2_with fail
   refine Bk.out.mono ?_;rintro r w4 ⟨rfl,E4,h4,Ez⟩;have ja:=H3.out.2.Mp;have XM:=H3.out.2.1.a2R;rw[List.nil_append,List.nil_append]at XM;obtain⟨d4,Nx⟩ :=ν (cN (bL n (vd 6) b));rw[Nx]at h4 ja XM;have Er:=η (pJ h4 ⟨δ,by simp [cM],by have:=l.out;omega⟩);have H4:=η (⟨H3.out.1.trans Ez.1,XM,ja⟩ :_/\_/\_);clear h4 Ez ja XM Nx Bk H3
   go_wp2_with fail
   refine Er.out.mono ?_;rintro r o ⟨F,a,cf,E5,rfl,I,bl,XK,qQ⟩;have Qm: [120,156]++gK d4.L++cM (bC 1 b)=bg d4.L (cM (bC 1 b)):=rfl;rw[Qm]at I
   have x:(bg d4.L (cM (bC 1 b))).length=d4.L.length/8+6:=by
    unfold bg;rw[List.length_append,List.length_append,dA];show 2+d4.L.length/8+4=_
    omega
   have Ue:∀v∈bg d4.L (cM (bC 1 b)),0<=v/\v<256:=λv hv=>by
    unfold bg at hv;rcases List.mem_append.1 hv with hv | hv
    · rcases List.mem_append.1 hv with hv | hv
      · simp at hv;omega
      · exact EZ H4.out.2.1.bit v hv
    · exact pW (iG 1 b) v hv
   obtain⟨f,hf⟩ :=ν (bg d4.L (cM (bC 1 b)));have hX:b.length<=1048576:=by have:=l.out;omega
   have W:=λk v=>jP.spoilt H4.out.2.1 hX (k:=k) (v:=v)
   have X7:=jP.more H4.out.2.1 hX more HC.out.2.2.1;rw[hf]at x Ue I X7;simp only [hf]at W;have CJ:=I.1;have bt:(6:Int)<=(a:Int)/\(a:Int)<=1000000/\0<a:=by have:=H4.out.2.2;have:=l.out;omega
   obtain⟨gf,rfl⟩ :=I.2.addr ω;have fN:=H4.out.1.trans qQ.1;have c:=η (⟨I,fN,Ue,W,X7,CJ⟩ :_/\_/\_/\_/\_/\_);have lF:=I.rd.alloc (Nat.le_refl _) (.cells #[] 5);have x6:=ag.lit (k:= .u8) (w:=o) (b0:=o.heap.size) rfl [] 5 (Nat.le_refl _) σ;have Np:o.heap.size<=(o.alloc (.cells #[] 5)).heap.size:=σ;obtain⟨k,j⟩ :∃k:Nat,at_.tmod (a:Int)=(k:Int):= ⟨(at_%a).toNat,by rw[Int.tmod_eq_emod_of_nonneg HB.out.1.1];have:=Int.emod_nonneg at_ (b:=(a:Int)) ω;omega⟩;have zN:k<a:=by have T:=Int.emod_lt_of_pos at_ (b:=(a:Int)) ω;rw[Int.tmod_eq_emod_of_nonneg HB.out.1.1]at j;omega
   have bB:at_%(a:Int)=(k:Int):=by rw[<-j,Int.tmod_eq_emod_of_nonneg HB.out.1.1]
   have mA:(0:Int)<=(k:Int)/\(k:Int)<(a:Int)/\0<=at_/\at_<65536:=by have:=HB.out;omega
   have u:=η zN;clear I bl XK qQ Qm x Ue W X7 CJ fN Er hf zN
   go_upto_region 12 with (at_builtin;(refine au .u8 o.heap.size 5 i0 1 rfl (.tmp 49) (.tmp 50) _ rfl Tryz.underlying26 Hi.out.1 Hi.out.2.1 Hi.out.2.2.1 Hi.out.2.2.2 rfl x6 rfl lF ξ ω Np ?_)
                           intro A6 d6 U fI gL dc)
   have Wm:Below o.heap.size o U:=((Below.refl o.heap.size o).alloc (Nat.le_refl _) _).grown gL σ (by simp [aa]);simp only [List.nil_append,Nat.zero_add]at fI;have zJ:=c.out.1.keeps Wm;have ck:=zJ.2.cell (i:=k) (by have:=u.out;omega);have zk:=zJ.2.frozen k;obtain⟨y,hy⟩ :=ν (ix f k);have LC:0<=y/\y<256:=by rw[<-hy];exact c.out.2.2.1 _ (lJ (by have:=c.out.2.2.2.2.2;have:=u.out;omega))
   obtain⟨V,hV⟩ :=ν (bits .xor .u8 y yS);have zB:0<=V/\V<256:=by rw[<-hV];exact Tg y yS
   have be:V≠y:=by rw[<-hV];exact Th LC HB.out.2 (by simpa using bi)
   replace ck:U.cell? ⟨gf,k,none⟩ =some (.int .u8 (ix f k)):=ck;rw[hy]at ck;have aI:=zJ.2.lt (g:=gf) rfl;have Li:aa A6≠some gf:=λe=>by have:=(fI.2.lt e).1;have:=(c.out.1.2.lt (g:=gf) rfl).2;omega
   have Y:=ag.aQ zJ u.out V;have H:=fI.far (p:= ⟨gf,k,none⟩) Li (.int .u8 V);have ly:=(c.out.2.1.trans (Wm.mono c.out.2.1.size)).setCell (p:= ⟨gf,k,none⟩) aI.1 (.int .u8 V);have bn:Below U.heap.size U (U.setCell ⟨gf,k,none⟩ (.int .u8 V))->True:=λ_=>trivial
   obtain⟨w7,Qx⟩ :=ν (U.setCell ⟨gf,k,none⟩ (.int .u8 V));rw[Qx]at Y H ly
   have nY:∀v∈f.set k V,0<=v/\v<256:=λv hv=>by
    rcases List.mem_or_eq_of_mem_set hv with h | h
    · exact c.out.2.2.1 v h
    · rw[h];exact zB
   have lG:(f.set k V).length<=1000000000:=by rw[List.length_set,<-c.out.2.2.2.2.2];omega
   obtain⟨f2,M⟩ :=ν (f.set k V)
   have W:a-4<=k->zE f2 1048576 true=4:=λh=>by
    rw[<-M];exact c.out.2.2.2.1 k V (by rw[<-c.out.2.2.2.2.2];exact h) (by rw[<-c.out.2.2.2.2.2];exact u.out) zB (by rw[hy];exact be)
   rw[M]at Y nY lG;have ZF:=η (sJ w7 (some ⟨gf,0,none⟩) a cf f2 1048576 1048576 Y.rd Y.2.fD nY lG δ δ);have z:=η (⟨Y,H,ly,nY,lG,W⟩ :_/\_/\_/\_/\_/\_);have HY:=η (⟨hV,Qx⟩ :_/\_);clear zJ hy LC zB be aI Li Y H ly bn nY lG M W Wm fI gL dc lF x6 Np hV Qx
   go_wp2_with fail
   rw[HY.out.1,HY.out.2];refine ZF.out.mono ?_;rintro r w8 ⟨A8,k8,c8,rfl,uP,kx⟩;have Lg:=η (sH w8 (some ⟨gf,0,none⟩) a cf f2 (z.out.1.keeps kx).rd z.out.2.2.2.1 z.out.2.2.2.2.1);have H8:=η (⟨uP,z.out.2.1.keeps kx,z.out.2.2.1.trans (kx.mono z.out.2.2.1.size)⟩ :_/\_/\_);clear uP kx ZF
   go_wp2_with fail
   refine Lg.out.mono ?_;rintro r w9 ⟨A9,k9,c9,rfl,Io,FJ⟩;have G:=H8.out.2.1.keeps FJ;have FH:=H8.out.2.2.trans (FJ.mono H8.out.2.2.size);have aE:=(HC.out.1.below FH).more FH.size
   have X4:o.heap.size<=w9.heap.size:=by
    obtain⟨gr,e⟩ :=G.2.addr ω;rw[e]at G;have:=G.2.lt (g:=gr) rfl;omega
   have uM:m<=100:=ω;have H9:=η (⟨Io,FH,H8.out.1.keeps FJ,G⟩ :_/\_/\_/\_);clear Io FJ FH Lg
   go_wp2_with (at_builtin;(refine au .u8 o.heap.size 5 i0 1 rfl (.tmp 77) (.tmp 78) _ rfl Tryz.underlying26 Hi.out.1 Hi.out.2.1 Hi.out.2.2.1 Hi.out.2.2.2 rfl G rfl aE ω ω X4 ?_)
                intro bs bp GV Sh zL bo)
   have ox:aq w9 GV (λq=>aa A6=some q):=(aq.refl w9 _).grown zL (λq t=> .inl t);have Li:∀q,aa A6=some q->q<w7.heap.size:=λq t=>(z.out.2.1.2.lt t).2
   have am:=ox.bf H9.out.1 (λq t e=>by have T:=(H9.out.1.2.lt t).1;have Z:=(H8.out.2.1.2.lt e).2;omega);have an:=ox.bf H9.out.2.2.1 (λq t e=>by have T:=(H9.out.2.2.1.2.lt t).1;have Z:=Li q e;omega);have JT:=H9.out.2.1.trans (ox.below (λq t=>Nat.le_trans c.out.2.1.size (G.2.lt t).1) H9.out.2.1.size)
   have aC:∀v∈f++more,0<=v/\v<256:=λv hv=>by
    rcases List.mem_append.1 hv with h | h
    · exact c.out.2.2.1 v h
    · exact HC.out.2.2.1 v h
   have bk:=η (sH GV bs (a+m) bp (f++more) Sh.rd aC (by rw[List.length_append,<-c.out.2.2.2.2.2,<-HC.out.2.2.2];omega));have Tm:=η (⟨am,an,JT⟩ :_/\_/\_);clear ox Li am an JT aC Sh zL bo G aE X4
   go_wp2_with fail
   refine bk.out.mono ?_;rintro r QB ⟨bI,LF,bG,rfl,NS,FI⟩;have D:=(Tm.out.1.keeps FI).rd;have G5:=(Tm.out.2.1.keeps FI).rd;have U9:=Tm.out.2.2.trans (FI.mono Tm.out.2.2.size);have S8:(k9:Int)<=1000000000:=by have T:=D.1;have Z:=vW f2 1048576;omega
   have sP:=η (vF QB QB.heap.size k9 c9 k8 c8 A9 A8 _ _ D G5 S8 rfl);have EC:=η U9;clear D G5 U9 S8 NS FI bk;rw[c.out.2.2.2.2.1];obtain⟨E1,wA⟩ :=ν (zE f2 1048576 true);have N6:a-4<=k->E1=4:=λh=>by rw[<-wA];exact z.out.2.2.2.2.2 h
   rw[wA];have Lu:=HC.out.2.2.2
   have N:(k<a-4\/(¬k<a-4/\E1=4))/\((m=0/\more.length=0)\/(0<m/\¬more.length=0)):=by
    refine⟨?_,ω⟩;by_cases h:k<a-4
    · exact .inl h
    · exact .inr ⟨h,N6 ω⟩
   clear wA N6 Lu;obtain⟨j,J⟩ :=N;have aA:∀q,Hid (Below w.heap.size w (QB.drewN q)):=λq=> ⟨EC.out.os,EC.out.tape,EC.out.output,EC.out.size,EC.out.block⟩
   rcases J with ⟨rfl,J⟩ | ⟨mI,J⟩
   · rw[if_pos J];clear J;rcases j with j | ⟨j,rfl⟩
     · have K1:(k:Int)<(a:Int)-4:=ω;clear j
       go_wp2_with fail
       refine sP.out.mono ?_;rintro r B ⟨rfl,q,rfl⟩
       go_wp2_with fail
       go_ret
       exact⟨rfl,(aA q).out⟩
     · have K1:¬(k:Int)<(a:Int)-4:=ω;clear j
       go_wp2_with fail
       refine sP.out.mono ?_;rintro r B ⟨rfl,q,rfl⟩
       go_wp2_with fail
       go_ret
       exact⟨rfl,(aA q).out⟩
   · rw[if_neg J];have K4:(0:Int)<(m:Int)/\¬(m:Int)=0:=ω;have bv:((m:Int)==0)=false:=ξ;clear J;rcases j with j | ⟨j,rfl⟩
     · have K1:(k:Int)<(a:Int)-4:=ω;clear j
       go_wp2_with fail
       refine sP.out.mono ?_;rintro r B ⟨rfl,q,rfl⟩
       go_wp2_with fail
       go_ret
       exact⟨rfl,(aA q).out⟩
     · have K1:¬(k:Int)<(a:Int)-4:=ω;clear j
       go_wp2_with fail
       refine sP.out.mono ?_;rintro r B ⟨rfl,q,rfl⟩
       go_wp2_with fail
       go_ret
       exact⟨rfl,(aA q).out⟩
end Go.Proofs.YtddhegejmkgmjaaGreat
