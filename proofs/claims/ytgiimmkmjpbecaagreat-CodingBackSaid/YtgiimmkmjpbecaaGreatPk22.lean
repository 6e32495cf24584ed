/-
  part
-/
import Derived.Test.YtgiimmkmjpbecaaGreatPk21
import Derived.Test.YtgiimmkmjpbecaaGreatZer
set_option linter.unusedVariables false
set_option maxRecDepth 100000
set_option maxHeartbeats 4000000
namespace Go.Proofs.YtgiimmkmjpbecaaGreat
open Go.RowKit Go.Maps
def zt (w:World) (b0 g:Nat) (e:oP) (st:jk) (A:ax) (gm:Nat) (Ap:ax) (r:Ending) (w':World):Prop:=
 r= .returned (.tuple #[])/\∃(A':ax) (n' c':Nat) (Ap':ax) (np' cp' nm:Nat) (Dm:DataW Unit),eA w' b0 g e st st.at_ A' n' c' gm nm Dm Ap' np' cp'/\bb w w' (FF A gm Ap g)/\(∀k,FF A' gm Ap' g k->FF A gm Ap g k\/w.heap.size<=k)
section
variable {w w' w1 w2:World} {b0 g b n c gm nm np cp:Nat} {e:oP} {st:jk} {A Ap:ax} {Dm:DataW Unit}
theorem eA.rows (h:eA w b0 g e st b A n c gm nm Dm Ap np cp) {A' Ap':ax} {n' c' np' cp':Nat} {st':jk} (d:Ar w' g 8 (ff e A' n' c' st'.base st'.at_ gm Ap' np' cp')) (p:aT .u8 w' b0 5 A' n' c' (st'.D.drop st'.base))
  (i:aT .i64 w' b0 3 Ap' np' cp' (st'.P.drop st'.base)) (m:bb w w' (λk=>k=g\/ai A=some k\/ai Ap=some k)) (j:st'.head=st.head) (hA:∀q,ai A'=some q->ai A=some q\/w.heap.size<=q)
  (f:∀q,ai Ap'=some q->ai Ap=some q\/w.heap.size<=q) (r:∀q,ai A'=some q->ai Ap'≠some q) (o:st'.Ok b) (l:∀x∈st'.D,0<=x/\x<256) (s:st'.D.length<=100000000000):
  eA w' b0 g e st' b A' n' c' gm nm Dm Ap' np' cp'/\bb w w' (FF A gm Ap g)/\(∀k,FF A' gm Ap' g k->FF A gm Ap g k\/w.heap.size<=k):=by
 have u:=h.cell.lt;have t:=h.map.lt;refine⟨⟨d,h.lo,p,i,pN h.map (m.block gm h.map.lt λe=> ?_),j▸h.rep,h.glo,h.nmb,λe=> ?_,λe=> ?_,h.d3,r,λe=> ?_,λe=> ?_,o,l,h.eb,s⟩,m.more λk a=> ?_,λk a=> ?_⟩
 · rcases e with e | e | e
   · exact h.d3 e
   · exact h.d5 e
   exact h.d6 e
 · rcases hA g e with e | e
   · exact h.d1 e
   omega
 · rcases f g e with e | e
   · exact h.d2 e
   omega
 · rcases hA gm e with e | e
   · exact h.d5 e
   omega
 · rcases f gm e with e | e
   · exact h.d6 e
   omega
 · rcases a with a | a | a
   · exact .inl a
   · exact .inr (.inr (.inl a))
   exact .inr (.inr (.inr a))
 rcases a with a | a | a | a
 · exact .inl (.inl a)
 · exact .inl (.inr (.inl a))
 · rcases hA k a with e | e
   · exact .inl (.inr (.inr (.inl e)))
   exact .inr e
 rcases f k a with e | e
 · exact .inl (.inr (.inr (.inr e)))
 exact .inr e
def jd (st:jk) (x:ag):jk:={ st with D:=st.D++x,P:=st.P++List.replicate x.length 0 }
theorem Uu {st:jk} {b:Nat} (h:st.Ok b) (x:ag):(jd st x).Ok b:=by
 refine⟨by simp [jd,h.len],h.lo,by have:=h.hi;simp [jd];omega,by have:=h.bl;simp [jd];omega,λq=> ?_,h.hd⟩;show -1<=ix (st.P++List.replicate x.length 0) q/\ix (st.P++List.replicate x.length 0) q<=q;rw[dy];split
 · exact h.prev q
 rw[W7];omega
theorem LV (h:eA w b0 g e st st.at_ A n c gm nm Dm Ap np cp) {B m d:Nat} {C:ax} {x:ag} (hr:bT .u8 w B C m x) (hB:B<=w.heap.size) (cq:∀v∈x,0<=v/\v<256) (Q:st.D.length+m<=100000000000):
  Calls Tryz.prog 99 #[.pointer (some ⟨g,0,none⟩), .slice C m d] w (zt w b0 g e (jv st x) A gm Ap):=by
 obtain⟨i1,hi,s,r,o⟩ :=aL Iz;have Ki:=η hi;have cb:=η s;have ab:=η r;have ca:=η o;clear hi s r o;obtain⟨i0,hi,s,r,o⟩ :=aL Qx;have Hi:=η hi;have gL:=η s;have fN:=η r;have gM:=η o;clear hi s r o;obtain⟨c0,c1,c2,c3,L,c5,c6,c7⟩ :=rX h;have z3:=h.cell.aH 3;have hn:=h.mW;have an:=h.Pg;have Yk:=h.cell.lt;have ad:=h.own;have ci:=h.xv;have bx:b0<=w.heap.size:=aq h.lo (bE Yk);have hm:=hr.1;have rz:n+m<=100000000000:=ω;have cj:(0:Int)<=n/\(0:Int)<=m/\(n:Int)+(m:Int)<=100000000000:=ω;have HM:=η hm;have O5:=η an;have HN:=η hn;clear hm an hn
 go_in
 go_upto_region 2 with (at_builtin;(refine bm .u8 b0 5 i1 1 rfl (.tmp 11) (.tmp 12) _ rfl Tryz.underlying22 Ki.out cb.out ab.out ca.out rfl ad rfl hr ω ω bx ?_)
                        intro A1 d1 w1 tL bd bp;have yY:bb w w1 (λk=>ai A=some k):=(bb.refl w (λk=>ai A=some k)).grown bd λk l=> .inl l;have Fy:=yY.ar h.cell (λe=>h.d1 e);have ce:=Fy.aH 3;have cz:=Fy.az 3)
 have G:bb w (w1.setCell ⟨g,3,none⟩ (.slice A1 (n+m) d1)) (λk=>k=g\/ai A=some k\/ai Ap=some k):=(yY.more λk l=> .inr (.inl l)).setCell (p:= ⟨g,3,none⟩) (.inl (.inl rfl)) _;have bl:b0<=(w1.setCell ⟨g,3,none⟩ (.slice A1 (n+m) d1)).heap.size:=aq bx G.size
 have wB:∀q,ai A1=some q->ai A=some q\/q=w.heap.size:=λq b=>by
  rcases bp with a | a
  · exact .inl (a▸b)
  rw[a]at b;injection b with b;exact .inr b.symm
 have X:ai A1≠some g:=λa=>by
  rcases wB g a with y | y
  · exact h.d1 y
  omega
 have VA:aT .i64 (w1.setCell ⟨g,3,none⟩ (.slice A1 (n+m) d1)) b0 3 Ap np cp (st.P.drop st.base):=
  (yY.dJ ci λq b a=>h.d4 q a b).far (p:= ⟨g,3,none⟩) h.d2 _
 obtain⟨A2,d2,w2,qZ,ib,aE,iq⟩ :=tY (P:=Tryz.prog) (w1.setCell ⟨g,3,none⟩ (.slice A1 (n+m) d1)) .i64 b0 80 3 80 3 i0 8 .i64 .i64 Tryz.underlying80 Tryz.underlying3 Hi.out gL.out fN.out gM.out VA m (by rw[O5.out];omega) ω bl;have F:bb (w1.setCell ⟨g,3,none⟩ (.slice A1 (n+m) d1)) w2 (λk=>ai Ap=some k):=(bb.refl _ (λk=>ai Ap=some k)).grown aE λk l=> .inl l;have UW:=Fy.cE 3 (.slice A1 (n+m) d1);have lY:=F.ar UW (λa=>h.d2 a);have bM:=lY.az 3;have J:=lY.az 7;have cc:=lY.aH 7;have K:=UW.az 7;rw[dA _ _ ω]at K J;rw[upd_same]at bM;replace K:_=some (Value.slice Ap np cp):=K;replace J:_=some (Value.slice Ap np cp):=J;clear yY Fy cz;go_upto_region 3 with (at_builtin;refine Lib.wpList_append_run _ rfl _ _ _ _ rfl _ _ rfl rfl _ _ qZ ?_)
 have Zt:∀q,ai A2=some q->ai Ap=some q\/q=(w1.setCell ⟨g,3,none⟩ (.slice A1 (n+m) d1)).heap.size:=λq b=>by
  rcases iq with a | a
  · exact .inl (a▸b)
  rw[a]at b;injection b with b;exact .inr b.symm
 have cg:=G.size;have VS:(w1.setCell ⟨g,3,none⟩ (.slice A1 (n+m) d1)).heap.size=w1.heap.size:=by simp [World.setCell]
 have bG:∀q,ai A1=some q->q<w1.heap.size:=λq b=>(tL.2.lt b).2
 have bB:ai A2≠some g:=λa=>by
  rcases Zt g a with y | y
  · exact h.d2 y
  omega
 have J0:∀q,ai A1=some q->ai A2≠some q:=λq b a=>by
  have l1:=bG q b;rcases Zt q a with y | y
  · rcases wB q b with u | u
    · exact h.d4 q u y
    have:=(h.xv.2.lt y).2;omega
  omega
 have je:aT .u8 w2 b0 5 A1 (n+m) d1 (st.D.drop st.base++x):=F.dJ (tL.far (p:= ⟨g,3,none⟩) X _) λq b a=>by
  rcases wB q b with u | u
  · exact h.d4 q u a
  have:=(h.xv.2.lt a).2;omega
 have ap:=(G.trans F λk l=> .inl (.inr (.inr l))).setCell (p:= ⟨g,7,none⟩) (.inl (.inl rfl)) (.slice A2 (np+m) d2);have t:=Uu h.ok x
 obtain⟨h3,H,Ye⟩ :=h.rows (st':=jd st x) (A':=A1) (n':=n+m) (c':=d1) (Ap':=A2) (np':=np+m) (cp':=d2)
  ((lY.cE 7 (.slice A2 (np+m) d2)).congr λj hj=>by
    obtain rfl | rfl | rfl | rfl | rfl | rfl | rfl | rfl:j=0\/j=1\/j=2\/j=3\/j=4\/j=5\/j=6\/j=7:=ω;all_goals rfl)
  (by
    have a:(jd st x).D.drop (jd st x).base=st.D.drop st.base++x:=dS h.Oh;rw[a];exact je.far (p:= ⟨g,7,none⟩) X _)
  (by
    have a:(jd st x).P.drop (jd st x).base=st.P.drop st.base++List.replicate x.length 0:=dS (by rw[h.ok.len];exact h.Oh);rw[a,<-HM.out];exact ib.far (p:= ⟨g,7,none⟩) bB _)
  ap rfl (λq b=>by
   rcases wB q b with u | u
   · exact .inl u
   · exact .inr ω) (λq b=>by
   rcases Zt q b with u | u
   · exact .inl u
   · exact .inr ω) J0 t (λv hv=>by
   rcases aQ.1 hv with h5 | h5
   · exact h.jc v h5
   exact cq v h5) (by show(st.D++x).length<=_;rw[ae,<-HM.out];exact Q)
 generalize w2.setCell ⟨g,7,none⟩ (.slice A2 (np+m) d2)=w3 at*;clear ap je bB bG cg VS Zt iq aE ib qZ F UW lY bM J cc K VA X wB bl G J0 t;have R:jv st x={ jd st x with base:=if 131072<(st.D++x).length-st.base/\32768<st.at_-st.base then st.at_-32768 else st.base }:=rfl;have fG:n+m=(st.D++x).length-st.base:=by rw[ae,<-HM.out];have:=HN.out;omega
 rw[<-fG]at R;have HW:=η R;obtain⟨c0,c1,c2,c3,L,c5,c6,c7⟩ :=rX h3;replace L:w3.cell? ⟨g,4,none⟩ =some (.int .i64 st.base):=L;replace c5:w3.cell? ⟨g,5,none⟩ =some (.int .i64 st.at_):=c5;have mg:=h.ok.lo;have KT:=h.ok.hi;obtain⟨f,Yc⟩ :=ν (st.base);obtain⟨T,hT⟩ :=ν (st.at_);obtain⟨N,hN⟩ :=ν (n+m);rw[Yc]at L mg;rw[hT]at c5 mg KT;rw[hN]at c3;have bv:(N:Int)<=100000000000/\(0:Int)<=N:=ω;have cv:(0:Int)<=f/\(f:Int)<=(T:Int)/\(T:Int)<=100000000000:=ω;have mM:IntKind.i64.wrap ((T:Int)-(f:Int))=(T:Int)-(f:Int):=by rw[aM _ ω]
 have E:=η Yc;have HT:=η hT;have i:=η hN;clear R fG Yc hT hN ce tL bd bp z3;by_cases V:131072<N
 rotate_left
 · have co:¬(131072:Int)<(N:Int):=ω;have hE:Hid (jv st x=jd st x):=by show _=_;rw[HW.out,i.out,HT.out,E.out,a8 (λh=>V h.1),<-E.out];rfl
   go_wp2_with fail;go_quiet (fail)
   go_wp2_with fail;go_returns;exact⟨rfl,A1,n+m,d1,A2,np+m,d2,nm,Dm,by rw[hE.out];exact h3.drewN _,H.drewN _,Ye⟩
 have co:(131072:Int)<(N:Int):=ω;by_cases U:32768<T-f
 rotate_left
 · have dj:¬0<(T:Int)-(f:Int)-32768:=ω;have hE:Hid (jv st x=jd st x):=by show _=_;rw[HW.out,i.out,HT.out,E.out,a8 (λh=>U h.2),<-E.out];rfl
   go_wp2_with fail;go_quiet (fail)
   go_wp2_with fail;go_returns;exact⟨rfl,A1,n+m,d1,A2,np+m,d2,nm,Dm,by rw[hE.out];exact h3.drewN _,H.drewN _,Ye⟩
 obtain⟨cut,hcut⟩ :=ν (T-f-32768);have be:(T:Int)-(f:Int)-32768=(cut:Int)/\(0:Int)<cut:=ω;have hE:Hid (jv st x={ jd st x with base:=T-32768 }):=by show _=_;rw[HW.out,i.out,HT.out,E.out,aa ⟨V,U⟩]
 have I:Hid (T-32768=f+cut):=by show _=_;omega
 have Vx:=h.ok.write x;rw[hE.out]at Vx;have MG:=η Vx;clear Vx;have bi:cut<=N:=by have:=HN.out;have:=E.out;have:=i.out;omega
 have yX:cut<=np+m:=by have:=O5.out;have:=i.out;omega
 have Ha:(cut:Int)<=(N:Int)/\(cut:Int)<=((np+m:Nat):Int):=ω;have bt:np+m<=100000000000:=by have:=O5.out;omega
 clear hcut
 go_wp2_with fail;go_quiet (fail);have h4:=h3.drewN nq;have rF:=H.drewN nq;obtain⟨c0,c1,c2,c3,L,c5,c6,c7⟩ :=rX h4;replace L:(w3.drewN nq).cell? ⟨g,4,none⟩ =some (.int .i64 st.base):=L;rw[i.out]at c3;rw[E.out]at L;have Bc:w3.heap.size=(w3.drewN nq).heap.size:=rfl;generalize w3.drewN nq=w4 at*;have cl:=h4.cell.lt;have ct:b0<=w4.heap.size:=aq h4.lo (bE cl);have oh:=cK (P:=Tryz.prog) 22 5 Tryz.underlying22 Ki.out ab.out A1 N d1 bi;have Jf:=cK (P:=Tryz.prog) 80 3 Tryz.underlying80 Hi.out fN.out A2 (np+m) d2 yX;have T7:=(((h4.own.rd).dw (j:=cut) (τ i.out) h4.own.2.iT).alloc (af _) (.cells #[] 5));have xk:=aT.lit (k:= .u8) (w:=w4) (b0:=b0) rfl [] 5 ct σ;have z3:=h4.cell.aH 3;have dk:=h4.d1;have cx:=h4.d2;rw[i.out]at T7;have bo:b0<=(w4.alloc (.cells #[] 5)).heap.size:=ξ;have ch:Hid (w.heap.size<=w4.heap.size):=rF.size;have df:(0:Int)<cut:=be.2;have cA:Hid (T<=100000000000):=by show _<=_;omega
 have cB:=η bt;have cD:=η Ha;have cC:=η bv;have cm:0<cut:=ω;clear H Ha bv be bt mM cv cj Bc U bi yX mg KT Q rz
 go_upto_region 6 with (at_builtin;(refine bm .u8 b0 5 i1 1 rfl (.tmp 47) (.tmp 53) _ rfl Tryz.underlying22 Ki.out cb.out ab.out ca.out rfl xk rfl T7 (by have:=cC.out;simp;omega) ω bo ?_)
                        intro z d5 O lQ od jF;have lZ:Below w4.heap.size w4 O:=((aw _ w4).alloc (af _) (.cells #[] 5)).grown od σ (by simp [ai]);have fY:=(h4.keeps lZ).cell;have cd:=fY.aH 3;have cy:=fY.az 3)
 have de:=fY.lt;rw[ba,bX]at lQ
 have rA:∀q,ai z=some q->q=w4.heap.size\/q=w4.heap.size+1:=λq b=>by
  rcases jF with a | a
  · rw[a]at b;simp [ai]at b;exact .inl b.symm
  rw[a]at b;simp at b;exact .inr b.symm
 have ck:∀q,ai z=some q->q<O.heap.size:=λq b=>(lQ.2.lt b).2;have CQ:bb w4 (O.setCell ⟨g,3,none⟩ (.slice z (N-cut) d5)) (λk=>k=g\/ai A1=some k\/ai A2=some k):=(bb.bC lZ).setCell (p:= ⟨g,3,none⟩) (.inl (.inl rfl)) _;have nj:=fY.cE 3 (.slice z (N-cut) d5);have ah:aT .i64 (O.setCell ⟨g,3,none⟩ (.slice z (N-cut) d5)) b0 3 A2 (np+m) d2 ((jd st x).P.drop (jd st x).base):=((h4.keeps lZ).xv).far (p:= ⟨g,3,none⟩) cx _;have W:ai z≠some g:=λa=>by rcases rA g a with y | y <;> omega
 have il:=lQ.far (p:= ⟨g,3,none⟩) W (.slice z (N-cut) d5);have VT:(O.setCell ⟨g,3,none⟩ (.slice z (N-cut) d5)).heap.size=O.heap.size:=by simp [World.setCell]
 have Z:=nj.az 7;rw[dA _ _ ω]at Z;replace Z:_=some (Value.slice A2 (np+m) d2):=Z;generalize O.setCell ⟨g,3,none⟩ (.slice z (N-cut) d5)=w6 at*;have dd:=nj.lt;have da:w4.heap.size<=w6.heap.size:=CQ.size;have cs:b0<=w6.heap.size:=ω;have cr:b0<=(w6.alloc (.cells #[] 3)).heap.size:=ξ;have ac:=(((ah.rd).dw (j:=cut) (τ cD.out) ah.2.iT).alloc (af _) (.cells #[] 3));have al:=aT.lit (k:= .i64) (w:=w6) (b0:=b0) (g:=O.heap.size) VT.symm [] 3 cs σ;have cL:=nj.aH 7;clear c0 c1 c2 c3 L c5 c6 c7 z3 cd cy od T7 xk lQ jF oh bo fY
 go_upto_region 7 with (at_builtin;(refine bm .i64 b0 3 i0 8 rfl (.tmp 58) (.tmp 64) _ rfl Tryz.underlying80 Hi.out gL.out fN.out gM.out rfl al rfl ac (by have:=cB.out;simp;omega) ω cr ?_)
                        intro M Y w7 vG Hd xe;have oA:Below w6.heap.size w6 w7:=((aw _ w6).alloc (af _) (.cells #[] 3)).grown Hd σ (λq b=>by simp [ai]at b;omega);have kO:=nj.keeps oA;have cH:=kO.aH 7;have dl:=kO.az 7;have bI:=kO.az 4;have cW:=kO.aH 4)
 rw[ba,bX]at vG;have db:=kO.lt
 have Mc:∀q,ai M=some q->w6.heap.size<=q:=λq b=>by
  rcases xe with a | a
  · rw[a]at b;simp [ai]at b;omega
  rw[a]at b;simp at b;omega
 have CE:ai M≠some g:=λa=>by have:=Mc g a;omega
 have ao:bb w4 ((w7.setCell ⟨g,7,none⟩ (.slice M (np+m-cut) Y)).setCell ⟨g,4,none⟩ (.int .i64 ((f:Int)+(cut:Int)))) (λk=>k=g\/ai A1=some k\/ai A2=some k):=
  ((CQ.trans (bb.bC (S:=λk=>k=g\/ai A1=some k\/ai A2=some k) oA) λk l=> .inl l).setCell (p:= ⟨g,7,none⟩) (.inl (.inl rfl)) _).setCell (p:= ⟨g,4,none⟩) (.inl (.inl rfl)) _
 have Vv:=(((il.keeps oA).far (p:= ⟨g,7,none⟩) W (.slice M (np+m-cut) Y)).far (p:= ⟨g,4,none⟩) W (.int .i64 ((f:Int)+(cut:Int))));have am:=((vG.far (p:= ⟨g,7,none⟩) CE (.slice M (np+m-cut) Y)).far (p:= ⟨g,4,none⟩) CE (.int .i64 ((f:Int)+(cut:Int))));have bs:=(kO.cE 7 (.slice M (np+m-cut) Y)).cE 4 (.int .i64 ((f:Int)+(cut:Int)))
 obtain⟨r1,r2,r3⟩ :=h4.rows (st':={ jd st x with base:=T-32768 }) (A':=z) (n':=N-cut) (c':=d5) (Ap':=M) (np':=np+m-cut) (cp':=Y)
  (bs.congr λj hj=>by
    obtain rfl | rfl | rfl | rfl | rfl | rfl | rfl | rfl:j=0\/j=1\/j=2\/j=3\/j=4\/j=5\/j=6\/j=7:=ω
    case inr.inr.inr.inr.inl=>show Value.int .i64 ((f:Int)+(cut:Int))=Value.int .i64 ((T-32768:Nat):Int);rw[I.out,i6]
    all_goals rfl)
  (by
    have a:({ jd st x with base:=T-32768 }:jk).D.drop ({ jd st x with base:=T-32768 }:jk).base=(((jd st x).D.drop (jd st x).base).drop cut):=by
     show(jd st x).D.drop (T-32768)=_;rw[bj,I.out,<-E.out];rfl
    rw[a];exact Vv)
  (by
    have a:({ jd st x with base:=T-32768 }:jk).P.drop ({ jd st x with base:=T-32768 }:jk).base=(((jd st x).P.drop (jd st x).base).drop cut):=by
     show(jd st x).P.drop (T-32768)=_;rw[bj,I.out,<-E.out];rfl
    rw[a];exact am)
  ao rfl (λq b=> .inr (by rcases rA q b with a | a <;> omega)) (λq b=> .inr (τ (Mc q b)))
  (λq b a=>by have:=ck q b;have:=Mc q a;omega) MG.out h4.jc h4.big
 have a9Y:w7.cell? ⟨g,4,none⟩ =some (.int .i64 f):=by rw[bI,dA _ _ ω];show some (Value.int .i64 (st.base:Int))=_;rw[E.out]
 have cX:(f:Int)+(cut:Int)<=100000000000/\(0:Int)<=(f:Int):=by have:=I.out;have:=cA.out;omega
 have cw:zt w b0 g e (jv st x) A gm Ap (.returned (.tuple #[])) ((w7.setCell ⟨g,7,none⟩ (.slice M (np+m-cut) Y)).setCell ⟨g,4,none⟩ (.int .i64 ((f:Int)+(cut:Int)))):=by
  refine⟨rfl,z,N-cut,d5,M,np+m-cut,Y,nm,Dm,by rw[hE.out];exact r1,rF.trans r2 λk l=> ?_,λk l=> ?_⟩
  · rcases Ye k l with a | a
    · exact .inl a
    exact .inr a
  rcases r3 k l with a | a
  · exact Ye k a
  exact .inr (aq ch.out a)
 clear r1 r2 r3 bs Vv am ao bI cm V ac al Hd xe vG
 go_wp2_with fail;go_returns;exact cw
end
theorem a3C (level:Int) (w:World) (b: -9223372036854775808<=level/\level<=9223372036854775807):Calls Tryz.prog 57 #[.int .i64 level] w λr w'=>r= .returned (.agg #[.int .i64 (gR level).chain, .int .i64 (gR level).nice, .bool (gR level).lazy])/\Below w.heap.size w w':=by
 have a:level<0\/level=0\/level=1\/level=2\/level=3\/level=4\/level=5\/level=6\/level=7\/level=8\/level=9\/9<level:=ω;rcases a with h | h | h | h | h | h | h | h | h | h | h | h
 · have hE:Hid (gR level= ⟨0,0,false⟩):=by show _=_;unfold gR;rw[aa ω]
   go_in
   go_wp2_with fail
   all_goals
    go_returns;rw[hE.out];exact⟨rfl,(aw _ _).alloc (af _) _⟩
 · subst h;have hE:Hid (gR 0= ⟨0,0,false⟩):=rfl
   go_in
   go_wp2_with fail
   all_goals
    go_returns;rw[hE.out];exact⟨rfl,(aw _ _).alloc (af _) _⟩
 · subst h;have hE:Hid (gR 1= ⟨4,8,false⟩):=rfl
   go_in
   go_wp2_with fail
   all_goals
    go_returns;rw[hE.out];exact⟨rfl,(aw _ _).alloc (af _) _⟩
 · subst h;have hE:Hid (gR 2= ⟨8,16,false⟩):=rfl
   go_in
   go_wp2_with fail
   all_goals
    go_returns;rw[hE.out];exact⟨rfl,(aw _ _).alloc (af _) _⟩
 · subst h;have hE:Hid (gR 3= ⟨16,32,false⟩):=rfl
   go_in
   go_wp2_with fail
   all_goals
    go_returns;rw[hE.out];exact⟨rfl,(aw _ _).alloc (af _) _⟩
 · subst h;have hE:Hid (gR 4= ⟨16,16,true⟩):=rfl
   go_in
   go_wp2_with fail
   all_goals
    go_returns;rw[hE.out];exact⟨rfl,(aw _ _).alloc (af _) _⟩
 · subst h;have hE:Hid (gR 5= ⟨24,32,true⟩):=rfl
   go_in
   go_wp2_with fail
   all_goals
    go_returns;rw[hE.out];exact⟨rfl,(aw _ _).alloc (af _) _⟩
 · subst h;have hE:Hid (gR 6= ⟨32,128,true⟩):=rfl
   go_in
   go_wp2_with fail
   all_goals
    go_returns;rw[hE.out];exact⟨rfl,(aw _ _).alloc (af _) _⟩
 · subst h;have hE:Hid (gR 7= ⟨64,128,true⟩):=rfl
   go_in
   go_wp2_with fail
   all_goals
    go_returns;rw[hE.out];exact⟨rfl,(aw _ _).alloc (af _) _⟩
 · subst h;have hE:Hid (gR 8= ⟨128,258,true⟩):=rfl
   go_in
   go_wp2_with fail
   all_goals
    go_returns;rw[hE.out];exact⟨rfl,(aw _ _).alloc (af _) _⟩
 · subst h;have hE:Hid (gR 9= ⟨256,258,true⟩):=rfl
   go_in
   go_wp2_with fail
   all_goals
    go_returns;rw[hE.out];exact⟨rfl,(aw _ _).alloc (af _) _⟩
 have hE:Hid (gR level= ⟨256,258,true⟩):=by show _=_;unfold gR;rw[a8 ω,a8 ω,a8 ω,a8 ω,a8 ω,a8 ω,a8 ω,a8 ω,a8 ω]
 go_in
 go_wp2_with fail
 all_goals
  go_returns;rw[hE.out];exact⟨rfl,(aw _ _).alloc (af _) _⟩
def Ti (w:World) (e:oP) (r:Ending) (w':World):Prop:=∃(g gm:Nat),r= .returned (.pointer (some ⟨g,0,none⟩))/\eA w' w.heap.size g e Jy 0 none 0 0 gm 0 (.map []) none 0 0/\Below w.heap.size w w'
theorem Uj (level:Int) (w:World) (h: -9223372036854775808<=level/\level<=9223372036854775807):Calls Tryz.prog 45 #[.int .i64 level] w (Ti w (gR level)):=by
 have g:= @run_makeMap Tryz.prog;have b:=Ub level;obtain⟨E,hE⟩ :=ν (gR level);have c:=a3C level w h;rw[hE]at c b⊢;clear hE
 go_in
 go_wp2_with fail;refine c.mono ?_;rintro r w1 ⟨rfl,a⟩;obtain⟨ch,j,k⟩ :=E;dsimp only at b⊢;have d:=World.ownsMap_made (H:=Unit) w1 Tryz.prog 46 (plainElem Tryz.prog 3)
 go_wp2_with fail;go_returns;refine⟨w1.heap.size+1,w1.heap.size,rfl, ⟨?_,τ a.size,aT.di,aT.di,d.alloc _,qd.new,a.size,af _,by simp [ai],by simp [ai],ω,by simp [ai],by simp [ai],by simp [ai],Ok.new,λx f=>by simp [Jy]at f,b,by simp [Jy]⟩,(a.alloc a.size _).alloc (by have:=a.size;simp;omega) _⟩;have e:(w1.alloc (.map #[] 0)).heap.size=w1.heap.size+1:=σ;rw[<-e]
 exact Ar.new _ _ _ rfl λi hi=>by
  obtain rfl | rfl | rfl | rfl | rfl | rfl | rfl | rfl:i=0\/i=1\/i=2\/i=3\/i=4\/i=5\/i=6\/i=7:=ω;all_goals rfl
end Go.Proofs.YtgiimmkmjpbecaaGreat
