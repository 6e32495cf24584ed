/-
  part
-/
import Derived.Test.YtdhmnlpfhfmpfaaGreatPk21
import Derived.Test.YtdhmnlpfhfmpfaaGreatZer
set_option linter.unusedVariables false
set_option maxRecDepth 100000
set_option maxHeartbeats 4000000
namespace Go.Proofs.YtdhmnlpfhfmpfaaGreat
open Go.RowKit Go.Maps
def zL (w:World) (b0 g:Nat) (e:px) (st:jf) (A:ay) (gm:Nat) (Ap:ay) (r:Ending) (w':World):Prop:=
 r= .returned (.tuple #[])/\∃(A':ay) (n' c':Nat) (Ap':ay) (np' cp' nm:Nat) (Dm:DataW Unit),eG w' b0 g e st st.at_ A' n' c' gm nm Dm Ap' np' cp'/\bk w w' (FF A gm Ap g)/\(∀k,FF A' gm Ap' g k->FF A gm Ap g k\/w.heap.size<=k)
section
variable {w w' w1 w2:World} {b0 g b n c gm nm np cp:Nat} {e:px} {st:jf} {A Ap:ay} {Dm:DataW Unit}
theorem eG.rows (h:eG w b0 g e st b A n c gm nm Dm Ap np cp) {A' Ap':ay} {n' c' np' cp':Nat} {st':jf} (d:Ar w' g 8 (ff e A' n' c' st'.base st'.at_ gm Ap' np' cp')) (p:ba .u8 w' b0 5 A' n' c' (st'.D.drop st'.base))
  (i:ba .i64 w' b0 3 Ap' np' cp' (st'.P.drop st'.base)) (m:bk w w' (λk=>k=g\/ak A=some k\/ak Ap=some k)) (j:st'.head=st.head) (hA:∀q,ak A'=some q->ak A=some q\/w.heap.size<=q)
  (f:∀q,ak Ap'=some q->ak Ap=some q\/w.heap.size<=q) (r:∀q,ak A'=some q->ak Ap'≠some q) (o:st'.Ok b) (l:∀x∈st'.D,0<=x/\x<256) (s:st'.D.length<=100000000000):
  eG w' b0 g e st' b A' n' c' gm nm Dm Ap' np' cp'/\bk w w' (FF A gm Ap g)/\(∀k,FF A' gm Ap' g k->FF A gm Ap g k\/w.heap.size<=k):=by
 have u:=h.cell.lt;have t:=h.map.lt;refine⟨⟨d,h.lo,p,i,qb h.map (m.block gm h.map.lt λe=> ?_),j▸h.rep,h.glo,h.nmb,λe=> ?_,λe=> ?_,h.d3,r,λe=> ?_,λe=> ?_,o,l,h.eb,s⟩,m.more λk a=> ?_,λk a=> ?_⟩
 · rcases e with e | e | e
   · exact h.d3 e
   · exact h.d5 e
   exact h.d6 e
 · rcases hA g e with e | e
   · exact h.d1 e
   omega
 · rcases f g e with e | e
   · exact h.d2 e
   omega
 · rcases hA gm e with e | e
   · exact h.d5 e
   omega
 · rcases f gm e with e | e
   · exact h.d6 e
   omega
 · rcases a with a | a | a
   · exact .inl a
   · exact .inr (.inr (.inl a))
   exact .inr (.inr (.inr a))
 rcases a with a | a | a | a
 · exact .inl (.inl a)
 · exact .inl (.inr (.inl a))
 · rcases hA k a with e | e
   · exact .inl (.inr (.inr (.inl e)))
   exact .inr e
 rcases f k a with e | e
 · exact .inl (.inr (.inr (.inr e)))
 exact .inr e
def ja (st:jf) (x:aj):jf:={ st with D:=st.D++x,P:=st.P++List.replicate x.length 0 }
theorem Ud {st:jf} {b:Nat} (h:st.Ok b) (x:aj):(ja st x).Ok b:=by
 refine⟨by simp [ja,h.len],h.lo,by have:=h.hi;simp [ja];omega,by have:=h.bl;simp [ja];omega,λq=> ?_,h.hd⟩;show -1<=ix (st.P++List.replicate x.length 0) q/\ix (st.P++List.replicate x.length 0) q<=q;rw[dg];split
 · exact h.prev q
 rw[VT];omega
theorem Le (h:eG w b0 g e st st.at_ A n c gm nm Dm Ap np cp) {B m d:Nat} {C:ay} {x:aj} (hr:bT .u8 w B C m x) (hB:B<=w.heap.size) (cs:∀v∈x,0<=v/\v<256) (O:st.D.length+m<=100000000000):
  Calls Tryz.prog 40 #[.pointer (some ⟨g,0,none⟩), .slice C m d] w (zL w b0 g e (js st x) A gm Ap):=by
 obtain⟨i1,hi,s,r,o⟩ :=aL I4;have Ki:=η hi;have cc:=η s;have ab:=η r;have cb:=η o;clear hi s r o;obtain⟨i0,hi,s,r,o⟩ :=aL PQ;have Hi:=η hi;have i7:=η s;have gp:=η r;have i9:=η o;clear hi s r o;obtain⟨c0,c1,c2,c3,K,c5,c6,c7⟩ :=sD h;have z3:=h.cell.frozen' (i:=3) ω;have hn:=h.nB;have an:=h.Oj;have Y6:=h.cell.lt;have ad:=h.own;have cl:=h.xS;have bx:b0<=w.heap.size:=aw h.lo (dh Y6);have hm:=hr.1;have p9:n+m<=100000000000:=ω;have cm:(0:Int)<=n/\(0:Int)<=m/\(n:Int)+(m:Int)<=100000000000:=ω;have HM:=η hm;have N9:=η an;have HN:=η hn;clear hm an hn;go_enter Tryz.func40,Tryz.ntmps40
 go_upto_region 2 with (at_builtin;(refine bq .u8 b0 5 i1 1 rfl (.tmp 11) (.tmp 12) _ rfl Tryz.underlying22 Ki.out cc.out ab.out cb.out rfl ad rfl hr ω ω bx ?_)
                        intro A1 d1 w1 pZ be ZK;have xF:bk w w1 (λk=>ak A=some k):=(bk.refl w (λk=>ak A=some k)).grown be λk l=> .inl l;have F5:=xF.ar h.cell (λe=>h.d1 e);have cg:=F5.frozen' (i:=3) ω;have cz:=F5.cell (i:=3) ω)
 have G:bk w (w1.setCell ⟨g,3,none⟩ (.slice A1 (n+m) d1)) (λk=>k=g\/ak A=some k\/ak Ap=some k):=(xF.more λk l=> .inr (.inl l)).setCell (p:= ⟨g,3,none⟩) (.inl (.inl rfl)) _;have bo:b0<=(w1.setCell ⟨g,3,none⟩ (.slice A1 (n+m) d1)).heap.size:=aw bx G.size
 have wV:∀q,ak A1=some q->ak A=some q\/q=w.heap.size:=λq b=>by
  rcases ZK with a | a
  · exact .inl (a▸b)
  rw[a]at b;injection b with b;exact .inr b.symm
 have X:ak A1≠some g:=λa=>by
  rcases wV g a with y | y
  · exact h.d1 y
  omega
 have Vr:ba .i64 (w1.setCell ⟨g,3,none⟩ (.slice A1 (n+m) d1)) b0 3 Ap np cp (st.P.drop st.base):=
  (xF.dX cl λq b a=>h.d4 q a b).far (p:= ⟨g,3,none⟩) h.d2 _
 obtain⟨A2,d2,w2,rM,jB,aE,kK⟩ :=uj (P:=Tryz.prog) (w1.setCell ⟨g,3,none⟩ (.slice A1 (n+m) d1)) .i64 b0 63 3 63 3 i0 8 .i64 .i64 Tryz.underlying63 Tryz.underlying3 Hi.out i7.out gp.out i9.out Vr m (by rw[N9.out];omega) ω bo;have F:bk (w1.setCell ⟨g,3,none⟩ (.slice A1 (n+m) d1)) w2 (λk=>ak Ap=some k):=(bk.refl _ (λk=>ak Ap=some k)).grown aE λk l=> .inl l;have UE:=F5.bK (i:=3) ω (.slice A1 (n+m) d1);have nI:=F.ar UE (λa=>h.d2 a);have ca:=nI.cell (i:=3) ω;have I:=nI.cell (i:=7) ω;have cd:=nI.frozen' (i:=7) ω;have J:=UE.cell (i:=7) ω;rw[dx _ _ ω]at J I;rw[upd_same]at ca;replace J:_=some (Value.slice Ap np cp):=J;replace I:_=some (Value.slice Ap np cp):=I;clear xF F5 cz;go_upto_region 3 with (at_builtin;refine Lib.wpList_append_run _ rfl _ _ _ _ rfl _ _ rfl rfl _ _ rM ?_)
 have Zq:∀q,ak A2=some q->ak Ap=some q\/q=(w1.setCell ⟨g,3,none⟩ (.slice A1 (n+m) d1)).heap.size:=λq b=>by
  rcases kK with a | a
  · exact .inl (a▸b)
  rw[a]at b;injection b with b;exact .inr b.symm
 have cj:=G.size;have ci:(w1.setCell ⟨g,3,none⟩ (.slice A1 (n+m) d1)).heap.size=w1.heap.size:=by simp [World.setCell]
 have bI:∀q,ak A1=some q->q<w1.heap.size:=λq b=>(pZ.2.lt b).2
 have bB:ak A2≠some g:=λa=>by
  rcases Zq g a with y | y
  · exact h.d2 y
  omega
 have Iz:∀q,ak A1=some q->ak A2≠some q:=λq b a=>by
  have l1:=bI q b;rcases Zq q a with y | y
  · rcases wV q b with u | u
    · exact h.d4 q u y
    have:=(h.xS.2.lt y).2;omega
  omega
 have jb:ba .u8 w2 b0 5 A1 (n+m) d1 (st.D.drop st.base++x):=F.dX (pZ.far (p:= ⟨g,3,none⟩) X _) λq b a=>by
  rcases wV q b with u | u
  · exact h.d4 q u a
  have:=(h.xS.2.lt a).2;omega
 have ap:=(G.trans F λk l=> .inl (.inr (.inr l))).setCell (p:= ⟨g,7,none⟩) (.inl (.inl rfl)) (.slice A2 (np+m) d2);have t:=Ud h.ok x
 obtain⟨h3,H,Y0⟩ :=h.rows (st':=ja st x) (A':=A1) (n':=n+m) (c':=d1) (Ap':=A2) (np':=np+m) (cp':=d2)
  ((nI.bK (i:=7) ω (.slice A2 (np+m) d2)).congr λj hj=>by
    obtain rfl | rfl | rfl | rfl | rfl | rfl | rfl | rfl:j=0\/j=1\/j=2\/j=3\/j=4\/j=5\/j=6\/j=7:=ω;all_goals rfl)
  (by
    have a:(ja st x).D.drop (ja st x).base=st.D.drop st.base++x:=dY h.Np;rw[a];exact jb.far (p:= ⟨g,7,none⟩) X _)
  (by
    have a:(ja st x).P.drop (ja st x).base=st.P.drop st.base++List.replicate x.length 0:=dY (by rw[h.ok.len];exact h.Np);rw[a,<-HM.out];exact jB.far (p:= ⟨g,7,none⟩) bB _)
  ap rfl (λq b=>by
   rcases wV q b with u | u
   · exact .inl u
   · exact .inr ω) (λq b=>by
   rcases Zq q b with u | u
   · exact .inl u
   · exact .inr ω) Iz t (λv hv=>by
   rcases aP.1 hv with h5 | h5
   · exact h.jR v h5
   exact cs v h5) (by show(st.D++x).length<=_;rw[ag,<-HM.out];exact O)
 generalize w2.setCell ⟨g,7,none⟩ (.slice A2 (np+m) d2)=w3 at*;clear ap jb bB bI cj ci Zq kK aE jB rM F UE nI ca I cd J Vr X wV bo G Iz t;have R:js st x={ ja st x with base:=if 131072<(st.D++x).length-st.base/\32768<st.at_-st.base then st.at_-32768 else st.base }:=rfl;have fz:n+m=(st.D++x).length-st.base:=by rw[ag,<-HM.out];have:=HN.out;omega
 rw[<-fz]at R;have HW:=η R;obtain⟨c0,c1,c2,c3,K,c5,c6,c7⟩ :=sD h3;replace K:w3.cell? ⟨g,4,none⟩ =some (.int .i64 st.base):=K;replace c5:w3.cell? ⟨g,5,none⟩ =some (.int .i64 st.at_):=c5;have kO:=h.ok.lo;have Kf:=h.ok.hi;obtain⟨f,XY⟩ :=ν (st.base);obtain⟨T,hT⟩ :=ν (st.at_);obtain⟨N,hN⟩ :=ν (n+m);rw[XY]at K kO;rw[hT]at c5 kO Kf;rw[hN]at c3;have bv:(N:Int)<=100000000000/\(0:Int)<=N:=ω;have cu:(0:Int)<=f/\(f:Int)<=(T:Int)/\(T:Int)<=100000000000:=ω;have nW:IntKind.i64.wrap ((T:Int)-(f:Int))=(T:Int)-(f:Int):=by rw[aM _ ω]
 have E:=η XY;have HT:=η hT;have Q:=η hN;clear R fz XY hT hN cg pZ be ZK z3;by_cases V:131072<N
 rotate_left
 · have cr:¬(131072:Int)<(N:Int):=ω;have hE:Hid (js st x=ja st x):=by show _=_;rw[HW.out,Q.out,HT.out,E.out,aa (λh=>V h.1),<-E.out];rfl
   go_wp2_with fail;go_quiet (fail)
   go_wp2_with fail;go_returns;exact⟨rfl,A1,n+m,d1,A2,np+m,d2,nm,Dm,by rw[hE.out];exact h3.drewN _,H.drewN _,Y0⟩
 have cr:(131072:Int)<(N:Int):=ω;by_cases U:32768<T-f
 rotate_left
 · have dj:¬0<(T:Int)-(f:Int)-32768:=ω;have hE:Hid (js st x=ja st x):=by show _=_;rw[HW.out,Q.out,HT.out,E.out,aa (λh=>U h.2),<-E.out];rfl
   go_wp2_with fail;go_quiet (fail)
   go_wp2_with fail;go_returns;exact⟨rfl,A1,n+m,d1,A2,np+m,d2,nm,Dm,by rw[hE.out];exact h3.drewN _,H.drewN _,Y0⟩
 obtain⟨cut,hcut⟩ :=ν (T-f-32768);have bi:(T:Int)-(f:Int)-32768=(cut:Int)/\(0:Int)<cut:=ω;have hE:Hid (js st x={ ja st x with base:=T-32768 }):=by show _=_;rw[HW.out,Q.out,HT.out,E.out,af ⟨V,U⟩]
 have Qc:Hid (T-32768=f+cut):=by show _=_;omega
 have Vo:=h.ok.write x;rw[hE.out]at Vo;have LO:=η Vo;clear Vo;have bl:cut<=N:=by have:=HN.out;have:=E.out;have:=Q.out;omega
 have Qg:cut<=np+m:=by have:=N9.out;have:=Q.out;omega
 have F8:(cut:Int)<=(N:Int)/\(cut:Int)<=((np+m:Nat):Int):=ω;have bt:np+m<=100000000000:=by have:=N9.out;omega
 clear hcut
 go_wp2_with fail;go_quiet (fail);have h4:=h3.drewN nq;have rZ:=H.drewN nq;obtain⟨c0,c1,c2,c3,K,c5,c6,c7⟩ :=sD h4;replace K:(w3.drewN nq).cell? ⟨g,4,none⟩ =some (.int .i64 st.base):=K;rw[Q.out]at c3;rw[E.out]at K;have Bf:w3.heap.size=(w3.drewN nq).heap.size:=rfl;generalize w3.drewN nq=w4 at*;have co:=h4.cell.lt;have Ls:b0<=w4.heap.size:=aw h4.lo (dh co);have oJ:=cZ (P:=Tryz.prog) 22 5 Tryz.underlying22 Ki.out ab.out A1 N d1 bl;have Fq:=cZ (P:=Tryz.prog) 63 3 Tryz.underlying63 Hi.out gp.out A2 (np+m) d2 Qg;have SA:=(((h4.own.rd).dr (j:=cut) (τ Q.out) h4.own.2.jT).alloc (ai _) (.cells #[] 5));have vu:=ba.lit (k:= .u8) (w:=w4) (b0:=b0) rfl [] 5 Ls σ;have z3:=h4.cell.frozen' (i:=3) ω;have dk:=h4.d1;have cw:=h4.d2;rw[Q.out]at SA;have bp:b0<=(w4.alloc (.cells #[] 5)).heap.size:=ξ;have ck:Hid (w.heap.size<=w4.heap.size):=rZ.size;have de:(0:Int)<cut:=bi.2;have cA:Hid (T<=100000000000):=by show _<=_;omega
 have cB:=η bt;have cG:=η F8;have cD:=η bv;have cq:0<cut:=ω;clear H F8 bv bi bt nW cu cm Bf U bl Qg kO Kf O p9
 go_upto_region 6 with (at_builtin;(refine bq .u8 b0 5 i1 1 rfl (.tmp 47) (.tmp 53) _ rfl Tryz.underlying22 Ki.out cc.out ab.out cb.out rfl vu rfl SA (by have:=cD.out;simp;omega) ω bp ?_)
                        intro z d5 M nV oz jD;have mr:Below w4.heap.size w4 M:=((ax _ w4).alloc (ai _) (.cells #[] 5)).grown oz σ (by simp [ak]);have gW:=(h4.keeps mr).cell;have ce:=gW.frozen' (i:=3) ω;have cx:=gW.cell (i:=3) ω)
 have dd:=gW.lt;rw[aZ,bS]at nV
 have rI:∀q,ak z=some q->q=w4.heap.size\/q=w4.heap.size+1:=λq b=>by
  rcases jD with a | a
  · rw[a]at b;simp [ak]at b;exact .inl b.symm
  rw[a]at b;simp at b;exact .inr b.symm
 have cn:∀q,ak z=some q->q<M.heap.size:=λq b=>(nV.2.lt b).2;have Qp:bk w4 (M.setCell ⟨g,3,none⟩ (.slice z (N-cut) d5)) (λk=>k=g\/ak A1=some k\/ak A2=some k):=(bk.bJ mr).setCell (p:= ⟨g,3,none⟩) (.inl (.inl rfl)) _;have oL:=gW.bK (i:=3) ω (.slice z (N-cut) d5);have ae:ba .i64 (M.setCell ⟨g,3,none⟩ (.slice z (N-cut) d5)) b0 3 A2 (np+m) d2 ((ja st x).P.drop (ja st x).base):=((h4.keeps mr).xS).far (p:= ⟨g,3,none⟩) cw _;have W:ak z≠some g:=λa=>by rcases rI g a with y | y <;> omega
 have kP:=nV.far (p:= ⟨g,3,none⟩) W (.slice z (N-cut) d5);have ch:(M.setCell ⟨g,3,none⟩ (.slice z (N-cut) d5)).heap.size=M.heap.size:=by simp [World.setCell]
 have Z:=oL.cell (i:=7) ω;rw[dx _ _ ω]at Z;replace Z:_=some (Value.slice A2 (np+m) d2):=Z;generalize M.setCell ⟨g,3,none⟩ (.slice z (N-cut) d5)=w6 at*;have db:=oL.lt;have cX:w4.heap.size<=w6.heap.size:=Qp.size;have UI:b0<=w6.heap.size:=ω;have ct:b0<=(w6.alloc (.cells #[] 3)).heap.size:=ξ;have ac:=(((ae.rd).dr (j:=cut) (τ cG.out) ae.2.jT).alloc (ai _) (.cells #[] 3));have ah:=ba.lit (k:= .i64) (w:=w6) (b0:=b0) (g:=M.heap.size) ch.symm [] 3 UI σ;have cJ:=oL.frozen' (i:=7) ω;clear c0 c1 c2 c3 K c5 c6 c7 z3 ce cx oz SA vu nV jD oJ bp gW
 go_upto_region 7 with (at_builtin;(refine bq .i64 b0 3 i0 8 rfl (.tmp 58) (.tmp 64) _ rfl Tryz.underlying63 Hi.out i7.out gp.out i9.out rfl ah rfl ac (by have:=cB.out;simp;omega) ω ct ?_)
                        intro L Y w7 yY Ff tU;have rJ:Below w6.heap.size w6 w7:=((ax _ w6).alloc (ai _) (.cells #[] 3)).grown Ff σ (λq b=>by simp [ak]at b;omega);have rT:=oL.keeps rJ;have cH:=rT.frozen' (i:=7) ω;have dl:=rT.cell (i:=7) ω;have bL:=rT.cell (i:=4) ω;have cL:=rT.frozen' (i:=4) ω)
 rw[aZ,bS]at yY;have da:=rT.lt
 have S7:∀q,ak L=some q->w6.heap.size<=q:=λq b=>by
  rcases tU with a | a
  · rw[a]at b;simp [ak]at b;omega
  rw[a]at b;simp at b;omega
 have Q5:ak L≠some g:=λa=>by have:=S7 g a;omega
 have ao:bk w4 ((w7.setCell ⟨g,7,none⟩ (.slice L (np+m-cut) Y)).setCell ⟨g,4,none⟩ (.int .i64 ((f:Int)+(cut:Int)))) (λk=>k=g\/ak A1=some k\/ak A2=some k):=
  ((Qp.trans (bk.bJ (S:=λk=>k=g\/ak A1=some k\/ak A2=some k) rJ) λk l=> .inl l).setCell (p:= ⟨g,7,none⟩) (.inl (.inl rfl)) _).setCell (p:= ⟨g,4,none⟩) (.inl (.inl rfl)) _
 have am:=(((kP.keeps rJ).far (p:= ⟨g,7,none⟩) W (.slice L (np+m-cut) Y)).far (p:= ⟨g,4,none⟩) W (.int .i64 ((f:Int)+(cut:Int))));have al:=((yY.far (p:= ⟨g,7,none⟩) Q5 (.slice L (np+m-cut) Y)).far (p:= ⟨g,4,none⟩) Q5 (.int .i64 ((f:Int)+(cut:Int))));have bs:=(rT.bK (i:=7) ω (.slice L (np+m-cut) Y)).bK (i:=4) ω (.int .i64 ((f:Int)+(cut:Int)))
 obtain⟨r1,r2,r3⟩ :=h4.rows (st':={ ja st x with base:=T-32768 }) (A':=z) (n':=N-cut) (c':=d5) (Ap':=L) (np':=np+m-cut) (cp':=Y)
  (bs.congr λj hj=>by
    obtain rfl | rfl | rfl | rfl | rfl | rfl | rfl | rfl:j=0\/j=1\/j=2\/j=3\/j=4\/j=5\/j=6\/j=7:=ω
    case inr.inr.inr.inr.inl=>show Value.int .i64 ((f:Int)+(cut:Int))=Value.int .i64 ((T-32768:Nat):Int);rw[Qc.out,jt]
    all_goals rfl)
  (by
    have a:({ ja st x with base:=T-32768 }:jf).D.drop ({ ja st x with base:=T-32768 }:jf).base=(((ja st x).D.drop (ja st x).base).drop cut):=by
     show(ja st x).D.drop (T-32768)=_;rw[bn,Qc.out,<-E.out];rfl
    rw[a];exact am)
  (by
    have a:({ ja st x with base:=T-32768 }:jf).P.drop ({ ja st x with base:=T-32768 }:jf).base=(((ja st x).P.drop (ja st x).base).drop cut):=by
     show(ja st x).P.drop (T-32768)=_;rw[bn,Qc.out,<-E.out];rfl
    rw[a];exact al)
  ao rfl (λq b=> .inr (by rcases rI q b with a | a <;> omega)) (λq b=> .inr (τ (S7 q b)))
  (λq b a=>by have:=cn q b;have:=S7 q a;omega) LO.out h4.jR h4.big
 have b1B:w7.cell? ⟨g,4,none⟩ =some (.int .i64 f):=by rw[bL,dx _ _ ω];show some (Value.int .i64 (st.base:Int))=_;rw[E.out]
 have cQ:(f:Int)+(cut:Int)<=100000000000/\(0:Int)<=(f:Int):=by have:=Qc.out;have:=cA.out;omega
 have cv:zL w b0 g e (js st x) A gm Ap (.returned (.tuple #[])) ((w7.setCell ⟨g,7,none⟩ (.slice L (np+m-cut) Y)).setCell ⟨g,4,none⟩ (.int .i64 ((f:Int)+(cut:Int)))):=by
  refine⟨rfl,z,N-cut,d5,L,np+m-cut,Y,nm,Dm,by rw[hE.out];exact r1,rZ.trans r2 λk l=> ?_,λk l=> ?_⟩
  · rcases Y0 k l with a | a
    · exact .inl a
    exact .inr a
  rcases r3 k l with a | a
  · exact Y0 k a
  exact .inr (aw ck.out a)
 clear r1 r2 r3 bs am al ao bL cq V ac ah Ff tU yY
 go_wp2_with fail;go_returns;exact cv
end
theorem a4x (level:Int) (w:World) (b: -9223372036854775808<=level/\level<=9223372036854775807):Calls Tryz.prog 61 #[.int .i64 level] w λr w'=>r= .returned (.agg #[.int .i64 (gS level).chain, .int .i64 (gS level).nice, .bool (gS level).lazy])/\Below w.heap.size w w':=by
 have a:level<0\/level=0\/level=1\/level=2\/level=3\/level=4\/level=5\/level=6\/level=7\/level=8\/level=9\/9<level:=ω;rcases a with h | h | h | h | h | h | h | h | h | h | h | h
 · have hE:Hid (gS level= ⟨0,0,false⟩):=by show _=_;unfold gS;rw[af ω]
   go_enter Tryz.func61,Tryz.ntmps61
   go_wp2_with fail
   all_goals
    go_returns;rw[hE.out];exact⟨rfl,(ax _ _).alloc (ai _) _⟩
 · subst h;have hE:Hid (gS 0= ⟨0,0,false⟩):=rfl;go_enter Tryz.func61,Tryz.ntmps61
   go_wp2_with fail
   all_goals
    go_returns;rw[hE.out];exact⟨rfl,(ax _ _).alloc (ai _) _⟩
 · subst h;have hE:Hid (gS 1= ⟨4,8,false⟩):=rfl;go_enter Tryz.func61,Tryz.ntmps61
   go_wp2_with fail
   all_goals
    go_returns;rw[hE.out];exact⟨rfl,(ax _ _).alloc (ai _) _⟩
 · subst h;have hE:Hid (gS 2= ⟨8,16,false⟩):=rfl;go_enter Tryz.func61,Tryz.ntmps61
   go_wp2_with fail
   all_goals
    go_returns;rw[hE.out];exact⟨rfl,(ax _ _).alloc (ai _) _⟩
 · subst h;have hE:Hid (gS 3= ⟨16,32,false⟩):=rfl;go_enter Tryz.func61,Tryz.ntmps61
   go_wp2_with fail
   all_goals
    go_returns;rw[hE.out];exact⟨rfl,(ax _ _).alloc (ai _) _⟩
 · subst h;have hE:Hid (gS 4= ⟨16,16,true⟩):=rfl;go_enter Tryz.func61,Tryz.ntmps61
   go_wp2_with fail
   all_goals
    go_returns;rw[hE.out];exact⟨rfl,(ax _ _).alloc (ai _) _⟩
 · subst h;have hE:Hid (gS 5= ⟨24,32,true⟩):=rfl;go_enter Tryz.func61,Tryz.ntmps61
   go_wp2_with fail
   all_goals
    go_returns;rw[hE.out];exact⟨rfl,(ax _ _).alloc (ai _) _⟩
 · subst h;have hE:Hid (gS 6= ⟨32,128,true⟩):=rfl;go_enter Tryz.func61,Tryz.ntmps61
   go_wp2_with fail
   all_goals
    go_returns;rw[hE.out];exact⟨rfl,(ax _ _).alloc (ai _) _⟩
 · subst h;have hE:Hid (gS 7= ⟨64,128,true⟩):=rfl;go_enter Tryz.func61,Tryz.ntmps61
   go_wp2_with fail
   all_goals
    go_returns;rw[hE.out];exact⟨rfl,(ax _ _).alloc (ai _) _⟩
 · subst h;have hE:Hid (gS 8= ⟨128,258,true⟩):=rfl;go_enter Tryz.func61,Tryz.ntmps61
   go_wp2_with fail
   all_goals
    go_returns;rw[hE.out];exact⟨rfl,(ax _ _).alloc (ai _) _⟩
 · subst h;have hE:Hid (gS 9= ⟨256,258,true⟩):=rfl;go_enter Tryz.func61,Tryz.ntmps61
   go_wp2_with fail
   all_goals
    go_returns;rw[hE.out];exact⟨rfl,(ax _ _).alloc (ai _) _⟩
 have hE:Hid (gS level= ⟨256,258,true⟩):=by show _=_;unfold gS;rw[aa ω,aa ω,aa ω,aa ω,aa ω,aa ω,aa ω,aa ω,aa ω]
 go_enter Tryz.func61,Tryz.ntmps61
 go_wp2_with fail
 all_goals
  go_returns;rw[hE.out];exact⟨rfl,(ax _ _).alloc (ai _) _⟩
def SJ (w:World) (e:px) (r:Ending) (w':World):Prop:=∃(g gm:Nat),r= .returned (.pointer (some ⟨g,0,none⟩))/\eG w' w.heap.size g e J9 0 none 0 0 gm 0 (.map []) none 0 0/\Below w.heap.size w w'
theorem U3 (level:Int) (w:World) (g: -9223372036854775808<=level/\level<=9223372036854775807):Calls Tryz.prog 38 #[.int .i64 level] w (SJ w (gS level)):=by
 have k:= @run_makeMap Tryz.prog;have b:=TK level;obtain⟨E,hE⟩ :=ν (gS level);have e:=a4x level w g;rw[hE]at e b⊢;clear hE;go_enter Tryz.func38,Tryz.ntmps38
 go_wp2_with fail;refine e.mono ?_;rintro r w1 ⟨rfl,a⟩;obtain⟨ch,h,j⟩ :=E;dsimp only at b⊢;have c:=World.ownsMap_made (H:=Unit) w1 Tryz.prog 29 (plainElem Tryz.prog 3)
 go_wp2_with fail;go_returns;refine⟨w1.heap.size+1,w1.heap.size,rfl, ⟨?_,τ a.size,ba.dN,ba.dN,c.alloc _,qz.new,a.size,ai _,by simp [ak],by simp [ak],ω,by simp [ak],by simp [ak],by simp [ak],Ok.new,λx f=>by simp [J9]at f,b,by simp [J9]⟩,(a.alloc a.size _).alloc (by have:=a.size;simp;omega) _⟩;have d:(w1.alloc (.map #[] 0)).heap.size=w1.heap.size+1:=σ;rw[<-d]
 exact Ar.new _ _ _ rfl λi hi=>by
  obtain rfl | rfl | rfl | rfl | rfl | rfl | rfl | rfl:i=0\/i=1\/i=2\/i=3\/i=4\/i=5\/i=6\/i=7:=ω;all_goals rfl
end Go.Proofs.YtdhmnlpfhfmpfaaGreat
