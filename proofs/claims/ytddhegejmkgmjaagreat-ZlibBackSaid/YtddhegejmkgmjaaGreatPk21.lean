/-
  part
-/
import Derived.Test.YtddhegejmkgmjaaGreatPk20
import Derived.Test.YtddhegejmkgmjaaGreatZer
set_option linter.unusedVariables false
set_option maxRecDepth 100000
set_option maxHeartbeats 4000000
namespace Go.Proofs.YtddhegejmkgmjaaGreat
open Go.RowKit Go.Maps
def tV (w:World) (b0 g:Nat) (e:jY) (st:ed) (A:Option Addr) (gm:Nat) (Ap:Option Addr) (r:Ending) (w':World):Prop:=
 r= .returned (.tuple #[])/\∃(A':Option Addr) (n' c':Nat) (Ap':Option Addr) (np' cp' nm:Nat) (Dm:DataW Unit),bF w' b0 g e st st.at_ A' n' c' gm nm Dm Ap' np' cp'/\aq w w' (FF A gm Ap g)/\(∀k,FF A' gm Ap' g k->FF A gm Ap g k\/w.heap.size<=k)
section
variable {w w' w1 w2:World} {b0 g b n c gm nm np cp:Nat} {e:jY} {st:ed} {A Ap:Option Addr} {Dm:DataW Unit}
theorem bF.rows (h:bF w b0 g e st b A n c gm nm Dm Ap np cp) {A' Ap':Option Addr} {n' c' np' cp':Nat} {st':ed} (d:Ar w' g 8 (ff e A' n' c' st'.base st'.at_ gm Ap' np' cp')) (p:ag .u8 w' b0 5 A' n' c' (st'.D.drop st'.base))
  (f:ag .i64 w' b0 3 Ap' np' cp' (st'.P.drop st'.base)) (m:aq w w' (λk=>k=g\/aa A=some k\/aa Ap=some k)) (i:st'.head=st.head) (hA:∀q,aa A'=some q->aa A=some q\/w.heap.size<=q)
  (l:∀q,aa Ap'=some q->aa Ap=some q\/w.heap.size<=q) (r:∀q,aa A'=some q->aa Ap'≠some q) (o:st'.Ok b) (j:∀x∈st'.D,0<=x/\x<256) (s:st'.D.length<=100000000000):
  bF w' b0 g e st' b A' n' c' gm nm Dm Ap' np' cp'/\aq w w' (FF A gm Ap g)/\(∀k,FF A' gm Ap' g k->FF A gm Ap g k\/w.heap.size<=k):=by
 have u:=h.cell.lt;have t:=h.map.lt;refine⟨⟨d,h.lo,p,f,kM h.map (m.block gm h.map.lt λe=> ?_),i▸h.rep,h.MV,h.Za,λe=> ?_,λe=> ?_,h.d3,r,λe=> ?_,λe=> ?_,o,j,h.eb,s⟩,m.more λk a=> ?_,λk a=> ?_⟩
 · rcases e with e | e | e
   · exact h.d3 e
   · exact h.d5 e
   · exact h.d6 e
 · rcases hA g e with e | e
   · exact h.d1 e
   · omega
 · rcases l g e with e | e
   · exact h.d2 e
   · omega
 · rcases hA gm e with e | e
   · exact h.d5 e
   · omega
 · rcases l gm e with e | e
   · exact h.d6 e
   · omega
 · rcases a with a | a | a
   · exact .inl a
   · exact .inr (.inr (.inl a))
   · exact .inr (.inr (.inr a))
 · rcases a with a | a | a | a
   · exact .inl (.inl a)
   · exact .inl (.inr (.inl a))
   · rcases hA k a with e | e
     · exact .inl (.inr (.inr (.inl e)))
     · exact .inr e
   · rcases l k a with e | e
     · exact .inl (.inr (.inr (.inr e)))
     · exact .inr e
def dW (st:ed) (x:List Int):ed:={ st with D:=st.D++x,P:=st.P++List.replicate x.length 0 }
theorem MX {st:ed} {b:Nat} (h:st.Ok b) (x:List Int):(dW st x).Ok b:=by
 refine⟨by simp [dW,h.len],h.lo,by have:=h.hi;simp [dW];omega,by have:=h.bl;simp [dW];omega,λq=> ?_,h.hd⟩;show -1<=ix (st.P++List.replicate x.length 0) q/\ix (st.P++List.replicate x.length 0) q<=q
 rw[aL]
 split
 · exact h.prev q
 · rw[Ow];omega
theorem Fv (h:bF w b0 g e st st.at_ A n c gm nm Dm Ap np cp) {B m d:Nat} {C:Option Addr} {x:List Int} (hr:aT .u8 w B C m x) (hB:B<=w.heap.size) (ca:∀v∈x,0<=v/\v<256) (Q:st.D.length+m<=100000000000):
  Calls Tryz.prog 29 #[.pointer (some ⟨g,0,none⟩), .slice C m d] w (tV w b0 g e (eC st x) A gm Ap):=by
 obtain⟨i1,hi,t,s,r⟩ :=info_parts Cp;have Ki:=η hi;have bk:=η t;have Z:=η s;have bi:=η r;clear hi t s r;obtain⟨i0,hi,t,s,r⟩ :=info_parts JI;have Hi:=η hi;have dM:=η t;have cV:=η s;have dN:=η r;clear hi t s r;obtain⟨c0,c1,c2,c3,L,c5,c6,c7⟩ :=mV h;have z3:=h.cell.frozen' (i:=3) ω;have hn:=h.iQ;have Ur:=h.ID;have Qp:=h.cell.lt;have ac:=h.own;have bv:=h.rO;have aS:b0<=w.heap.size:=Nat.le_trans h.lo (Nat.le_of_lt Qp);have hm:=hr.1;have kW:n+m<=100000000000:=ω;have bx:(0:Int)<=n/\(0:Int)<=m/\(n:Int)+(m:Int)<=100000000000:=ω;have HM:=η hm;have Hh:=η Ur;have HN:=η hn;clear hm Ur hn;go_enter Tryz.func29,Tryz.ntmps29
 go_upto_region 2 with (at_builtin;(refine au .u8 b0 5 i1 1 rfl (.tmp 11) (.tmp 12) _ rfl Tryz.underlying26 Ki.out bk.out Z.out bi.out rfl ac rfl hr ω ω aS ?_)
                        intro A1 d1 w1 oz an aC;have tH:aq w w1 (λk=>aa A=some k):=(aq.refl w (λk=>aa A=some k)).grown an λk o=> .inl o
                        have zC:=tH.ar h.cell (λe=>h.d1 e);have bo:=zC.frozen' (i:=3) ω;have ci:=zC.cell (i:=3) ω)
 have S7:aq w (w1.setCell ⟨g,3,none⟩ (.slice A1 (n+m) d1)) (λk=>k=g\/aa A=some k\/aa Ap=some k):=(tH.more λk o=> .inr (.inl o)).setCell (p:= ⟨g,3,none⟩) (.inl (.inl rfl)) _;have ap:b0<=(w1.setCell ⟨g,3,none⟩ (.slice A1 (n+m) d1)).heap.size:=Nat.le_trans aS S7.size
 have qM:∀q,aa A1=some q->aa A=some q\/q=w.heap.size:=λq b=>by
  rcases aC with a | a
  · exact .inl (a▸b)
  · rw[a]at b;injection b with b;exact .inr b.symm
 have VT:aa A1≠some g:=λa=>by
  rcases qM g a with z | z
  · exact h.d1 z
  · omega
 have NX:ag .i64 (w1.setCell ⟨g,3,none⟩ (.slice A1 (n+m) d1)) b0 3 Ap np cp (st.P.drop st.base):=
  (tH.bf bv λq b a=>h.d4 q a b).far (p:= ⟨g,3,none⟩) h.d2 _
 obtain⟨l,d2,w2,mh,fP,am,fW⟩ :=oI (P:=Tryz.prog) (w1.setCell ⟨g,3,none⟩ (.slice A1 (n+m) d1)) .i64 b0 51 3 51 3 i0 8 .i64 .i64 Tryz.underlying51 Tryz.underlying3 Hi.out dM.out cV.out dN.out NX m (by rw[Hh.out];omega) ω ap;have G:aq (w1.setCell ⟨g,3,none⟩ (.slice A1 (n+m) d1)) w2 (λk=>aa Ap=some k):=(aq.refl _ (λk=>aa Ap=some k)).grown am λk o=> .inl o
 have Nj:=zC.aQ (i:=3) ω (.slice A1 (n+m) d1);have iX:=G.ar Nj (λa=>h.d2 a);have be:=iX.cell (i:=3) ω;have J:=iX.cell (i:=7) ω;have bl:=iX.frozen' (i:=7) ω;have K:=Nj.cell (i:=7) ω;rw[bm _ _ ω]at K J;rw[upd_same]at be;replace K:_=some (Value.slice Ap np cp):=K;replace J:_=some (Value.slice Ap np cp):=J;clear tH zC ci
 go_upto_region 3 with (at_builtin;refine Lib.wpList_append_run _ rfl _ _ _ _ rfl _ _ rfl rfl _ _ mh ?_)
 have Ru:∀q,aa l=some q->aa Ap=some q\/q=(w1.setCell ⟨g,3,none⟩ (.slice A1 (n+m) d1)).heap.size:=λq b=>by
  rcases fW with a | a
  · exact .inl (a▸b)
  · rw[a]at b;injection b with b;exact .inr b.symm
 have bs:=S7.size;have bp:(w1.setCell ⟨g,3,none⟩ (.slice A1 (n+m) d1)).heap.size=w1.heap.size:=by simp [World.setCell]
 have TP:∀q,aa A1=some q->q<w1.heap.size:=λq b=>(oz.2.lt b).2
 have bb:aa l≠some g:=λa=>by
  rcases Ru g a with z | z
  · exact h.d2 z
  · omega
 have Nx:∀q,aa A1=some q->aa l≠some q:=λq b a=>by
  have l1:=TP q b;rcases Ru q a with z | z
  · rcases qM q b with y | y
    · exact h.d4 q y z
    · have:=(h.rO.2.lt z).2;omega
  · omega
 have eD:ag .u8 w2 b0 5 A1 (n+m) d1 (st.D.drop st.base++x):=G.bf (oz.far (p:= ⟨g,3,none⟩) VT _) λq b a=>by
  rcases qM q b with y | y
  · exact h.d4 q y a
  · have:=(h.rO.2.lt a).2;omega
 have al:=(S7.trans G λk o=> .inl (.inr (.inr o))).setCell (p:= ⟨g,7,none⟩) (.inl (.inl rfl)) (.slice l (np+m) d2);have u:=MX h.ok x
 obtain⟨h3,H,Qg⟩ :=h.rows (st':=dW st x) (A':=A1) (n':=n+m) (c':=d1) (Ap':=l) (np':=np+m) (cp':=d2)
  ((iX.aQ (i:=7) ω (.slice l (np+m) d2)).congr λj hj=>by
    obtain rfl | rfl | rfl | rfl | rfl | rfl | rfl | rfl:j=0\/j=1\/j=2\/j=3\/j=4\/j=5\/j=6\/j=7:=ω
    all_goals rfl)
  (by
    have a:(dW st x).D.drop (dW st x).base=st.D.drop st.base++x:=List.drop_append_of_le_length h.Hu;rw[a];exact eD.far (p:= ⟨g,7,none⟩) VT _)
  (by
    have a:(dW st x).P.drop (dW st x).base=st.P.drop st.base++List.replicate x.length 0:=List.drop_append_of_le_length (by rw[h.ok.len];exact h.Hu);rw[a,<-HM.out];exact fP.far (p:= ⟨g,7,none⟩) bb _)
  al rfl (λq b=>by
   rcases qM q b with y | y
   · exact .inl y
   · exact .inr ω) (λq b=>by
   rcases Ru q b with y | y
   · exact .inl y
   · exact .inr ω) Nx u (λv hv=>by
   rcases List.mem_append.1 hv with h5 | h5
   · exact h.fC v h5
   · exact ca v h5) (by show(st.D++x).length<=_;rw[List.length_append,<-HM.out];exact Q)
 generalize w2.setCell ⟨g,7,none⟩ (.slice l (np+m) d2)=w3 at*;clear al eD bb TP bs bp Ru fW am fP mh G Nj iX be J bl K NX VT qM ap S7 Nx u;have U:eC st x={ dW st x with base:=if 131072<(st.D++x).length-st.base/\32768<st.at_-st.base then st.at_-32768 else st.base }:=rfl;have bT:n+m=(st.D++x).length-st.base:=by rw[List.length_append,<-HM.out];have:=HN.out;omega
 rw[<-bT]at U;have HW:=η U;obtain⟨c0,c1,c2,c3,L,c5,c6,c7⟩ :=mV h3;replace L:w3.cell? ⟨g,4,none⟩ =some (.int .i64 st.base):=L;replace c5:w3.cell? ⟨g,5,none⟩ =some (.int .i64 st.at_):=c5;have jI:=h.ok.lo;have Ey:=h.ok.hi;obtain⟨f,Qe⟩ :=ν (st.base);obtain⟨T,hT⟩ :=ν (st.at_);obtain⟨N,hN⟩ :=ν (n+m);rw[Qe]at L jI;rw[hT]at c5 jI Ey;rw[hN]at c3;have Wa:(N:Int)<=100000000000/\(0:Int)<=N:=ω;have Wf:(0:Int)<=f/\(f:Int)<=(T:Int)/\(T:Int)<=100000000000:=ω;have jD:IntKind.i64.wrap ((T:Int)-(f:Int))=(T:Int)-(f:Int):=by rw[IntWalk.i64_in _ ω]
 have F:=η Qe;have HT:=η hT;have R:=η hN;clear U bT Qe hT hN bo oz an aC z3;by_cases W:131072<N
 · have bS:(131072:Int)<(N:Int):=ω;by_cases V:32768<T-f
   · obtain⟨cut,hcut⟩ :=ν (T-f-32768);have Ub:(T:Int)-(f:Int)-32768=(cut:Int)/\(0:Int)<cut:=ω;have hE:Hid (eC st x={ dW st x with base:=T-32768 }):=by show _=_;rw[HW.out,R.out,HT.out,F.out,if_pos ⟨W,V⟩]
     have I:Hid (T-32768=f+cut):=by show _=_;omega
     have NV:=h.ok.write x;rw[hE.out]at NV;have G0:=η NV;clear NV;have ao:cut<=N:=by have:=HN.out;have:=F.out;have:=R.out;omega
     have JW:cut<=np+m:=by have:=Hh.out;have:=R.out;omega
     have Ex:(cut:Int)<=(N:Int)/\(cut:Int)<=((np+m:Nat):Int):=ω;have aI:np+m<=100000000000:=by have:=Hh.out;omega
     clear hcut
     go_wp2_with fail
     go_quiet (fail)
     have h4:=h3.drewN nq;have mH:=H.drewN nq;obtain⟨c0,c1,c2,c3,L,c5,c6,c7⟩ :=mV h4;replace L:(w3.drewN nq).cell? ⟨g,4,none⟩ =some (.int .i64 st.base):=L;rw[R.out]at c3;rw[F.out]at L;have uT:w3.heap.size=(w3.drewN nq).heap.size:=rfl;generalize w3.drewN nq=w4 at*;have bG:=h4.cell.lt;have cd:b0<=w4.heap.size:=Nat.le_trans h4.lo (Nat.le_of_lt bG);have lG:=bE (P:=Tryz.prog) 26 5 Tryz.underlying26 Ki.out Z.out A1 N d1 ao;have CQ:=bE (P:=Tryz.prog) 51 3 Tryz.underlying51 Hi.out cV.out l (np+m) d2 JW;have Z3:=(((h4.own.rd).bY (j:=cut) (by have:=R.out;omega) h4.own.2.fD).alloc (Nat.le_refl _) (.cells #[] 5));have x6:=ag.lit (k:= .u8) (w:=w4) (b0:=b0) rfl [] 5 cd σ;have z3:=h4.cell.frozen' (i:=3) ω;have cD:=h4.d1;have cg:=h4.d2;rw[R.out]at Z3;have aA:b0<=(w4.alloc (.cells #[] 5)).heap.size:=ξ;have bt:Hid (w.heap.size<=w4.heap.size):=mH.size;have cA:(0:Int)<cut:=Ub.2;have cj:Hid (T<=100000000000):=by show _<=_;omega
     have ck:=η aI;have cm:=η Ex;have cl:=η Wa;have bI:0<cut:=ω;clear H Ex Wa Ub aI jD Wf bx uT V ao JW jI Ey Q kW
     go_upto_region 6 with (at_builtin;(refine au .u8 b0 5 i1 1 rfl (.tmp 47) (.tmp 53) _ rfl Tryz.underlying26 Ki.out bk.out Z.out bi.out rfl x6 rfl Z3 (by have:=cl.out;simp;omega) ω aA ?_)
                            intro E d5 O fF jC eJ;have fN:Below w4.heap.size w4 O:=((Below.refl _ w4).alloc (Nat.le_refl _) (.cells #[] 5)).grown jC σ (by simp [aa]);have dH:=(h4.keeps fN).cell;have bn:=dH.frozen' (i:=3) ω;have ch:=dH.cell (i:=3) ω)
     have cz:=dH.lt;rw[List.nil_append,Nat.zero_add]at fF
     have qO:∀q,aa E=some q->q=w4.heap.size\/q=w4.heap.size+1:=λq b=>by
      rcases eJ with a | a
      · rw[a]at b;simp [aa]at b;exact .inl b.symm
      · rw[a]at b;simp at b;exact .inr b.symm
     have bB:∀q,aa E=some q->q<O.heap.size:=λq b=>(fF.2.lt b).2
     have NJ:aq w4 (O.setCell ⟨g,3,none⟩ (.slice E (N-cut) d5)) (λk=>k=g\/aa A1=some k\/aa l=some k):=(aq.aB fN).setCell (p:= ⟨g,3,none⟩) (.inl (.inl rfl)) _;have mr:=dH.aQ (i:=3) ω (.slice E (N-cut) d5);have ad:ag .i64 (O.setCell ⟨g,3,none⟩ (.slice E (N-cut) d5)) b0 3 l (np+m) d2 ((dW st x).P.drop (dW st x).base):=((h4.keeps fN).rO).far (p:= ⟨g,3,none⟩) cg _;have VU:aa E≠some g:=λa=>by rcases qO g a with z | z <;> omega
     have fI:=fF.far (p:= ⟨g,3,none⟩) VU (.slice E (N-cut) d5);have Og:(O.setCell ⟨g,3,none⟩ (.slice E (N-cut) d5)).heap.size=O.heap.size:=by simp [World.setCell]
     have Y:=mr.cell (i:=7) ω;rw[bm _ _ ω]at Y;replace Y:_=some (Value.slice l (np+m) d2):=Y;generalize O.setCell ⟨g,3,none⟩ (.slice E (N-cut) d5)=w6 at*;have cx:=mr.lt;have ct:w4.heap.size<=w6.heap.size:=NJ.size;have cc:b0<=w6.heap.size:=ω;have cb:b0<=(w6.alloc (.cells #[] 3)).heap.size:=ξ;have ab:=(((ad.rd).bY (j:=cut) (by have:=cm.out;omega) ad.2.fD).alloc (Nat.le_refl _) (.cells #[] 3));have ah:=ag.lit (k:= .i64) (w:=w6) (b0:=b0) (g:=O.heap.size) Og.symm [] 3 cc σ;have cq:=mr.frozen' (i:=7) ω;clear c0 c1 c2 c3 L c5 c6 c7 z3 bn ch jC Z3 x6 fF eJ lG aA dH
     go_upto_region 7 with (at_builtin;(refine au .i64 b0 3 i0 8 rfl (.tmp 58) (.tmp 64) _ rfl Tryz.underlying51 Hi.out dM.out cV.out dN.out rfl ah rfl ab (by have:=ck.out;simp;omega) ω cb ?_)
                            intro M X w7 wZ Qn FE;have ly:Below w6.heap.size w6 w7:=((Below.refl _ w6).alloc (Nat.le_refl _) (.cells #[] 3)).grown Qn σ (λq b=>by simp [aa]at b;omega);have lu:=mr.keeps ly;have co:=lu.frozen' (i:=7) ω;have cH:=lu.cell (i:=7) ω;have bd:=lu.cell (i:=4) ω;have cr:=lu.frozen' (i:=4) ω)
     rw[List.nil_append,Nat.zero_add]at wZ;have cw:=lu.lt
     have Qd:∀q,aa M=some q->w6.heap.size<=q:=λq b=>by
      rcases FE with a | a
      · rw[a]at b;simp [aa]at b;omega
      · rw[a]at b;simp at b;omega
     have JL:aa M≠some g:=λa=>by have:=Qd g a;omega
     have WW:aq w4 ((w7.setCell ⟨g,7,none⟩ (.slice M (np+m-cut) X)).setCell ⟨g,4,none⟩ (.int .i64 ((f:Int)+(cut:Int)))) (λk=>k=g\/aa A1=some k\/aa l=some k):=
      ((NJ.trans (aq.aB (S:=λk=>k=g\/aa A1=some k\/aa l=some k) ly) λk o=> .inl o).setCell (p:= ⟨g,7,none⟩) (.inl (.inl rfl)) _).setCell (p:= ⟨g,4,none⟩) (.inl (.inl rfl)) _
     have uP:=(((fI.keeps ly).far (p:= ⟨g,7,none⟩) VU (.slice M (np+m-cut) X)).far (p:= ⟨g,4,none⟩) VU (.int .i64 ((f:Int)+(cut:Int))));have Io:=((wZ.far (p:= ⟨g,7,none⟩) JL (.slice M (np+m-cut) X)).far (p:= ⟨g,4,none⟩) JL (.int .i64 ((f:Int)+(cut:Int))));have aE:=(lu.aQ (i:=7) ω (.slice M (np+m-cut) X)).aQ (i:=4) ω (.int .i64 ((f:Int)+(cut:Int)))
     obtain⟨r1,r2,r3⟩ :=h4.rows (st':={ dW st x with base:=T-32768 }) (A':=E) (n':=N-cut) (c':=d5) (Ap':=M) (np':=np+m-cut) (cp':=X)
      (aE.congr λj hj=>by
        obtain rfl | rfl | rfl | rfl | rfl | rfl | rfl | rfl:j=0\/j=1\/j=2\/j=3\/j=4\/j=5\/j=6\/j=7:=ω
        case inr.inr.inr.inr.inl=>show Value.int .i64 ((f:Int)+(cut:Int))=Value.int .i64 ((T-32768:Nat):Int);rw[I.out,Int.natCast_add]
        all_goals rfl)
      (by
        have a:({ dW st x with base:=T-32768 }:ed).D.drop ({ dW st x with base:=T-32768 }:ed).base=(((dW st x).D.drop (dW st x).base).drop cut):=by
         show(dW st x).D.drop (T-32768)=_
         rw[List.drop_drop,I.out,<-F.out];rfl
        rw[a];exact uP)
      (by
        have a:({ dW st x with base:=T-32768 }:ed).P.drop ({ dW st x with base:=T-32768 }:ed).base=(((dW st x).P.drop (dW st x).base).drop cut):=by
         show(dW st x).P.drop (T-32768)=_
         rw[List.drop_drop,I.out,<-F.out];rfl
        rw[a];exact Io)
      WW rfl (λq b=> .inr (by rcases qO q b with a | a <;> omega)) (λq b=> .inr (by have:=Qd q b;omega))
      (λq b a=>by have:=bB q b;have:=Qd q a;omega) G0.out h4.fC h4.big
     have a5Y:w7.cell? ⟨g,4,none⟩ =some (.int .i64 f):=by rw[bd,bm _ _ ω];show some (Value.int .i64 (st.base:Int))=_;rw[F.out]
     have cs:(f:Int)+(cut:Int)<=100000000000/\(0:Int)<=(f:Int):=by have:=I.out;have:=cj.out;omega
     have ce:tV w b0 g e (eC st x) A gm Ap (.returned (.tuple #[])) ((w7.setCell ⟨g,7,none⟩ (.slice M (np+m-cut) X)).setCell ⟨g,4,none⟩ (.int .i64 ((f:Int)+(cut:Int)))):=by
      refine⟨rfl,E,N-cut,d5,M,np+m-cut,X,nm,Dm,by rw[hE.out];exact r1,mH.trans r2 λk o=> ?_,λk o=> ?_⟩
      · rcases Qg k o with a | a
        · exact .inl a
        · exact .inr a
      · rcases r3 k o with a | a
        · exact Qg k a
        · exact .inr (Nat.le_trans bt.out a)
     clear r1 r2 r3 aE uP Io WW bd bI W ab ah Qn FE wZ
     go_wp2_with fail
     go_returns
     exact ce
   · have cB:¬0<(T:Int)-(f:Int)-32768:=ω;have hE:Hid (eC st x=dW st x):=by show _=_;rw[HW.out,R.out,HT.out,F.out,if_neg (λh=>V h.2),<-F.out];rfl
     go_wp2_with fail
     go_quiet (fail)
     go_wp2_with fail
     go_returns
     exact⟨rfl,A1,n+m,d1,l,np+m,d2,nm,Dm,by rw[hE.out];exact h3.drewN _,H.drewN _,Qg⟩
 · have bS:¬(131072:Int)<(N:Int):=ω;have hE:Hid (eC st x=dW st x):=by show _=_;rw[HW.out,R.out,HT.out,F.out,if_neg (λh=>W h.1),<-F.out];rfl
   go_wp2_with fail
   go_quiet (fail)
   go_wp2_with fail
   go_returns
   exact⟨rfl,A1,n+m,d1,l,np+m,d2,nm,Dm,by rw[hE.out];exact h3.drewN _,H.drewN _,Qg⟩
end
theorem Y2 (level:Int) (w:World) (c: -9223372036854775808<=level/\level<=9223372036854775807):Calls Tryz.prog 47 #[.int .i64 level] w λr w'=>r= .returned (.agg #[.int .i64 (cT level).chain, .int .i64 (cT level).nice, .bool (cT level).lazy])/\Below w.heap.size w w':=by
 have b:level<0\/level=0\/level=1\/level=2\/level=3\/level=4\/level=5\/level=6\/level=7\/level=8\/level=9\/9<level:=ω;rcases b with h | h | h | h | h | h | h | h | h | h | h | h
 · have a:Hid (cT level= ⟨0,0,false⟩):=by show _=_;unfold cT;rw[if_pos ω]
   go_enter Tryz.func47,Tryz.ntmps47
   go_wp2_with fail
   all_goals
    go_returns
    rw[a.out];exact⟨rfl,(Below.refl _ _).alloc (Nat.le_refl _) _⟩
 · subst h;have a:Hid (cT 0= ⟨0,0,false⟩):=rfl;go_enter Tryz.func47,Tryz.ntmps47
   go_wp2_with fail
   all_goals
    go_returns
    rw[a.out];exact⟨rfl,(Below.refl _ _).alloc (Nat.le_refl _) _⟩
 · subst h;have a:Hid (cT 1= ⟨4,8,false⟩):=rfl;go_enter Tryz.func47,Tryz.ntmps47
   go_wp2_with fail
   all_goals
    go_returns
    rw[a.out];exact⟨rfl,(Below.refl _ _).alloc (Nat.le_refl _) _⟩
 · subst h;have a:Hid (cT 2= ⟨8,16,false⟩):=rfl;go_enter Tryz.func47,Tryz.ntmps47
   go_wp2_with fail
   all_goals
    go_returns
    rw[a.out];exact⟨rfl,(Below.refl _ _).alloc (Nat.le_refl _) _⟩
 · subst h;have a:Hid (cT 3= ⟨16,32,false⟩):=rfl;go_enter Tryz.func47,Tryz.ntmps47
   go_wp2_with fail
   all_goals
    go_returns
    rw[a.out];exact⟨rfl,(Below.refl _ _).alloc (Nat.le_refl _) _⟩
 · subst h;have a:Hid (cT 4= ⟨16,16,true⟩):=rfl;go_enter Tryz.func47,Tryz.ntmps47
   go_wp2_with fail
   all_goals
    go_returns
    rw[a.out];exact⟨rfl,(Below.refl _ _).alloc (Nat.le_refl _) _⟩
 · subst h;have a:Hid (cT 5= ⟨24,32,true⟩):=rfl;go_enter Tryz.func47,Tryz.ntmps47
   go_wp2_with fail
   all_goals
    go_returns
    rw[a.out];exact⟨rfl,(Below.refl _ _).alloc (Nat.le_refl _) _⟩
 · subst h;have a:Hid (cT 6= ⟨32,128,true⟩):=rfl;go_enter Tryz.func47,Tryz.ntmps47
   go_wp2_with fail
   all_goals
    go_returns
    rw[a.out];exact⟨rfl,(Below.refl _ _).alloc (Nat.le_refl _) _⟩
 · subst h;have a:Hid (cT 7= ⟨64,128,true⟩):=rfl;go_enter Tryz.func47,Tryz.ntmps47
   go_wp2_with fail
   all_goals
    go_returns
    rw[a.out];exact⟨rfl,(Below.refl _ _).alloc (Nat.le_refl _) _⟩
 · subst h;have a:Hid (cT 8= ⟨128,258,true⟩):=rfl;go_enter Tryz.func47,Tryz.ntmps47
   go_wp2_with fail
   all_goals
    go_returns
    rw[a.out];exact⟨rfl,(Below.refl _ _).alloc (Nat.le_refl _) _⟩
 · subst h;have a:Hid (cT 9= ⟨256,258,true⟩):=rfl;go_enter Tryz.func47,Tryz.ntmps47
   go_wp2_with fail
   all_goals
    go_returns
    rw[a.out];exact⟨rfl,(Below.refl _ _).alloc (Nat.le_refl _) _⟩
 · have a:Hid (cT level= ⟨256,258,true⟩):=by show _=_;unfold cT;rw[if_neg ω,if_neg ω,if_neg ω,if_neg ω,if_neg ω,if_neg ω,if_neg ω,if_neg ω,if_neg ω]
   go_enter Tryz.func47,Tryz.ntmps47
   go_wp2_with fail
   all_goals
    go_returns
    rw[a.out];exact⟨rfl,(Below.refl _ _).alloc (Nat.le_refl _) _⟩
def LM (w:World) (e:jY) (r:Ending) (w':World):Prop:=∃(g gm:Nat),r= .returned (.pointer (some ⟨g,0,none⟩))/\bF w' w.heap.size g e Dc 0 none 0 0 gm 0 (.map []) none 0 0/\Below w.heap.size w w'
theorem MP (level:Int) (w:World) (h: -9223372036854775808<=level/\level<=9223372036854775807):Calls Tryz.prog 27 #[.int .i64 level] w (LM w (cT level)):=by
 have l:= @run_makeMap Tryz.prog;have d:=MF level;obtain⟨E,f⟩ :=ν (cT level);have e:=Y2 level w h;rw[f]at e d⊢;clear f;go_enter Tryz.func27,Tryz.ntmps27
 go_wp2_with fail
 refine e.mono ?_;rintro r w1 ⟨rfl,a⟩;obtain⟨ch,j,k⟩ :=E;dsimp only at d⊢;have b:=World.ownsMap_made (H:=Unit) w1 Tryz.prog 44 (plainElem Tryz.prog 3)
 go_wp2_with fail
 go_returns
 refine⟨w1.heap.size+1,w1.heap.size,rfl, ⟨?_,by have:=a.size;omega,ag.br,ag.br,b.alloc _,kY.new,a.size,Nat.le_refl _,by simp [aa],by simp [aa],ω,by simp [aa],by simp [aa],by simp [aa],Ok.new,λx g=>by simp [Dc]at g,d,by simp [Dc]⟩,(a.alloc a.size _).alloc (by have:=a.size;simp;omega) _⟩;have c:(w1.alloc (.map #[] 0)).heap.size=w1.heap.size+1:=σ;rw[<-c]
 exact Ar.new _ _ _ rfl λi hi=>by
  obtain rfl | rfl | rfl | rfl | rfl | rfl | rfl | rfl:i=0\/i=1\/i=2\/i=3\/i=4\/i=5\/i=6\/i=7:=ω
  all_goals rfl
end Go.Proofs.YtddhegejmkgmjaaGreat
