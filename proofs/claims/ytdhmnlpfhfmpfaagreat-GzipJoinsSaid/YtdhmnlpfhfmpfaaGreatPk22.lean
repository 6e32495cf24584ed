/-
  part
-/
import Derived.Test.YtdhmnlpfhfmpfaaGreatPk21
import Derived.Test.YtdhmnlpfhfmpfaaGreatZer
set_option linter.unusedVariables false
set_option maxRecDepth 100000
set_option maxHeartbeats 4000000
namespace Go.Proofs.YtdhmnlpfhfmpfaaGreat
open Go.RowKit Go.Maps
def zw (w:World) (b0 g:Nat) (e:oW) (st:ja) (A:Option Addr) (gm:Nat) (Ap:Option Addr) (r:Ending) (w':World):Prop:=
 r= .returned (.tuple #[])/\∃(A':Option Addr) (n' c':Nat) (Ap':Option Addr) (np' cp' nm:Nat) (Dm:DataW Unit),eC w' b0 g e st st.at_ A' n' c' gm nm Dm Ap' np' cp'/\bj w w' (FF A gm Ap g)/\(∀k,FF A' gm Ap' g k->FF A gm Ap g k\/w.heap.size<=k)
section
variable {w w' w1 w2:World} {b0 g b n c gm nm np cp:Nat} {e:oW} {st:ja} {A Ap:Option Addr} {Dm:DataW Unit}
theorem eC.rows (h:eC w b0 g e st b A n c gm nm Dm Ap np cp) {A' Ap':Option Addr} {n' c' np' cp':Nat} {st':ja} (d:Ar w' g 8 (ff e A' n' c' st'.base st'.at_ gm Ap' np' cp')) (p:aW .u8 w' b0 5 A' n' c' (st'.D.drop st'.base))
  (i:aW .i64 w' b0 3 Ap' np' cp' (st'.P.drop st'.base)) (m:bj w w' (λk=>k=g\/ai A=some k\/ai Ap=some k)) (j:st'.head=st.head) (hA:∀q,ai A'=some q->ai A=some q\/w.heap.size<=q)
  (f:∀q,ai Ap'=some q->ai Ap=some q\/w.heap.size<=q) (r:∀q,ai A'=some q->ai Ap'≠some q) (o:st'.Ok b) (l:∀x∈st'.D,0<=x/\x<256) (s:st'.D.length<=100000000000):
  eC w' b0 g e st' b A' n' c' gm nm Dm Ap' np' cp'/\bj w w' (FF A gm Ap g)/\(∀k,FF A' gm Ap' g k->FF A gm Ap g k\/w.heap.size<=k):=by
 have u:=h.cell.lt;have t:=h.map.lt;refine⟨⟨d,h.lo,p,i,pR h.map (m.block gm h.map.lt λe=> ?_),j▸h.rep,h.glo,h.nmb,λe=> ?_,λe=> ?_,h.d3,r,λe=> ?_,λe=> ?_,o,l,h.eb,s⟩,m.more λk a=> ?_,λk a=> ?_⟩
 · rcases e with e | e | e
   · exact h.d3 e
   · exact h.d5 e
   exact h.d6 e
 · rcases hA g e with e | e
   · exact h.d1 e
   omega
 · rcases f g e with e | e
   · exact h.d2 e
   omega
 · rcases hA gm e with e | e
   · exact h.d5 e
   omega
 · rcases f gm e with e | e
   · exact h.d6 e
   omega
 · rcases a with a | a | a
   · exact .inl a
   · exact .inr (.inr (.inl a))
   exact .inr (.inr (.inr a))
 rcases a with a | a | a | a
 · exact .inl (.inl a)
 · exact .inl (.inr (.inl a))
 · rcases hA k a with e | e
   · exact .inl (.inr (.inr (.inl e)))
   exact .inr e
 rcases f k a with e | e
 · exact .inl (.inr (.inr (.inr e)))
 exact .inr e
def iW (st:ja) (x:List Int):ja:={ st with D:=st.D++x,P:=st.P++List.replicate x.length 0 }
theorem TE {st:ja} {b:Nat} (h:st.Ok b) (x:List Int):(iW st x).Ok b:=by
 refine⟨by simp [iW,h.len],h.lo,by have:=h.hi;simp [iW];omega,by have:=h.bl;simp [iW];omega,λq=> ?_,h.hd⟩;show -1<=ix (st.P++List.replicate x.length 0) q/\ix (st.P++List.replicate x.length 0) q<=q;rw[dn];split
 · exact h.prev q
 rw[Vl];omega
theorem KZ (h:eC w b0 g e st st.at_ A n c gm nm Dm Ap np cp) {B m d:Nat} {C:Option Addr} {x:List Int} (hr:bU .u8 w B C m x) (hB:B<=w.heap.size) (cs:∀v∈x,0<=v/\v<256) (M:st.D.length+m<=100000000000):
  Calls Tryz.prog 40 #[.pointer (some ⟨g,0,none⟩), .slice C m d] w (zw w b0 g e (jo st x) A gm Ap):=by
 obtain⟨i1,hi,s,r,o⟩ :=aJ Ht;have Ki:=η hi;have cb:=η s;have Z:=η r;have ca:=η o;clear hi s r o;obtain⟨i0,hi,s,r,o⟩ :=aJ Pq;have Hi:=η hi;have gV:=η s;have fY:=η r;have gW:=η o;clear hi s r o;obtain⟨c0,c1,c2,c3,J,c5,c6,c7⟩ :=si h;have z3:=h.cell.frozen' (i:=3) ω;have hn:=h.mV;have am:=h.NY;have Xt:=h.cell.lt;have ac:=h.own;have ck:=h.xy;have bx:b0<=w.heap.size:=au h.lo (cZ Xt);have hm:=hr.1;have qi:n+m<=100000000000:=ω;have cl:(0:Int)<=n/\(0:Int)<=m/\(n:Int)+(m:Int)<=100000000000:=ω;have HM:=η hm;have MM:=η am;have HN:=η hn;clear hm am hn;go_enter Tryz.func40,Tryz.ntmps40
 go_upto_region 2 with (at_builtin;(refine ba .u8 b0 5 i1 1 rfl (.tmp 11) (.tmp 12) _ rfl Tryz.underlying22 Ki.out cb.out Z.out ca.out rfl ac rfl hr ω ω bx ?_)
                        intro A1 d1 w1 rR aE bp;have yF:bj w w1 (λk=>ai A=some k):=(bj.refl w (λk=>ai A=some k)).grown aE λk l=> .inl l;have F5:=yF.ar h.cell (λe=>h.d1 e);have ce:=F5.frozen' (i:=3) ω;have cD:=F5.cell (i:=3) ω)
 have Zs:bj w (w1.setCell ⟨g,3,none⟩ (.slice A1 (n+m) d1)) (λk=>k=g\/ai A=some k\/ai Ap=some k):=(yF.more λk l=> .inr (.inl l)).setCell (p:= ⟨g,3,none⟩) (.inl (.inl rfl)) _;have bl:b0<=(w1.setCell ⟨g,3,none⟩ (.slice A1 (n+m) d1)).heap.size:=au bx Zs.size
 have wF:∀q,ai A1=some q->ai A=some q\/q=w.heap.size:=λq b=>by
  rcases bp with a | a
  · exact .inl (a▸b)
  rw[a]at b;injection b with b;exact .inr b.symm
 have W:ai A1≠some g:=λa=>by
  rcases wF g a with y | y
  · exact h.d1 y
  omega
 have UL:aW .i64 (w1.setCell ⟨g,3,none⟩ (.slice A1 (n+m) d1)) b0 3 Ap np cp (st.P.drop st.base):=
  (yF.eH ck λq b a=>h.d4 q a b).far (p:= ⟨g,3,none⟩) h.d2 _
 obtain⟨A2,d2,w2,rr,jt,ap,kO⟩ :=tW (P:=Tryz.prog) (w1.setCell ⟨g,3,none⟩ (.slice A1 (n+m) d1)) .i64 b0 63 3 63 3 i0 8 .i64 .i64 Tryz.underlying63 Tryz.underlying3 Hi.out gV.out fY.out gW.out UL m (by rw[MM.out];omega) ω bl;have F:bj (w1.setCell ⟨g,3,none⟩ (.slice A1 (n+m) d1)) w2 (λk=>ai Ap=some k):=(bj.refl _ (λk=>ai Ap=some k)).grown ap λk l=> .inl l;have U7:=F5.bC (i:=3) ω (.slice A1 (n+m) d1);have ng:=F.ar U7 (λa=>h.d2 a);have bX:=ng.cell (i:=3) ω;have H:=ng.cell (i:=7) ω;have cc:=ng.frozen' (i:=7) ω;have I:=U7.cell (i:=7) ω;rw[dL _ _ ω]at I H;rw[upd_same]at bX;replace I:_=some (Value.slice Ap np cp):=I;replace H:_=some (Value.slice Ap np cp):=H;clear yF F5 cD;go_upto_region 3 with (at_builtin;refine Lib.wpList_append_run _ rfl _ _ _ _ rfl _ _ rfl rfl _ _ rr ?_)
 have YD:∀q,ai A2=some q->ai Ap=some q\/q=(w1.setCell ⟨g,3,none⟩ (.slice A1 (n+m) d1)).heap.size:=λq b=>by
  rcases kO with a | a
  · exact .inl (a▸b)
  rw[a]at b;injection b with b;exact .inr b.symm
 have ci:=Zs.size;have ch:(w1.setCell ⟨g,3,none⟩ (.slice A1 (n+m) d1)).heap.size=w1.heap.size:=by simp [World.setCell]
 have bE:∀q,ai A1=some q->q<w1.heap.size:=λq b=>(rR.2.lt b).2
 have bB:ai A2≠some g:=λa=>by
  rcases YD g a with y | y
  · exact h.d2 y
  omega
 have Am:∀q,ai A1=some q->ai A2≠some q:=λq b a=>by
  have l1:=bE q b;rcases YD q a with y | y
  · rcases wF q b with u | u
    · exact h.d4 q u y
    have:=(h.xy.2.lt y).2;omega
  omega
 have iY:aW .u8 w2 b0 5 A1 (n+m) d1 (st.D.drop st.base++x):=F.eH (rR.far (p:= ⟨g,3,none⟩) W _) λq b a=>by
  rcases wF q b with u | u
  · exact h.d4 q u a
  have:=(h.xy.2.lt a).2;omega
 have ao:=(Zs.trans F λk l=> .inl (.inr (.inr l))).setCell (p:= ⟨g,7,none⟩) (.inl (.inl rfl)) (.slice A2 (np+m) d2);have t:=TE h.ok x
 obtain⟨h3,G,Xn⟩ :=h.rows (st':=iW st x) (A':=A1) (n':=n+m) (c':=d1) (Ap':=A2) (np':=np+m) (cp':=d2)
  ((ng.bC (i:=7) ω (.slice A2 (np+m) d2)).congr λj hj=>by
    obtain rfl | rfl | rfl | rfl | rfl | rfl | rfl | rfl:j=0\/j=1\/j=2\/j=3\/j=4\/j=5\/j=6\/j=7:=ω;all_goals rfl)
  (by
    have a:(iW st x).D.drop (iW st x).base=st.D.drop st.base++x:=dW h.N3;rw[a];exact iY.far (p:= ⟨g,7,none⟩) W _)
  (by
    have a:(iW st x).P.drop (iW st x).base=st.P.drop st.base++List.replicate x.length 0:=dW (by rw[h.ok.len];exact h.N3);rw[a,<-HM.out];exact jt.far (p:= ⟨g,7,none⟩) bB _)
  ao rfl (λq b=>by
   rcases wF q b with u | u
   · exact .inl u
   · exact .inr ω) (λq b=>by
   rcases YD q b with u | u
   · exact .inl u
   · exact .inr ω) Am t (λv hv=>by
   rcases aN.1 hv with h5 | h5
   · exact h.jU v h5
   exact cs v h5) (by show(st.D++x).length<=_;rw[af,<-HM.out];exact M)
 generalize w2.setCell ⟨g,7,none⟩ (.slice A2 (np+m) d2)=w3 at*;clear ao iY bB bE ci ch YD kO ap jt rr F U7 ng bX H cc I UL W wF bl Zs Am t;have Q:jo st x={ iW st x with base:=if 131072<(st.D++x).length-st.base/\32768<st.at_-st.base then st.at_-32768 else st.base }:=rfl;have fX:n+m=(st.D++x).length-st.base:=by rw[af,<-HM.out];have:=HN.out;omega
 rw[<-fX]at Q;have HW:=η Q;obtain⟨c0,c1,c2,c3,J,c5,c6,c7⟩ :=si h3;replace J:w3.cell? ⟨g,4,none⟩ =some (.int .i64 st.base):=J;replace c5:w3.cell? ⟨g,5,none⟩ =some (.int .i64 st.at_):=c5;have kP:=h.ok.lo;have K3:=h.ok.hi;obtain⟨f,Xl⟩ :=ν (st.base);obtain⟨T,hT⟩ :=ν (st.at_);obtain⟨N,hN⟩ :=ν (n+m);rw[Xl]at J kP;rw[hT]at c5 kP K3;rw[hN]at c3;have bv:(N:Int)<=100000000000/\(0:Int)<=N:=ω;have cx:(0:Int)<=f/\(f:Int)<=(T:Int)/\(T:Int)<=100000000000:=ω;have nO:IntKind.i64.wrap ((T:Int)-(f:Int))=(T:Int)-(f:Int):=by rw[aK _ ω]
 have E:=η Xl;have HT:=η hT;have O:=η hN;clear Q fX Xl hT hN ce rR aE bp z3;by_cases U:131072<N
 rotate_left
 · have cr:¬(131072:Int)<(N:Int):=ω;have hE:Hid (jo st x=iW st x):=by show _=_;rw[HW.out,O.out,HT.out,E.out,aa (λh=>U h.1),<-E.out];rfl
   go_wp2_with fail;go_quiet (fail)
   go_wp2_with fail;go_returns;exact⟨rfl,A1,n+m,d1,A2,np+m,d2,nm,Dm,by rw[hE.out];exact h3.drewN _,G.drewN _,Xn⟩
 have cr:(131072:Int)<(N:Int):=ω;by_cases R:32768<T-f
 rotate_left
 · have dq:¬0<(T:Int)-(f:Int)-32768:=ω;have hE:Hid (jo st x=iW st x):=by show _=_;rw[HW.out,O.out,HT.out,E.out,aa (λh=>R h.2),<-E.out];rfl
   go_wp2_with fail;go_quiet (fail)
   go_wp2_with fail;go_returns;exact⟨rfl,A1,n+m,d1,A2,np+m,d2,nm,Dm,by rw[hE.out];exact h3.drewN _,G.drewN _,Xn⟩
 obtain⟨cut,hcut⟩ :=ν (T-f-32768);have be:(T:Int)-(f:Int)-32768=(cut:Int)/\(0:Int)<cut:=ω;have hE:Hid (jo st x={ iW st x with base:=T-32768 }):=by show _=_;rw[HW.out,O.out,HT.out,E.out,ae ⟨U,R⟩]
 have PD:Hid (T-32768=f+cut):=by show _=_;omega
 have UI:=h.ok.write x;rw[hE.out]at UI;have LD:=η UI;clear UI;have bi:cut<=N:=by have:=HN.out;have:=E.out;have:=O.out;omega
 have PG:cut<=np+m:=by have:=MM.out;have:=O.out;omega
 have JY:(cut:Int)<=(N:Int)/\(cut:Int)<=((np+m:Nat):Int):=ω;have bt:np+m<=100000000000:=by have:=MM.out;omega
 clear hcut
 go_wp2_with fail;go_quiet (fail);have h4:=h3.drewN nq;have rQ:=G.drewN nq;obtain⟨c0,c1,c2,c3,J,c5,c6,c7⟩ :=si h4;replace J:(w3.drewN nq).cell? ⟨g,4,none⟩ =some (.int .i64 st.base):=J;rw[O.out]at c3;rw[E.out]at J;have AY:w3.heap.size=(w3.drewN nq).heap.size:=rfl;generalize w3.drewN nq=w4 at*;have co:=h4.cell.lt;have cw:b0<=w4.heap.size:=au h4.lo (cZ co);have oP:=dc (P:=Tryz.prog) 22 5 Tryz.underlying22 Ki.out Z.out A1 N d1 bi;have Fj:=dc (P:=Tryz.prog) 63 3 Tryz.underlying63 Hi.out fY.out A2 (np+m) d2 PG;have RN:=(((h4.own.rd).dx (j:=cut) (by have:=O.out;omega) h4.own.2.jD).alloc (ag _) (.cells #[] 5));have K6:=aW.lit (k:= .u8) (w:=w4) (b0:=b0) rfl [] 5 cw σ;have z3:=h4.cell.frozen' (i:=3) ω;have ds:=h4.d1;have cA:=h4.d2;rw[O.out]at RN;have bo:b0<=(w4.alloc (.cells #[] 5)).heap.size:=ξ;have cj:Hid (w.heap.size<=w4.heap.size):=rQ.size;have dp:(0:Int)<cut:=be.2;have cE:Hid (T<=100000000000):=by show _<=_;omega
 have cH:=η bt;have cW:=η JY;have cL:=η bv;have cq:0<cut:=ω;clear G JY bv be bt nO cx cl AY R bi PG kP K3 M qi
 go_upto_region 6 with (at_builtin;(refine ba .u8 b0 5 i1 1 rfl (.tmp 47) (.tmp 53) _ rfl Tryz.underlying22 Ki.out cb.out Z.out ca.out rfl K6 rfl RN (by have:=cL.out;simp;omega) ω bo ?_)
                        intro z d5 L jL om jA;have kY:Below w4.heap.size w4 L:=((aw _ w4).alloc (ag _) (.cells #[] 5)).grown om σ (by simp [ai]);have gS:=(h4.keeps kY).cell;have cd:=gS.frozen' (i:=3) ω;have cB:=gS.cell (i:=3) ω)
 have dl:=gS.lt;rw[aT,bZ]at jL
 have ri:∀q,ai z=some q->q=w4.heap.size\/q=w4.heap.size+1:=λq b=>by
  rcases jA with a | a
  · rw[a]at b;simp [ai]at b;exact .inl b.symm
  rw[a]at b;simp at b;exact .inr b.symm
 have cm:∀q,ai z=some q->q<L.heap.size:=λq b=>(jL.2.lt b).2;have NB:bj w4 (L.setCell ⟨g,3,none⟩ (.slice z (N-cut) d5)) (λk=>k=g\/ai A1=some k\/ai A2=some k):=(bj.bA kY).setCell (p:= ⟨g,3,none⟩) (.inl (.inl rfl)) _;have oB:=gS.bC (i:=3) ω (.slice z (N-cut) d5);have ad:aW .i64 (L.setCell ⟨g,3,none⟩ (.slice z (N-cut) d5)) b0 3 A2 (np+m) d2 ((iW st x).P.drop (iW st x).base):=((h4.keeps kY).xy).far (p:= ⟨g,3,none⟩) cA _;have V:ai z≠some g:=λa=>by rcases ri g a with y | y <;> omega
 have kQ:=jL.far (p:= ⟨g,3,none⟩) V (.slice z (N-cut) d5);have cg:(L.setCell ⟨g,3,none⟩ (.slice z (N-cut) d5)).heap.size=L.heap.size:=by simp [World.setCell]
 have Y:=oB.cell (i:=7) ω;rw[dL _ _ ω]at Y;replace Y:_=some (Value.slice A2 (np+m) d2):=Y;generalize L.setCell ⟨g,3,none⟩ (.slice z (N-cut) d5)=w6 at*;have dk:=oB.lt;have de:w4.heap.size<=w6.heap.size:=NB.size;have cv:b0<=w6.heap.size:=ω;have ct:b0<=(w6.alloc (.cells #[] 3)).heap.size:=ξ;have ab:=(((ad.rd).dx (j:=cut) (by have:=cW.out;omega) ad.2.jD).alloc (ag _) (.cells #[] 3));have ah:=aW.lit (k:= .i64) (w:=w6) (b0:=b0) (g:=L.heap.size) cg.symm [] 3 cv σ;have da:=oB.frozen' (i:=7) ω;clear c0 c1 c2 c3 J c5 c6 c7 z3 cd cB om RN K6 jL jA oP bo gS
 go_upto_region 7 with (at_builtin;(refine ba .i64 b0 3 i0 8 rfl (.tmp 58) (.tmp 64) _ rfl Tryz.underlying63 Hi.out gV.out fY.out gW.out rfl ah rfl ab (by have:=cH.out;simp;omega) ω ct ?_)
                        intro K X w7 Ch K1 Aa;have pB:Below w6.heap.size w6 w7:=((aw _ w6).alloc (ag _) (.cells #[] 3)).grown K1 σ (λq b=>by simp [ai]at b;omega);have rF:=oB.keeps pB;have cX:=rF.frozen' (i:=7) ω;have du:=rF.cell (i:=7) ω;have bI:=rF.cell (i:=4) ω;have db:=rF.frozen' (i:=4) ω)
 rw[aT,bZ]at Ch;have dj:=rF.lt
 have Rq:∀q,ai K=some q->w6.heap.size<=q:=λq b=>by
  rcases Aa with a | a
  · rw[a]at b;simp [ai]at b;omega
  rw[a]at b;simp at b;omega
 have Pz:ai K≠some g:=λa=>by have:=Rq g a;omega
 have an:bj w4 ((w7.setCell ⟨g,7,none⟩ (.slice K (np+m-cut) X)).setCell ⟨g,4,none⟩ (.int .i64 ((f:Int)+(cut:Int)))) (λk=>k=g\/ai A1=some k\/ai A2=some k):=
  ((NB.trans (bj.bA (S:=λk=>k=g\/ai A1=some k\/ai A2=some k) pB) λk l=> .inl l).setCell (p:= ⟨g,7,none⟩) (.inl (.inl rfl)) _).setCell (p:= ⟨g,4,none⟩) (.inl (.inl rfl)) _
 have RH:=(((kQ.keeps pB).far (p:= ⟨g,7,none⟩) V (.slice K (np+m-cut) X)).far (p:= ⟨g,4,none⟩) V (.int .i64 ((f:Int)+(cut:Int))));have al:=((Ch.far (p:= ⟨g,7,none⟩) Pz (.slice K (np+m-cut) X)).far (p:= ⟨g,4,none⟩) Pz (.int .i64 ((f:Int)+(cut:Int))));have bs:=(rF.bC (i:=7) ω (.slice K (np+m-cut) X)).bC (i:=4) ω (.int .i64 ((f:Int)+(cut:Int)))
 obtain⟨r1,r2,r3⟩ :=h4.rows (st':={ iW st x with base:=T-32768 }) (A':=z) (n':=N-cut) (c':=d5) (Ap':=K) (np':=np+m-cut) (cp':=X)
  (bs.congr λj hj=>by
    obtain rfl | rfl | rfl | rfl | rfl | rfl | rfl | rfl:j=0\/j=1\/j=2\/j=3\/j=4\/j=5\/j=6\/j=7:=ω
    case inr.inr.inr.inr.inl=>show Value.int .i64 ((f:Int)+(cut:Int))=Value.int .i64 ((T-32768:Nat):Int);rw[PD.out,gY]
    all_goals rfl)
  (by
    have a:({ iW st x with base:=T-32768 }:ja).D.drop ({ iW st x with base:=T-32768 }:ja).base=(((iW st x).D.drop (iW st x).base).drop cut):=by
     show(iW st x).D.drop (T-32768)=_;rw[bm,PD.out,<-E.out];rfl
    rw[a];exact RH)
  (by
    have a:({ iW st x with base:=T-32768 }:ja).P.drop ({ iW st x with base:=T-32768 }:ja).base=(((iW st x).P.drop (iW st x).base).drop cut):=by
     show(iW st x).P.drop (T-32768)=_;rw[bm,PD.out,<-E.out];rfl
    rw[a];exact al)
  an rfl (λq b=> .inr (by rcases ri q b with a | a <;> omega)) (λq b=> .inr (by have:=Rq q b;omega))
  (λq b a=>by have:=cm q b;have:=Rq q a;omega) LD.out h4.jU h4.big
 have b1c:w7.cell? ⟨g,4,none⟩ =some (.int .i64 f):=by rw[bI,dL _ _ ω];show some (Value.int .i64 (st.base:Int))=_;rw[E.out]
 have dd:(f:Int)+(cut:Int)<=100000000000/\(0:Int)<=(f:Int):=by have:=PD.out;have:=cE.out;omega
 have cz:zw w b0 g e (jo st x) A gm Ap (.returned (.tuple #[])) ((w7.setCell ⟨g,7,none⟩ (.slice K (np+m-cut) X)).setCell ⟨g,4,none⟩ (.int .i64 ((f:Int)+(cut:Int)))):=by
  refine⟨rfl,z,N-cut,d5,K,np+m-cut,X,nm,Dm,by rw[hE.out];exact r1,rQ.trans r2 λk l=> ?_,λk l=> ?_⟩
  · rcases Xn k l with a | a
    · exact .inl a
    exact .inr a
  rcases r3 k l with a | a
  · exact Xn k a
  exact .inr (au cj.out a)
 clear r1 r2 r3 bs RH al an bI cq U ab ah K1 Aa Ch
 go_wp2_with fail;go_returns;exact cz
end
theorem a41 (level:Int) (w:World) (b: -9223372036854775808<=level/\level<=9223372036854775807):Calls Tryz.prog 61 #[.int .i64 level] w λr w'=>r= .returned (.agg #[.int .i64 (gP level).chain, .int .i64 (gP level).nice, .bool (gP level).lazy])/\Below w.heap.size w w':=by
 have a:level<0\/level=0\/level=1\/level=2\/level=3\/level=4\/level=5\/level=6\/level=7\/level=8\/level=9\/9<level:=ω;rcases a with h | h | h | h | h | h | h | h | h | h | h | h
 · have hE:Hid (gP level= ⟨0,0,false⟩):=by show _=_;unfold gP;rw[ae ω]
   go_enter Tryz.func61,Tryz.ntmps61
   go_wp2_with fail
   all_goals
    go_returns;rw[hE.out];exact⟨rfl,(aw _ _).alloc (ag _) _⟩
 · subst h;have hE:Hid (gP 0= ⟨0,0,false⟩):=rfl;go_enter Tryz.func61,Tryz.ntmps61
   go_wp2_with fail
   all_goals
    go_returns;rw[hE.out];exact⟨rfl,(aw _ _).alloc (ag _) _⟩
 · subst h;have hE:Hid (gP 1= ⟨4,8,false⟩):=rfl;go_enter Tryz.func61,Tryz.ntmps61
   go_wp2_with fail
   all_goals
    go_returns;rw[hE.out];exact⟨rfl,(aw _ _).alloc (ag _) _⟩
 · subst h;have hE:Hid (gP 2= ⟨8,16,false⟩):=rfl;go_enter Tryz.func61,Tryz.ntmps61
   go_wp2_with fail
   all_goals
    go_returns;rw[hE.out];exact⟨rfl,(aw _ _).alloc (ag _) _⟩
 · subst h;have hE:Hid (gP 3= ⟨16,32,false⟩):=rfl;go_enter Tryz.func61,Tryz.ntmps61
   go_wp2_with fail
   all_goals
    go_returns;rw[hE.out];exact⟨rfl,(aw _ _).alloc (ag _) _⟩
 · subst h;have hE:Hid (gP 4= ⟨16,16,true⟩):=rfl;go_enter Tryz.func61,Tryz.ntmps61
   go_wp2_with fail
   all_goals
    go_returns;rw[hE.out];exact⟨rfl,(aw _ _).alloc (ag _) _⟩
 · subst h;have hE:Hid (gP 5= ⟨24,32,true⟩):=rfl;go_enter Tryz.func61,Tryz.ntmps61
   go_wp2_with fail
   all_goals
    go_returns;rw[hE.out];exact⟨rfl,(aw _ _).alloc (ag _) _⟩
 · subst h;have hE:Hid (gP 6= ⟨32,128,true⟩):=rfl;go_enter Tryz.func61,Tryz.ntmps61
   go_wp2_with fail
   all_goals
    go_returns;rw[hE.out];exact⟨rfl,(aw _ _).alloc (ag _) _⟩
 · subst h;have hE:Hid (gP 7= ⟨64,128,true⟩):=rfl;go_enter Tryz.func61,Tryz.ntmps61
   go_wp2_with fail
   all_goals
    go_returns;rw[hE.out];exact⟨rfl,(aw _ _).alloc (ag _) _⟩
 · subst h;have hE:Hid (gP 8= ⟨128,258,true⟩):=rfl;go_enter Tryz.func61,Tryz.ntmps61
   go_wp2_with fail
   all_goals
    go_returns;rw[hE.out];exact⟨rfl,(aw _ _).alloc (ag _) _⟩
 · subst h;have hE:Hid (gP 9= ⟨256,258,true⟩):=rfl;go_enter Tryz.func61,Tryz.ntmps61
   go_wp2_with fail
   all_goals
    go_returns;rw[hE.out];exact⟨rfl,(aw _ _).alloc (ag _) _⟩
 have hE:Hid (gP level= ⟨256,258,true⟩):=by show _=_;unfold gP;rw[aa ω,aa ω,aa ω,aa ω,aa ω,aa ω,aa ω,aa ω,aa ω]
 go_enter Tryz.func61,Tryz.ntmps61
 go_wp2_with fail
 all_goals
  go_returns;rw[hE.out];exact⟨rfl,(aw _ _).alloc (ag _) _⟩
def S4 (w:World) (e:oW) (r:Ending) (w':World):Prop:=∃(g gm:Nat),r= .returned (.pointer (some ⟨g,0,none⟩))/\eC w' w.heap.size g e IQ 0 none 0 0 gm 0 (.map []) none 0 0/\Below w.heap.size w w'
theorem Tu (level:Int) (w:World) (g: -9223372036854775808<=level/\level<=9223372036854775807):Calls Tryz.prog 38 #[.int .i64 level] w (S4 w (gP level)):=by
 have k:= @run_makeMap Tryz.prog;have b:=Te level;obtain⟨E,hE⟩ :=ν (gP level);have c:=a41 level w g;rw[hE]at c b⊢;clear hE;go_enter Tryz.func38,Tryz.ntmps38
 go_wp2_with fail;refine c.mono ?_;rintro r w1 ⟨rfl,a⟩;obtain⟨ch,h,j⟩ :=E;dsimp only at b⊢;have d:=World.ownsMap_made (H:=Unit) w1 Tryz.prog 29 (plainElem Tryz.prog 3)
 go_wp2_with fail;go_returns;refine⟨w1.heap.size+1,w1.heap.size,rfl, ⟨?_,by have:=a.size;omega,aW.dK,aW.dK,d.alloc _,qj.new,a.size,ag _,by simp [ai],by simp [ai],ω,by simp [ai],by simp [ai],by simp [ai],Ok.new,λx f=>by simp [IQ]at f,b,by simp [IQ]⟩,(a.alloc a.size _).alloc (by have:=a.size;simp;omega) _⟩;have e:(w1.alloc (.map #[] 0)).heap.size=w1.heap.size+1:=σ;rw[<-e]
 exact Ar.new _ _ _ rfl λi hi=>by
  obtain rfl | rfl | rfl | rfl | rfl | rfl | rfl | rfl:i=0\/i=1\/i=2\/i=3\/i=4\/i=5\/i=6\/i=7:=ω;all_goals rfl
end Go.Proofs.YtdhmnlpfhfmpfaaGreat
