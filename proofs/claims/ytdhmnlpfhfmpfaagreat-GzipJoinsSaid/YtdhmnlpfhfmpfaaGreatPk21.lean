/-
  part
-/
import Derived.Test.YtdhmnlpfhfmpfaaGreatPk4
import Derived.Test.YtdhmnlpfhfmpfaaGreatTab
import Derived.Handy
set_option linter.unusedVariables false
set_option maxRecDepth 100000
set_option maxHeartbeats 4000000
namespace Go.Proofs.YtdhmnlpfhfmpfaaGreat
open Go.RowKit Go.Maps
theorem ID:Keyed Tryz.prog 29 :=int_keyed Tryz.underlying29
theorem Gh (w:World):(zeroValue 3).run Tryz.prog w= .ok (.int .i64 0) w:=by kernel_rfl
theorem Iz {x:Int} (h:0<=x/\x<4294967296):keyOf Tryz.prog 29 (.int .u32 x)=some (.int .u32 x):=keyOf_int_mk Tryz.underlying29 (by simp [Lit.wf,IntKind.min,IntKind.max,IntKind.signed,IntKind.bits];omega)
theorem J5 {P:Program} {f:FuncId} {args:Array Value} {w:World} {q n:Nat} {v:Value} (h:Calls P f args (w.drewN (q+n)) λe w'=>e= .returned v/\∃m,w'=(w.drewN (q+n)).drewN m):
  Calls P f args (w.drewN (q+n)) λe a=>e= .returned v/\∃m,a=w.drewN (q+m):=
 h.mono λ_ _ ⟨b,m,hm⟩ => ⟨b,n+m,by rw[hm,World.drewN_drewN,eZ]⟩
theorem eC.look {w:World} {b0 g b n c gm nm np cp:Nat} {e:oW} {st:ja} {A Ap:Option Addr} {Dm:DataW Unit} (h:eC w b0 g e st b A n c gm nm Dm Ap np cp) {H:Int} (k:0<=H/\H<4294967296) (m:Nat):
  (Instr.lookup 102 (.map (some gm)) (.int .u32 H) true).run Tryz.prog (w.drewN m)= .ok (.tuple #[.int .i64 ((st.head H).getD 0), .bool ((st.head H).isSome)]) (w.drewN m):=by
 have i:=(h.drewN m).map;obtain⟨v,ps,l,f⟩ :=i.look_ok ID (t:= 102) Tryz.underlying102 (Gh _) (plainElem_int (a:=0) Tryz.underlying3 δ) (Iz k);rw[(h.rep.2 H).2]at f;obtain⟨c,rfl,j,_⟩ :=plainElem_int_inv Tryz.underlying3 f
 have:(st.head H).getD 0=c:=by
  have d:=aL Prod.fst j;injection d with d;injection d with d h4
 rw[l,this,(h.rep.2 H).1]
def mN (w:World) (t:Nat×Nat) (r:Ending) (w':World):Prop:=r= .returned (.agg #[.int .u8 0, .int .i64 t.1, .int .i64 t.2])/\Below w.heap.size w w'
def tk (t:Nat×Nat):Nat->Value
 | 0=> .int .u8 0
 | 1=> .int .i64 t.1
 | _=> .int .i64 t.2
theorem a4l {w:World} {g:Nat} {t:Nat×Nat} (h:Ar w g 3 (tk t)) (a b:Nat):Ar ((w.setCell ⟨g,1,none⟩ (.int .i64 a)).setCell ⟨g,2,none⟩ (.int .i64 b)) g 3 (tk (a,b)):=
 ((h.bC (i:=1) ω _).bC (i:=2) ω _).congr λi hi=>by
   obtain rfl | rfl | rfl:i=0\/i=1\/i=2:=ω;all_goals rfl
theorem VC (w:World):Ar (w.alloc (.cells #[.int .u8 0, .int .i64 0, .int .i64 0] 109)) w.heap.size 3 (tk (0,0)):=
 Ar.new w #[.int .u8 0, .int .i64 0, .int .i64 0] 109 (show(#[.int .u8 0, .int .i64 0, .int .i64 0]:Array Value).size=3 from rfl) λi hi=>by
  obtain rfl | rfl | rfl:i=0\/i=1\/i=2:=ω;all_goals rfl
theorem wA {w:World} {g:Nat} {t:Nat×Nat} (h:Ar w g 3 (tk t)):w.cell? ⟨g,0,none⟩ =some (.int .u8 0)/\w.cell? ⟨g,1,none⟩ =some (.int .i64 t.1)/\w.cell? ⟨g,2,none⟩ =some (.int .i64 t.2)/\
  w.frozen? ⟨g,0,none⟩ =false/\w.frozen? ⟨g,1,none⟩ =false/\w.frozen? ⟨g,2,none⟩ =false:=
 ⟨h.cell (i:=0) ω,h.cell (i:=1) ω,h.cell (i:=2) ω,h.frozen' (i:=0) ω,h.frozen' (i:=1) ω,h.frozen' (i:=2) ω⟩
def XI (w:World) (st:ja) (e:oW) (p c b:Nat) (R:Nat×Nat) (k m _n:Value) (wr:World):Prop:=
 ∃(a:Nat) (K:Int) (t:Nat×Nat),m= .int .i64 a/\a<=256/\k= .int .i64 K/\ -1<=K/\K<(p:Int)/\Hid (nZ st.D st.P st.base p e.nice a K t=R)/\t.1<=258/\t.2<=p/\Ar wr b 3 (tk t)/\Ar wr c 3 (tk (0,0))/\Below w.heap.size w wr
section
variable {w w':World} {b0 g n c gm nm np cp:Nat} {e:oW} {st:ja} {A Ap:Option Addr} {Dm:DataW Unit}
theorem GY (p:Nat) (h:eC w b0 g e st p A n c gm nm Dm Ap np cp) (hp:st.base<=p):
  Calls Tryz.prog 82 #[.pointer (some ⟨g,0,none⟩), .int .i64 p] w (mN w (dw e st p)):=by
 obtain⟨c0,c1, -,c3,c4, -,c6,c7⟩ :=si h;have hb:=h.big;have bt:=h.ok.bl;have bo:=h.eb;have j:=λW (hf:eC W b0 g e st p A n c gm nm Dm Ap np cp)=>yX hf;obtain⟨L,y⟩ :=ν (st.D.length);obtain⟨ch,l⟩ :=ν (e.chain);rw[l]at c0 bo;rw[y]at hb bt;have hI:(p:Int)<=L/\(L:Int)<=100000000000/\(0:Int)<=p/\(0:Int)<=ch/\(ch:Int)<=256:=ω;have HL:=η y;have cw:=η l;have Xt:=h.cell.lt;have C:=((aw _ w).alloc (ag _) (.cells #[.int .u8 0, .int .i64 0, .int .i64 0] 109)).alloc σ (.cells #[.int .u8 0, .int .i64 0, .int .i64 0] 109);have ac:Ar ((w.alloc (.cells #[.int .u8 0, .int .i64 0, .int .i64 0] 109)).alloc (.cells #[.int .u8 0, .int .i64 0, .int .i64 0] 109)) w.heap.size 3 (tk (0,0)):=(VC w).alloc _
 have ab:Ar ((w.alloc (.cells #[.int .u8 0, .int .i64 0, .int .i64 0] 109)).alloc (.cells #[.int .u8 0, .int .i64 0, .int .i64 0] 109)) (w.heap.size+1) 3 (tk (0,0)):=by
  have:=VC (w.alloc (.cells #[.int .u8 0, .int .i64 0, .int .i64 0] 109))
  rwa [show(w.alloc (.cells #[.int .u8 0, .int .i64 0, .int .i64 0] 109)).heap.size=w.heap.size+1 by simp]at this
 by_cases x:ch=0
 · have E:Hid (dw e st p=(0,0)):=xL (.inl (by rw[l];exact x));subst x;clear y l;go_enter Tryz.func82,Tryz.ntmps82
   go_wp2_with fail;go_returns;unfold mN;rw[E.out];exact⟨rfl,((aw _ w).alloc (ag _) _).alloc σ _⟩
 have ck:((ch:Int)==0)=false:=by simpa using x
 have F:=h.keeps C;by_cases ao:L<p+3
 · have E:Hid (dw e st p=(0,0)):=xL (.inr (by rw[y];exact ao));have an:(L:Int)<(p:Int)+3:=ω;rw[y]at j;clear y l x;go_enter Tryz.func82,Tryz.ntmps82
   go_wp2_with fail;refine(j _ F).mono ?_;rintro r w1 ⟨rfl,q1,rfl⟩
   go_wp2_with fail;go_returns;unfold mN;rw[E.out];exact⟨rfl,(((below_drewN C q1).setCell (p:= ⟨w.heap.size,0,none⟩) (ag _) _).setCell (p:= ⟨w.heap.size,1,none⟩) (ag _) _).setCell (p:= ⟨w.heap.size,2,none⟩) (ag _) _⟩
 have an:¬(L:Int)<(p:Int)+3:=ω;obtain⟨H,Y⟩ :=ν (mC st.D p);have Xo:0<=H/\H<4294967296:=by rw[<-Y];have:=V3 (ix st.D p) (ix st.D (p+1)) (ix st.D (p+2));unfold mC;omega
 have z:=F.look Xo
 have Ik:∀m W,eC W b0 g e st p A n c gm nm Dm Ap np cp->Calls Tryz.prog 106 #[.pointer (some ⟨g,0,none⟩), .int .i64 p] (W.drewN m) λr w'=>r= .returned (.int .u32 H)/\∃q,w'=(W.drewN m).drewN q:=λm W hf=>by
  have:=I7 (hf.drewN m) p hp (by rw[y];omega)
  rwa [Y]at this
 have hs:Hid (∀k,st.head H=some k->dw e st p=nZ st.D st.P st.base p e.nice ch k (0,0)/\0<=k/\k<(p:Int)):=λk hk=>by
  have h5:=h.ok.hd H k hk;have h6:=GX (e:=e) (st:=st) (p:=p) (k:=k) (by rw[l];exact x) (by rw[y];omega) (by rw[Y];exact hk);rw[l]at h6;exact⟨h6,h5⟩
 have Fg:Hid (st.head H=none->dw e st p=(0,0)):=λhk=>GW (by rw[Y];exact hk);rw[y]at j;have HH:=η Ik;have cv:=η Y;clear y l x Y Ik;obtain⟨hd,uu⟩ :=ν (st.head H);rw[uu]at z;have HD:=η uu;clear uu;cases hd with
 | none=>
   have E:Hid (dw e st p=(0,0)):=Fg.out HD.out;simp only [Option.getD_none,Option.isSome_none]at z;go_enter Tryz.func82,Tryz.ntmps82
   go_wp2_with fail;refine(j _ F).mono ?_;rintro r w1 ⟨rfl,q1,rfl⟩
   go_wp2_with fail;go_quiet ((go_at_call 106;exact J5 (HH.out _ _ F)))
   go_wp2_with fail
   go_loopw [6,8,9] (λk _ _ wr=>k= .int .i64 0/\Ar wr (w.heap.size+1) 3 (tk (0,0))/\Ar wr w.heap.size 3 (tk (0,0))/\Below w.heap.size w wr) (λ_ _ _ _=>0)
   case atStart=>exact⟨rfl,ab.drewN _,ac.drewN _,below_drewN C _⟩
   obtain⟨rfl,F,h0,b⟩ :=hrel;obtain⟨k0,k1,k2, -, -, -⟩ :=wA F;obtain⟨U,S,Q,z0,z1,z2⟩ :=wA h0;have aE:=F.lt
   go_wp2_with fail;refine bh (v:= .agg #[.int .u8 0, .int .i64 0, .int .i64 0]) (by simp [results,Tryz.results82,go_sem,U,S,Q]) rfl ?_;unfold mN;rw[E.out];exact⟨rfl,((b.setCell (p:= ⟨w.heap.size,0,none⟩) (ag _) _).setCell (p:= ⟨w.heap.size,1,none⟩) (ag _) _).setCell (p:= ⟨w.heap.size,2,none⟩) (ag _) _⟩
 | some k=>
   obtain⟨E,Dp,uX⟩ :=hs.out k HD.out;simp only [Option.getD_some,Option.isSome_some]at z;obtain⟨R,o⟩ :=ν (dw e st p);rw[o]at E⊢;have HB:Hid (nZ st.D st.P st.base p e.nice ch k (0,0)=R):=E.symm;have hP:Hid (∀q, -1<=ix st.P q/\ix st.P q<=q):=h.ok.prev;obtain⟨B,Xl⟩ :=ν (st.base);obtain⟨N0,Lc⟩ :=ν (e.nice);have ct:(0:Int)<=B/\(B:Int)<=(p:Int):=ω;have JN:=η Xl;have am:=η Lc;have hn:=h.mV;rw[HL.out]at hn;have Hn:=η hn;have bi:Hid (∀gd,Ap=some ⟨gd,0,none⟩->gd<w.heap.size):=λgd e=>(h.xy.2.lt (g:=gd) (by rw[e];rfl)).2;clear E o hs Fg Xl Lc hn;go_enter Tryz.func82,Tryz.ntmps82
   go_wp2_with fail;refine(j _ F).mono ?_;rintro r w1 ⟨rfl,q1,rfl⟩
   go_wp2_with fail;go_quiet ((go_at_call 106;exact J5 (HH.out _ _ F)))
   go_wp2_with fail;clear z
   go_loopw [6,8,9] (XI w st e p w.heap.size (w.heap.size+1) R) (λ_ m _ _=>(intOf m).toNat)
   case atStart=>exact⟨ch,k,(0,0),rfl,ω,rfl,ω,uX,HB,σ,σ,ab.drewN _,ac.drewN _,below_drewN C _⟩
   obtain⟨tr,K,t,rfl,bX,rfl,cs,co,hF,uZ,NM,Y6,G,b⟩ :=hrel;obtain⟨T,u⟩ :=t;dsimp only at uZ NM;obtain⟨k0,k1,k2,y0,y1,y2⟩ :=wA Y6;obtain⟨U,S,Q,z0,z1,z2⟩ :=wA G;have aE:=Y6.lt;have hf:=h.keeps b;have cj:g≠w.heap.size+1:=ω;have ci:w.heap.size+1≠g:=ω;obtain⟨c0,c1, -,c3,c4, -,c6,c7⟩ :=si hf;rw[JN.out]at c4;rw[am.out]at c1;have cl:(0:Int)<=T/\(T:Int)<=258/\(0:Int)<=u:=ω;dsimp only at k1 k2;by_cases I:tr=0
   · have o:Hid (R=(T,u)):=by show _=_;rw[<-hF.out,I];rfl
     have bI:((tr:Int))=0:=ω;subst I;clear hF
     go_wp2_with fail;refine bh (v:= .agg #[.int .u8 0, .int .i64 T, .int .i64 u]) (by simp [results,Tryz.results82,go_sem,U,S,Q]) rfl ?_;unfold mN;rw[o.out];exact⟨rfl,((b.setCell (p:= ⟨w.heap.size,0,none⟩) (ag _) _).setCell (p:= ⟨w.heap.size,1,none⟩) (ag _) _).setCell (p:= ⟨w.heap.size,2,none⟩) (ag _) _⟩
   obtain⟨m,rfl⟩ :∃m,tr=m+1:= ⟨tr-1,ω⟩;have hm:((m+1:Nat):Int)=(m:Int)+1:=ω;have Gu:(0:Int)<=m/\(m:Int)<=255/\(0:Int)<(m:Int)+1:=ω
   have Z:nZ st.D st.P st.base p e.nice (m+1) K (T,u)=if(B:Int)<=K/\(p:Int)-32768<=K then
     (if 3<=kE st.D K.toNat p/\T<kE st.D K.toNat p then
       (if N0<=kE st.D K.toNat p then(kE st.D K.toNat p,p-K.toNat)else nZ st.D st.P st.base p e.nice m (ix st.P K.toNat) (kE st.D K.toNat p,p-K.toNat))
     else nZ st.D st.P st.base p e.nice m (ix st.P K.toNat) (T,u))else(T,u):=by rw[<-JN.out,<-am.out];rfl
   have f:=hF.out;rw[Z]at f;clear Z hF;rw[hm];by_cases M:(B:Int)<=K
   rotate_left
   · have o:Hid (R=(T,u)):=by show _=_;rw[<-f,aa (λh=>M h.1)]
     have bs:K<(B:Int):=ω;clear f M
     go_wp2_with fail;refine bh (v:= .agg #[.int .u8 0, .int .i64 T, .int .i64 u]) (by simp [results,Tryz.results82,go_sem,U,S,Q]) rfl ?_;unfold mN;rw[o.out];exact⟨rfl,((b.setCell (p:= ⟨w.heap.size,0,none⟩) (ag _) _).setCell (p:= ⟨w.heap.size,1,none⟩) (ag _) _).setCell (p:= ⟨w.heap.size,2,none⟩) (ag _) _⟩
   by_cases J:(p:Int)-32768<=K
   rotate_left
   · have o:Hid (R=(T,u)):=by show _=_;rw[<-f,aa (λh=>J h.2)]
     have bs:K<(p:Int)-32768:=ω;clear f J
     go_wp2_with fail;refine bh (v:= .agg #[.int .u8 0, .int .i64 T, .int .i64 u]) (by simp [results,Tryz.results82,go_sem,U,S,Q]) rfl ?_;unfold mN;rw[o.out];exact⟨rfl,((b.setCell (p:= ⟨w.heap.size,0,none⟩) (ag _) _).setCell (p:= ⟨w.heap.size,1,none⟩) (ag _) _).setCell (p:= ⟨w.heap.size,2,none⟩) (ag _) _⟩
   rw[ae ⟨M,J⟩]at f;obtain⟨s,rfl⟩ :=aG (show 0<=K by omega);rw[aU]at f;have oO:=QP hf s p (by rw[JN.out];omega) ω (by rw[HL.out];omega);have bv:=(Jk st.D s p).1;obtain⟨N,hN⟩ :=ν (kE st.D s p);rw[hN]at oO bv f;obtain⟨i,hi⟩ :∃i,s=B+i:= ⟨s-B,ω⟩;have mf:i<n:=by have:=Hn.out;have:=JN.out;omega
   have bE:IntKind.i64.wrap ((s:Int)-(B:Int))=(i:Int):=by rw[aK _ ω];omega
   have cr:(s:Int)-(B:Int)=(i:Int):=ω;have cd:(0:Int)<=i/\(i:Int)<(n:Int):=ω;obtain⟨V,hV⟩ :=ν (ix st.P s);have F4:=hP.out s;rw[hV]at f F4;have X: -1<=V/\V<(p:Int):=ω
   have a:∀W,Below w.heap.size w W->∃gd,Ap=some ⟨gd,0,none⟩/\W.cell? ⟨gd,i,none⟩ =some (.int .i64 V):=λW hW=>by
    have:=(h.keeps hW).place mf
    rwa [JN.out,<-hi,hV]at this
   have UN:(p:Int)-(s:Int)=((p-s:Nat):Int):=ω;have MM:=h.NY;have cm:(0:Int)<=N/\(N:Int)<=258:=ω;have cb:(i:Int)<(np:Int):=ω;have cq:((s:Int)== -1)=false:=σ;have O:=η f;have Ew:=η UN;clear f hi hN hV F4 mf MM I UN;by_cases al:3<=N
   rotate_left
   · have o:Hid (nZ st.D st.P st.base p e.nice m V (T,u)=R):=by show _=_;rw[<-O.out,aa (λh=>al h.1)]
     have ah:(N:Int)<3:=ω;clear O;obtain⟨gd,rfl,cc⟩ :=a _ b;clear a
     go_wp2_with fail;refine oO.mono ?_;rintro r w5 ⟨rfl,q5,rfl⟩
     go_wp2_with fail;go_quiet (fail);go_wp2;go_roundw
     case rel=>exact⟨m,V,(T,u),by go_num,ω,rfl,X.1,X.2,o,uZ,NM,Y6.drewN _,G.drewN _,below_drewN b _⟩
     case measure=>simp [intOf]
   by_cases ad:T<N
   rotate_left
   · have o:Hid (nZ st.D st.P st.base p e.nice m V (T,u)=R):=by show _=_;rw[<-O.out,aa (λh=>ad h.2)]
     have ah:(3:Int)<=N/\¬(T:Int)<N:=ω;clear O;obtain⟨gd,rfl,cc⟩ :=a _ b;clear a
     go_wp2_with fail;refine oO.mono ?_;rintro r w5 ⟨rfl,q5,rfl⟩
     go_wp2_with fail;go_quiet (fail);go_wp2;go_roundw
     case rel=>exact⟨m,V,(T,u),by go_num,ω,rfl,X.1,X.2,o,uZ,NM,Y6.drewN _,G.drewN _,below_drewN b _⟩
     case measure=>simp [intOf]
   have ah:(3:Int)<=N/\(T:Int)<N:=ω;obtain⟨d,hd⟩ :=ν (p-s);have Xn:=O.out;rw[ae ⟨al,ad⟩,hd]at Xn;have ca:(p:Int)-(s:Int)=(d:Int):=by have:=Ew.out;omega
   have bp:d<=p:=ω;by_cases Im:N0<=N
   · have o:Hid (R=(N,d)):=by show _=_;rw[<-Xn,ae Im]
     have ap:(N0:Int)<=(N:Int):=ω;clear Xn hd O a
     go_wp2_with fail;refine oO.mono ?_;rintro r w5 ⟨rfl,q5,rfl⟩;have JX:=((below_drewN b q5).setCell (p:= ⟨w.heap.size+1,1,none⟩) σ (.int .i64 N)).setCell (p:= ⟨w.heap.size+1,2,none⟩) σ (.int .i64 d)
     go_wp2_with fail;refine bh (v:= .agg #[.int .u8 0, .int .i64 N, .int .i64 d]) (by simp [results,Tryz.results82,go_sem,U,S,Q]) rfl ?_;unfold mN;rw[o.out];exact⟨rfl,((JX.setCell (p:= ⟨w.heap.size,0,none⟩) (ag _) _).setCell (p:= ⟨w.heap.size,1,none⟩) (ag _) _).setCell (p:= ⟨w.heap.size,2,none⟩) (ag _) _⟩
   have o:Hid (nZ st.D st.P st.base p e.nice m V (N,d)=R):=by show _=_;rw[<-Xn,aa Im]
   have ap:¬(N0:Int)<=(N:Int):=ω;clear Xn hd O;obtain⟨gd,rfl,cc⟩ :=a _ b;have cg:=bi.out gd rfl;have be:gd≠w.heap.size+1:=ω;have ce:w.heap.size+1≠gd:=λe=>be e.symm;clear a
   go_wp2_with fail;refine oO.mono ?_;rintro r w5 ⟨rfl,q5,rfl⟩;have JX:=((below_drewN b q5).setCell (p:= ⟨w.heap.size+1,1,none⟩) σ (.int .i64 N)).setCell (p:= ⟨w.heap.size+1,2,none⟩) σ (.int .i64 d);have bx:=a4l (Y6.drewN q5) N d;have bB:Ar _ w.heap.size 3 (tk (0,0)):=((G.drewN q5).far (p:= ⟨w.heap.size+1,1,none⟩) σ (.int .i64 N)).far (p:= ⟨w.heap.size+1,2,none⟩) σ (.int .i64 d)
   go_wp2_with fail;go_quiet (fail);go_wp2;go_roundw
   case rel=>exact⟨m,V,(N,d),by go_num,ω,rfl,X.1,X.2,o,ω,bp,bx.drewN _,bB.drewN _,below_drewN JX _⟩
   case measure=>simp [intOf]
end
theorem aW.bC {k:IntKind} {w:World} {b0 g n c:Nat} {e:TypeId} {l:List Int} (h:aW k w b0 e (some ⟨g,0,none⟩) n c l) {i:Nat} (hi:i<n) (v:Int):aW k (w.setCell ⟨g,i,none⟩ (.int k v)) b0 e (some ⟨g,0,none⟩) n c (l.set i v):=
 ⟨by rw[eo];exact h.1,(h.2.bC (i:=i) ω (.int k v)).congr λj a=>by
   unfold upd;rw[Vm _ _ _ _ (by rw[<-h.1];exact hi)];split <;> rfl⟩
theorem drop_set {l:List Int} {i b:Nat} {v:Int}:(l.set (b+i) v).drop b=(l.drop b).set i v:=by
 rw[List.drop_set,aa ω,bS]
section
variable {w w' w1 w2:World} {b0 g p n c gm nm np cp gd:Nat} {e:oW} {st:ja} {A Ap:Option Addr} {Dm:DataW Unit}
theorem eC.entered (h:eC w b0 g e st p A n c gm nm Dm Ap np cp) (hp:p<st.D.length) {H:Int} (v:mC st.D p=H) (z:0<=H/\H<4294967296) (i:¬(e.chain=0\/st.D.length<p+3)) (d:ai Ap=some gd) (m:bj w w1 (λk=>k=gd))
  (r:aW .i64 w1 b0 3 Ap np cp ((st.P.set p (was st H)).drop st.base)) (u:w1.grownBy w2 (some gm)) (s:w2.ownsMap Tryz.prog 29 (plainElem Tryz.prog 3) gm (nm+1) (Dm.put (.int .u32 H) (.lit (.int .i64 p)))):
  eC w2 b0 g e (bW e st p) (p+1) A n c gm (nm+1) (Dm.put (.int .u32 H) (.lit (.int .i64 p))) Ap np cp/\bj w w2 (FF A gm Ap g):=by
 have l:gd≠g:=λe=>h.d2 (by rw[d,e]);have y:gd≠gm:=λe=>h.d6 (by rw[d,e]);have j:ai A≠some gd:=λe=>h.d4 gd e d;have o:=h.ok.enter (e:=e) (p:=p) hp;have hE:bW e st p={ st with P:=st.P.set p (was st H),head:=λx=>if x=H then some (p:Int)else st.head x }:=by unfold bW;rw[aa i,v]
 have b:bj w1 w2 (λk=>k=gm):=(bj.refl w1 _).grown u λk a=>by injection a with a;exact .inl a.symm
 have t:WideAt.IsKeyLit (.int .u32 H):=by exact(by trivial)
 rw[hE]at o⊢;refine⟨⟨b.ar (m.ar h.cell λe=>l e.symm) λe=>h.d3 e.symm,h.lo,b.eH (m.eH h.own λq f e=>j (by rw[f,e])) λq f e=>h.d5 (by rw[f,e]),b.eH r λq f e=>h.d6 (by rw[f,e]),s,h.rep.put H p t,h.glo,by have:=h.nmb;omega,h.d1,h.d2,h.d3,h.d4,h.d5,h.d6,o,h.jU,h.eb,h.big⟩, ?_⟩;exact(m.more λk a=> .inr (.inr (.inr (by rw[d,a])))).trans (b.more λk a=> .inr (.inl a)) λk a=> .inl a
def sX (w:World) (b0 g:Nat) (e:oW) (st:ja) (b:Nat) (A:Option Addr) (n c gm:Nat) (Ap:Option Addr) (np cp:Nat) (r:Ending) (w':World):Prop:=
 r= .returned (.tuple #[])/\(∃nm Dm,eC w' b0 g e st b A n c gm nm Dm Ap np cp)/\bj w w' (FF A gm Ap g)
theorem D7 (p:Nat) (h:eC w b0 g e st p A n c gm nm Dm Ap np cp) (hp:st.base<=p) (Io:p<st.D.length):
  Calls Tryz.prog 86 #[.pointer (some ⟨g,0,none⟩), .int .i64 p] w (sX w b0 g e (bW e st p) (p+1) A n c gm Ap np cp):=by
 obtain⟨c0,c1, -,c3,c4, -,c6,c7⟩ :=si h;have hb:=h.big;have ad:=h.eb;have f:=yX h
 have oO:e.chain=0\/st.D.length<p+3->∀q,sX w b0 g e (bW e st p) (p+1) A n c gm Ap np cp (.returned (.tuple #[])) (w.drewN q):=λhc q=>by
  have hE:bW e st p=st:=by unfold bW;rw[ae hc]
  have a:=h.drewN q;rw[hE];exact⟨rfl, ⟨nm,Dm,a.cell,a.lo,a.own,a.xy,a.map,a.rep,a.glo,by have:=a.nmb;omega,a.d1,a.d2,a.d3,a.d4,a.d5,a.d6, ⟨a.ok.len,a.ok.lo,a.ok.hi,Io,a.ok.prev,λx k hk=>by have:=a.ok.hd x k hk;omega⟩,a.jU,a.eb,a.big⟩,(bj.refl w _).drewN q⟩
 have HS:=η oO;clear oO;obtain⟨L,hL⟩ :=ν (st.D.length);obtain⟨ch,t⟩ :=ν (e.chain);rw[t]at c0 ad;rw[hL]at hb f;have hI:(p:Int)<L/\(L:Int)<=100000000000/\(0:Int)<=p/\(0:Int)<=ch/\(ch:Int)<=256:=ω;have Q:=η hL;have K:=η t;clear hL t;by_cases G:ch=0
 · subst G;go_enter Tryz.func86,Tryz.ntmps86
   go_wp2_with fail;go_returns;exact HS.out (.inl K.out) 0
 have ap:((ch:Int)==0)=false:=by simpa using G
 by_cases Y:L<p+3
 · have X:(L:Int)<(p:Int)+3:=ω;go_enter Tryz.func86,Tryz.ntmps86
   go_wp2_with fail;refine f.mono ?_;rintro r w1 ⟨rfl,q1,rfl⟩
   go_wp2_with fail;go_returns;exact HS.out (.inr (by rw[Q.out];exact Y)) q1
 have X:¬(L:Int)<(p:Int)+3:=ω;obtain⟨H,O⟩ :=ν (mC st.D p);have u:0<=H/\H<4294967296:=by rw[<-O];have:=V3 (ix st.D p) (ix st.D (p+1)) (ix st.D (p+2));unfold mC;omega
 have Ik:∀m,Calls Tryz.prog 106 #[.pointer (some ⟨g,0,none⟩), .int .i64 p] (w.drewN m) λr w'=>r= .returned (.int .u32 H)/\∃q,w'=(w.drewN m).drewN q:=λm=>by
  have:=I7 (h.drewN m) p hp (by rw[Q.out];omega)
  rwa [O]at this
 obtain⟨i,hi⟩ :∃i,p=st.base+i:= ⟨p-st.base,ω⟩;have mf:i<n:=by have:=h.mV;have:=Q.out;omega
 have ab:=h.NY;obtain⟨gd,hA,cc⟩ :=h.place mf;have d:=h.xy;have b:=h.map;have C:¬(e.chain=0\/st.D.length<p+3):=by rw[Q.out,K.out];omega
 have ac:gd≠g:=λJ=>h.d2 (by rw[hA,<-J];rfl);have ao:g≠gd:=λJ=>ac J.symm;have Zo:gm≠gd:=λJ=>h.d6 (by rw[hA,J];rfl);rw[hA]at d c7;have zf:=d.2.frozen i;have s:=λw1 w2=>h.entered (w1:=w1) (w2:=w2) (gd:=gd) Io O u C (by rw[hA];rfl);rw[hA]at s;have a4s:=η s;obtain⟨B,hB⟩ :=ν (st.base);have yL:∀v,(st.P.set p v).drop st.base=(st.P.drop st.base).set i v:=λv=>by rw[hi,drop_set]
 have a4v:=η yL;rw[hB]at c4;have al:IntKind.i64.wrap ((p:Int)-(B:Int))=(i:Int):=by rw[aK _ ω];omega
 have aE:(p:Int)-(B:Int)=(i:Int):=ω;have an:(0:Int)<=i/\(i:Int)<(np:Int):=ω;have am:=h.nmb;have W:=h.look u 0;have l:=h.look u;have o:i<np:=ω;obtain⟨hd,N⟩ :=ν (st.head H);have y:Hid (was st H=hd.getD (-1)):=by show _=_;unfold was;rw[N]
 have Q7:=(h.rep.2 H).1;have Z:Hid (Dm.atKey (.int .u32 H) (.lit (.int .i64 0))= .lit (.int .i64 (hd.getD 0))):=by show _=_;rw[<-N];exact(h.rep.2 H).2
 rw[N]at l Q7;have Xt:=h.cell.lt;obtain⟨V,hV⟩ :=ν (ix st.P (st.base+i));rw[hV]at cc;have wG:=η hA;have E:nm<maxLen:=by unfold maxLen;omega
 have Q4:(Lit.int .i64 (p:Int)).wf=true:=by simp [Lit.wf,IntKind.min,IntKind.max,IntKind.signed,IntKind.bits];omega
 clear O hi mf hB C s yL N W hV hA ab;cases hd with
 | none=>
   simp only [Option.getD_none,Option.isSome_none]at l;go_enter Tryz.func86,Tryz.ntmps86
   go_wp2_with fail;refine f.mono ?_;rintro r w1 ⟨rfl,q1,rfl⟩
   go_wp2_with fail;refine(Ik q1).mono ?_;rintro r w1 ⟨rfl,q2,rfl⟩
   go_wp2_with fail;go_region;have j:bj w ((w.drewN (q1+q2+1)).setCell ⟨gd,i,none⟩ (.int .i64 (-1))) (λk=>k=gd):=((bj.refl w (λk=>k=gd)).drewN _).setCell (p:= ⟨gd,i,none⟩) (.inl rfl) _;have M:=pR b (j.block gm b.lt Zo);have z:=aW.bC (d.drewN (q1+q2+1)) o (-1)
   go_wp2_with (first
    | (at_lookup;refine wpList_lookup_own_ok_int _ rfl _ _ 102 rfl 29 3 .i64 ID Tryz.underlying102 Tryz.underlying3 (Gh _) gm nm Dm rfl M _ _ rfl (Iz u) ?_;intro c I U;rw[Q7];simp only [Option.isSome_none])
    | (at_mapUpdate;refine wpList_mapUpdate_own _ rfl _ _ _ 102 rfl 29 3 ID Tryz.underlying102 (plainElem Tryz.prog 3) gm nm Dm rfl M E _ _ _ rfl rfl (Iz u) _ [] (plainElem_int Tryz.underlying3 Q4) ?_;intro R ik Lp))
   go_returns;obtain⟨T,S⟩ :=a4s.out _ R j (by rw[y.out,a4v.out];exact z) Lp ik;exact⟨rfl, ⟨_,_,by rw[wG.out];exact T⟩,by rw[wG.out];exact S⟩
 | some k=>
   simp only [Option.getD_some,Option.isSome_some]at l;go_enter Tryz.func86,Tryz.ntmps86
   go_wp2_with fail;refine f.mono ?_;rintro r w1 ⟨rfl,q1,rfl⟩
   go_wp2_with fail;refine(Ik q1).mono ?_;rintro r w1 ⟨rfl,q2,rfl⟩
   go_wp2_with fail;go_region;have j:bj w ((w.drewN (q1+q2+1)).setCell ⟨gd,i,none⟩ (.int .i64 (-1))) (λk=>k=gd):=((bj.refl w (λk=>k=gd)).drewN _).setCell (p:= ⟨gd,i,none⟩) (.inl rfl) _;have M:=pR b (j.block gm b.lt Zo);have z:=aW.bC (d.drewN (q1+q2+1)) o (-1)
   go_wp2_with (at_lookup;refine wpList_lookup_own_ok_int _ rfl _ _ 102 rfl 29 3 .i64 ID Tryz.underlying102 Tryz.underlying3 (Gh _) gm nm Dm rfl M _ _ rfl (Iz u) ?_;intro c I U;rw[Q7];simp only [Option.isSome_some])
   have tK:c=k:=by
    have h5:=Z.out;rw[I]at h5;injection h5 with h5;injection h5
   subst tK;have ah:=z.2.frozen i;have be:=z.2.cell (i:=i) ω;have F:bj w ((((w.drewN (q1+q2+1)).setCell ⟨gd,i,none⟩ (.int .i64 (-1))).drew).setCell ⟨gd,i,none⟩ (.int .i64 c)) (λk=>k=gd):=j.drew.setCell (p:= ⟨gd,i,none⟩) (.inl rfl) _;have ux:=pR b (F.block gm b.lt Zo);have jt:=aW.bC z.drew o c;rw[List.set_set]at jt;go_region
   go_wp2_with (at_mapUpdate;refine wpList_mapUpdate_own _ rfl _ _ _ 102 rfl 29 3 ID Tryz.underlying102 (plainElem Tryz.prog 3) gm nm Dm rfl ux E _ _ _ rfl rfl (Iz u) _ [] (plainElem_int Tryz.underlying3 Q4) ?_;intro R ik Lp)
   go_returns;obtain⟨T,S⟩ :=a4s.out _ R F (by rw[y.out,a4v.out];exact jt) Lp ik;exact⟨rfl, ⟨_,_,by rw[wG.out];exact T⟩,by rw[wG.out];exact S⟩
end
theorem Qy (e:oW) (n:Nat) (st:ja):dY e (n+1) st=moved (bW e (dY e n st) (dY e n st).at_):=by
 induction n generalizing st with
 | zero=>rfl
 | succ n a=>rw[dY,a];rfl
section
variable {w w' w1 w2:World} {b0 g b n c gm nm np cp:Nat} {e:oW} {st:ja} {A Ap:Option Addr} {Dm:DataW Unit}
theorem eC.moved (h:eC w b0 g e st (st.at_+1) A n c gm nm Dm Ap np cp) {T:Int} (f:T=(st.at_:Int)+1):
  eC (w.setCell ⟨g,5,none⟩ (.int .i64 T)) b0 g e (moved st) (st.at_+1) A n c gm nm Dm Ap np cp/\bj w (w.setCell ⟨g,5,none⟩ (.int .i64 T)) (FF A gm Ap g):=by
 subst f;have a:bj w (w.setCell ⟨g,5,none⟩ (.int .i64 ((st.at_:Int)+1))) (λk=>k=g):=(bj.refl w (λk=>k=g)).setCell (p:= ⟨g,5,none⟩) (.inl rfl) _;refine⟨⟨(h.cell.bC (i:=5) ω _).congr λi hi=> ?_,h.lo,a.eH h.own λq b e=>h.d1 (by rw[b,e]),a.eH h.xy λq b e=>h.d2 (by rw[b,e]),pR h.map (a.block gm h.map.lt h.d3),h.rep,h.glo,h.nmb,h.d1,h.d2,h.d3,h.d4,h.d5,h.d6,h.ok.moved,h.jU,h.eb,h.big⟩,a.more λk d=> .inl d⟩;obtain rfl | rfl | rfl | rfl | rfl | rfl | rfl | rfl:i=0\/i=1\/i=2\/i=3\/i=4\/i=5\/i=6\/i=7:=ω;all_goals rfl
def Ez (w:World) (b0 g:Nat) (e:oW) (st:ja) (A:Option Addr) (n c gm:Nat) (Ap:Option Addr) (np cp N:Nat) (i:Value) (wr:World):Prop:=
 ∃(k nm:Nat) (Dm:DataW Unit),k<=N/\i= .int .i64 k/\eC wr b0 g e (dY e k st) (st.at_+k) A n c gm nm Dm Ap np cp/\bj w wr (FF A gm Ap g)
theorem sN (N:Nat) (h:eC w b0 g e st st.at_ A n c gm nm Dm Ap np cp) (hN:st.at_+N<=st.D.length):
  Calls Tryz.prog 84 #[.pointer (some ⟨g,0,none⟩), .int .i64 N] w (sX w b0 g e (dY e N st) (st.at_+N) A n c gm Ap np cp):=by
 have f:Ez w b0 g e st A n c gm Ap np cp N (.int .i64 0) w:= ⟨0,nm,Dm,aF _,rfl,h,bj.refl w _⟩;have F:=h.ok;have U:=h.big;have K:=η F;go_enter Tryz.func84,Tryz.ntmps84
 go_wp2_with fail
 go_loopw [5] (Ez w b0 g e st A n c gm Ap np cp N) (λi _=>N-(intOf i).toNat)
 case atStart=>exact f
 clear f F;obtain⟨k,L,V,S,rfl,hf,I⟩ :=hrel;by_cases u:k<N
 rotate_left
 · obtain rfl:k=N:=ω
   go_wp2_with fail;go_returns;exact⟨rfl, ⟨_,_,hf⟩,I⟩
 have R:(k:Int)<(N:Int)/\(0:Int)<=k/\(k:Int)<=100000000000:=ω;obtain⟨-,C,s,B⟩ :=qM (e:=e) (n:=k) K.out ω;have b:(dY e k st).at_=st.at_+k:=s;have E:Hid (dY e (k+1) st=moved (bW e (dY e k st) (st.at_+k))):=by show _=_;rw[Qy,s]
 have a:(dY e k st).base<=st.at_+k:=by rw[B];have:=K.out.lo;omega
 have l:=D7 (st.at_+k) hf a (by rw[C];omega);obtain⟨-, -, -, -, -,J, -, -⟩ :=si hf;rw[b]at J;obtain⟨T,x⟩ :=ν (st.at_+k);have P:Hid (st.at_+(k+1)=T+1):=by show _=_;omega
 have O:(0:Int)<=T/\(T:Int)<=100000000000:=ω;rw[x]at l J E;have p:Hid ((bW e (dY e k st) T).at_=T):=by show _=_;rw[(yY e _ _).2.1,b,x]
 clear b x C s B a hN
 go_wp2_with fail;refine l.mono ?_;rintro r z ⟨rfl, ⟨d,m,o⟩,H⟩;obtain⟨-, -, -, -, -,y, -, -⟩ :=si o;have Q:=o.cell.frozen' (i:=5) ω;rw[p.out]at y;have j:eC z b0 g e (bW e (dY e k st) T) ((bW e (dY e k st) T).at_+1) A n c gm d m Ap np cp:=by rw[p.out];exact o
 obtain⟨v,G⟩ :=j.moved (T:=(T:Int)+1) (by rw[p.out]);rw[p.out]at v
 have M:Ez w b0 g e st A n c gm Ap np cp N (.int .i64 ((k:Int)+1)) (z.setCell ⟨g,5,none⟩ (.int .i64 ((T:Int)+1))):=
  ⟨k+1,d,m,u,by go_num,by rw[E.out,P.out];exact v,(I.trans H λq t=> .inl t).trans G λq t=> .inl t⟩
 clear o v H G j
 go_wp2_with fail;go_roundw
 case rel=>exact M
 case measure=>simp [intOf];omega
end
def tkT (a b c:Int):Nat->Value
 | 0=> .int .u8 a
 | 1=> .int .i64 b
 | _=> .int .i64 c
theorem zm (w:World) (a b c:Int):Ar (w.alloc (.cells #[.int .u8 a, .int .i64 b, .int .i64 c] 109)) w.heap.size 3 (tkT a b c):=
 Ar.new w #[.int .u8 a, .int .i64 b, .int .i64 c] 109 (show(#[.int .u8 a, .int .i64 b, .int .i64 c]:Array Value).size=3 from rfl) λi hi=>by
  obtain rfl | rfl | rfl:i=0\/i=1\/i=2:=ω;all_goals rfl
theorem dZ {w:World} {g:Nat} {a b c:Int} (h:Ar w g 3 (tkT a b c)):w.cell? ⟨g,0,none⟩ =some (.int .u8 a)/\w.cell? ⟨g,1,none⟩ =some (.int .i64 b)/\w.cell? ⟨g,2,none⟩ =some (.int .i64 c)/\
  w.frozen? ⟨g,0,none⟩ =false/\w.frozen? ⟨g,1,none⟩ =false/\w.frozen? ⟨g,2,none⟩ =false:=
 ⟨h.cell (i:=0) ω,h.cell (i:=1) ω,h.cell (i:=2) ω,h.frozen' (i:=0) ω,h.frozen' (i:=1) ω,h.frozen' (i:=2) ω⟩
def GI (w:World) (b0 g:Nat) (e:oW) (R:cu×ja) (A:Option Addr) (n c gm:Nat) (Ap:Option Addr) (np cp:Nat) (r:Ending) (w':World):Prop:=
 r= .returned (.agg #[.int .u8 R.1.lit, .int .i64 R.1.len, .int .i64 R.1.bk])/\(∃nm Dm,eC w' b0 g e R.2 R.2.at_ A n c gm nm Dm Ap np cp)/\bj w w' (FF A gm Ap g)
section
variable {w w' w1 w2:World} {b0 g b n c gm nm np cp:Nat} {e:oW} {st:ja} {A Ap:Option Addr} {Dm:DataW Unit}
theorem pU {d:World} {F:Nat->Value} {a x y:Int} {st':ja} (h:eC w b0 g e st b A n c gm nm Dm Ap np cp) {f:Nat} {l:DataW Unit} (o:eC d b0 g e st' st'.at_ A n c gm f l Ap np cp) (m:bj w d (FF A gm Ap g)) (ar:Ar d w.heap.size 3 F):
  GI w b0 g e (⟨a,x,y⟩,st') A n c gm Ap np cp (.returned (.agg #[.int .u8 a, .int .i64 x, .int .i64 y])) (((d.setCell ⟨w.heap.size,0,none⟩ (.int .u8 a)).setCell ⟨w.heap.size,1,none⟩ (.int .i64 x)).setCell ⟨w.heap.size,2,none⟩ (.int .i64 y)):=by
 have i:bj d (((d.setCell ⟨w.heap.size,0,none⟩ (.int .u8 a)).setCell ⟨w.heap.size,1,none⟩ (.int .i64 x)).setCell ⟨w.heap.size,2,none⟩ (.int .i64 y)) (λk=>k=w.heap.size):=
  (((bj.refl d (λk=>k=w.heap.size)).setCell (p:= ⟨w.heap.size,0,none⟩) (.inl rfl) _).setCell (p:= ⟨w.heap.size,1,none⟩) (.inl rfl) _).setCell (p:= ⟨w.heap.size,2,none⟩) (.inl rfl) _
 exact⟨rfl, ⟨f,l,o.fz i λk j e=>by have:=(h.eJ j).2;omega⟩,m.trans i λk j=> .inr ω⟩
theorem IV (h:eC w b0 g e st st.at_ A n c gm nm Dm Ap np cp) (J:st.at_<st.D.length):
  Calls Tryz.prog 63 #[.pointer (some ⟨g,0,none⟩)] w (GI w b0 g e (fN e st) A n c gm Ap np cp):=by
 have kC:=wR (e:=e) h.ok;obtain⟨N1,JU, -,cx,UI,Xm,kO,ct, -⟩ :=oU (e:=e) h.ok J
 have UB:fN e st=(if(dw e st st.at_).1=0 then(rv st,dY e 1 st)
  else if e.lazy=true/\(dw e st st.at_).1<e.nice/\st.at_+1<st.D.length then
   (if(dw e st st.at_).1<(dw e (bW e st st.at_) (st.at_+1)).1 then(rv st,moved (bW e st st.at_))
   else(⟨0,(dw e st st.at_).1,(dw e st st.at_).2⟩,dY e ((dw e st st.at_).1-1) (moved (bW e st st.at_))))
  else(⟨0,(dw e st st.at_).1,(dw e st st.at_).2⟩,dY e (dw e st st.at_).1 st)):=rfl
 obtain⟨R,hR⟩ :=ν (fN e st);obtain⟨B,hB⟩ :=ν (dw e st st.at_);rw[hB]at kC;rw[hR,hB]at UB;rw[hR];obtain⟨L,d⟩ :=B
 have bo:L<=258/\d<=32768/\st.at_+L<=st.D.length:=by
  rcases kC with ⟨h1,h2⟩ | ⟨-,h1,h2, -,h3, -⟩
  · dsimp only at h1 h2;omega
  dsimp only at h1 h2 h3;omega
 have dp:(0:Int)<=L/\(L:Int)<=258/\(0:Int)<=d/\(d:Int)<=32768:=ω;have Xt:=h.cell.lt;have M:=(aw w.heap.size w).alloc (ag _) (.cells #[.int .u8 0, .int .i64 0, .int .i64 0] 109);have h0:=h.keeps M;have bX:=zm w 0 0 0;have Nx:=GY st.at_ h0 h.ok.lo;rw[hB]at Nx;have kg:=h.big;obtain⟨T,hT⟩ :=ν (st.at_);have dk:(0:Int)<=T/\(T:Int)<=100000000000:=ω;obtain⟨c0,c1,c2,c3,c4,c5,c6,c7⟩ :=si h;rw[hT]at c5;have pA:=η UB;have HB:=η hB;have Y:=η hT;obtain⟨v,hv⟩ :=ν (ix st.D st.at_);have cW:Hid (rv st= ⟨v,0,0⟩):=by show _=_;unfold rv;rw[hv]
 rw[hT]at Nx
 have ci:∀W,eC W b0 g e st st.at_ A n c gm nm Dm Ap np cp->Calls Tryz.prog 83 #[.pointer (some ⟨g,0,none⟩), .int .i64 T] W λr w'=>r= .returned (.int .u8 v)/\∃q,w'=W.drewN q:=λW hf=>by
  have:=ES hf st.at_ h.ok.lo J
  rwa [hv,hT]at this
 have Zx:=η J;clear UB hB hT hv kC UI Xm kO ct cx JU J hR;go_enter Tryz.func63,Tryz.ntmps63
 go_wp2_with fail;refine Nx.mono ?_;rintro r w1 ⟨rfl,al⟩;dsimp only;have YT:=M.trans (al.mono M.size);have Y6:=bX.keeps al;have vE:=YT.alloc YT.size (.cells #[.int .u8 0, .int .i64 L, .int .i64 d] 109);have ac:=h.keeps vE;have bs:=(si ac).2.2.2.2.2.1;rw[Y.out]at bs;have at1:=zm w1 0 L d;have bI:=Y6.alloc (.cells #[.int .u8 0, .int .i64 L, .int .i64 d] 109);obtain⟨G,hG⟩ :=ν (w1.heap.size);have de:g<G:=by have:=YT.size;omega
 have cX:w.heap.size<G:=by have:=Y6.lt;omega
 rw[hG]at at1
 go_wp2_with fail;refine(ci _ ac).mono ?_;rintro r w2 ⟨rfl,q2,rfl⟩;go_upto_region 3 with fail
 have ah:=(below_drewN vE q2).alloc (below_drewN vE q2).size (.cells #[.int .u8 v, .int .i64 0, .int .i64 0] 109);have u:=(bI.drewN q2).alloc (.cells #[.int .u8 v, .int .i64 0, .int .i64 0] 109);have Xk:=(at1.drewN q2).alloc (.cells #[.int .u8 v, .int .i64 0, .int .i64 0] 109);have I:=zm ((w1.alloc (.cells #[.int .u8 0, .int .i64 L, .int .i64 d] 109)).drewN q2) v 0 0;have ap:((w1.alloc (.cells #[.int .u8 0, .int .i64 L, .int .i64 d] 109)).drewN q2).heap.size=G+1:=by rw[<-hG];simp [World.drewN]
 rw[ap]at I;clear ap;generalize ((w1.alloc (.cells #[.int .u8 0, .int .i64 L, .int .i64 d] 109)).drewN q2).alloc (.cells #[.int .u8 v, .int .i64 0, .int .i64 0] 109)=w3 at*;clear bI Y6 bX at1 vE ac bs YT al M h0 Nx;have b:=h.keeps ah;have s:bj w w3 (FF A gm Ap g):=bj.bA ah;have t:Hid (∀k,w.heap.size<=k->¬FF A gm Ap g k):=λk a hF=>by have:=(h.eJ hF).2;omega
 obtain⟨c0,c1,c2,c3,c4,c5,c6,c7⟩ :=si b;rw[Y.out]at c5;obtain⟨S,Q,P, -, -, -⟩ :=dZ Xk;obtain⟨l0,l1,l2, -, -, -⟩ :=dZ I;by_cases O:L=0
 · have C:Hid (R=(⟨v,0,0⟩,dY e 1 st)):=by show _=_;rw[pA.out,ae O,cW.out]
   have hp:=sN 1 b Zx.out;have dl:(L:Int)=0:=ω;obtain⟨-, -,V, -⟩ :=qM (e:=e) (n:=1) h.ok Zx.out;have pj:=η V;clear V hG
   go_wp2_with fail;refine hp.mono ?_;rintro r w4 ⟨rfl, ⟨j,o,Zn⟩,l⟩;have H:=l.ar u (t.out _ (ag _));have cD:=l.ar I (t.out _ ω);have Lm:eC w4 b0 g e (dY e 1 st) (dY e 1 st).at_ A n c gm j o Ap np cp:=by rw[pj.out];exact Zn
   have co:=s.trans l λk a=> .inl a;obtain⟨l0,l1,l2, -, -, -⟩ :=dZ cD;obtain⟨z,y,x,z0,z1,z2⟩ :=dZ H
   go_wp2_with fail;refine bh (v:= .agg #[.int .u8 v, .int .i64 0, .int .i64 0]) (by simp [results,Tryz.results63,go_sem,z,y,x]) rfl ?_;rw[C.out];exact pU h Lm co H
 have f:Hid (∀q,Calls Tryz.prog 85 #[.pointer (some ⟨g,0,none⟩)] (w3.drewN q) λr w'=>r= .returned (.int .i64 st.D.length)/\∃m,w'=(w3.drewN q).drewN m):=λq=>yX (b.drewN q);obtain⟨DL,YH⟩ :=ν (st.D.length);rw[YH]at f bo kg;obtain⟨lz,ab⟩ :=ν (e.lazy);obtain⟨nc,UA⟩ :=ν (e.nice);rw[ab]at c2;rw[UA]at c1;have bp:((L:Int)==0)=false:=by simpa using O
 have N:Hid (st.at_+L<=st.D.length):=by show _<=_;rw[YH];exact bo.2.2
 obtain⟨-, -,V, -⟩ :=qM (e:=e) (n:=L) h.ok N.out;have pj:=η V;have cE:=η YH
 have X:Hid (R=if lz=true/\L<nc/\T+1<DL then
   (if L<(dw e (bW e st T) (T+1)).1 then(rv st,moved (bW e st T))else(⟨0,L,d⟩,dY e (L-1) (moved (bW e st T))))
   else(⟨0,L,d⟩,dY e L st)):=by
  show _=_;rw[pA.out,aa O,ab,UA,YH,Y.out]
 have F:∀q,bj w3 (w3.drewN q) (FF A gm Ap g):=λq=>(bj.refl w3 _).drewN q;have dy:(DL:Int)<=100000000000:=ω;clear V hG YH O ab UA kg pA;cases lz with
 | false=>
   have C:Hid (R=(⟨0,L,d⟩,dY e L st)):=by show _=_;rw[X.out,aa (λh=>by simp at h)]
   clear X
   go_wp2_with fail;go_quiet ((go_at_call 85;exact dI (f.out _)))
   go_wp2_with fail;refine(sN L (b.drewN _) N.out).mono ?_;rintro r w4 ⟨rfl, ⟨j,o,Zn⟩,l⟩;have F:=s.trans ((F nq).trans l λk a=> .inl a) λk a=> .inl a;have H:=l.ar (u.drewN nq) (t.out _ (ag _));have at4:=l.ar (Xk.drewN nq) (t.out _ ω);have Lm:eC w4 b0 g e (dY e L st) (dY e L st).at_ A n c gm j o Ap np cp:=by rw[pj.out];exact Zn
   obtain⟨S,Q,P, -, -, -⟩ :=dZ at4;obtain⟨z,y,x,z0,z1,z2⟩ :=dZ H
   go_wp2_with fail;refine bh (v:= .agg #[.int .u8 0, .int .i64 L, .int .i64 d]) (by simp [results,Tryz.results63,go_sem,z,y,x]) rfl ?_;rw[C.out];exact pU h Lm F H
 | true=>
   by_cases Im:L<nc
   rotate_left
   · have cg:¬(L:Int)<(nc:Int):=ω;have C:Hid (R=(⟨0,L,d⟩,dY e L st)):=by show _=_;rw[X.out,aa (λh=>Im h.2.1)]
     clear X
     go_wp2_with fail;go_quiet ((go_at_call 85;exact dI (f.out _)))
     go_wp2_with fail;refine(sN L (b.drewN _) N.out).mono ?_;rintro r w4 ⟨rfl, ⟨j,o,Zn⟩,l⟩;have F:=s.trans ((F nq).trans l λk a=> .inl a) λk a=> .inl a;have H:=l.ar (u.drewN nq) (t.out _ (ag _));have at4:=l.ar (Xk.drewN nq) (t.out _ ω);have Lm:eC w4 b0 g e (dY e L st) (dY e L st).at_ A n c gm j o Ap np cp:=by rw[pj.out];exact Zn
     obtain⟨S,Q,P, -, -, -⟩ :=dZ at4;obtain⟨z,y,x,z0,z1,z2⟩ :=dZ H
     go_wp2_with fail;refine bh (v:= .agg #[.int .u8 0, .int .i64 L, .int .i64 d]) (by simp [results,Tryz.results63,go_sem,z,y,x]) rfl ?_;rw[C.out];exact pU h Lm F H
   have cg:(L:Int)<(nc:Int):=ω;by_cases E:T+1<DL
   rotate_left
   · have cd:¬(T:Int)+1<(DL:Int):=ω;have C:Hid (R=(⟨0,L,d⟩,dY e L st)):=by show _=_;rw[X.out,aa (λh=>E h.2.2)]
     clear X
     go_wp2_with fail;go_quiet ((go_at_call 85;exact dI (f.out _)))
     go_wp2_with fail;refine(sN L (b.drewN _) N.out).mono ?_;rintro r w4 ⟨rfl, ⟨j,o,Zn⟩,l⟩;have F:=s.trans ((F nq).trans l λk a=> .inl a) λk a=> .inl a;have H:=l.ar (u.drewN nq) (t.out _ (ag _));have at4:=l.ar (Xk.drewN nq) (t.out _ ω);have Lm:eC w4 b0 g e (dY e L st) (dY e L st).at_ A n c gm j o Ap np cp:=by rw[pj.out];exact Zn
     obtain⟨S,Q,P, -, -, -⟩ :=dZ at4;obtain⟨z,y,x,z0,z1,z2⟩ :=dZ H
     go_wp2_with fail;refine bh (v:= .agg #[.int .u8 0, .int .i64 L, .int .i64 d]) (by simp [results,Tryz.results63,go_sem,z,y,x]) rfl ?_;rw[C.out];exact pU h Lm F H
   have cd:(T:Int)+1<(DL:Int):=ω;have am:Hid (R=if L<(dw e (bW e st T) (T+1)).1 then(rv st,moved (bW e st T))else(⟨0,L,d⟩,dY e (L-1) (moved (bW e st T)))):=by show _=_;rw[X.out,ae ⟨rfl,Im,E⟩]
   have cm:Hid (∀q,Calls Tryz.prog 86 #[.pointer (some ⟨g,0,none⟩), .int .i64 T] (w3.drewN q) (sX (w3.drewN q) b0 g e (bW e st T) (T+1) A n c gm Ap np cp)):=λq=>by
    have:=D7 st.at_ (b.drewN q) h.ok.lo Zx.out
    rwa [Y.out]at this
   have JS:=yY e st T;have jA:Hid ((bW e st T).at_=T):=by show _=_;rw[JS.2.1,Y.out]
   have cs:(bW e st T).base<=T+1:=by rw[JS.2.2];have:=h.ok.lo;have:=Y.out;omega
   have TP:Hid ((moved (bW e st T)).D.length=DL):=by show _=_;rw[<-cE.out];exact aL List.length JS.1
   have kC:=wR (e:=e) (st:=bW e st T) (p:=T+1) (by
    have:=h.ok.enter (e:=e) (p:=st.at_) Zx.out
    rwa [Y.out]at this)
   obtain⟨⟨U,ud⟩,hU⟩ :∃U,dw e (bW e st T) (T+1)=U:= ⟨_,rfl⟩;rw[hU]at am kC
   have dj:U<=258/\ud<=32768:=by
    rcases kC with ⟨h1,h2⟩ | ⟨-,h1,h2, -,h3, -⟩
    · dsimp only at h1 h2;omega
    dsimp only at h1 h2 h3;omega
   have HU:=η hU;have bl:((T+1:Nat):Int)=(T:Int)+1:=ω;have sY:=η bl;clear X JS kC hU bl
   go_wp2_with fail;go_quiet ((go_at_call 85;exact dI (f.out _)))
   go_wp2_with fail;refine(cm.out _).mono ?_;rintro r w5 ⟨rfl, ⟨cc,cL,Ln⟩,nL⟩;have be:=s.trans ((F nq).trans nL λk a=> .inl a) λk a=> .inl a;have bE:=nL.ar (u.drewN nq) (t.out _ (ag _));have at5:=nL.ar (Xk.drewN nq) (t.out _ ω);have ao:=nL.ar (I.drewN nq) (t.out _ ω);obtain⟨-, -, -, -, -,bt, -, -⟩ :=si Ln;rw[jA.out]at bt;have Lf:=GY (T+1) Ln cs;rw[HU.out,sY.out]at Lf;clear b s u Xk I ah c0 c1 c2 c3 c4 c5 c6 c7 S Q P l0 l1 l2 F nL
   go_wp2_with fail;refine Lf.mono ?_;rintro r Z ⟨rfl,mb⟩;dsimp only;have db:=mb.size;have I9:=mb.alloc mb.size (.cells #[.int .u8 0, .int .i64 U, .int .i64 ud] 109);have Ce:=Ln.keeps I9;have Gr:bj w (Z.alloc (.cells #[.int .u8 0, .int .i64 U, .int .i64 ud] 109)) (FF A gm Ap g):=be.trans (bj.bA I9) λk a=> .inl a;have bB:=bE.keeps I9;have bv:=at5.keeps I9;have ca:=ao.keeps I9;have cz:=zm Z 0 U ud;have du:G+1<Z.heap.size:=by have:=ao.lt;omega
   have da:(Z.alloc (.cells #[.int .u8 0, .int .i64 U, .int .i64 ud] 109)).heap.size=Z.heap.size+1:=σ;go_upto_region 9 with fail
   generalize ds:Z.heap.size=G7 at*;generalize Z.alloc (.cells #[.int .u8 0, .int .i64 U, .int .i64 ud] 109)=w7 at*;clear I9 bE at5 ao Ln mb bt be Lf;obtain⟨-, -, -, -, -,c5, -, -⟩ :=si Ce;rw[jA.out]at c5;have z5:=Ce.cell.frozen' (i:=5) ω;obtain⟨S,Q,P, -, -, -⟩ :=dZ bv;obtain⟨l0,l1,l2, -, -, -⟩ :=dZ ca;obtain⟨u0,u1,u2, -, -, -⟩ :=dZ cz;obtain⟨z,y,x,z0,z1,z2⟩ :=dZ bB;have cl:eC w7 b0 g e (bW e st T) ((bW e st T).at_+1) A n c gm cc cL Ap np cp:=by rw[jA.out];exact Ce
   obtain⟨K,cq⟩ :=cl.moved (T:=(T:Int)+1) (by rw[jA.out]);have aE:=Gr.trans cq λk a=> .inl a;have ur:g≠w.heap.size:=ω;have ch:w.heap.size≠g:=ω;have an:Ar _ w.heap.size 3 _:=bB.far (p:= ⟨g,5,none⟩) ch (.int .i64 ((T:Int)+1));have at8:Ar _ G 3 _:=bv.far (p:= ⟨g,5,none⟩) ξ (.int .i64 ((T:Int)+1));have cB:Ar _ (G+1) 3 _:=ca.far (p:= ⟨g,5,none⟩) ξ (.int .i64 ((T:Int)+1));have hm:(moved (bW e st T)).at_=T+1:=by show(bW e st T).at_+1=_;rw[jA.out]
   rw[jA.out,<-hm]at K;have HM:=η hm;clear hm;have dd:g≠G+1/\g≠G:=ω;by_cases bi:L<U
   · have cw:(L:Int)<(U:Int):=ω;have C:Hid (R=(⟨v,0,0⟩,moved (bW e st T))):=by show _=_;rw[am.out,ae bi,cW.out]
     obtain⟨S,Q,P, -, -, -⟩ :=dZ at8;obtain⟨l0,l1,l2, -, -, -⟩ :=dZ cB;obtain⟨z,y,x,z0,z1,z2⟩ :=dZ an
     go_wp2_with fail;refine bh (v:= .agg #[.int .u8 v, .int .i64 0, .int .i64 0]) (by simp [results,Tryz.results63,go_sem,z,y,x]) rfl ?_;rw[C.out];exact pU h K aE an
   have cw:¬(L:Int)<(U:Int):=ω;have C:Hid (R=(⟨0,L,d⟩,dY e (L-1) (moved (bW e st T)))):=by show _=_;rw[am.out,aa bi]
   obtain⟨L1,gR⟩ :=ν (L-1)
   have dq:(L:Int)-1=(L1:Int):=by have h5:L≠0:=by(intro h6;rw[h6]at bp;simp at bp)
                                  omega
   rw[gR]at C;have UY:Hid ((moved (bW e st T)).at_+L1<=(moved (bW e st T)).D.length):=by show _<=_;rw[HM.out,TP.out];have:=Y.out;omega
   obtain⟨-, -,V, -⟩ :=qM (e:=e) (n:=L1) K.ok UY.out;have cv:=η V;have ce:=sN L1 K UY.out;obtain⟨S,Q,P, -, -, -⟩ :=dZ at8;clear V gR
   go_wp2_with fail;refine ce.mono ?_;rintro r w9 ⟨rfl, ⟨cb,cH,ck⟩,ad⟩;have cr:=aE.trans ad λk a=> .inl a;have bx:=ad.ar an (t.out _ (ag _));have cA:=ad.ar at8 (t.out _ ω);have cj:eC w9 b0 g e (dY e L1 (moved (bW e st T))) (dY e L1 (moved (bW e st T))).at_ A n c gm cb cH Ap np cp:=by rw[cv.out];exact ck
   obtain⟨S,Q,P, -, -, -⟩ :=dZ cA;obtain⟨z,y,x,z0,z1,z2⟩ :=dZ bx
   go_wp2_with fail;refine bh (v:= .agg #[.int .u8 0, .int .i64 L, .int .i64 d]) (by simp [results,Tryz.results63,go_sem,z,y,x]) rfl ?_;rw[C.out];exact pU h cj cr bx
end
theorem lV.lit (w:World) (t:cu):lV (w.alloc (.cells #[.int .u8 t.lit, .int .i64 t.len, .int .i64 t.bk] 109)) (w.heap.size+1) (some ⟨w.heap.size,0,none⟩) 1 [t]:=by
 have h:=BP w t.lit t.len t.bk 109;refine⟨rfl,λ_=> ⟨_,rfl,σ,λi hi=> ?_⟩⟩;obtain rfl:i=0:=ω;exact⟨by rw[nY];exact h.cell (i:=0) ω,by rw[nY];exact h.cell (i:=1) ω,by rw[nY];exact h.cell (i:=2) ω⟩
def Km (w:World) (b0 g:Nat) (e:oW) (st:ja) (left:Nat) (A:Option Addr) (n c gm:Nat) (Ap:Option Addr) (np cp:Nat) (r:Ending) (w':World):Prop:=
 ∃(l:List cu) (st':ja) (At:Option Addr) (nt ct:Nat),r= .returned (.slice At nt ct)/\yQ e left st l st'/\st'.D.length-st'.at_<=left/\jW w' w.heap.size At nt ct l/\(∃nm Dm,eC w' b0 g e st' st'.at_ A n c gm nm Dm Ap np cp)/\bj w w' (FF A gm Ap g)
def wO (w:World) (b0 g:Nat) (e:oW) (st:ja) (left:Nat) (A:Option Addr) (n c gm:Nat) (Ap:Option Addr) (np cp:Nat) (gk:Nat) (o:Value) (wr:World):Prop:=
 ∃(l:List cu) (st':ja) (At:Option Addr) (nt ct nm:Nat) (Dm:DataW Unit),o= .slice At nt ct/\yQ e left st l st'/\jW wr w.heap.size At nt ct l/\eC wr b0 g e st' st'.at_ A n c gm nm Dm Ap np cp/\bj w wr (FF A gm Ap g)/\Hid (gk+st'.at_=st'.D.length)
section
variable {w w' w1 w2:World} {b0 g b n c gm nm np cp:Nat} {e:oW} {st:ja} {A Ap:Option Addr} {Dm:DataW Unit}
theorem y7 (fin:Bool) (h:eC w b0 g e st st.at_ A n c gm nm Dm Ap np cp):
  Calls Tryz.prog 41 #[.pointer (some ⟨g,0,none⟩), .bool fin] w (Km w b0 g e st (if fin then 0 else 261) A n c gm Ap np cp):=by
 obtain⟨left,pO⟩ :=ν ((if fin then 0 else 261));have p:wO w b0 g e st left A n c gm Ap np cp (st.D.length-st.at_) (.slice none 0 0) w:= ⟨[],st,none,0,0,nm,Dm,rfl, .nil st, ⟨rfl,Own.dK⟩,h,bj.refl w _,by show _=_;have:=h.ok.hi;omega⟩;rw[pO];obtain⟨i0,hi,N,M,L⟩ :=aJ Ek;have Hi:=η hi;have gV:=η N;have fY:=η M;have gW:=η L;have kB:=η h.ok;have kg:=η h.big;have EZ:Hid (∀k,w.heap.size<=k->¬FF A gm Ap g k):=λk b hF=>by have:=(h.eJ hF).2;omega
 have Z:Hid (∀k,FF A gm Ap g k->k<w.heap.size):=λk b=>(h.eJ b).2;have ac:(fin=true/\left=0)\/(fin=false/\left=261):=by cases fin <;> simp at pO <;> simp [pO]
 clear hi N M L pO;go_enter Tryz.func41,Tryz.ntmps41;rcases ac with ⟨rfl,rfl⟩ | ⟨rfl,rfl⟩
 · go_wp2_with fail;go_loopg [5] (st.D.length-st.at_) (wO w b0 g e st _ A n c gm Ap np cp)
   case atStart=>exact p
   clear p;obtain⟨l,st',At,nt,ct,y,XL,rfl,a,m,hf,V,Ut⟩ :=hrel;have s:=FY a kB.out;have B:=yo hf;obtain⟨W,H⟩ :=ν (st'.D.length-st'.at_);rw[H]at B;have mL:nt<=100000000000:=by have:=m.1;have:=s.2.2.1;have:=s.1.hi;have:=aL List.length s.2.1;have:=kg.out;omega
   have J:=η H;clear H s;by_cases ab:(0:Int)<(W:Int)
   rotate_left
   · go_wp2_with fail;refine B.mono ?_;rintro r w5 ⟨rfl,q5,rfl⟩
     go_wp2_with fail;go_returns;exact⟨l,st',At,nt,ct,rfl,a,by have:=J.out;omega, ⟨m.1,m.2.drewN q5⟩, ⟨y,XL,hf.drewN q5⟩,V.drewN q5⟩
   have O:Hid (st'.at_<st'.D.length):=by show _<_;have:=J.out;omega
   obtain⟨N1,JU, -,I, -,Xm,X, -, -⟩ :=oU (e:=e) hf.ok O.out;have u:Hid ((fN e st').2.D.length-(fN e st').2.at_<gk/\(fN e st').2.at_<=(fN e st').2.D.length):=by show _<_/\_<=_;rw[Xm,X];have:=Ut.out;omega
   have C:=yQ.snoc a (show _<_ by have:=J.out;omega);clear JU I Xm X
   go_wp2_with fail;refine B.mono ?_;rintro r w5 ⟨rfl,q5,rfl⟩;have Q:=hf.drewN q5;have U:=V.drewN q5;have t:jW (wr.drewN q5) w.heap.size At nt ct l:= ⟨m.1,m.2.drewN q5⟩
   go_wp2_with fail;refine(IV Q O.out).mono ?_;rintro r f ⟨rfl, ⟨x,K,v⟩,G⟩;have E:jW f w.heap.size At nt ct l:= ⟨t.1,G.own t.2 λq hq=>EZ.out q (t.2.lt hq).1⟩;have T:=U.trans G λk b=> .inl b;obtain⟨R,Y⟩ :=ν (fN e st');rw[Y]at v u C⊢;obtain⟨⟨tl,i,td⟩,Wx⟩ :=R;dsimp only at v u C⊢;have P:=lV.lit f ⟨tl,i,td⟩;dsimp only at P;have F:=v.keeps ((aw _ f).alloc (ag _) (.cells #[.int .u8 tl, .int .i64 i, .int .i64 td] 109));have o:=T.trans (bj.bA (S:=FF A gm Ap g) ((aw _ f).alloc (ag _) (.cells #[.int .u8 tl, .int .i64 i, .int .i64 td] 109))) λk b=> .inl b;have j:jW (f.alloc (.cells #[.int .u8 tl, .int .i64 i, .int .i64 td] 109)) w.heap.size At nt ct l:= ⟨E.1,E.2.alloc _⟩;have z:=o.size;clear Q U t G E Y v T
   go_wp2_with (at_builtin;(refine mY w.heap.size i0 rfl (.tmp 14) (.tmp 17) rfl Hi.out gV.out fY.out gW.out rfl j rfl P ω z ?_)
                intro A7 c7 w7 Ch K1 Aa)
   have d:bj (f.alloc (.cells #[.int .u8 tl, .int .i64 i, .int .i64 td] 109)) w7 (λk=>w.heap.size<=k):=(bj.refl _ _).grown K1 λk b=> .inl (j.2.lt b).1;have Ce:=F.fz d λk b h2=>by have:=Z.out k b;omega
   have Gr:=o.trans d λk b=> .inr b;go_roundg (Wx.D.length-Wx.at_)
   case measure=>exact u.out.1
   case rel=>exact⟨_,Wx,A7,nt+1,c7,x,K,rfl,C,Ch,Ce,Gr,by show _=_;have:=u.out.2;omega⟩
 go_wp2_with fail;go_loopg [5] (st.D.length-st.at_) (wO w b0 g e st _ A n c gm Ap np cp)
 case atStart=>exact p
 clear p;obtain⟨l,st',At,nt,ct,y,XL,rfl,a,m,hf,V,Ut⟩ :=hrel;have s:=FY a kB.out;have B:=yo hf;obtain⟨W,H⟩ :=ν (st'.D.length-st'.at_);rw[H]at B;have mL:nt<=100000000000:=by have:=m.1;have:=s.2.2.1;have:=s.1.hi;have:=aL List.length s.2.1;have:=kg.out;omega
 have J:=η H;clear H s;by_cases ab:(261:Int)<(W:Int)
 rotate_left
 · go_wp2_with fail;refine B.mono ?_;rintro r w5 ⟨rfl,q5,rfl⟩
   go_wp2_with fail;go_returns;exact⟨l,st',At,nt,ct,rfl,a,by have:=J.out;omega, ⟨m.1,m.2.drewN q5⟩, ⟨y,XL,hf.drewN q5⟩,V.drewN q5⟩
 have O:Hid (st'.at_<st'.D.length):=by show _<_;have:=J.out;omega
 obtain⟨N1,JU, -,I, -,Xm,X, -, -⟩ :=oU (e:=e) hf.ok O.out;have u:Hid ((fN e st').2.D.length-(fN e st').2.at_<gk/\(fN e st').2.at_<=(fN e st').2.D.length):=by show _<_/\_<=_;rw[Xm,X];have:=Ut.out;omega
 have C:=yQ.snoc a (show _<_ by have:=J.out;omega);clear JU I Xm X
 go_wp2_with fail;refine B.mono ?_;rintro r w5 ⟨rfl,q5,rfl⟩;have Q:=hf.drewN q5;have U:=V.drewN q5;have t:jW (wr.drewN q5) w.heap.size At nt ct l:= ⟨m.1,m.2.drewN q5⟩
 go_wp2_with fail;refine(IV Q O.out).mono ?_;rintro r f ⟨rfl, ⟨x,K,v⟩,G⟩;have E:jW f w.heap.size At nt ct l:= ⟨t.1,G.own t.2 λq hq=>EZ.out q (t.2.lt hq).1⟩;have T:=U.trans G λk b=> .inl b;obtain⟨R,Y⟩ :=ν (fN e st');rw[Y]at v u C⊢;obtain⟨⟨tl,i,td⟩,Wx⟩ :=R;dsimp only at v u C⊢;have P:=lV.lit f ⟨tl,i,td⟩;dsimp only at P;have F:=v.keeps ((aw _ f).alloc (ag _) (.cells #[.int .u8 tl, .int .i64 i, .int .i64 td] 109));have o:=T.trans (bj.bA (S:=FF A gm Ap g) ((aw _ f).alloc (ag _) (.cells #[.int .u8 tl, .int .i64 i, .int .i64 td] 109))) λk b=> .inl b;have j:jW (f.alloc (.cells #[.int .u8 tl, .int .i64 i, .int .i64 td] 109)) w.heap.size At nt ct l:= ⟨E.1,E.2.alloc _⟩;have z:=o.size;clear Q U t G E Y v T
 go_wp2_with (at_builtin;(refine mY w.heap.size i0 rfl (.tmp 14) (.tmp 17) rfl Hi.out gV.out fY.out gW.out rfl j rfl P ω z ?_)
              intro A7 c7 w7 Ch K1 Aa)
 have d:bj (f.alloc (.cells #[.int .u8 tl, .int .i64 i, .int .i64 td] 109)) w7 (λk=>w.heap.size<=k):=(bj.refl _ _).grown K1 λk b=> .inl (j.2.lt b).1;have Ce:=F.fz d λk b h2=>by have:=Z.out k b;omega
 have Gr:=o.trans d λk b=> .inr b;go_roundg (Wx.D.length-Wx.at_)
 case measure=>exact u.out.1
 case rel=>exact⟨_,Wx,A7,nt+1,c7,x,K,rfl,C,Ch,Ce,Gr,by show _=_;have:=u.out.2;omega⟩
end
end Go.Proofs.YtdhmnlpfhfmpfaaGreat
