/-
  part
-/
import Derived.Test.YtdhmnlpfhfmpfaaGreatRev
import Derived.Test.YtdhmnlpfhfmpfaaGreatTab
import Derived.Handy
set_option linter.unusedVariables false
set_option maxRecDepth 100000
set_option maxHeartbeats 4000000
namespace Go.Proofs.YtdhmnlpfhfmpfaaGreat
open Go.RowKit Go.Maps
theorem J0:Keyed Tryz.prog 29 :=int_keyed Tryz.underlying29
theorem Gp (w:World):(zeroValue 3).run Tryz.prog w= .ok (.int .i64 0) w:=by kernel_rfl
theorem IW {x:Int} (h:0<=x/\x<4294967296):keyOf Tryz.prog 29 (.int .u32 x)=some (.int .u32 x):=keyOf_int_mk Tryz.underlying29 (by simp [Lit.wf,IntKind.min,IntKind.max,IntKind.signed,IntKind.bits];omega)
theorem Jk {P:Program} {f:FuncId} {args:Array Value} {w:World} {q n:Nat} {v:Value} (h:Calls P f args (w.drewN (q+n)) λe w'=>e= .returned v/\∃m,w'=(w.drewN (q+n)).drewN m):
  Calls P f args (w.drewN (q+n)) λe a=>e= .returned v/\∃m,a=w.drewN (q+m):=
 h.mono λ_ _ ⟨b,m,hm⟩ => ⟨b,n+m,by rw[hm,World.drewN_drewN,eY]⟩
theorem eG.look {w:World} {b0 g b n c gm nm np cp:Nat} {e:px} {st:jf} {A Ap:ay} {Dm:DataW Unit} (h:eG w b0 g e st b A n c gm nm Dm Ap np cp) {H:Int} (k:0<=H/\H<4294967296) (m:Nat):
  (Instr.lookup 102 (.map (some gm)) (.int .u32 H) true).run Tryz.prog (w.drewN m)= .ok (.tuple #[.int .i64 ((st.head H).getD 0), .bool ((st.head H).isSome)]) (w.drewN m):=by
 have i:=(h.drewN m).map;obtain⟨v,ps,l,f⟩ :=i.look_ok J0 (t:= 102) Tryz.underlying102 (Gp _) (plainElem_int (a:=0) Tryz.underlying3 δ) (IW k);rw[(h.rep.2 H).2]at f;obtain⟨c,rfl,j,_⟩ :=plainElem_int_inv Tryz.underlying3 f
 have:(st.head H).getD 0=c:=by
  have d:=aN Prod.fst j;injection d with d;injection d with d h4
 rw[l,this,(h.rep.2 H).1]
def mV (w:World) (t:Nat×Nat) (r:Ending) (w':World):Prop:=r= .returned (.agg #[.int .u8 0, .int .i64 t.1, .int .i64 t.2])/\Below w.heap.size w w'
def tk (t:Nat×Nat):Nat->Value
 | 0=> .int .u8 0
 | 1=> .int .i64 t.1
 | _=> .int .i64 t.2
theorem a4Q {w:World} {g:Nat} {t:Nat×Nat} (h:Ar w g 3 (tk t)) (a b:Nat):Ar ((w.setCell ⟨g,1,none⟩ (.int .i64 a)).setCell ⟨g,2,none⟩ (.int .i64 b)) g 3 (tk (a,b)):=
 ((h.bK (i:=1) ω _).bK (i:=2) ω _).congr λi hi=>by
   obtain rfl | rfl | rfl:i=0\/i=1\/i=2:=ω;all_goals rfl
theorem Wf (w:World):Ar (w.alloc (.cells #[.int .u8 0, .int .i64 0, .int .i64 0] 109)) w.heap.size 3 (tk (0,0)):=
 Ar.new w #[.int .u8 0, .int .i64 0, .int .i64 0] 109 (show(#[.int .u8 0, .int .i64 0, .int .i64 0]:Array Value).size=3 from rfl) λi hi=>by
  obtain rfl | rfl | rfl:i=0\/i=1\/i=2:=ω;all_goals rfl
theorem wP {w:World} {g:Nat} {t:Nat×Nat} (h:Ar w g 3 (tk t)):w.cell? ⟨g,0,none⟩ =some (.int .u8 0)/\w.cell? ⟨g,1,none⟩ =some (.int .i64 t.1)/\w.cell? ⟨g,2,none⟩ =some (.int .i64 t.2)/\
  w.frozen? ⟨g,0,none⟩ =false/\w.frozen? ⟨g,1,none⟩ =false/\w.frozen? ⟨g,2,none⟩ =false:=
 ⟨h.cell (i:=0) ω,h.cell (i:=1) ω,h.cell (i:=2) ω,h.frozen' (i:=0) ω,h.frozen' (i:=1) ω,h.frozen' (i:=2) ω⟩
def Yn (w:World) (st:jf) (e:px) (p c b:Nat) (R:Nat×Nat) (k m _n:Value) (wr:World):Prop:=
 ∃(a:Nat) (K:Int) (t:Nat×Nat),m= .int .i64 a/\a<=256/\k= .int .i64 K/\ -1<=K/\K<(p:Int)/\Hid (om st.D st.P st.base p e.nice a K t=R)/\t.1<=258/\t.2<=p/\Ar wr b 3 (tk t)/\Ar wr c 3 (tk (0,0))/\Below w.heap.size w wr
section
variable {w w':World} {b0 g n c gm nm np cp:Nat} {e:px} {st:jf} {A Ap:ay} {Dm:DataW Unit}
theorem Hh (p:Nat) (h:eG w b0 g e st p A n c gm nm Dm Ap np cp) (hp:st.base<=p):
  Calls Tryz.prog 82 #[.pointer (some ⟨g,0,none⟩), .int .i64 p] w (mV w (dy e st p)):=by
 obtain⟨c0,c1, -,c3,c4, -,c6,c7⟩ :=sD h;have hb:=h.big;have bs:=h.ok.bl;have bi:=h.eb;have j:=λW (hf:eG W b0 g e st p A n c gm nm Dm Ap np cp)=>zu hf;obtain⟨L,y⟩ :=ν (st.D.length);obtain⟨ch,l⟩ :=ν (e.chain);rw[l]at c0 bi;rw[y]at hb bs;have hI:(p:Int)<=L/\(L:Int)<=100000000000/\(0:Int)<=p/\(0:Int)<=ch/\(ch:Int)<=256:=ω;have HL:=η y;have cu:=η l;have Y6:=h.cell.lt;have C:=((ax _ w).alloc (ai _) (.cells #[.int .u8 0, .int .i64 0, .int .i64 0] 109)).alloc σ (.cells #[.int .u8 0, .int .i64 0, .int .i64 0] 109);have ac:Ar ((w.alloc (.cells #[.int .u8 0, .int .i64 0, .int .i64 0] 109)).alloc (.cells #[.int .u8 0, .int .i64 0, .int .i64 0] 109)) w.heap.size 3 (tk (0,0)):=(Wf w).alloc _
 have ab:Ar ((w.alloc (.cells #[.int .u8 0, .int .i64 0, .int .i64 0] 109)).alloc (.cells #[.int .u8 0, .int .i64 0, .int .i64 0] 109)) (w.heap.size+1) 3 (tk (0,0)):=by
  have:=Wf (w.alloc (.cells #[.int .u8 0, .int .i64 0, .int .i64 0] 109))
  rwa [show(w.alloc (.cells #[.int .u8 0, .int .i64 0, .int .i64 0] 109)).heap.size=w.heap.size+1 by simp]at this
 by_cases x:ch=0
 · have E:Hid (dy e st p=(0,0)):=yg (.inl (by rw[l];exact x));subst x;clear y l;go_enter Tryz.func82,Tryz.ntmps82
   go_wp2_with fail;go_returns;unfold mV;rw[E.out];exact⟨rfl,((ax _ w).alloc (ai _) _).alloc σ _⟩
 have ck:((ch:Int)==0)=false:=by simpa using x
 have F:=h.keeps C;by_cases an:L<p+3
 · have E:Hid (dy e st p=(0,0)):=yg (.inr (by rw[y];exact an));have am:(L:Int)<(p:Int)+3:=ω;rw[y]at j;clear y l x;go_enter Tryz.func82,Tryz.ntmps82
   go_wp2_with fail;refine(j _ F).mono ?_;rintro r w1 ⟨rfl,q1,rfl⟩
   go_wp2_with fail;go_returns;unfold mV;rw[E.out];exact⟨rfl,(((below_drewN C q1).setCell (p:= ⟨w.heap.size,0,none⟩) (ai _) _).setCell (p:= ⟨w.heap.size,1,none⟩) (ai _) _).setCell (p:= ⟨w.heap.size,2,none⟩) (ai _) _⟩
 have am:¬(L:Int)<(p:Int)+3:=ω;obtain⟨H,Y⟩ :=ν (mL st.D p);have Y1:0<=H/\H<4294967296:=by rw[<-Y];have:=VC (ix st.D p) (ix st.D (p+1)) (ix st.D (p+2));unfold mL;omega
 have z:=F.look Y1
 have IE:∀m W,eG W b0 g e st p A n c gm nm Dm Ap np cp->Calls Tryz.prog 106 #[.pointer (some ⟨g,0,none⟩), .int .i64 p] (W.drewN m) λr w'=>r= .returned (.int .u32 H)/\∃q,w'=(W.drewN m).drewN q:=λm W hf=>by
  have:=Iq (hf.drewN m) p hp (by rw[y];omega)
  rwa [Y]at this
 have hs:Hid (∀k,st.head H=some k->dy e st p=om st.D st.P st.base p e.nice ch k (0,0)/\0<=k/\k<(p:Int)):=λk hk=>by
  have h5:=h.ok.hd H k hk;have h6:=Hg (e:=e) (st:=st) (p:=p) (k:=k) (by rw[l];exact x) (by rw[y];omega) (by rw[Y];exact hk);rw[l]at h6;exact⟨h6,h5⟩
 have Cn:Hid (st.head H=none->dy e st p=(0,0)):=λhk=>Hf (by rw[Y];exact hk);rw[y]at j;have HH:=η IE;have ct:=η Y;clear y l x Y IE;obtain⟨hd,tJ⟩ :=ν (st.head H);rw[tJ]at z;have HD:=η tJ;clear tJ;cases hd with
 | none=>
   have E:Hid (dy e st p=(0,0)):=Cn.out HD.out;simp only [Option.getD_none,Option.isSome_none]at z;go_enter Tryz.func82,Tryz.ntmps82
   go_wp2_with fail;refine(j _ F).mono ?_;rintro r w1 ⟨rfl,q1,rfl⟩
   go_wp2_with fail;go_quiet ((go_at_call 106;exact Jk (HH.out _ _ F)))
   go_wp2_with fail
   go_loopw [6,8,9] (λk _ _ wr=>k= .int .i64 0/\Ar wr (w.heap.size+1) 3 (tk (0,0))/\Ar wr w.heap.size 3 (tk (0,0))/\Below w.heap.size w wr) (λ_ _ _ _=>0)
   case atStart=>exact⟨rfl,ab.drewN _,ac.drewN _,below_drewN C _⟩
   obtain⟨rfl,F,h0,b⟩ :=hrel;obtain⟨k0,k1,k2, -, -, -⟩ :=wP F;obtain⟨U,S,Q,z0,z1,z2⟩ :=wP h0;have ap:=F.lt
   go_wp2_with fail;refine bj (v:= .agg #[.int .u8 0, .int .i64 0, .int .i64 0]) (by simp [results,Tryz.results82,go_sem,U,S,Q]) rfl ?_;unfold mV;rw[E.out];exact⟨rfl,((b.setCell (p:= ⟨w.heap.size,0,none⟩) (ai _) _).setCell (p:= ⟨w.heap.size,1,none⟩) (ai _) _).setCell (p:= ⟨w.heap.size,2,none⟩) (ai _) _⟩
 | some k=>
   obtain⟨E,Ds,vq⟩ :=hs.out k HD.out;simp only [Option.getD_some,Option.isSome_some]at z;obtain⟨R,o⟩ :=ν (dy e st p);rw[o]at E⊢;have HB:Hid (om st.D st.P st.base p e.nice ch k (0,0)=R):=E.symm;have hP:Hid (∀q, -1<=ix st.P q/\ix st.P q<=q):=h.ok.prev;obtain⟨B,XY⟩ :=ν (st.base);obtain⟨N0,Lp⟩ :=ν (e.nice);have cs:(0:Int)<=B/\(B:Int)<=(p:Int):=ω;have K3:=η XY;have al:=η Lp;have hn:=h.nB;rw[HL.out]at hn;have Hn:=η hn;have be:Hid (∀gd,Ap=some ⟨gd,0,none⟩->gd<w.heap.size):=λgd e=>(h.xS.2.lt (g:=gd) (by rw[e];rfl)).2;clear E o hs Cn XY Lp hn;go_enter Tryz.func82,Tryz.ntmps82
   go_wp2_with fail;refine(j _ F).mono ?_;rintro r w1 ⟨rfl,q1,rfl⟩
   go_wp2_with fail;go_quiet ((go_at_call 106;exact Jk (HH.out _ _ F)))
   go_wp2_with fail;clear z
   go_loopw [6,8,9] (Yn w st e p w.heap.size (w.heap.size+1) R) (λ_ m _ _=>(intOf m).toNat)
   case atStart=>exact⟨ch,k,(0,0),rfl,ω,rfl,ω,vq,HB,σ,σ,ab.drewN _,ac.drewN _,below_drewN C _⟩
   obtain⟨tr,K,t,rfl,bL,rfl,cr,cn,hF,vx,O9,YN,G,b⟩ :=hrel;obtain⟨T,u⟩ :=t;dsimp only at vx O9;obtain⟨k0,k1,k2,y0,y1,y2⟩ :=wP YN;obtain⟨U,S,Q,z0,z1,z2⟩ :=wP G;have ap:=YN.lt;have hf:=h.keeps b;have cj:g≠w.heap.size+1:=ω;have ci:w.heap.size+1≠g:=ω;obtain⟨c0,c1, -,c3,c4, -,c6,c7⟩ :=sD hf;rw[K3.out]at c4;rw[al.out]at c1;have cl:(0:Int)<=T/\(T:Int)<=258/\(0:Int)<=u:=ω;dsimp only at k1 k2;by_cases I:tr=0
   · have o:Hid (R=(T,u)):=by show _=_;rw[<-hF.out,I];rfl
     have bI:((tr:Int))=0:=ω;subst I;clear hF
     go_wp2_with fail;refine bj (v:= .agg #[.int .u8 0, .int .i64 T, .int .i64 u]) (by simp [results,Tryz.results82,go_sem,U,S,Q]) rfl ?_;unfold mV;rw[o.out];exact⟨rfl,((b.setCell (p:= ⟨w.heap.size,0,none⟩) (ai _) _).setCell (p:= ⟨w.heap.size,1,none⟩) (ai _) _).setCell (p:= ⟨w.heap.size,2,none⟩) (ai _) _⟩
   obtain⟨m,rfl⟩ :∃m,tr=m+1:= ⟨tr-1,ω⟩;have hm:((m+1:Nat):Int)=(m:Int)+1:=ω;have Fj:(0:Int)<=m/\(m:Int)<=255/\(0:Int)<(m:Int)+1:=ω
   have Z:om st.D st.P st.base p e.nice (m+1) K (T,u)=if(B:Int)<=K/\(p:Int)-32768<=K then
     (if 3<=kR st.D K.toNat p/\T<kR st.D K.toNat p then
       (if N0<=kR st.D K.toNat p then(kR st.D K.toNat p,p-K.toNat)else om st.D st.P st.base p e.nice m (ix st.P K.toNat) (kR st.D K.toNat p,p-K.toNat))
     else om st.D st.P st.base p e.nice m (ix st.P K.toNat) (T,u))else(T,u):=by rw[<-K3.out,<-al.out];rfl
   have f:=hF.out;rw[Z]at f;clear Z hF;rw[hm];by_cases M:(B:Int)<=K
   rotate_left
   · have o:Hid (R=(T,u)):=by show _=_;rw[<-f,aa (λh=>M h.1)]
     have bp:K<(B:Int):=ω;clear f M
     go_wp2_with fail;refine bj (v:= .agg #[.int .u8 0, .int .i64 T, .int .i64 u]) (by simp [results,Tryz.results82,go_sem,U,S,Q]) rfl ?_;unfold mV;rw[o.out];exact⟨rfl,((b.setCell (p:= ⟨w.heap.size,0,none⟩) (ai _) _).setCell (p:= ⟨w.heap.size,1,none⟩) (ai _) _).setCell (p:= ⟨w.heap.size,2,none⟩) (ai _) _⟩
   by_cases J:(p:Int)-32768<=K
   rotate_left
   · have o:Hid (R=(T,u)):=by show _=_;rw[<-f,aa (λh=>J h.2)]
     have bp:K<(p:Int)-32768:=ω;clear f J
     go_wp2_with fail;refine bj (v:= .agg #[.int .u8 0, .int .i64 T, .int .i64 u]) (by simp [results,Tryz.results82,go_sem,U,S,Q]) rfl ?_;unfold mV;rw[o.out];exact⟨rfl,((b.setCell (p:= ⟨w.heap.size,0,none⟩) (ai _) _).setCell (p:= ⟨w.heap.size,1,none⟩) (ai _) _).setCell (p:= ⟨w.heap.size,2,none⟩) (ai _) _⟩
   rw[af ⟨M,J⟩]at f;obtain⟨s,rfl⟩ :=aJ (show 0<=K by omega);rw[aX]at f;have pg:=Ro hf s p (by rw[K3.out];omega) ω (by rw[HL.out];omega);have bt:=(JA st.D s p).1;obtain⟨N,hN⟩ :=ν (kR st.D s p);rw[hN]at pg bt f;obtain⟨i,hi⟩ :∃i,s=B+i:= ⟨s-B,ω⟩;have lG:i<n:=by have:=Hn.out;have:=K3.out;omega
   have bB:IntKind.i64.wrap ((s:Int)-(B:Int))=(i:Int):=by rw[aM _ ω];omega
   have cq:(s:Int)-(B:Int)=(i:Int):=ω;have cd:(0:Int)<=i/\(i:Int)<(n:Int):=ω;obtain⟨V,hV⟩ :=ν (ix st.P s);have Lq:=hP.out s;rw[hV]at f Lq;have X: -1<=V/\V<(p:Int):=ω
   have a:∀W,Below w.heap.size w W->∃gd,Ap=some ⟨gd,0,none⟩/\W.cell? ⟨gd,i,none⟩ =some (.int .i64 V):=λW hW=>by
    have:=(h.keeps hW).place lG
    rwa [K3.out,<-hi,hV]at this
   have Vt:(p:Int)-(s:Int)=((p-s:Nat):Int):=ω;have N9:=h.Oj;have cm:(0:Int)<=N/\(N:Int)<=258:=ω;have cb:(i:Int)<(np:Int):=ω;have co:((s:Int)== -1)=false:=σ;have O:=η f;have Ey:=η Vt;clear f hi hN hV Lq lG N9 I Vt;by_cases ah:3<=N
   rotate_left
   · have o:Hid (om st.D st.P st.base p e.nice m V (T,u)=R):=by show _=_;rw[<-O.out,aa (λh=>ah h.1)]
     have ae:(N:Int)<3:=ω;clear O;obtain⟨gd,rfl,cc⟩ :=a _ b;clear a
     go_wp2_with fail;refine pg.mono ?_;rintro r w5 ⟨rfl,q5,rfl⟩
     go_wp2_with fail;go_quiet (fail);go_wp2;go_roundw
     case rel=>exact⟨m,V,(T,u),by go_num,ω,rfl,X.1,X.2,o,vx,O9,YN.drewN _,G.drewN _,below_drewN b _⟩
     case measure=>simp [intOf]
   by_cases ad:T<N
   rotate_left
   · have o:Hid (om st.D st.P st.base p e.nice m V (T,u)=R):=by show _=_;rw[<-O.out,aa (λh=>ad h.2)]
     have ae:(3:Int)<=N/\¬(T:Int)<N:=ω;clear O;obtain⟨gd,rfl,cc⟩ :=a _ b;clear a
     go_wp2_with fail;refine pg.mono ?_;rintro r w5 ⟨rfl,q5,rfl⟩
     go_wp2_with fail;go_quiet (fail);go_wp2;go_roundw
     case rel=>exact⟨m,V,(T,u),by go_num,ω,rfl,X.1,X.2,o,vx,O9,YN.drewN _,G.drewN _,below_drewN b _⟩
     case measure=>simp [intOf]
   have ae:(3:Int)<=N/\(T:Int)<N:=ω;obtain⟨d,hd⟩ :=ν (p-s);have Y0:=O.out;rw[af ⟨ah,ad⟩,hd]at Y0;have ca:(p:Int)-(s:Int)=(d:Int):=by have:=Ey.out;omega
   have bo:d<=p:=ω;by_cases II:N0<=N
   · have o:Hid (R=(N,d)):=by show _=_;rw[<-Y0,af II]
     have ao:(N0:Int)<=(N:Int):=ω;clear Y0 hd O a
     go_wp2_with fail;refine pg.mono ?_;rintro r w5 ⟨rfl,q5,rfl⟩;have Kc:=((below_drewN b q5).setCell (p:= ⟨w.heap.size+1,1,none⟩) σ (.int .i64 N)).setCell (p:= ⟨w.heap.size+1,2,none⟩) σ (.int .i64 d)
     go_wp2_with fail;refine bj (v:= .agg #[.int .u8 0, .int .i64 N, .int .i64 d]) (by simp [results,Tryz.results82,go_sem,U,S,Q]) rfl ?_;unfold mV;rw[o.out];exact⟨rfl,((Kc.setCell (p:= ⟨w.heap.size,0,none⟩) (ai _) _).setCell (p:= ⟨w.heap.size,1,none⟩) (ai _) _).setCell (p:= ⟨w.heap.size,2,none⟩) (ai _) _⟩
   have o:Hid (om st.D st.P st.base p e.nice m V (N,d)=R):=by show _=_;rw[<-Y0,aa II]
   have ao:¬(N0:Int)<=(N:Int):=ω;clear Y0 hd O;obtain⟨gd,rfl,cc⟩ :=a _ b;have cg:=be.out gd rfl;have aE:gd≠w.heap.size+1:=ω;have ce:w.heap.size+1≠gd:=λe=>aE e.symm;clear a
   go_wp2_with fail;refine pg.mono ?_;rintro r w5 ⟨rfl,q5,rfl⟩;have Kc:=((below_drewN b q5).setCell (p:= ⟨w.heap.size+1,1,none⟩) σ (.int .i64 N)).setCell (p:= ⟨w.heap.size+1,2,none⟩) σ (.int .i64 d);have bv:=a4Q (YN.drewN q5) N d;have bx:Ar _ w.heap.size 3 (tk (0,0)):=((G.drewN q5).far (p:= ⟨w.heap.size+1,1,none⟩) σ (.int .i64 N)).far (p:= ⟨w.heap.size+1,2,none⟩) σ (.int .i64 d)
   go_wp2_with fail;go_quiet (fail);go_wp2;go_roundw
   case rel=>exact⟨m,V,(N,d),by go_num,ω,rfl,X.1,X.2,o,ω,bo,bv.drewN _,bx.drewN _,below_drewN Kc _⟩
   case measure=>simp [intOf]
end
theorem ba.bK {k:IntKind} {w:World} {b0 g n c:Nat} {e:TypeId} {l:aj} (h:ba k w b0 e (some ⟨g,0,none⟩) n c l) {i:Nat} (hi:i<n) (v:Int):ba k (w.setCell ⟨g,i,none⟩ (.int k v)) b0 e (some ⟨g,0,none⟩) n c (l.set i v):=
 ⟨by rw[eB];exact h.1,(h.2.bK (i:=i) ω (.int k v)).congr λj a=>by
   unfold upd;rw[VU _ _ _ _ (by rw[<-h.1];exact hi)];split <;> rfl⟩
theorem drop_set {l:aj} {i b:Nat} {v:Int}:(l.set (b+i) v).drop b=(l.drop b).set i v:=by
 rw[List.drop_set,aa ω,bQ]
section
variable {w w' w1 w2:World} {b0 g p n c gm nm np cp gd:Nat} {e:px} {st:jf} {A Ap:ay} {Dm:DataW Unit}
theorem eG.entered (h:eG w b0 g e st p A n c gm nm Dm Ap np cp) (hp:p<st.D.length) {H:Int} (y:mL st.D p=H) (z:0<=H/\H<4294967296) (i:¬(e.chain=0\/st.D.length<p+3)) (d:ak Ap=some gd) (m:bk w w1 (λk=>k=gd))
  (r:ba .i64 w1 b0 3 Ap np cp ((st.P.set p (was st H)).drop st.base)) (v:w1.grownBy w2 (some gm)) (s:w2.ownsMap Tryz.prog 29 (plainElem Tryz.prog 3) gm (nm+1) (Dm.put (.int .u32 H) (.lit (.int .i64 p)))):
  eG w2 b0 g e (bW e st p) (p+1) A n c gm (nm+1) (Dm.put (.int .u32 H) (.lit (.int .i64 p))) Ap np cp/\bk w w2 (FF A gm Ap g):=by
 have l:gd≠g:=λe=>h.d2 (by rw[d,e]);have u:gd≠gm:=λe=>h.d6 (by rw[d,e]);have j:ak A≠some gd:=λe=>h.d4 gd e d;have o:=h.ok.enter (e:=e) (p:=p) hp;have hE:bW e st p={ st with P:=st.P.set p (was st H),head:=λx=>if x=H then some (p:Int)else st.head x }:=by unfold bW;rw[aa i,y]
 have b:bk w1 w2 (λk=>k=gm):=(bk.refl w1 _).grown v λk a=>by injection a with a;exact .inl a.symm
 have t:WideAt.IsKeyLit (.int .u32 H):=by exact(by trivial)
 rw[hE]at o⊢;refine⟨⟨b.ar (m.ar h.cell λe=>l e.symm) λe=>h.d3 e.symm,h.lo,b.dX (m.dX h.own λq f e=>j (by rw[f,e])) λq f e=>h.d5 (by rw[f,e]),b.dX r λq f e=>h.d6 (by rw[f,e]),s,h.rep.put H p t,h.glo,τ h.nmb,h.d1,h.d2,h.d3,h.d4,h.d5,h.d6,o,h.jR,h.eb,h.big⟩, ?_⟩;exact(m.more λk a=> .inr (.inr (.inr (by rw[d,a])))).trans (b.more λk a=> .inr (.inl a)) λk a=> .inl a
def tC (w:World) (b0 g:Nat) (e:px) (st:jf) (b:Nat) (A:ay) (n c gm:Nat) (Ap:ay) (np cp:Nat) (r:Ending) (w':World):Prop:=
 r= .returned (.tuple #[])/\(∃nm Dm,eG w' b0 g e st b A n c gm nm Dm Ap np cp)/\bk w w' (FF A gm Ap g)
theorem Df (p:Nat) (h:eG w b0 g e st p A n c gm nm Dm Ap np cp) (hp:st.base<=p) (IJ:p<st.D.length):
  Calls Tryz.prog 86 #[.pointer (some ⟨g,0,none⟩), .int .i64 p] w (tC w b0 g e (bW e st p) (p+1) A n c gm Ap np cp):=by
 obtain⟨c0,c1, -,c3,c4, -,c6,c7⟩ :=sD h;have hb:=h.big;have ae:=h.eb;have f:=zu h
 have pg:e.chain=0\/st.D.length<p+3->∀q,tC w b0 g e (bW e st p) (p+1) A n c gm Ap np cp (.returned (.tuple #[])) (w.drewN q):=λhc q=>by
  have hE:bW e st p=st:=by unfold bW;rw[af hc]
  have a:=h.drewN q;rw[hE];exact⟨rfl, ⟨nm,Dm,a.cell,a.lo,a.own,a.xS,a.map,a.rep,a.glo,τ a.nmb,a.d1,a.d2,a.d3,a.d4,a.d5,a.d6, ⟨a.ok.len,a.ok.lo,a.ok.hi,IJ,a.ok.prev,λx k hk=>τ (a.ok.hd x k hk)⟩,a.jR,a.eb,a.big⟩,(bk.refl w _).drewN q⟩
 have HS:=η pg;clear pg;obtain⟨L,hL⟩ :=ν (st.D.length);obtain⟨ch,u⟩ :=ν (e.chain);rw[u]at c0 ae;rw[hL]at hb f;have hI:(p:Int)<L/\(L:Int)<=100000000000/\(0:Int)<=p/\(0:Int)<=ch/\(ch:Int)<=256:=ω;have R:=η hL;have M:=η u;clear hL u;by_cases I:ch=0
 · subst I;go_enter Tryz.func86,Tryz.ntmps86
   go_wp2_with fail;go_returns;exact HS.out (.inl M.out) 0
 have ap:((ch:Int)==0)=false:=by simpa using I
 by_cases Z:L<p+3
 · have Y:(L:Int)<(p:Int)+3:=ω;go_enter Tryz.func86,Tryz.ntmps86
   go_wp2_with fail;refine f.mono ?_;rintro r w1 ⟨rfl,q1,rfl⟩
   go_wp2_with fail;go_returns;exact HS.out (.inr (by rw[R.out];exact Z)) q1
 have Y:¬(L:Int)<(p:Int)+3:=ω;obtain⟨H,Q⟩ :=ν (mL st.D p);have y:0<=H/\H<4294967296:=by rw[<-Q];have:=VC (ix st.D p) (ix st.D (p+1)) (ix st.D (p+2));unfold mL;omega
 have IE:∀m,Calls Tryz.prog 106 #[.pointer (some ⟨g,0,none⟩), .int .i64 p] (w.drewN m) λr w'=>r= .returned (.int .u32 H)/\∃q,w'=(w.drewN m).drewN q:=λm=>by
  have:=Iq (h.drewN m) p hp (by rw[R.out];omega)
  rwa [Q]at this
 obtain⟨i,hi⟩ :∃i,p=st.base+i:= ⟨p-st.base,ω⟩;have lG:i<n:=by have:=h.nB;have:=R.out;omega
 have ac:=h.Oj;obtain⟨gd,hA,cc⟩ :=h.place lG;have d:=h.xS;have b:=h.map;have E:¬(e.chain=0\/st.D.length<p+3):=by rw[R.out,M.out];omega
 have ad:gd≠g:=λK=>h.d2 (by rw[hA,<-K];rfl);have ao:g≠gd:=λK=>ad K.symm;have s:gm≠gd:=λK=>h.d6 (by rw[hA,K];rfl);rw[hA]at d c7;have zf:=d.2.frozen i;have t:=λw1 w2=>h.entered (w1:=w1) (w2:=w2) (gd:=gd) IJ Q y E (by rw[hA];rfl);rw[hA]at t;have a4W:=η t;obtain⟨B,hB⟩ :=ν (st.base);have ze:∀v,(st.P.set p v).drop st.base=(st.P.drop st.base).set i v:=λv=>by rw[hi,drop_set]
 have a4Z:=η ze;rw[hB]at c4;have al:IntKind.i64.wrap ((p:Int)-(B:Int))=(i:Int):=by rw[aM _ ω];omega
 have aE:(p:Int)-(B:Int)=(i:Int):=ω;have an:(0:Int)<=i/\(i:Int)<(np:Int):=ω;have am:=h.nmb;have X:=h.look y 0;have l:=h.look y;have o:i<np:=ω;obtain⟨hd,O⟩ :=ν (st.head H);have z:Hid (was st H=hd.getD (-1)):=by show _=_;unfold was;rw[O]
 have QC:=(h.rep.2 H).1;have ab:Hid (Dm.atKey (.int .u32 H) (.lit (.int .i64 0))= .lit (.int .i64 (hd.getD 0))):=by show _=_;rw[<-O];exact(h.rep.2 H).2
 rw[O]at l QC;have Y6:=h.cell.lt;obtain⟨V,hV⟩ :=ν (ix st.P (st.base+i));rw[hV]at cc;have wW:=η hA;have F:nm<maxLen:=by unfold maxLen;omega
 have Qz:(Lit.int .i64 (p:Int)).wf=true:=by simp [Lit.wf,IntKind.min,IntKind.max,IntKind.signed,IntKind.bits];omega
 clear Q hi lG hB E t ze O X hV hA ac;cases hd with
 | none=>
   simp only [Option.getD_none,Option.isSome_none]at l;go_enter Tryz.func86,Tryz.ntmps86
   go_wp2_with fail;refine f.mono ?_;rintro r w1 ⟨rfl,q1,rfl⟩
   go_wp2_with fail;refine(IE q1).mono ?_;rintro r w1 ⟨rfl,q2,rfl⟩
   go_wp2_with fail;go_region;have j:bk w ((w.drewN (q1+q2+1)).setCell ⟨gd,i,none⟩ (.int .i64 (-1))) (λk=>k=gd):=((bk.refl w (λk=>k=gd)).drewN _).setCell (p:= ⟨gd,i,none⟩) (.inl rfl) _;have N:=qb b (j.block gm b.lt s);have C:=ba.bK (d.drewN (q1+q2+1)) o (-1)
   go_wp2_with (first
    | (at_lookup;refine wpList_lookup_own_ok_int _ rfl _ _ 102 rfl 29 3 .i64 J0 Tryz.underlying102 Tryz.underlying3 (Gp _) gm nm Dm rfl N _ _ rfl (IW y) ?_;intro c J W;rw[QC];simp only [Option.isSome_none])
    | (at_mapUpdate;refine wpList_mapUpdate_own _ rfl _ _ _ 102 rfl 29 3 J0 Tryz.underlying102 (plainElem Tryz.prog 3) gm nm Dm rfl N F _ _ _ rfl rfl (IW y) _ [] (plainElem_int Tryz.underlying3 Qz) ?_;intro S ir LG))
   go_returns;obtain⟨U,T⟩ :=a4W.out _ S j (by rw[z.out,a4Z.out];exact C) LG ir;exact⟨rfl, ⟨_,_,by rw[wW.out];exact U⟩,by rw[wW.out];exact T⟩
 | some k=>
   simp only [Option.getD_some,Option.isSome_some]at l;go_enter Tryz.func86,Tryz.ntmps86
   go_wp2_with fail;refine f.mono ?_;rintro r w1 ⟨rfl,q1,rfl⟩
   go_wp2_with fail;refine(IE q1).mono ?_;rintro r w1 ⟨rfl,q2,rfl⟩
   go_wp2_with fail;go_region;have j:bk w ((w.drewN (q1+q2+1)).setCell ⟨gd,i,none⟩ (.int .i64 (-1))) (λk=>k=gd):=((bk.refl w (λk=>k=gd)).drewN _).setCell (p:= ⟨gd,i,none⟩) (.inl rfl) _;have N:=qb b (j.block gm b.lt s);have C:=ba.bK (d.drewN (q1+q2+1)) o (-1)
   go_wp2_with (at_lookup;refine wpList_lookup_own_ok_int _ rfl _ _ 102 rfl 29 3 .i64 J0 Tryz.underlying102 Tryz.underlying3 (Gp _) gm nm Dm rfl N _ _ rfl (IW y) ?_;intro c J W;rw[QC];simp only [Option.isSome_some])
   have tV:c=k:=by
    have h5:=ab.out;rw[J]at h5;injection h5 with h5;injection h5
   subst tV;have ah:=C.2.frozen i;have be:=C.2.cell (i:=i) ω;have G:bk w ((((w.drewN (q1+q2+1)).setCell ⟨gd,i,none⟩ (.int .i64 (-1))).drew).setCell ⟨gd,i,none⟩ (.int .i64 c)) (λk=>k=gd):=j.drew.setCell (p:= ⟨gd,i,none⟩) (.inl rfl) _;have vr:=qb b (G.block gm b.lt s);have jB:=ba.bK C.drew o c;rw[List.set_set]at jB;go_region
   go_wp2_with (at_mapUpdate;refine wpList_mapUpdate_own _ rfl _ _ _ 102 rfl 29 3 J0 Tryz.underlying102 (plainElem Tryz.prog 3) gm nm Dm rfl vr F _ _ _ rfl rfl (IW y) _ [] (plainElem_int Tryz.underlying3 Qz) ?_;intro S ir LG)
   go_returns;obtain⟨U,T⟩ :=a4W.out _ S G (by rw[z.out,a4Z.out];exact jB) LG ir;exact⟨rfl, ⟨_,_,by rw[wW.out];exact U⟩,by rw[wW.out];exact T⟩
end
theorem R5 (e:px) (n:Nat) (st:jf):eh e (n+1) st=moved (bW e (eh e n st) (eh e n st).at_):=by
 induction n generalizing st with
 | zero=>rfl
 | succ n a=>rw[eh,a];rfl
section
variable {w w' w1 w2:World} {b0 g b n c gm nm np cp:Nat} {e:px} {st:jf} {A Ap:ay} {Dm:DataW Unit}
theorem eG.moved (h:eG w b0 g e st (st.at_+1) A n c gm nm Dm Ap np cp) {T:Int} (f:T=(st.at_:Int)+1):
  eG (w.setCell ⟨g,5,none⟩ (.int .i64 T)) b0 g e (moved st) (st.at_+1) A n c gm nm Dm Ap np cp/\bk w (w.setCell ⟨g,5,none⟩ (.int .i64 T)) (FF A gm Ap g):=by
 subst f;have a:bk w (w.setCell ⟨g,5,none⟩ (.int .i64 ((st.at_:Int)+1))) (λk=>k=g):=(bk.refl w (λk=>k=g)).setCell (p:= ⟨g,5,none⟩) (.inl rfl) _;refine⟨⟨(h.cell.bK (i:=5) ω _).congr λi hi=> ?_,h.lo,a.dX h.own λq b e=>h.d1 (by rw[b,e]),a.dX h.xS λq b e=>h.d2 (by rw[b,e]),qb h.map (a.block gm h.map.lt h.d3),h.rep,h.glo,h.nmb,h.d1,h.d2,h.d3,h.d4,h.d5,h.d6,h.ok.moved,h.jR,h.eb,h.big⟩,a.more λk d=> .inl d⟩;obtain rfl | rfl | rfl | rfl | rfl | rfl | rfl | rfl:i=0\/i=1\/i=2\/i=3\/i=4\/i=5\/i=6\/i=7:=ω;all_goals rfl
def EB (w:World) (b0 g:Nat) (e:px) (st:jf) (A:ay) (n c gm:Nat) (Ap:ay) (np cp N:Nat) (i:Value) (wr:World):Prop:=
 ∃(k nm:Nat) (Dm:DataW Unit),k<=N/\i= .int .i64 k/\eG wr b0 g e (eh e k st) (st.at_+k) A n c gm nm Dm Ap np cp/\bk w wr (FF A gm Ap g)
theorem sX (N:Nat) (h:eG w b0 g e st st.at_ A n c gm nm Dm Ap np cp) (hN:st.at_+N<=st.D.length):
  Calls Tryz.prog 84 #[.pointer (some ⟨g,0,none⟩), .int .i64 N] w (tC w b0 g e (eh e N st) (st.at_+N) A n c gm Ap np cp):=by
 have f:EB w b0 g e st A n c gm Ap np cp N (.int .i64 0) w:= ⟨0,nm,Dm,aF _,rfl,h,bk.refl w _⟩;have F:=h.ok;have U:=h.big;have K:=η F;go_enter Tryz.func84,Tryz.ntmps84
 go_wp2_with fail
 go_loopw [5] (EB w b0 g e st A n c gm Ap np cp N) (λi _=>N-(intOf i).toNat)
 case atStart=>exact f
 clear f F;obtain⟨k,L,V,S,rfl,hf,I⟩ :=hrel;by_cases u:k<N
 rotate_left
 · obtain rfl:k=N:=ω
   go_wp2_with fail;go_returns;exact⟨rfl, ⟨_,_,hf⟩,I⟩
 have R:(k:Int)<(N:Int)/\(0:Int)<=k/\(k:Int)<=100000000000:=ω;obtain⟨-,C,s,B⟩ :=qY (e:=e) (n:=k) K.out ω;have b:(eh e k st).at_=st.at_+k:=s;have E:Hid (eh e (k+1) st=moved (bW e (eh e k st) (st.at_+k))):=by show _=_;rw[R5,s]
 have a:(eh e k st).base<=st.at_+k:=by rw[B];have:=K.out.lo;omega
 have l:=Df (st.at_+k) hf a (by rw[C];omega);obtain⟨-, -, -, -, -,J, -, -⟩ :=sD hf;rw[b]at J;obtain⟨T,x⟩ :=ν (st.at_+k);have P:Hid (st.at_+(k+1)=T+1):=by show _=_;omega
 have O:(0:Int)<=T/\(T:Int)<=100000000000:=ω;rw[x]at l J E;have p:Hid ((bW e (eh e k st) T).at_=T):=by show _=_;rw[(zv e _ _).2.1,b,x]
 clear b x C s B a hN
 go_wp2_with fail;refine l.mono ?_;rintro r z ⟨rfl, ⟨d,m,o⟩,H⟩;obtain⟨-, -, -, -, -,y, -, -⟩ :=sD o;have Q:=o.cell.frozen' (i:=5) ω;rw[p.out]at y;have j:eG z b0 g e (bW e (eh e k st) T) ((bW e (eh e k st) T).at_+1) A n c gm d m Ap np cp:=by rw[p.out];exact o
 obtain⟨v,G⟩ :=j.moved (T:=(T:Int)+1) (by rw[p.out]);rw[p.out]at v
 have M:EB w b0 g e st A n c gm Ap np cp N (.int .i64 ((k:Int)+1)) (z.setCell ⟨g,5,none⟩ (.int .i64 ((T:Int)+1))):=
  ⟨k+1,d,m,u,by go_num,by rw[E.out,P.out];exact v,(I.trans H λq t=> .inl t).trans G λq t=> .inl t⟩
 clear o v H G j
 go_wp2_with fail;go_roundw
 case rel=>exact M
 case measure=>simp [intOf];omega
end
def tkT (a b c:Int):Nat->Value
 | 0=> .int .u8 a
 | 1=> .int .i64 b
 | _=> .int .i64 c
theorem zE (w:World) (a b c:Int):Ar (w.alloc (.cells #[.int .u8 a, .int .i64 b, .int .i64 c] 109)) w.heap.size 3 (tkT a b c):=
 Ar.new w #[.int .u8 a, .int .i64 b, .int .i64 c] 109 (show(#[.int .u8 a, .int .i64 b, .int .i64 c]:Array Value).size=3 from rfl) λi hi=>by
  obtain rfl | rfl | rfl:i=0\/i=1\/i=2:=ω;all_goals rfl
theorem ei {w:World} {g:Nat} {a b c:Int} (h:Ar w g 3 (tkT a b c)):w.cell? ⟨g,0,none⟩ =some (.int .u8 a)/\w.cell? ⟨g,1,none⟩ =some (.int .i64 b)/\w.cell? ⟨g,2,none⟩ =some (.int .i64 c)/\
  w.frozen? ⟨g,0,none⟩ =false/\w.frozen? ⟨g,1,none⟩ =false/\w.frozen? ⟨g,2,none⟩ =false:=
 ⟨h.cell (i:=0) ω,h.cell (i:=1) ω,h.cell (i:=2) ω,h.frozen' (i:=0) ω,h.frozen' (i:=1) ω,h.frozen' (i:=2) ω⟩
def GS (w:World) (b0 g:Nat) (e:px) (R:cy×jf) (A:ay) (n c gm:Nat) (Ap:ay) (np cp:Nat) (r:Ending) (w':World):Prop:=
 r= .returned (.agg #[.int .u8 R.1.lit, .int .i64 R.1.len, .int .i64 R.1.bm])/\(∃nm Dm,eG w' b0 g e R.2 R.2.at_ A n c gm nm Dm Ap np cp)/\bk w w' (FF A gm Ap g)
section
variable {w w' w1 w2:World} {b0 g b n c gm nm np cp:Nat} {e:px} {st:jf} {A Ap:ay} {Dm:DataW Unit}
theorem qf {d:World} {F:Nat->Value} {a x y:Int} {st':jf} (h:eG w b0 g e st b A n c gm nm Dm Ap np cp) {f:Nat} {l:DataW Unit} (o:eG d b0 g e st' st'.at_ A n c gm f l Ap np cp) (m:bk w d (FF A gm Ap g)) (ar:Ar d w.heap.size 3 F):
  GS w b0 g e (⟨a,x,y⟩,st') A n c gm Ap np cp (.returned (.agg #[.int .u8 a, .int .i64 x, .int .i64 y])) (((d.setCell ⟨w.heap.size,0,none⟩ (.int .u8 a)).setCell ⟨w.heap.size,1,none⟩ (.int .i64 x)).setCell ⟨w.heap.size,2,none⟩ (.int .i64 y)):=by
 have i:bk d (((d.setCell ⟨w.heap.size,0,none⟩ (.int .u8 a)).setCell ⟨w.heap.size,1,none⟩ (.int .i64 x)).setCell ⟨w.heap.size,2,none⟩ (.int .i64 y)) (λk=>k=w.heap.size):=
  (((bk.refl d (λk=>k=w.heap.size)).setCell (p:= ⟨w.heap.size,0,none⟩) (.inl rfl) _).setCell (p:= ⟨w.heap.size,1,none⟩) (.inl rfl) _).setCell (p:= ⟨w.heap.size,2,none⟩) (.inl rfl) _
 exact⟨rfl, ⟨f,l,o.fC i λk j e=>τ ((h.eK j).2)⟩,m.trans i λk j=> .inr ω⟩
theorem Jb (h:eG w b0 g e st st.at_ A n c gm nm Dm Ap np cp) (M:st.at_<st.D.length):
  Calls Tryz.prog 63 #[.pointer (some ⟨g,0,none⟩)] w (GS w b0 g e (fS e st) A n c gm Ap np cp):=by
 have kN:=xo (e:=e) h.ok;obtain⟨N1,F3, -,cv,Vo,XZ,kK,cs, -⟩ :=po (e:=e) h.ok M
 have Vh:fS e st=(if(dy e st st.at_).1=0 then(rO st,eh e 1 st)
  else if e.lazy=true/\(dy e st st.at_).1<e.nice/\st.at_+1<st.D.length then
   (if(dy e st st.at_).1<(dy e (bW e st st.at_) (st.at_+1)).1 then(rO st,moved (bW e st st.at_))
   else(⟨0,(dy e st st.at_).1,(dy e st st.at_).2⟩,eh e ((dy e st st.at_).1-1) (moved (bW e st st.at_))))
  else(⟨0,(dy e st st.at_).1,(dy e st st.at_).2⟩,eh e (dy e st st.at_).1 st)):=rfl
 obtain⟨R,hR⟩ :=ν (fS e st);obtain⟨B,hB⟩ :=ν (dy e st st.at_);rw[hB]at kN;rw[hR,hB]at Vh;rw[hR];obtain⟨L,d⟩ :=B
 have bl:L<=258/\d<=32768/\st.at_+L<=st.D.length:=by
  rcases kN with ⟨h1,h2⟩ | ⟨-,h1,h2, -,h3, -⟩
  · dsimp only at h1 h2;omega
  dsimp only at h1 h2 h3;omega
 have dj:(0:Int)<=L/\(L:Int)<=258/\(0:Int)<=d/\(d:Int)<=32768:=ω;have Y6:=h.cell.lt;have O:=(ax w.heap.size w).alloc (ai _) (.cells #[.int .u8 0, .int .i64 0, .int .i64 0] 109);have h0:=h.keeps O;have bL:=zE w 0 0 0;have NV:=Hh st.at_ h0 h.ok.lo;rw[hB]at NV;have lF:=h.big;obtain⟨T,hT⟩ :=ν (st.at_);have dd:(0:Int)<=T/\(T:Int)<=100000000000:=ω;obtain⟨c0,c1,c2,c3,c4,c5,c6,c7⟩ :=sD h;rw[hT]at c5;have qs:=η Vh;have HB:=η hB;have HT:=η hT;obtain⟨v,hv⟩ :=ν (ix st.D st.at_);have cQ:Hid (rO st= ⟨v,0,0⟩):=by show _=_;unfold rO;rw[hv]
 rw[hT]at NV
 have ci:∀W,eG W b0 g e st st.at_ A n c gm nm Dm Ap np cp->Calls Tryz.prog 83 #[.pointer (some ⟨g,0,none⟩), .int .i64 T] W λr w'=>r= .returned (.int .u8 v)/\∃q,w'=W.drewN q:=λW hf=>by
  have:=EU hf st.at_ h.ok.lo M
  rwa [hv,hT]at this
 have K:=η M;clear Vh hB hT hv kN Vo XZ kK cs cv F3 M hR;go_enter Tryz.func63,Tryz.ntmps63
 go_wp2_with fail;refine NV.mono ?_;rintro r w1 ⟨rfl,ah⟩;dsimp only;have ZL:=O.trans (ah.mono O.size);have YN:=bL.keeps ah;have vR:=ZL.alloc ZL.size (.cells #[.int .u8 0, .int .i64 L, .int .i64 d] 109);have ac:=h.keeps vR;have bp:=(sD ac).2.2.2.2.2.1;rw[HT.out]at bp;have at1:=zE w1 0 L d;have bI:=YN.alloc (.cells #[.int .u8 0, .int .i64 L, .int .i64 d] 109);obtain⟨G,hG⟩ :=ν (w1.heap.size);have da:g<G:=by have:=ZL.size;omega
 have cH:w.heap.size<G:=by have:=YN.lt;omega
 rw[hG]at at1
 go_wp2_with fail;refine(ci _ ac).mono ?_;rintro r w2 ⟨rfl,q2,rfl⟩;go_upto_region 3 with fail
 have ae:=(below_drewN vR q2).alloc (below_drewN vR q2).size (.cells #[.int .u8 v, .int .i64 0, .int .i64 0] 109);have x:=(bI.drewN q2).alloc (.cells #[.int .u8 v, .int .i64 0, .int .i64 0] 109);have XV:=(at1.drewN q2).alloc (.cells #[.int .u8 v, .int .i64 0, .int .i64 0] 109);have J:=zE ((w1.alloc (.cells #[.int .u8 0, .int .i64 L, .int .i64 d] 109)).drewN q2) v 0 0;have ao:((w1.alloc (.cells #[.int .u8 0, .int .i64 L, .int .i64 d] 109)).drewN q2).heap.size=G+1:=by rw[<-hG];simp [World.drewN]
 rw[ao]at J;clear ao;generalize ((w1.alloc (.cells #[.int .u8 0, .int .i64 L, .int .i64 d] 109)).drewN q2).alloc (.cells #[.int .u8 v, .int .i64 0, .int .i64 0] 109)=w3 at*;clear bI YN bL at1 vR ac bp ZL ah O h0 NV;have b:=h.keeps ae;have t:bk w w3 (FF A gm Ap g):=bk.bJ ae;have u:Hid (∀k,w.heap.size<=k->¬FF A gm Ap g k):=λk a hF=>by have:=(h.eK hF).2;omega
 obtain⟨c0,c1,c2,c3,c4,c5,c6,c7⟩ :=sD b;rw[HT.out]at c5;obtain⟨X,V,S, -, -, -⟩ :=ei XV;obtain⟨l0,l1,l2, -, -, -⟩ :=ei J;by_cases Q:L=0
 · have E:Hid (R=(⟨v,0,0⟩,eh e 1 st)):=by show _=_;rw[qs.out,af Q,cQ.out]
   have hp:=sX 1 b K.out;have de:(L:Int)=0:=ω;obtain⟨-, -,Y, -⟩ :=qY (e:=e) (n:=1) h.ok K.out;have pD:=η Y;clear Y hG
   go_wp2_with fail;refine hp.mono ?_;rintro r w4 ⟨rfl, ⟨j,s,l⟩,o⟩;have I:=o.ar x (u.out _ (ai _));have cA:=o.ar J (u.out _ ω);have LC:eG w4 b0 g e (eh e 1 st) (eh e 1 st).at_ A n c gm j s Ap np cp:=by rw[pD.out];exact l
   have cn:=t.trans o λk a=> .inl a;obtain⟨l0,l1,l2, -, -, -⟩ :=ei cA;obtain⟨C,z,y,z0,z1,z2⟩ :=ei I
   go_wp2_with fail;refine bj (v:= .agg #[.int .u8 v, .int .i64 0, .int .i64 0]) (by simp [results,Tryz.results63,go_sem,C,z,y]) rfl ?_;rw[E.out];exact qf h LC cn I
 have f:Hid (∀q,Calls Tryz.prog 85 #[.pointer (some ⟨g,0,none⟩)] (w3.drewN q) λr w'=>r= .returned (.int .i64 st.D.length)/\∃m,w'=(w3.drewN q).drewN m):=λq=>zu (b.drewN q);obtain⟨DL,Zv⟩ :=ν (st.D.length);rw[Zv]at f bl lF;obtain⟨lz,ab⟩ :=ν (e.lazy);obtain⟨nc,Vg⟩ :=ν (e.nice);rw[ab]at c2;rw[Vg]at c1;have bo:((L:Int)==0)=false:=by simpa using Q
 have P:Hid (st.at_+L<=st.D.length):=by show _<=_;rw[Zv];exact bl.2.2
 obtain⟨-, -,Y, -⟩ :=qY (e:=e) (n:=L) h.ok P.out;have pD:=η Y;have cB:=η Zv
 have Z:Hid (R=if lz=true/\L<nc/\T+1<DL then
   (if L<(dy e (bW e st T) (T+1)).1 then(rO st,moved (bW e st T))else(⟨0,L,d⟩,eh e (L-1) (moved (bW e st T))))
   else(⟨0,L,d⟩,eh e L st)):=by
  show _=_;rw[qs.out,aa Q,ab,Vg,Zv,HT.out]
 have H:∀q,bk w3 (w3.drewN q) (FF A gm Ap g):=λq=>(bk.refl w3 _).drewN q;have dq:(DL:Int)<=100000000000:=ω;clear Y hG Zv Q ab Vg lF qs;cases lz with
 | false=>
   have E:Hid (R=(⟨0,L,d⟩,eh e L st)):=by show _=_;rw[Z.out,aa (λh=>by simp at h)]
   clear Z
   go_wp2_with fail;go_quiet ((go_at_call 85;exact dM (f.out _)))
   go_wp2_with fail;refine(sX L (b.drewN _) P.out).mono ?_;rintro r w4 ⟨rfl, ⟨j,s,l⟩,o⟩;have H:=t.trans ((H nq).trans o λk a=> .inl a) λk a=> .inl a;have I:=o.ar (x.drewN nq) (u.out _ (ai _));have at4:=o.ar (XV.drewN nq) (u.out _ ω);have LC:eG w4 b0 g e (eh e L st) (eh e L st).at_ A n c gm j s Ap np cp:=by rw[pD.out];exact l
   obtain⟨X,V,S, -, -, -⟩ :=ei at4;obtain⟨C,z,y,z0,z1,z2⟩ :=ei I
   go_wp2_with fail;refine bj (v:= .agg #[.int .u8 0, .int .i64 L, .int .i64 d]) (by simp [results,Tryz.results63,go_sem,C,z,y]) rfl ?_;rw[E.out];exact qf h LC H I
 | true=>
   by_cases II:L<nc
   rotate_left
   · have cg:¬(L:Int)<(nc:Int):=ω;have E:Hid (R=(⟨0,L,d⟩,eh e L st)):=by show _=_;rw[Z.out,aa (λh=>II h.2.1)]
     clear Z
     go_wp2_with fail;go_quiet ((go_at_call 85;exact dM (f.out _)))
     go_wp2_with fail;refine(sX L (b.drewN _) P.out).mono ?_;rintro r w4 ⟨rfl, ⟨j,s,l⟩,o⟩;have H:=t.trans ((H nq).trans o λk a=> .inl a) λk a=> .inl a;have I:=o.ar (x.drewN nq) (u.out _ (ai _));have at4:=o.ar (XV.drewN nq) (u.out _ ω);have LC:eG w4 b0 g e (eh e L st) (eh e L st).at_ A n c gm j s Ap np cp:=by rw[pD.out];exact l
     obtain⟨X,V,S, -, -, -⟩ :=ei at4;obtain⟨C,z,y,z0,z1,z2⟩ :=ei I
     go_wp2_with fail;refine bj (v:= .agg #[.int .u8 0, .int .i64 L, .int .i64 d]) (by simp [results,Tryz.results63,go_sem,C,z,y]) rfl ?_;rw[E.out];exact qf h LC H I
   have cg:(L:Int)<(nc:Int):=ω;by_cases F:T+1<DL
   rotate_left
   · have cd:¬(T:Int)+1<(DL:Int):=ω;have E:Hid (R=(⟨0,L,d⟩,eh e L st)):=by show _=_;rw[Z.out,aa (λh=>F h.2.2)]
     clear Z
     go_wp2_with fail;go_quiet ((go_at_call 85;exact dM (f.out _)))
     go_wp2_with fail;refine(sX L (b.drewN _) P.out).mono ?_;rintro r w4 ⟨rfl, ⟨j,s,l⟩,o⟩;have H:=t.trans ((H nq).trans o λk a=> .inl a) λk a=> .inl a;have I:=o.ar (x.drewN nq) (u.out _ (ai _));have at4:=o.ar (XV.drewN nq) (u.out _ ω);have LC:eG w4 b0 g e (eh e L st) (eh e L st).at_ A n c gm j s Ap np cp:=by rw[pD.out];exact l
     obtain⟨X,V,S, -, -, -⟩ :=ei at4;obtain⟨C,z,y,z0,z1,z2⟩ :=ei I
     go_wp2_with fail;refine bj (v:= .agg #[.int .u8 0, .int .i64 L, .int .i64 d]) (by simp [results,Tryz.results63,go_sem,C,z,y]) rfl ?_;rw[E.out];exact qf h LC H I
   have cd:(T:Int)+1<(DL:Int):=ω;have al:Hid (R=if L<(dy e (bW e st T) (T+1)).1 then(rO st,moved (bW e st T))else(⟨0,L,d⟩,eh e (L-1) (moved (bW e st T)))):=by show _=_;rw[Z.out,af ⟨rfl,II,F⟩]
   have cm:Hid (∀q,Calls Tryz.prog 86 #[.pointer (some ⟨g,0,none⟩), .int .i64 T] (w3.drewN q) (tC (w3.drewN q) b0 g e (bW e st T) (T+1) A n c gm Ap np cp)):=λq=>by
    have:=Df st.at_ (b.drewN q) h.ok.lo K.out
    rwa [HT.out]at this
   have K8:=zv e st T;have jD:Hid ((bW e st T).at_=T):=by show _=_;rw[K8.2.1,HT.out]
   have cr:(bW e st T).base<=T+1:=by rw[K8.2.2];have:=h.ok.lo;have:=HT.out;omega
   have Up:Hid ((moved (bW e st T)).D.length=DL):=by show _=_;rw[<-cB.out];exact aN List.length K8.1
   have kN:=xo (e:=e) (st:=bW e st T) (p:=T+1) (by
    have:=h.ok.enter (e:=e) (p:=st.at_) K.out
    rwa [HT.out]at this)
   obtain⟨⟨U,ud⟩,hU⟩ :∃U,dy e (bW e st T) (T+1)=U:= ⟨_,rfl⟩;rw[hU]at al kN
   have db:U<=258/\ud<=32768:=by
    rcases kN with ⟨h1,h2⟩ | ⟨-,h1,h2, -,h3, -⟩
    · dsimp only at h1 h2;omega
    dsimp only at h1 h2 h3;omega
   have HU:=η hU;have bi:((T+1:Nat):Int)=(T:Int)+1:=ω;have tD:=η bi;clear Z K8 kN hU bi
   go_wp2_with fail;go_quiet ((go_at_call 85;exact dM (f.out _)))
   go_wp2_with fail;refine(cm.out _).mono ?_;rintro r w5 ⟨rfl, ⟨cc,cG,LD⟩,nT⟩;have aE:=t.trans ((H nq).trans nT λk a=> .inl a) λk a=> .inl a;have bB:=nT.ar (x.drewN nq) (u.out _ (ai _));have at5:=nT.ar (XV.drewN nq) (u.out _ ω);have an:=nT.ar (J.drewN nq) (u.out _ ω);obtain⟨-, -, -, -, -,bs, -, -⟩ :=sD LD;rw[jD.out]at bs;have Lu:=Hh (T+1) LD cr;rw[HU.out,tD.out]at Lu;clear b t x XV J ae c0 c1 c2 c3 c4 c5 c6 c7 X V S l0 l1 l2 H nT
   go_wp2_with fail;refine Lu.mono ?_;rintro r w6 ⟨rfl,nj⟩;dsimp only;have cL:=nj.size;have Lt:=nj.alloc nj.size (.cells #[.int .u8 0, .int .i64 U, .int .i64 ud] 109);have LF:=LD.keeps Lt;have Gy:bk w (w6.alloc (.cells #[.int .u8 0, .int .i64 U, .int .i64 ud] 109)) (FF A gm Ap g):=aE.trans (bk.bJ Lt) λk a=> .inl a;have bx:=bB.keeps Lt;have bt:=at5.keeps Lt;have ca:=an.keeps Lt;have cw:=zE w6 0 U ud;have dp:G+1<w6.heap.size:=by have:=an.lt;omega
   have cJ:(w6.alloc (.cells #[.int .u8 0, .int .i64 U, .int .i64 ud] 109)).heap.size=w6.heap.size+1:=σ;go_upto_region 9 with fail
   generalize dl:w6.heap.size=G7 at*;generalize w6.alloc (.cells #[.int .u8 0, .int .i64 U, .int .i64 ud] 109)=w7 at*;clear Lt bB at5 an LD nj bs aE Lu;obtain⟨-, -, -, -, -,c5, -, -⟩ :=sD LF;rw[jD.out]at c5;have z5:=LF.cell.frozen' (i:=5) ω;obtain⟨X,V,S, -, -, -⟩ :=ei bt;obtain⟨l0,l1,l2, -, -, -⟩ :=ei ca;obtain⟨u0,u1,u2, -, -, -⟩ :=ei cw;obtain⟨C,z,y,z0,z1,z2⟩ :=ei bx;have cl:eG w7 b0 g e (bW e st T) ((bW e st T).at_+1) A n c gm cc cG Ap np cp:=by rw[jD.out];exact LF
   obtain⟨N,co⟩ :=cl.moved (T:=(T:Int)+1) (by rw[jD.out]);have ap:=Gy.trans co λk a=> .inl a;have uF:g≠w.heap.size:=ω;have ch:w.heap.size≠g:=ω;have am:Ar _ w.heap.size 3 _:=bx.far (p:= ⟨g,5,none⟩) ch (.int .i64 ((T:Int)+1));have at8:Ar _ G 3 _:=bt.far (p:= ⟨g,5,none⟩) ξ (.int .i64 ((T:Int)+1));have cz:Ar _ (G+1) 3 _:=ca.far (p:= ⟨g,5,none⟩) ξ (.int .i64 ((T:Int)+1));have hm:(moved (bW e st T)).at_=T+1:=by show(bW e st T).at_+1=_;rw[jD.out]
   rw[jD.out,<-hm]at N;have HM:=η hm;clear hm;have cX:g≠G+1/\g≠G:=ω;by_cases be:L<U
   · have cu:(L:Int)<(U:Int):=ω;have E:Hid (R=(⟨v,0,0⟩,moved (bW e st T))):=by show _=_;rw[al.out,af be,cQ.out]
     obtain⟨X,V,S, -, -, -⟩ :=ei at8;obtain⟨l0,l1,l2, -, -, -⟩ :=ei cz;obtain⟨C,z,y,z0,z1,z2⟩ :=ei am
     go_wp2_with fail;refine bj (v:= .agg #[.int .u8 v, .int .i64 0, .int .i64 0]) (by simp [results,Tryz.results63,go_sem,C,z,y]) rfl ?_;rw[E.out];exact qf h N ap am
   have cu:¬(L:Int)<(U:Int):=ω;have E:Hid (R=(⟨0,L,d⟩,eh e (L-1) (moved (bW e st T)))):=by show _=_;rw[al.out,aa be]
   obtain⟨L1,gV⟩ :=ν (L-1)
   have dk:(L:Int)-1=(L1:Int):=by have h5:L≠0:=by(intro h6;rw[h6]at bo;simp at bo)
                                  omega
   rw[gV]at E;have VA:Hid ((moved (bW e st T)).at_+L1<=(moved (bW e st T)).D.length):=by show _<=_;rw[HM.out,Up.out];have:=HT.out;omega
   obtain⟨-, -,Y, -⟩ :=qY (e:=e) (n:=L1) N.ok VA.out;have ct:=η Y;have ce:=sX L1 N VA.out;obtain⟨X,V,S, -, -, -⟩ :=ei at8;clear Y gV
   go_wp2_with fail;refine ce.mono ?_;rintro r w9 ⟨rfl, ⟨cb,cD,ck⟩,ad⟩;have cq:=ap.trans ad λk a=> .inl a;have bv:=ad.ar am (u.out _ (ai _));have cx:=ad.ar at8 (u.out _ ω);have cj:eG w9 b0 g e (eh e L1 (moved (bW e st T))) (eh e L1 (moved (bW e st T))).at_ A n c gm cb cD Ap np cp:=by rw[ct.out];exact ck
   obtain⟨X,V,S, -, -, -⟩ :=ei cx;obtain⟨C,z,y,z0,z1,z2⟩ :=ei bv
   go_wp2_with fail;refine bj (v:= .agg #[.int .u8 0, .int .i64 L, .int .i64 d]) (by simp [results,Tryz.results63,go_sem,C,z,y]) rfl ?_;rw[E.out];exact qf h cj cq bv
end
theorem mn.lit (w:World) (t:cy):mn (w.alloc (.cells #[.int .u8 t.lit, .int .i64 t.len, .int .i64 t.bm] 109)) (w.heap.size+1) (some ⟨w.heap.size,0,none⟩) 1 [t]:=by
 have h:=BZ w t.lit t.len t.bm 109;refine⟨rfl,λ_=> ⟨_,rfl,σ,λi hi=> ?_⟩⟩;obtain rfl:i=0:=ω;exact⟨by rw[oh];exact h.cell (i:=0) ω,by rw[oh];exact h.cell (i:=1) ω,by rw[oh];exact h.cell (i:=2) ω⟩
def Ky (w:World) (b0 g:Nat) (e:px) (st:jf) (left:Nat) (A:ay) (n c gm:Nat) (Ap:ay) (np cp:Nat) (r:Ending) (w':World):Prop:=
 ∃(l:List cy) (st':jf) (At:ay) (nt ct:Nat),r= .returned (.slice At nt ct)/\zm e left st l st'/\st'.D.length-st'.at_<=left/\kh w' w.heap.size At nt ct l/\(∃nm Dm,eG w' b0 g e st' st'.at_ A n c gm nm Dm Ap np cp)/\bk w w' (FF A gm Ap g)
def xj (w:World) (b0 g:Nat) (e:px) (st:jf) (left:Nat) (A:ay) (n c gm:Nat) (Ap:ay) (np cp:Nat) (gk:Nat) (o:Value) (wr:World):Prop:=
 ∃(l:List cy) (st':jf) (At:ay) (nt ct nm:Nat) (Dm:DataW Unit),o= .slice At nt ct/\zm e left st l st'/\kh wr w.heap.size At nt ct l/\eG wr b0 g e st' st'.at_ A n c gm nm Dm Ap np cp/\bk w wr (FF A gm Ap g)/\Hid (gk+st'.at_=st'.D.length)
section
variable {w w' w1 w2:World} {b0 g b n c gm nm np cp:Nat} {e:px} {st:jf} {A Ap:ay} {Dm:DataW Unit}
theorem yC (fin:Bool) (h:eG w b0 g e st st.at_ A n c gm nm Dm Ap np cp):
  Calls Tryz.prog 41 #[.pointer (some ⟨g,0,none⟩), .bool fin] w (Ky w b0 g e st (if fin then 0 else 261) A n c gm Ap np cp):=by
 obtain⟨left,pY⟩ :=ν ((if fin then 0 else 261));have o:xj w b0 g e st left A n c gm Ap np cp (st.D.length-st.at_) (.slice none 0 0) w:= ⟨[],st,none,0,0,nm,Dm,rfl, .nil st, ⟨rfl,Own.dN⟩,h,bk.refl w _,by show _=_;have:=h.ok.hi;omega⟩;rw[pY];obtain⟨i0,hi,M,L,K⟩ :=aL Eo;have Hi:=η hi;have i7:=η M;have gp:=η L;have i9:=η K;have ky:=η h.ok;have lF:=η h.big;have EZ:Hid (∀k,w.heap.size<=k->¬FF A gm Ap g k):=λk b hF=>by have:=(h.eK hF).2;omega
 have Z:Hid (∀k,FF A gm Ap g k->k<w.heap.size):=λk b=>(h.eK b).2;have ac:(fin=true/\left=0)\/(fin=false/\left=261):=by cases fin <;> simp at pY <;> simp [pY]
 clear hi M L K pY;go_enter Tryz.func41,Tryz.ntmps41;rcases ac with ⟨rfl,rfl⟩ | ⟨rfl,rfl⟩
 · go_wp2_with fail;go_loopg [5] (st.D.length-st.at_) (xj w b0 g e st _ A n c gm Ap np cp)
   case atStart=>exact o
   clear o;obtain⟨l,st',At,nt,ct,x,Yq,rfl,a,j,hf,V,V7⟩ :=hrel;have p:=G4 a ky.out;have z:=yL hf;obtain⟨W,G⟩ :=ν (st'.D.length-st'.at_);rw[G]at z;have mU:nt<=100000000000:=by have:=j.1;have:=p.2.2.1;have:=p.1.hi;have:=aN List.length p.2.1;have:=lF.out;omega
   have I:=η G;clear G p;by_cases ab:(0:Int)<(W:Int)
   rotate_left
   · go_wp2_with fail;refine z.mono ?_;rintro r w5 ⟨rfl,q5,rfl⟩
     go_wp2_with fail;go_returns;exact⟨l,st',At,nt,ct,rfl,a,τ I.out, ⟨j.1,j.2.drewN q5⟩, ⟨x,Yq,hf.drewN q5⟩,V.drewN q5⟩
   have O:Hid (st'.at_<st'.D.length):=by show _<_;have:=I.out;omega
   obtain⟨N1,F3, -,H, -,XZ,X, -, -⟩ :=po (e:=e) hf.ok O.out;have t:Hid ((fS e st').2.D.length-(fS e st').2.at_<gk/\(fS e st').2.at_<=(fS e st').2.D.length):=by show _<_/\_<=_;rw[XZ,X];have:=V7.out;omega
   have B:=zm.snoc a (show _<_ by have:=I.out;omega);clear F3 H XZ X
   go_wp2_with fail;refine z.mono ?_;rintro r w5 ⟨rfl,q5,rfl⟩;have Q:=hf.drewN q5;have U:=V.drewN q5;have s:kh (wr.drewN q5) w.heap.size At nt ct l:= ⟨j.1,j.2.drewN q5⟩
   go_wp2_with fail;refine(Jb Q O.out).mono ?_;rintro r f ⟨rfl, ⟨v,J,u⟩,F⟩;have C:kh f w.heap.size At nt ct l:= ⟨s.1,F.own s.2 λq hq=>EZ.out q (s.2.lt hq).1⟩;have T:=U.trans F λk b=> .inl b;obtain⟨R,Y⟩ :=ν (fS e st');rw[Y]at u t B⊢;obtain⟨⟨tl,i,td⟩,Xf⟩ :=R;dsimp only at u t B⊢;have P:=mn.lit f ⟨tl,i,td⟩;dsimp only at P;have E:=u.keeps ((ax _ f).alloc (ai _) (.cells #[.int .u8 tl, .int .i64 i, .int .i64 td] 109));have m:=T.trans (bk.bJ (S:=FF A gm Ap g) ((ax _ f).alloc (ai _) (.cells #[.int .u8 tl, .int .i64 i, .int .i64 td] 109))) λk b=> .inl b;have N:kh (f.alloc (.cells #[.int .u8 tl, .int .i64 i, .int .i64 td] 109)) w.heap.size At nt ct l:= ⟨C.1,C.2.alloc _⟩;have y:=m.size;clear Q U s F C Y u T
   go_wp2_with (at_builtin;(refine nG w.heap.size i0 rfl (.tmp 14) (.tmp 17) rfl Hi.out i7.out gp.out i9.out rfl N rfl P ω y ?_)
                intro A7 c7 w7 yY Ff tU)
   have d:bk (f.alloc (.cells #[.int .u8 tl, .int .i64 i, .int .i64 td] 109)) w7 (λk=>w.heap.size<=k):=(bk.refl _ _).grown Ff λk b=> .inl (N.2.lt b).1;have LF:=E.fC d λk b h2=>by have:=Z.out k b;omega
   have Gy:=m.trans d λk b=> .inr b;go_roundg (Xf.D.length-Xf.at_)
   case measure=>exact t.out.1
   case rel=>exact⟨_,Xf,A7,nt+1,c7,v,J,rfl,B,yY,LF,Gy,by show _=_;have:=t.out.2;omega⟩
 go_wp2_with fail;go_loopg [5] (st.D.length-st.at_) (xj w b0 g e st _ A n c gm Ap np cp)
 case atStart=>exact o
 clear o;obtain⟨l,st',At,nt,ct,x,Yq,rfl,a,j,hf,V,V7⟩ :=hrel;have p:=G4 a ky.out;have z:=yL hf;obtain⟨W,G⟩ :=ν (st'.D.length-st'.at_);rw[G]at z;have mU:nt<=100000000000:=by have:=j.1;have:=p.2.2.1;have:=p.1.hi;have:=aN List.length p.2.1;have:=lF.out;omega
 have I:=η G;clear G p;by_cases ab:(261:Int)<(W:Int)
 rotate_left
 · go_wp2_with fail;refine z.mono ?_;rintro r w5 ⟨rfl,q5,rfl⟩
   go_wp2_with fail;go_returns;exact⟨l,st',At,nt,ct,rfl,a,τ I.out, ⟨j.1,j.2.drewN q5⟩, ⟨x,Yq,hf.drewN q5⟩,V.drewN q5⟩
 have O:Hid (st'.at_<st'.D.length):=by show _<_;have:=I.out;omega
 obtain⟨N1,F3, -,H, -,XZ,X, -, -⟩ :=po (e:=e) hf.ok O.out;have t:Hid ((fS e st').2.D.length-(fS e st').2.at_<gk/\(fS e st').2.at_<=(fS e st').2.D.length):=by show _<_/\_<=_;rw[XZ,X];have:=V7.out;omega
 have B:=zm.snoc a (show _<_ by have:=I.out;omega);clear F3 H XZ X
 go_wp2_with fail;refine z.mono ?_;rintro r w5 ⟨rfl,q5,rfl⟩;have Q:=hf.drewN q5;have U:=V.drewN q5;have s:kh (wr.drewN q5) w.heap.size At nt ct l:= ⟨j.1,j.2.drewN q5⟩
 go_wp2_with fail;refine(Jb Q O.out).mono ?_;rintro r f ⟨rfl, ⟨v,J,u⟩,F⟩;have C:kh f w.heap.size At nt ct l:= ⟨s.1,F.own s.2 λq hq=>EZ.out q (s.2.lt hq).1⟩;have T:=U.trans F λk b=> .inl b;obtain⟨R,Y⟩ :=ν (fS e st');rw[Y]at u t B⊢;obtain⟨⟨tl,i,td⟩,Xf⟩ :=R;dsimp only at u t B⊢;have P:=mn.lit f ⟨tl,i,td⟩;dsimp only at P;have E:=u.keeps ((ax _ f).alloc (ai _) (.cells #[.int .u8 tl, .int .i64 i, .int .i64 td] 109));have m:=T.trans (bk.bJ (S:=FF A gm Ap g) ((ax _ f).alloc (ai _) (.cells #[.int .u8 tl, .int .i64 i, .int .i64 td] 109))) λk b=> .inl b;have N:kh (f.alloc (.cells #[.int .u8 tl, .int .i64 i, .int .i64 td] 109)) w.heap.size At nt ct l:= ⟨C.1,C.2.alloc _⟩;have y:=m.size;clear Q U s F C Y u T
 go_wp2_with (at_builtin;(refine nG w.heap.size i0 rfl (.tmp 14) (.tmp 17) rfl Hi.out i7.out gp.out i9.out rfl N rfl P ω y ?_)
              intro A7 c7 w7 yY Ff tU)
 have d:bk (f.alloc (.cells #[.int .u8 tl, .int .i64 i, .int .i64 td] 109)) w7 (λk=>w.heap.size<=k):=(bk.refl _ _).grown Ff λk b=> .inl (N.2.lt b).1;have LF:=E.fC d λk b h2=>by have:=Z.out k b;omega
 have Gy:=m.trans d λk b=> .inr b;go_roundg (Xf.D.length-Xf.at_)
 case measure=>exact t.out.1
 case rel=>exact⟨_,Xf,A7,nt+1,c7,v,J,rfl,B,yY,LF,Gy,by show _=_;have:=t.out.2;omega⟩
end
end Go.Proofs.YtdhmnlpfhfmpfaaGreat
