/-
  part
-/
import Derived.Test.YtgiimmkmjpbecaaGreatRev
import Derived.Test.YtgiimmkmjpbecaaGreatTab
import Derived.Handy
set_option linter.unusedVariables false
set_option maxRecDepth 100000
set_option maxHeartbeats 4000000
namespace Go.Proofs.YtgiimmkmjpbecaaGreat
open Go.RowKit Go.Maps
theorem Jo:Keyed Tryz.prog 46 :=int_keyed Tryz.underlying46
theorem GP (w:World):(zeroValue 3).run Tryz.prog w= .ok (.int .i64 0) w:=by kernel_rfl
theorem Jk {x:Int} (h:0<=x/\x<4294967296):keyOf Tryz.prog 46 (.int .u32 x)=some (.int .u32 x):=keyOf_int_mk Tryz.underlying46 (by simp [Lit.wf,IntKind.min,IntKind.max,IntKind.signed,IntKind.bits];omega)
theorem JL {P:Program} {f:FuncId} {args:Array Value} {w:World} {q n:Nat} {v:Value} (h:Calls P f args (w.drewN (q+n)) λe w'=>e= .returned v/\∃m,w'=(w.drewN (q+n)).drewN m):
  Calls P f args (w.drewN (q+n)) λe a=>e= .returned v/\∃m,a=w.drewN (q+m):=
 h.mono λ_ _ ⟨b,m,hm⟩ => ⟨b,n+m,by rw[hm,World.drewN_drewN,dD]⟩
theorem eA.look {w:World} {b0 g b n c gm nm np cp:Nat} {e:oP} {st:jk} {A Ap:ax} {Dm:DataW Unit} (h:eA w b0 g e st b A n c gm nm Dm Ap np cp) {H:Int} (k:0<=H/\H<4294967296) (m:Nat):
  (Instr.lookup 122 (.map (some gm)) (.int .u32 H) true).run Tryz.prog (w.drewN m)= .ok (.tuple #[.int .i64 ((st.head H).getD 0), .bool ((st.head H).isSome)]) (w.drewN m):=by
 have i:=(h.drewN m).map;obtain⟨v,ps,l,f⟩ :=i.look_ok Jo (t:= 122) Tryz.underlying122 (GP _) (plainElem_int (a:=0) Tryz.underlying3 δ) (Jk k);rw[(h.rep.2 H).2]at f;obtain⟨c,rfl,j,_⟩ :=plainElem_int_inv Tryz.underlying3 f
 have:(st.head H).getD 0=c:=by
  have d:=bf Prod.fst j;injection d with d;injection d with d h4
 rw[l,this,(h.rep.2 H).1]
def mN (w:World) (t:Nat×Nat) (r:Ending) (w':World):Prop:=r= .returned (.agg #[.int .u8 0, .int .i64 t.1, .int .i64 t.2])/\Below w.heap.size w w'
def tk (t:Nat×Nat):Nat->Value
 | 0=> .int .u8 0
 | 1=> .int .i64 t.1
 | _=> .int .i64 t.2
theorem a3Q {w:World} {g:Nat} {t:Nat×Nat} (h:Ar w g 3 (tk t)) (a b:Nat):Ar ((w.setCell ⟨g,1,none⟩ (.int .i64 a)).setCell ⟨g,2,none⟩ (.int .i64 b)) g 3 (tk (a,b)):=
 ((h.cE 1 _).cE 2 _).congr λi hi=>by
   obtain rfl | rfl | rfl:i=0\/i=1\/i=2:=ω;all_goals rfl
theorem Wu (w:World):Ar (w.alloc (.cells #[.int .u8 0, .int .i64 0, .int .i64 0] 132)) w.heap.size 3 (tk (0,0)):=
 Ar.new w #[.int .u8 0, .int .i64 0, .int .i64 0] 132 (show(#[.int .u8 0, .int .i64 0, .int .i64 0]:Array Value).size=3 from rfl) λi hi=>by
  obtain rfl | rfl | rfl:i=0\/i=1\/i=2:=ω;all_goals rfl
theorem wh {w:World} {g:Nat} {t:Nat×Nat} (h:Ar w g 3 (tk t)):w.cell? ⟨g,0,none⟩ =some (.int .u8 0)/\w.cell? ⟨g,1,none⟩ =some (.int .i64 t.1)/\w.cell? ⟨g,2,none⟩ =some (.int .i64 t.2)/\
  w.frozen? ⟨g,0,none⟩ =false/\w.frozen? ⟨g,1,none⟩ =false/\w.frozen? ⟨g,2,none⟩ =false:=
 ⟨h.az 0,h.az 1,h.az 2,h.aH 0,h.aH 1,h.aH 2⟩
def Yw (w:World) (st:jk) (e:oP) (p c b:Nat) (R:Nat×Nat) (k m _n:Value) (wr:World):Prop:=
 ∃(a:Nat) (K:Int) (t:Nat×Nat),m= .int .i64 a/\a<=256/\k= .int .i64 K/\ -1<=K/\K<(p:Int)/\Hid (nX st.D st.P st.base p e.nice a K t=R)/\t.1<=258/\t.2<=p/\Ar wr b 3 (tk t)/\Ar wr c 3 (tk (0,0))/\Below w.heap.size w wr
section
variable {w w':World} {b0 g n c gm nm np cp:Nat} {e:oP} {st:jk} {A Ap:ax} {Dm:DataW Unit}
theorem I5 (p:Nat) (h:eA w b0 g e st p A n c gm nm Dm Ap np cp) (hp:st.base<=p):
  Calls Tryz.prog 113 #[.pointer (some ⟨g,0,none⟩), .int .i64 p] w (mN w (dv e st p)):=by
 obtain⟨c0,c1, -,c3,c4, -,c6,c7⟩ :=rX h;have hb:=h.big;have bp:=h.ok.bl;have be:=h.eb;have j:=λW (hf:eA W b0 g e st p A n c gm nm Dm Ap np cp)=>yT hf;obtain⟨L,y⟩ :=ν (st.D.length);obtain⟨ch,l⟩ :=ν (e.chain);rw[l]at c0 be;rw[y]at hb bp;have hI:(p:Int)<=L/\(L:Int)<=100000000000/\(0:Int)<=p/\(0:Int)<=ch/\(ch:Int)<=256:=ω;have HL:=η y;have ct:=η l;have Yk:=h.cell.lt;have C:=((aw _ w).alloc (af _) (.cells #[.int .u8 0, .int .i64 0, .int .i64 0] 132)).alloc σ (.cells #[.int .u8 0, .int .i64 0, .int .i64 0] 132);have ac:Ar ((w.alloc (.cells #[.int .u8 0, .int .i64 0, .int .i64 0] 132)).alloc (.cells #[.int .u8 0, .int .i64 0, .int .i64 0] 132)) w.heap.size 3 (tk (0,0)):=(Wu w).alloc _
 have ab:Ar ((w.alloc (.cells #[.int .u8 0, .int .i64 0, .int .i64 0] 132)).alloc (.cells #[.int .u8 0, .int .i64 0, .int .i64 0] 132)) (w.heap.size+1) 3 (tk (0,0)):=by
  have:=Wu (w.alloc (.cells #[.int .u8 0, .int .i64 0, .int .i64 0] 132))
  rwa [show(w.alloc (.cells #[.int .u8 0, .int .i64 0, .int .i64 0] 132)).heap.size=w.heap.size+1 by simp]at this
 by_cases x:ch=0
 · have E:Hid (dv e st p=(0,0)):=xK (.inl (by rw[l];exact x));subst x;clear y l
   go_in
   go_wp2_with fail;go_returns;unfold mN;rw[E.out];exact⟨rfl,((aw _ w).alloc (af _) _).alloc σ _⟩
 have ci:((ch:Int)==0)=false:=by simpa using x
 have F:=h.keeps C;by_cases an:L<p+3
 · have E:Hid (dv e st p=(0,0)):=xK (.inr (by rw[y];exact an));have am:(L:Int)<(p:Int)+3:=ω;rw[y]at j;clear y l x
   go_in
   go_wp2_with fail;refine(j _ F).mono ?_;rintro r w1 ⟨rfl,q1,rfl⟩
   go_wp2_with fail;go_returns;unfold mN;rw[E.out];exact⟨rfl,(((below_drewN C q1).setCell (p:= ⟨w.heap.size,0,none⟩) (af _) _).setCell (p:= ⟨w.heap.size,1,none⟩) (af _) _).setCell (p:= ⟨w.heap.size,2,none⟩) (af _) _⟩
 have am:¬(L:Int)<(p:Int)+3:=ω;obtain⟨H,Y⟩ :=ν (mr st.D p);have Yf:0<=H/\H<4294967296:=by rw[<-Y];have:=VI (ix st.D p) (ix st.D (p+1)) (ix st.D (p+2));unfold mr;omega
 have z:=F.look Yf
 have J5:∀m W,eA W b0 g e st p A n c gm nm Dm Ap np cp->Calls Tryz.prog 132 #[.pointer (some ⟨g,0,none⟩), .int .i64 p] (W.drewN m) λr w'=>r= .returned (.int .u32 H)/\∃q,w'=(W.drewN m).drewN q:=λm W hf=>by
  have:=IV (hf.drewN m) p hp (by rw[y];omega)
  rwa [Y]at this
 have hs:Hid (∀k,st.head H=some k->dv e st p=nX st.D st.P st.base p e.nice ch k (0,0)/\0<=k/\k<(p:Int)):=λk hk=>by
  have h5:=h.ok.hd H k hk;have h6:=I4 (e:=e) (st:=st) (p:=p) (k:=k) (by rw[l];exact x) (by rw[y];omega) (by rw[Y];exact hk);rw[l]at h6;exact⟨h6,h5⟩
 have Cn:Hid (st.head H=none->dv e st p=(0,0)):=λhk=>I3 (by rw[Y];exact hk);rw[y]at j;have HH:=η J5;have cs:=η Y;clear y l x Y J5;obtain⟨hd,uo⟩ :=ν (st.head H);rw[uo]at z;have HD:=η uo;clear uo;cases hd with
 | none=>
   have E:Hid (dv e st p=(0,0)):=Cn.out HD.out;simp only [Option.getD_none,Option.isSome_none]at z
   go_in
   go_wp2_with fail;refine(j _ F).mono ?_;rintro r w1 ⟨rfl,q1,rfl⟩
   go_wp2_with fail;go_quiet ((go_at_call 132;exact JL (HH _ _ F)))
   go_wp2_with fail
   go_loopw [6,8,9] (λk _ _ wr=>k= .int .i64 0/\Ar wr (w.heap.size+1) 3 (tk (0,0))/\Ar wr w.heap.size 3 (tk (0,0))/\Below w.heap.size w wr) (λ_ _ _ _=>0)
   case atStart=>exact⟨rfl,ab.drewN _,ac.drewN _,below_drewN C _⟩
   obtain⟨rfl,F,h0,b⟩ :=hrel;obtain⟨k0,k1,k2, -, -, -⟩ :=wh F;obtain⟨U,S,Q,z0,z1,z2⟩ :=wh h0;have ap:=F.lt
   go_wp2_with fail;refine bS (v:= .agg #[.int .u8 0, .int .i64 0, .int .i64 0]) (by simp [results,Tryz.results113,go_sem,U,S,Q]) rfl ?_;unfold mN;rw[E.out];exact⟨rfl,((b.setCell (p:= ⟨w.heap.size,0,none⟩) (af _) _).setCell (p:= ⟨w.heap.size,1,none⟩) (af _) _).setCell (p:= ⟨w.heap.size,2,none⟩) (af _) _⟩
 | some k=>
   obtain⟨E,wF,uP⟩ :=hs.out k HD.out;simp only [Option.getD_some,Option.isSome_some]at z;obtain⟨R,o⟩ :=ν (dv e st p);rw[o]at E⊢;have HB:Hid (nX st.D st.P st.base p e.nice ch k (0,0)=R):=E.symm;have hP:Hid (∀q, -1<=ix st.P q/\ix st.P q<=q):=h.ok.prev;obtain⟨B,Yc⟩ :=ν (st.base);obtain⟨N0,Mh⟩ :=ν (e.nice);have cr:(0:Int)<=B/\(B:Int)<=(p:Int):=ω;have KE:=η Yc;have al:=η Mh;have hn:=h.mW;rw[HL.out]at hn;have Hn:=η hn;have bd:Hid (∀gd,Ap=some ⟨gd,0,none⟩->gd<w.heap.size):=λgd e=>(h.xv.2.lt (g:=gd) (by rw[e];rfl)).2;clear E o hs Cn Yc Mh hn
   go_in
   go_wp2_with fail;refine(j _ F).mono ?_;rintro r w1 ⟨rfl,q1,rfl⟩
   go_wp2_with fail;go_quiet ((go_at_call 132;exact JL (HH _ _ F)))
   go_wp2_with fail;clear z
   go_loopw [6,8,9] (Yw w st e p w.heap.size (w.heap.size+1) R) (λ_ m _ _=>(intOf m).toNat)
   case atStart=>exact⟨ch,k,(0,0),rfl,ω,rfl,ω,uP,HB,σ,σ,ab.drewN _,ac.drewN _,below_drewN C _⟩
   obtain⟨tr,K,t,rfl,bG,rfl,cq,cl,hF,uR,P7,YY,G,b⟩ :=hrel;obtain⟨T,u⟩ :=t;dsimp only at uR P7;obtain⟨k0,k1,k2,y0,y1,y2⟩ :=wh YY;obtain⟨U,S,Q,z0,z1,z2⟩ :=wh G;have ap:=YY.lt;have hf:=h.keeps b;have cg:g≠w.heap.size+1:=ω;have ce:w.heap.size+1≠g:=ω;obtain⟨c0,c1, -,c3,c4, -,c6,c7⟩ :=rX hf;rw[KE.out]at c4;rw[al.out]at c1;have cj:(0:Int)<=T/\(T:Int)<=258/\(0:Int)<=u:=ω;dsimp only at k1 k2;by_cases I:tr=0
   · have o:Hid (R=(T,u)):=by show _=_;rw[<-hF.out,I];rfl
     have bB:((tr:Int))=0:=ω;subst I;clear hF
     go_wp2_with fail;refine bS (v:= .agg #[.int .u8 0, .int .i64 T, .int .i64 u]) (by simp [results,Tryz.results113,go_sem,U,S,Q]) rfl ?_;unfold mN;rw[o.out];exact⟨rfl,((b.setCell (p:= ⟨w.heap.size,0,none⟩) (af _) _).setCell (p:= ⟨w.heap.size,1,none⟩) (af _) _).setCell (p:= ⟨w.heap.size,2,none⟩) (af _) _⟩
   obtain⟨m,rfl⟩ :∃m,tr=m+1:= ⟨tr-1,ω⟩;have hm:((m+1:Nat):Int)=(m:Int)+1:=ω;have J7:(0:Int)<=m/\(m:Int)<=255/\(0:Int)<(m:Int)+1:=ω
   have Z:nX st.D st.P st.base p e.nice (m+1) K (T,u)=if(B:Int)<=K/\(p:Int)-32768<=K then
     (if 3<=kG st.D K.toNat p/\T<kG st.D K.toNat p then
       (if N0<=kG st.D K.toNat p then(kG st.D K.toNat p,p-K.toNat)else nX st.D st.P st.base p e.nice m (ix st.P K.toNat) (kG st.D K.toNat p,p-K.toNat))
     else nX st.D st.P st.base p e.nice m (ix st.P K.toNat) (T,u))else(T,u):=by rw[<-KE.out,<-al.out];rfl
   have f:=hF.out;rw[Z]at f;clear Z hF;rw[hm];by_cases M:(B:Int)<=K
   rotate_left
   · have o:Hid (R=(T,u)):=by show _=_;rw[<-f,a8 (λh=>M h.1)]
     have bo:K<(B:Int):=ω;clear f M
     go_wp2_with fail;refine bS (v:= .agg #[.int .u8 0, .int .i64 T, .int .i64 u]) (by simp [results,Tryz.results113,go_sem,U,S,Q]) rfl ?_;unfold mN;rw[o.out];exact⟨rfl,((b.setCell (p:= ⟨w.heap.size,0,none⟩) (af _) _).setCell (p:= ⟨w.heap.size,1,none⟩) (af _) _).setCell (p:= ⟨w.heap.size,2,none⟩) (af _) _⟩
   by_cases J:(p:Int)-32768<=K
   rotate_left
   · have o:Hid (R=(T,u)):=by show _=_;rw[<-f,a8 (λh=>J h.2)]
     have bo:K<(p:Int)-32768:=ω;clear f J
     go_wp2_with fail;refine bS (v:= .agg #[.int .u8 0, .int .i64 T, .int .i64 u]) (by simp [results,Tryz.results113,go_sem,U,S,Q]) rfl ?_;unfold mN;rw[o.out];exact⟨rfl,((b.setCell (p:= ⟨w.heap.size,0,none⟩) (af _) _).setCell (p:= ⟨w.heap.size,1,none⟩) (af _) _).setCell (p:= ⟨w.heap.size,2,none⟩) (af _) _⟩
   rw[aa ⟨M,J⟩]at f;obtain⟨s,rfl⟩ :=aF (show 0<=K by omega);rw[aY]at f;have oM:=Sa hf s p (by rw[KE.out];omega) ω (by rw[HL.out];omega);have bs:=(K5 st.D s p).1;obtain⟨N,hN⟩ :=ν (kG st.D s p);rw[hN]at oM bs f;obtain⟨i,hi⟩ :∃i,s=B+i:= ⟨s-B,ω⟩;have lO:i<n:=by have:=Hn.out;have:=KE.out;omega
   have bx:IntKind.i64.wrap ((s:Int)-(B:Int))=(i:Int):=by rw[aM _ ω];omega
   have co:(s:Int)-(B:Int)=(i:Int):=ω;have ca:(0:Int)<=i/\(i:Int)<(n:Int):=ω;obtain⟨V,hV⟩ :=ν (ix st.P s);have GZ:=hP.out s;rw[hV]at f GZ;have X: -1<=V/\V<(p:Int):=ω
   have a:∀W,Below w.heap.size w W->∃gd,Ap=some ⟨gd,0,none⟩/\W.cell? ⟨gd,i,none⟩ =some (.int .i64 V):=λW hW=>by
    have:=(h.keeps hW).place lO
    rwa [KE.out,<-hi,hV]at this
   have VC:(p:Int)-(s:Int)=((p-s:Nat):Int):=ω;have O5:=h.Pg;have ck:(0:Int)<=N/\(N:Int)<=258:=ω;have bM:(i:Int)<(np:Int):=ω;have cm:((s:Int)== -1)=false:=σ;have O:=η f;have ER:=η VC;clear f hi hN hV GZ lO O5 I VC;by_cases ZC:3<=N
   rotate_left
   · have o:Hid (nX st.D st.P st.base p e.nice m V (T,u)=R):=by show _=_;rw[<-O.out,a8 (λh=>ZC h.1)]
     have ah:(N:Int)<3:=ω;clear O;obtain⟨gd,rfl,cc⟩ :=a _ b;clear a
     go_wp2_with fail;refine oM.mono ?_;rintro r w5 ⟨rfl,q5,rfl⟩
     go_wp2_with fail;go_quiet (fail);go_wp2;go_roundw
     case rel=>exact⟨m,V,(T,u),by go_num,ω,rfl,X.1,X.2,o,uR,P7,YY.drewN _,G.drewN _,below_drewN b _⟩
     case measure=>simp [intOf]
   by_cases ad:T<N
   rotate_left
   · have o:Hid (nX st.D st.P st.base p e.nice m V (T,u)=R):=by show _=_;rw[<-O.out,a8 (λh=>ad h.2)]
     have ah:(3:Int)<=N/\¬(T:Int)<N:=ω;clear O;obtain⟨gd,rfl,cc⟩ :=a _ b;clear a
     go_wp2_with fail;refine oM.mono ?_;rintro r w5 ⟨rfl,q5,rfl⟩
     go_wp2_with fail;go_quiet (fail);go_wp2;go_roundw
     case rel=>exact⟨m,V,(T,u),by go_num,ω,rfl,X.1,X.2,o,uR,P7,YY.drewN _,G.drewN _,below_drewN b _⟩
     case measure=>simp [intOf]
   have ah:(3:Int)<=N/\(T:Int)<N:=ω;obtain⟨d,hd⟩ :=ν (p-s);have Ye:=O.out;rw[aa ⟨ZC,ad⟩,hd]at Ye;have bI:(p:Int)-(s:Int)=(d:Int):=by have:=ER.out;omega
   have bi:d<=p:=ω;by_cases J9:N0<=N
   · have o:Hid (R=(N,d)):=by show _=_;rw[<-Ye,aa J9]
     have ao:(N0:Int)<=(N:Int):=ω;clear Ye hd O a
     go_wp2_with fail;refine oM.mono ?_;rintro r w5 ⟨rfl,q5,rfl⟩;have KR:=((below_drewN b q5).setCell (p:= ⟨w.heap.size+1,1,none⟩) σ (.int .i64 N)).setCell (p:= ⟨w.heap.size+1,2,none⟩) σ (.int .i64 d)
     go_wp2_with fail;refine bS (v:= .agg #[.int .u8 0, .int .i64 N, .int .i64 d]) (by simp [results,Tryz.results113,go_sem,U,S,Q]) rfl ?_;unfold mN;rw[o.out];exact⟨rfl,((KR.setCell (p:= ⟨w.heap.size,0,none⟩) (af _) _).setCell (p:= ⟨w.heap.size,1,none⟩) (af _) _).setCell (p:= ⟨w.heap.size,2,none⟩) (af _) _⟩
   have o:Hid (nX st.D st.P st.base p e.nice m V (N,d)=R):=by show _=_;rw[<-Ye,a8 J9]
   have ao:¬(N0:Int)<=(N:Int):=ω;clear Ye hd O;obtain⟨gd,rfl,cc⟩ :=a _ b;have cd:=bd.out gd rfl;have aE:gd≠w.heap.size+1:=ω;have cb:w.heap.size+1≠gd:=λe=>aE e.symm;clear a
   go_wp2_with fail;refine oM.mono ?_;rintro r w5 ⟨rfl,q5,rfl⟩;have KR:=((below_drewN b q5).setCell (p:= ⟨w.heap.size+1,1,none⟩) σ (.int .i64 N)).setCell (p:= ⟨w.heap.size+1,2,none⟩) σ (.int .i64 d);have bt:=a3Q (YY.drewN q5) N d;have bv:Ar _ w.heap.size 3 (tk (0,0)):=((G.drewN q5).far (p:= ⟨w.heap.size+1,1,none⟩) σ (.int .i64 N)).far (p:= ⟨w.heap.size+1,2,none⟩) σ (.int .i64 d)
   go_wp2_with fail;go_quiet (fail);go_wp2;go_roundw
   case rel=>exact⟨m,V,(N,d),by go_num,ω,rfl,X.1,X.2,o,ω,bi,bt.drewN _,bv.drewN _,below_drewN KR _⟩
   case measure=>simp [intOf]
end
theorem aT.iz {k:IntKind} {w:World} {b0 g n c:Nat} {e:TypeId} {l:ag} (h:aT k w b0 e (some ⟨g,0,none⟩) n c l) {i:Nat} (hi:i<n) (v:Int):aT k (w.setCell ⟨g,i,none⟩ (.int k v)) b0 e (some ⟨g,0,none⟩) n c (l.set i v):=
 ⟨by rw[fQ];exact h.1,(h.2.iz (i:=i) ω (.int k v)).congr λj a=>by
   unfold upd;rw[W8 _ _ _ _ (by rw[<-h.1];exact hi)];split <;> rfl⟩
theorem drop_set {l:ag} {i b:Nat} {v:Int}:(l.set (b+i) v).drop b=(l.drop b).set i v:=by
 rw[List.drop_set,a8 ω,bP]
section
variable {w w' w1 w2:World} {b0 g p n c gm nm np cp gd:Nat} {e:oP} {st:jk} {A Ap:ax} {Dm:DataW Unit}
theorem eA.entered (h:eA w b0 g e st p A n c gm nm Dm Ap np cp) (hp:p<st.D.length) {H:Int} (y:mr st.D p=H) (z:0<=H/\H<4294967296) (i:¬(e.chain=0\/st.D.length<p+3)) (d:ai Ap=some gd) (m:bb w w1 (λk=>k=gd))
  (r:aT .i64 w1 b0 3 Ap np cp ((st.P.set p (was st H)).drop st.base)) (v:w1.grownBy w2 (some gm)) (s:w2.ownsMap Tryz.prog 46 (plainElem Tryz.prog 3) gm (nm+1) (Dm.put (.int .u32 H) (.lit (.int .i64 p)))):
  eA w2 b0 g e (bV e st p) (p+1) A n c gm (nm+1) (Dm.put (.int .u32 H) (.lit (.int .i64 p))) Ap np cp/\bb w w2 (FF A gm Ap g):=by
 have l:gd≠g:=λe=>h.d2 (by rw[d,e]);have u:gd≠gm:=λe=>h.d6 (by rw[d,e]);have j:ai A≠some gd:=λe=>h.d4 gd e d;have o:=h.ok.enter (e:=e) (p:=p) hp;have hE:bV e st p={ st with P:=st.P.set p (was st H),head:=λx=>if x=H then some (p:Int)else st.head x }:=by unfold bV;rw[a8 i,y]
 have b:bb w1 w2 (λk=>k=gm):=(bb.refl w1 _).grown v λk a=>by injection a with a;exact .inl a.symm
 have t:WideAt.IsKeyLit (.int .u32 H):=by exact(by trivial)
 rw[hE]at o⊢;refine⟨⟨b.ar (m.ar h.cell λe=>l e.symm) λe=>h.d3 e.symm,h.lo,b.dJ (m.dJ h.own λq f e=>j (by rw[f,e])) λq f e=>h.d5 (by rw[f,e]),b.dJ r λq f e=>h.d6 (by rw[f,e]),s,h.rep.put H p t,h.glo,τ h.nmb,h.d1,h.d2,h.d3,h.d4,h.d5,h.d6,o,h.jc,h.eb,h.big⟩, ?_⟩;exact(m.more λk a=> .inr (.inr (.inr (by rw[d,a])))).trans (b.more λk a=> .inr (.inl a)) λk a=> .inl a
def sP (w:World) (b0 g:Nat) (e:oP) (st:jk) (b:Nat) (A:ax) (n c gm:Nat) (Ap:ax) (np cp:Nat) (r:Ending) (w':World):Prop:=
 r= .returned (.tuple #[])/\(∃nm Dm,eA w' b0 g e st b A n c gm nm Dm Ap np cp)/\bb w w' (FF A gm Ap g)
theorem Dz (p:Nat) (h:eA w b0 g e st p A n c gm nm Dm Ap np cp) (hp:st.base<=p) (Jb:p<st.D.length):
  Calls Tryz.prog 117 #[.pointer (some ⟨g,0,none⟩), .int .i64 p] w (sP w b0 g e (bV e st p) (p+1) A n c gm Ap np cp):=by
 obtain⟨c0,c1, -,c3,c4, -,c6,c7⟩ :=rX h;have hb:=h.big;have ad:=h.eb;have f:=yT h
 have oM:e.chain=0\/st.D.length<p+3->∀q,sP w b0 g e (bV e st p) (p+1) A n c gm Ap np cp (.returned (.tuple #[])) (w.drewN q):=λhc q=>by
  have hE:bV e st p=st:=by unfold bV;rw[aa hc]
  have a:=h.drewN q;rw[hE];exact⟨rfl, ⟨nm,Dm,a.cell,a.lo,a.own,a.xv,a.map,a.rep,a.glo,τ a.nmb,a.d1,a.d2,a.d3,a.d4,a.d5,a.d6, ⟨a.ok.len,a.ok.lo,a.ok.hi,Jb,a.ok.prev,λx k hk=>by have:=a.ok.hd x k hk;omega⟩,a.jc,a.eb,a.big⟩,(bb.refl w _).drewN q⟩
 have HS:=η oM;clear oM;obtain⟨L,hL⟩ :=ν (st.D.length);obtain⟨ch,t⟩ :=ν (e.chain);rw[t]at c0 ad;rw[hL]at hb f;have hI:(p:Int)<L/\(L:Int)<=100000000000/\(0:Int)<=p/\(0:Int)<=ch/\(ch:Int)<=256:=ω;have Q:=η hL;have K:=η t;clear hL t;by_cases G:ch=0
 · subst G
   go_in
   go_wp2_with fail;go_returns;exact HS.out (.inl K.out) 0
 have ap:((ch:Int)==0)=false:=by simpa using G
 by_cases Y:L<p+3
 · have X:(L:Int)<(p:Int)+3:=ω
   go_in
   go_wp2_with fail;refine f.mono ?_;rintro r w1 ⟨rfl,q1,rfl⟩
   go_wp2_with fail;go_returns;exact HS.out (.inr (by rw[Q.out];exact Y)) q1
 have X:¬(L:Int)<(p:Int)+3:=ω;obtain⟨H,O⟩ :=ν (mr st.D p);have u:0<=H/\H<4294967296:=by rw[<-O];have:=VI (ix st.D p) (ix st.D (p+1)) (ix st.D (p+2));unfold mr;omega
 have J5:∀m,Calls Tryz.prog 132 #[.pointer (some ⟨g,0,none⟩), .int .i64 p] (w.drewN m) λr w'=>r= .returned (.int .u32 H)/\∃q,w'=(w.drewN m).drewN q:=λm=>by
  have:=IV (h.drewN m) p hp (by rw[Q.out];omega)
  rwa [O]at this
 obtain⟨i,hi⟩ :∃i,p=st.base+i:= ⟨p-st.base,ω⟩;have lO:i<n:=by have:=h.mW;have:=Q.out;omega
 have ab:=h.Pg;obtain⟨gd,hA,cc⟩ :=h.place lO;have d:=h.xv;have b:=h.map;have C:¬(e.chain=0\/st.D.length<p+3):=by rw[Q.out,K.out];omega
 have ac:gd≠g:=λJ=>h.d2 (by rw[hA,<-J];rfl);have ao:g≠gd:=λJ=>ac J.symm;have s:gm≠gd:=λJ=>h.d6 (by rw[hA,J];rfl);rw[hA]at d c7;have zf:=d.2.frozen i;have Ve:=λw1 w2=>h.entered (w1:=w1) (w2:=w2) (gd:=gd) Jb O u C (by rw[hA];rfl);rw[hA]at Ve;have a3U:=η Ve;obtain⟨B,hB⟩ :=ν (st.base);have Bb:∀v,(st.P.set p v).drop st.base=(st.P.drop st.base).set i v:=λv=>by rw[hi,drop_set]
 have a3Y:=η Bb;rw[hB]at c4;have al:IntKind.i64.wrap ((p:Int)-(B:Int))=(i:Int):=by rw[aM _ ω];omega
 have aE:(p:Int)-(B:Int)=(i:Int):=ω;have an:(0:Int)<=i/\(i:Int)<(np:Int):=ω;have am:=h.nmb;have W:=h.look u 0;have l:=h.look u;have o:i<np:=ω;obtain⟨hd,N⟩ :=ν (st.head H);have y:Hid (was st H=hd.getD (-1)):=by show _=_;unfold was;rw[N]
 have Rb:=(h.rep.2 H).1;have Z:Hid (Dm.atKey (.int .u32 H) (.lit (.int .i64 0))= .lit (.int .i64 (hd.getD 0))):=by show _=_;rw[<-N];exact(h.rep.2 H).2
 rw[N]at l Rb;have Yk:=h.cell.lt;obtain⟨V,hV⟩ :=ν (ix st.P (st.base+i));rw[hV]at cc;have wC:=η hA;have E:nm<maxLen:=by unfold maxLen;omega
 have R8:(Lit.int .i64 (p:Int)).wf=true:=by simp [Lit.wf,IntKind.min,IntKind.max,IntKind.signed,IntKind.bits];omega
 clear O hi lO hB C Ve Bb N W hV hA ab;cases hd with
 | none=>
   simp only [Option.getD_none,Option.isSome_none]at l
   go_in
   go_wp2_with fail;refine f.mono ?_;rintro r w1 ⟨rfl,q1,rfl⟩
   go_wp2_with fail;refine(J5 q1).mono ?_;rintro r w1 ⟨rfl,q2,rfl⟩
   go_wp2_with fail;go_region;have j:bb w ((w.drewN (q1+q2+1)).setCell ⟨gd,i,none⟩ (.int .i64 (-1))) (λk=>k=gd):=((bb.refl w (λk=>k=gd)).drewN _).setCell (p:= ⟨gd,i,none⟩) (.inl rfl) _;have M:=pN b (j.block gm b.lt s);have z:=aT.iz (d.drewN (q1+q2+1)) o (-1)
   go_wp2_with (first
    | (at_lookup;refine wpList_lookup_own_ok_int _ rfl _ _ 122 rfl 46 3 .i64 Jo Tryz.underlying122 Tryz.underlying3 (GP _) gm nm Dm rfl M _ _ rfl (Jk u) ?_;intro c I U;rw[Rb];simp only [Option.isSome_none])
    | (at_mapUpdate;refine wpList_mapUpdate_own _ rfl _ _ _ 122 rfl 46 3 Jo Tryz.underlying122 (plainElem Tryz.prog 3) gm nm Dm rfl M E _ _ _ rfl rfl (Jk u) _ [] (plainElem_int Tryz.underlying3 R8) ?_;intro R im MB))
   go_returns;obtain⟨T,S⟩ :=a3U.out _ R j (by rw[y.out,a3Y.out];exact z) MB im;exact⟨rfl, ⟨_,_,by rw[wC.out];exact T⟩,by rw[wC.out];exact S⟩
 | some k=>
   simp only [Option.getD_some,Option.isSome_some]at l
   go_in
   go_wp2_with fail;refine f.mono ?_;rintro r w1 ⟨rfl,q1,rfl⟩
   go_wp2_with fail;refine(J5 q1).mono ?_;rintro r w1 ⟨rfl,q2,rfl⟩
   go_wp2_with fail;go_region;have j:bb w ((w.drewN (q1+q2+1)).setCell ⟨gd,i,none⟩ (.int .i64 (-1))) (λk=>k=gd):=((bb.refl w (λk=>k=gd)).drewN _).setCell (p:= ⟨gd,i,none⟩) (.inl rfl) _;have M:=pN b (j.block gm b.lt s);have z:=aT.iz (d.drewN (q1+q2+1)) o (-1)
   go_wp2_with (at_lookup;refine wpList_lookup_own_ok_int _ rfl _ _ 122 rfl 46 3 .i64 Jo Tryz.underlying122 Tryz.underlying3 (GP _) gm nm Dm rfl M _ _ rfl (Jk u) ?_;intro c I U;rw[Rb];simp only [Option.isSome_some])
   have tH:c=k:=by
    have h5:=Z.out;rw[I]at h5;injection h5 with h5;injection h5
   subst tH;have ah:=z.2.frozen i;have bd:=z.2.cell (i:=i) ω;have F:bb w ((((w.drewN (q1+q2+1)).setCell ⟨gd,i,none⟩ (.int .i64 (-1))).drew).setCell ⟨gd,i,none⟩ (.int .i64 c)) (λk=>k=gd):=j.drew.setCell (p:= ⟨gd,i,none⟩) (.inl rfl) _;have tU:=pN b (F.block gm b.lt s);have ib:=aT.iz z.drew o c;rw[List.set_set]at ib;go_region
   go_wp2_with (at_mapUpdate;refine wpList_mapUpdate_own _ rfl _ _ _ 122 rfl 46 3 Jo Tryz.underlying122 (plainElem Tryz.prog 3) gm nm Dm rfl tU E _ _ _ rfl rfl (Jk u) _ [] (plainElem_int Tryz.underlying3 R8) ?_;intro R im MB)
   go_returns;obtain⟨T,S⟩ :=a3U.out _ R F (by rw[y.out,a3Y.out];exact ib) MB im;exact⟨rfl, ⟨_,_,by rw[wC.out];exact T⟩,by rw[wC.out];exact S⟩
end
theorem RN (e:oP) (n:Nat) (st:jk):dV e (n+1) st=moved (bV e (dV e n st) (dV e n st).at_):=by
 induction n generalizing st with
 | zero=>rfl
 | succ n a=>rw[dV,a];rfl
section
variable {w w' w1 w2:World} {b0 g b n c gm nm np cp:Nat} {e:oP} {st:jk} {A Ap:ax} {Dm:DataW Unit}
theorem eA.moved (h:eA w b0 g e st (st.at_+1) A n c gm nm Dm Ap np cp) {T:Int} (f:T=(st.at_:Int)+1):
  eA (w.setCell ⟨g,5,none⟩ (.int .i64 T)) b0 g e (moved st) (st.at_+1) A n c gm nm Dm Ap np cp/\bb w (w.setCell ⟨g,5,none⟩ (.int .i64 T)) (FF A gm Ap g):=by
 subst f;have a:bb w (w.setCell ⟨g,5,none⟩ (.int .i64 ((st.at_:Int)+1))) (λk=>k=g):=(bb.refl w (λk=>k=g)).setCell (p:= ⟨g,5,none⟩) (.inl rfl) _;refine⟨⟨(h.cell.cE 5 _).congr λi hi=> ?_,h.lo,a.dJ h.own λq b e=>h.d1 (by rw[b,e]),a.dJ h.xv λq b e=>h.d2 (by rw[b,e]),pN h.map (a.block gm h.map.lt h.d3),h.rep,h.glo,h.nmb,h.d1,h.d2,h.d3,h.d4,h.d5,h.d6,h.ok.moved,h.jc,h.eb,h.big⟩,a.more λk d=> .inl d⟩;obtain rfl | rfl | rfl | rfl | rfl | rfl | rfl | rfl:i=0\/i=1\/i=2\/i=3\/i=4\/i=5\/i=6\/i=7:=ω;all_goals rfl
def EU (w:World) (b0 g:Nat) (e:oP) (st:jk) (A:ax) (n c gm:Nat) (Ap:ax) (np cp N:Nat) (i:Value) (wr:World):Prop:=
 ∃(k nm:Nat) (Dm:DataW Unit),k<=N/\i= .int .i64 k/\eA wr b0 g e (dV e k st) (st.at_+k) A n c gm nm Dm Ap np cp/\bb w wr (FF A gm Ap g)
theorem sH (N:Nat) (h:eA w b0 g e st st.at_ A n c gm nm Dm Ap np cp) (hN:st.at_+N<=st.D.length):
  Calls Tryz.prog 115 #[.pointer (some ⟨g,0,none⟩), .int .i64 N] w (sP w b0 g e (dV e N st) (st.at_+N) A n c gm Ap np cp):=by
 have f:EU w b0 g e st A n c gm Ap np cp N (.int .i64 0) w:= ⟨0,nm,Dm,aG _,rfl,h,bb.refl w _⟩;have G:=h.ok;have U:=h.big;have m:=η G
 go_in
 go_wp2_with fail
 go_loopw [5] (EU w b0 g e st A n c gm Ap np cp N) (λi _=>N-(intOf i).toNat)
 case atStart=>exact f
 clear f G;obtain⟨k,L,V,S,rfl,hf,J⟩ :=hrel;by_cases v:k<N
 rotate_left
 · obtain rfl:k=N:=ω
   go_wp2_with fail;go_returns;exact⟨rfl, ⟨_,_,hf⟩,J⟩
 have R:(k:Int)<(N:Int)/\(0:Int)<=k/\(k:Int)<=100000000000:=ω;obtain⟨-,E,t,C⟩ :=qK (e:=e) (n:=k) m.out ω;have b:(dV e k st).at_=st.at_+k:=t;have F:Hid (dV e (k+1) st=moved (bV e (dV e k st) (st.at_+k))):=by show _=_;rw[RN,t]
 have a:(dV e k st).base<=st.at_+k:=by rw[C];have:=m.lo;omega
 have l:=Dz (st.at_+k) hf a (by rw[E];omega);obtain⟨-, -, -, -, -,K, -, -⟩ :=rX hf;rw[b]at K;obtain⟨T,y⟩ :=ν (st.at_+k);have P:Hid (st.at_+(k+1)=T+1):=by show _=_;omega
 have O:(0:Int)<=T/\(T:Int)<=100000000000:=ω;rw[y]at l K F;have s:Hid ((bV e (dV e k st) T).at_=T):=by show _=_;rw[(yU e _ _).2.1,b,y]
 clear b y E t C a hN
 go_wp2_with fail;refine l.mono ?_;rintro r B ⟨rfl, ⟨d,o,p⟩,I⟩;obtain⟨-, -, -, -, -,z, -, -⟩ :=rX p;have Q:=p.cell.aH 5;rw[s.out]at z;have j:eA B b0 g e (bV e (dV e k st) T) ((bV e (dV e k st) T).at_+1) A n c gm d o Ap np cp:=by rw[s.out];exact p
 obtain⟨x,H⟩ :=j.moved (T:=(T:Int)+1) (by rw[s.out]);rw[s.out]at x
 have M:EU w b0 g e st A n c gm Ap np cp N (.int .i64 ((k:Int)+1)) (B.setCell ⟨g,5,none⟩ (.int .i64 ((T:Int)+1))):=
  ⟨k+1,d,o,v,by go_num,by rw[F.out,P.out];exact x,(J.trans I λq u=> .inl u).trans H λq u=> .inl u⟩
 clear p x I H j
 go_wp2_with fail;go_roundw
 case rel=>exact M
 case measure=>simp [intOf];omega
end
def tkT (a b c:Int):Nat->Value
 | 0=> .int .u8 a
 | 1=> .int .i64 b
 | _=> .int .i64 c
theorem zh (w:World) (a b c:Int):Ar (w.alloc (.cells #[.int .u8 a, .int .i64 b, .int .i64 c] 132)) w.heap.size 3 (tkT a b c):=
 Ar.new w #[.int .u8 a, .int .i64 b, .int .i64 c] 132 (show(#[.int .u8 a, .int .i64 b, .int .i64 c]:Array Value).size=3 from rfl) λi hi=>by
  obtain rfl | rfl | rfl:i=0\/i=1\/i=2:=ω;all_goals rfl
theorem dW {w:World} {g:Nat} {a b c:Int} (h:Ar w g 3 (tkT a b c)):w.cell? ⟨g,0,none⟩ =some (.int .u8 a)/\w.cell? ⟨g,1,none⟩ =some (.int .i64 b)/\w.cell? ⟨g,2,none⟩ =some (.int .i64 c)/\
  w.frozen? ⟨g,0,none⟩ =false/\w.frozen? ⟨g,1,none⟩ =false/\w.frozen? ⟨g,2,none⟩ =false:=
 ⟨h.az 0,h.az 1,h.az 2,h.aH 0,h.aH 1,h.aH 2⟩
def Hq (w:World) (b0 g:Nat) (e:oP) (R:bY×jk) (A:ax) (n c gm:Nat) (Ap:ax) (np cp:Nat) (r:Ending) (w':World):Prop:=
 r= .returned (.agg #[.int .u8 R.1.lit, .int .i64 R.1.len, .int .i64 R.1.bn])/\(∃nm Dm,eA w' b0 g e R.2 R.2.at_ A n c gm nm Dm Ap np cp)/\bb w w' (FF A gm Ap g)
section
variable {w w' w1 w2:World} {b0 g b n c gm nm np cp:Nat} {e:oP} {st:jk} {A Ap:ax} {Dm:DataW Unit}
theorem pQ {d:World} {F:Nat->Value} {a x y:Int} {st':jk} (h:eA w b0 g e st b A n c gm nm Dm Ap np cp) {f:Nat} {l:DataW Unit} (o:eA d b0 g e st' st'.at_ A n c gm f l Ap np cp) (m:bb w d (FF A gm Ap g)) (ar:Ar d w.heap.size 3 F):
  Hq w b0 g e (⟨a,x,y⟩,st') A n c gm Ap np cp (.returned (.agg #[.int .u8 a, .int .i64 x, .int .i64 y])) (((d.setCell ⟨w.heap.size,0,none⟩ (.int .u8 a)).setCell ⟨w.heap.size,1,none⟩ (.int .i64 x)).setCell ⟨w.heap.size,2,none⟩ (.int .i64 y)):=by
 have i:bb d (((d.setCell ⟨w.heap.size,0,none⟩ (.int .u8 a)).setCell ⟨w.heap.size,1,none⟩ (.int .i64 x)).setCell ⟨w.heap.size,2,none⟩ (.int .i64 y)) (λk=>k=w.heap.size):=
  (((bb.refl d (λk=>k=w.heap.size)).setCell (p:= ⟨w.heap.size,0,none⟩) (.inl rfl) _).setCell (p:= ⟨w.heap.size,1,none⟩) (.inl rfl) _).setCell (p:= ⟨w.heap.size,2,none⟩) (.inl rfl) _
 exact⟨rfl, ⟨f,l,o.dx i λk j e=>by have:=(h.eG j).2;omega⟩,m.trans i λk j=> .inr ω⟩
theorem JA (h:eA w b0 g e st st.at_ A n c gm nm Dm Ap np cp) (K:st.at_<st.D.length):
  Calls Tryz.prog 105 #[.pointer (some ⟨g,0,none⟩)] w (Hq w b0 g e (fT e st) A n c gm Ap np cp):=by
 have mS:=wP (e:=e) h.ok;obtain⟨N1,KP, -,ZC,Vx,Yd,iq,cr, -⟩ :=oO (e:=e) h.ok K
 have Vs:fT e st=(if(dv e st st.at_).1=0 then(ri st,dV e 1 st)
  else if e.lazy=true/\(dv e st st.at_).1<e.nice/\st.at_+1<st.D.length then
   (if(dv e st st.at_).1<(dv e (bV e st st.at_) (st.at_+1)).1 then(ri st,moved (bV e st st.at_))
   else(⟨0,(dv e st st.at_).1,(dv e st st.at_).2⟩,dV e ((dv e st st.at_).1-1) (moved (bV e st st.at_))))
  else(⟨0,(dv e st st.at_).1,(dv e st st.at_).2⟩,dV e (dv e st st.at_).1 st)):=rfl
 obtain⟨R,hR⟩ :=ν (fT e st);obtain⟨B,hB⟩ :=ν (dv e st st.at_);rw[hB]at mS;rw[hR,hB]at Vs;rw[hR];obtain⟨L,d⟩ :=B
 have bi:L<=258/\d<=32768/\st.at_+L<=st.D.length:=by
  rcases mS with ⟨h1,h2⟩ | ⟨-,h1,h2, -,h3, -⟩
  · dsimp only at h1 h2;omega
  dsimp only at h1 h2 h3;omega
 have de:(0:Int)<=L/\(L:Int)<=258/\(0:Int)<=d/\(d:Int)<=32768:=ω;have Yk:=h.cell.lt;have N:=(aw w.heap.size w).alloc (af _) (.cells #[.int .u8 0, .int .i64 0, .int .i64 0] 132);have h0:=h.keeps N;have bG:=zh w 0 0 0;have OQ:=I5 st.at_ h0 h.ok.lo;rw[hB]at OQ;have kh:=h.big;obtain⟨T,hT⟩ :=ν (st.at_);have db:(0:Int)<=T/\(T:Int)<=100000000000:=ω;obtain⟨c0,c1,c2,c3,c4,c5,c6,c7⟩ :=rX h;rw[hT]at c5;have pj:=η Vs;have HB:=η hB;have Z:=η hT;obtain⟨v,hv⟩ :=ν (ix st.D st.at_);have cW:Hid (ri st= ⟨v,0,0⟩):=by show _=_;unfold ri;rw[hv]
 rw[hT]at OQ
 have cg:∀W,eA W b0 g e st st.at_ A n c gm nm Dm Ap np cp->Calls Tryz.prog 114 #[.pointer (some ⟨g,0,none⟩), .int .i64 T] W λr w'=>r= .returned (.int .u8 v)/\∃q,w'=W.drewN q:=λW hf=>by
  have:=Fp hf st.at_ h.ok.lo K
  rwa [hv,hT]at this
 have J:=η K;clear Vs hB hT hv mS Vx Yd iq cr ZC KP K hR
 go_in
 go_wp2_with fail;refine OQ.mono ?_;rintro r w1 ⟨rfl,ah⟩;dsimp only;have ZK:=N.trans (ah.mono N.size);have YY:=bG.keeps ah;have DN:=ZK.alloc ZK.size (.cells #[.int .u8 0, .int .i64 L, .int .i64 d] 132);have ac:=h.keeps DN;have bo:=(rX ac).2.2.2.2.2.1;rw[Z.out]at bo;have at1:=zh w1 0 L d;have bB:=YY.alloc (.cells #[.int .u8 0, .int .i64 L, .int .i64 d] 132);obtain⟨G,hG⟩ :=ν (w1.heap.size);have cX:g<G:=by have:=ZK.size;omega
 have cC:w.heap.size<G:=by have:=YY.lt;omega
 rw[hG]at at1
 go_wp2_with fail;refine(cg _ ac).mono ?_;rintro r w2 ⟨rfl,q2,rfl⟩;go_upto_region 3 with fail
 have ad:=(below_drewN DN q2).alloc (below_drewN DN q2).size (.cells #[.int .u8 v, .int .i64 0, .int .i64 0] 132);have u:=(bB.drewN q2).alloc (.cells #[.int .u8 v, .int .i64 0, .int .i64 0] 132);have Y8:=(at1.drewN q2).alloc (.cells #[.int .u8 v, .int .i64 0, .int .i64 0] 132);have I:=zh ((w1.alloc (.cells #[.int .u8 0, .int .i64 L, .int .i64 d] 132)).drewN q2) v 0 0;have ao:((w1.alloc (.cells #[.int .u8 0, .int .i64 L, .int .i64 d] 132)).drewN q2).heap.size=G+1:=by rw[<-hG];simp [World.drewN]
 rw[ao]at I;clear ao;generalize ((w1.alloc (.cells #[.int .u8 0, .int .i64 L, .int .i64 d] 132)).drewN q2).alloc (.cells #[.int .u8 v, .int .i64 0, .int .i64 0] 132)=w3 at*;clear bB YY bG at1 DN ac bo ZK ah N h0 OQ;have b:=h.keeps ad;have s:bb w w3 (FF A gm Ap g):=bb.bC ad;have t:Hid (∀k,w.heap.size<=k->¬FF A gm Ap g k):=λk a hF=>by have:=(h.eG hF).2;omega
 obtain⟨c0,c1,c2,c3,c4,c5,c6,c7⟩ :=rX b;rw[Z.out]at c5;obtain⟨V,S,Q, -, -, -⟩ :=dW Y8;obtain⟨l0,l1,l2, -, -, -⟩ :=dW I;by_cases P:L=0
 · have C:Hid (R=(⟨v,0,0⟩,dV e 1 st)):=by show _=_;rw[pj.out,aa P,cW.out]
   have hp:=sH 1 b J.out;have dd:(L:Int)=0:=ω;obtain⟨-, -,X, -⟩ :=qK (e:=e) (n:=1) h.ok J.out;have oz:=η X;clear X hG
   go_wp2_with fail;refine hp.mono ?_;rintro r w4 ⟨rfl, ⟨i,o,j⟩,l⟩;have H:=l.ar u (t _ (af _));have cy:=l.ar I (t _ ω);have My:eA w4 b0 g e (dV e 1 st) (dV e 1 st).at_ A n c gm i o Ap np cp:=by rw[oz.out];exact j
   have cl:=s.trans l λk a=> .inl a;obtain⟨l0,l1,l2, -, -, -⟩ :=dW cy;obtain⟨z,y,x,z0,z1,z2⟩ :=dW H
   go_wp2_with fail;refine bS (v:= .agg #[.int .u8 v, .int .i64 0, .int .i64 0]) (by simp [results,Tryz.results105,go_sem,z,y,x]) rfl ?_;rw[C.out];exact pQ h My cl H
 have f:Hid (∀q,Calls Tryz.prog 116 #[.pointer (some ⟨g,0,none⟩)] (w3.drewN q) λr w'=>r= .returned (.int .i64 st.D.length)/\∃m,w'=(w3.drewN q).drewN m):=λq=>yT (b.drewN q);obtain⟨DL,Zw⟩ :=ν (st.D.length);rw[Zw]at f bi kh;obtain⟨lz,ab⟩ :=ν (e.lazy);obtain⟨nc,Vr⟩ :=ν (e.nice);rw[ab]at c2;rw[Vr]at c1;have bl:((L:Int)==0)=false:=by simpa using P
 have O:Hid (st.at_+L<=st.D.length):=by show _<=_;rw[Zw];exact bi.2.2
 obtain⟨-, -,X, -⟩ :=qK (e:=e) (n:=L) h.ok O.out;have oz:=η X;have cz:=η Zw
 have Y:Hid (R=if lz=true/\L<nc/\T+1<DL then
   (if L<(dv e (bV e st T) (T+1)).1 then(ri st,moved (bV e st T))else(⟨0,L,d⟩,dV e (L-1) (moved (bV e st T))))
   else(⟨0,L,d⟩,dV e L st)):=by
  show _=_;rw[pj.out,a8 P,ab,Vr,Zw,Z.out]
 have F:∀q,bb w3 (w3.drewN q) (FF A gm Ap g):=λq=>(bb.refl w3 _).drewN q;have dl:(DL:Int)<=100000000000:=ω;clear X hG Zw P ab Vr kh pj;cases lz with
 | false=>
   have C:Hid (R=(⟨0,L,d⟩,dV e L st)):=by show _=_;rw[Y.out,a8 (λh=>by simp at h)]
   clear Y
   go_wp2_with fail;go_quiet ((go_at_call 116;exact eI (f _)))
   go_wp2_with fail;refine(sH L (b.drewN _) O.out).mono ?_;rintro r w4 ⟨rfl, ⟨i,o,j⟩,l⟩;have F:=s.trans ((F nq).trans l λk a=> .inl a) λk a=> .inl a;have H:=l.ar (u.drewN nq) (t _ (af _));have at4:=l.ar (Y8.drewN nq) (t _ ω);have My:eA w4 b0 g e (dV e L st) (dV e L st).at_ A n c gm i o Ap np cp:=by rw[oz.out];exact j
   obtain⟨V,S,Q, -, -, -⟩ :=dW at4;obtain⟨z,y,x,z0,z1,z2⟩ :=dW H
   go_wp2_with fail;refine bS (v:= .agg #[.int .u8 0, .int .i64 L, .int .i64 d]) (by simp [results,Tryz.results105,go_sem,z,y,x]) rfl ?_;rw[C.out];exact pQ h My F H
 | true=>
   by_cases J9:L<nc
   rotate_left
   · have cd:¬(L:Int)<(nc:Int):=ω;have C:Hid (R=(⟨0,L,d⟩,dV e L st)):=by show _=_;rw[Y.out,a8 (λh=>J9 h.2.1)]
     clear Y
     go_wp2_with fail;go_quiet ((go_at_call 116;exact eI (f _)))
     go_wp2_with fail;refine(sH L (b.drewN _) O.out).mono ?_;rintro r w4 ⟨rfl, ⟨i,o,j⟩,l⟩;have F:=s.trans ((F nq).trans l λk a=> .inl a) λk a=> .inl a;have H:=l.ar (u.drewN nq) (t _ (af _));have at4:=l.ar (Y8.drewN nq) (t _ ω);have My:eA w4 b0 g e (dV e L st) (dV e L st).at_ A n c gm i o Ap np cp:=by rw[oz.out];exact j
     obtain⟨V,S,Q, -, -, -⟩ :=dW at4;obtain⟨z,y,x,z0,z1,z2⟩ :=dW H
     go_wp2_with fail;refine bS (v:= .agg #[.int .u8 0, .int .i64 L, .int .i64 d]) (by simp [results,Tryz.results105,go_sem,z,y,x]) rfl ?_;rw[C.out];exact pQ h My F H
   have cd:(L:Int)<(nc:Int):=ω;by_cases E:T+1<DL
   rotate_left
   · have cb:¬(T:Int)+1<(DL:Int):=ω;have C:Hid (R=(⟨0,L,d⟩,dV e L st)):=by show _=_;rw[Y.out,a8 (λh=>E h.2.2)]
     clear Y
     go_wp2_with fail;go_quiet ((go_at_call 116;exact eI (f _)))
     go_wp2_with fail;refine(sH L (b.drewN _) O.out).mono ?_;rintro r w4 ⟨rfl, ⟨i,o,j⟩,l⟩;have F:=s.trans ((F nq).trans l λk a=> .inl a) λk a=> .inl a;have H:=l.ar (u.drewN nq) (t _ (af _));have at4:=l.ar (Y8.drewN nq) (t _ ω);have My:eA w4 b0 g e (dV e L st) (dV e L st).at_ A n c gm i o Ap np cp:=by rw[oz.out];exact j
     obtain⟨V,S,Q, -, -, -⟩ :=dW at4;obtain⟨z,y,x,z0,z1,z2⟩ :=dW H
     go_wp2_with fail;refine bS (v:= .agg #[.int .u8 0, .int .i64 L, .int .i64 d]) (by simp [results,Tryz.results105,go_sem,z,y,x]) rfl ?_;rw[C.out];exact pQ h My F H
   have cb:(T:Int)+1<(DL:Int):=ω;have al:Hid (R=if L<(dv e (bV e st T) (T+1)).1 then(ri st,moved (bV e st T))else(⟨0,L,d⟩,dV e (L-1) (moved (bV e st T)))):=by show _=_;rw[Y.out,aa ⟨rfl,J9,E⟩]
   have ck:Hid (∀q,Calls Tryz.prog 117 #[.pointer (some ⟨g,0,none⟩), .int .i64 T] (w3.drewN q) (sP (w3.drewN q) b0 g e (bV e st T) (T+1) A n c gm Ap np cp)):=λq=>by
    have:=Dz st.at_ (b.drewN q) h.ok.lo J.out
    rwa [Z.out]at this
   have x7:=yU e st T;have jF:Hid ((bV e st T).at_=T):=by show _=_;rw[x7.2.1,Z.out]
   have cq:(bV e st T).base<=T+1:=by rw[x7.2.2];have:=h.ok.lo;have:=Z.out;omega
   have UE:Hid ((moved (bV e st T)).D.length=DL):=by show _=_;rw[<-cz.out];exact bf List.length x7.1
   have mS:=wP (e:=e) (st:=bV e st T) (p:=T+1) (by
    have:=h.ok.enter (e:=e) (p:=st.at_) J.out
    rwa [Z.out]at this)
   obtain⟨⟨U,ud⟩,hU⟩ :∃U,dv e (bV e st T) (T+1)=U:= ⟨_,rfl⟩;rw[hU]at al mS
   have da:U<=258/\ud<=32768:=by
    rcases mS with ⟨h1,h2⟩ | ⟨-,h1,h2, -,h3, -⟩
    · dsimp only at h1 h2;omega
    dsimp only at h1 h2 h3;omega
   have HU:=η hU;have be:((T+1:Nat):Int)=(T:Int)+1:=ω;have sQ:=η be;clear Y x7 mS hU be
   go_wp2_with fail;go_quiet ((go_at_call 116;exact eI (f _)))
   go_wp2_with fail;refine(ck _).mono ?_;rintro r w5 ⟨rfl, ⟨ca,cB,Mz⟩,nN⟩;have aE:=s.trans ((F nq).trans nN λk a=> .inl a) λk a=> .inl a;have bx:=nN.ar (u.drewN nq) (t _ (af _));have at5:=nN.ar (Y8.drewN nq) (t _ ω);have an:=nN.ar (I.drewN nq) (t _ ω);obtain⟨-, -, -, -, -,bp, -, -⟩ :=rX Mz;rw[jF.out]at bp;have Mq:=I5 (T+1) Mz cq;rw[HU.out,sQ.out]at Mq;clear b s u Y8 I ad c0 c1 c2 c3 c4 c5 c6 c7 V S Q l0 l1 l2 F nN
   go_wp2_with fail;refine Mq.mono ?_;rintro r w6 ⟨rfl,kE⟩;dsimp only;have cH:=kE.size;have Mp:=kE.alloc kE.size (.cells #[.int .u8 0, .int .i64 U, .int .i64 ud] 132);have MA:=Mz.keeps Mp;have H9:bb w (w6.alloc (.cells #[.int .u8 0, .int .i64 U, .int .i64 ud] 132)) (FF A gm Ap g):=aE.trans (bb.bC Mp) λk a=> .inl a;have bv:=bx.keeps Mp;have bs:=at5.keeps Mp;have bI:=an.keeps Mp;have cv:=zh w6 0 U ud;have dk:G+1<w6.heap.size:=by have:=an.lt;omega
   have cD:(w6.alloc (.cells #[.int .u8 0, .int .i64 U, .int .i64 ud] 132)).heap.size=w6.heap.size+1:=σ;go_upto_region 9 with fail
   generalize dj:w6.heap.size=G7 at*;generalize w6.alloc (.cells #[.int .u8 0, .int .i64 U, .int .i64 ud] 132)=w7 at*;clear Mp bx at5 an Mz kE bp aE Mq;obtain⟨-, -, -, -, -,c5, -, -⟩ :=rX MA;rw[jF.out]at c5;have z5:=MA.cell.aH 5;obtain⟨V,S,Q, -, -, -⟩ :=dW bs;obtain⟨l0,l1,l2, -, -, -⟩ :=dW bI;obtain⟨u0,u1,u2, -, -, -⟩ :=dW cv;obtain⟨z,y,x,z0,z1,z2⟩ :=dW bv;have cj:eA w7 b0 g e (bV e st T) ((bV e st T).at_+1) A n c gm ca cB Ap np cp:=by rw[jF.out];exact MA
   obtain⟨M,cm⟩ :=cj.moved (T:=(T:Int)+1) (by rw[jF.out]);have ap:=H9.trans cm λk a=> .inl a;have um:g≠w.heap.size:=ω;have ce:w.heap.size≠g:=ω;have am:Ar _ w.heap.size 3 _:=bv.far (p:= ⟨g,5,none⟩) ce (.int .i64 ((T:Int)+1));have at8:Ar _ G 3 _:=bs.far (p:= ⟨g,5,none⟩) ξ (.int .i64 ((T:Int)+1));have cx:Ar _ (G+1) 3 _:=bI.far (p:= ⟨g,5,none⟩) ξ (.int .i64 ((T:Int)+1));have hm:(moved (bV e st T)).at_=T+1:=by show(bV e st T).at_+1=_;rw[jF.out]
   rw[jF.out,<-hm]at M;have HM:=η hm;clear hm;have cL:g≠G+1/\g≠G:=ω;by_cases bd:L<U
   · have ct:(L:Int)<(U:Int):=ω;have C:Hid (R=(⟨v,0,0⟩,moved (bV e st T))):=by show _=_;rw[al.out,aa bd,cW.out]
     obtain⟨V,S,Q, -, -, -⟩ :=dW at8;obtain⟨l0,l1,l2, -, -, -⟩ :=dW cx;obtain⟨z,y,x,z0,z1,z2⟩ :=dW am
     go_wp2_with fail;refine bS (v:= .agg #[.int .u8 v, .int .i64 0, .int .i64 0]) (by simp [results,Tryz.results105,go_sem,z,y,x]) rfl ?_;rw[C.out];exact pQ h M ap am
   have ct:¬(L:Int)<(U:Int):=ω;have C:Hid (R=(⟨0,L,d⟩,dV e (L-1) (moved (bV e st T)))):=by show _=_;rw[al.out,a8 bd]
   obtain⟨L1,gV⟩ :=ν (L-1)
   have df:(L:Int)-1=(L1:Int):=by have h5:L≠0:=by(intro h6;rw[h6]at bl;simp at bl)
                                  omega
   rw[gV]at C;have VH:Hid ((moved (bV e st T)).at_+L1<=(moved (bV e st T)).D.length):=by show _<=_;rw[HM.out,UE.out];have:=Z.out;omega
   obtain⟨-, -,X, -⟩ :=qK (e:=e) (n:=L1) M.ok VH.out;have cs:=η X;have cc:=sH L1 M VH.out;obtain⟨V,S,Q, -, -, -⟩ :=dW at8;clear X gV
   go_wp2_with fail;refine cc.mono ?_;rintro r w9 ⟨rfl, ⟨bM,cA,ci⟩,QN⟩;have co:=ap.trans QN λk a=> .inl a;have bt:=QN.ar am (t _ (af _));have cw:=QN.ar at8 (t _ ω);have ch:eA w9 b0 g e (dV e L1 (moved (bV e st T))) (dV e L1 (moved (bV e st T))).at_ A n c gm bM cA Ap np cp:=by rw[cs.out];exact ci
   obtain⟨V,S,Q, -, -, -⟩ :=dW cw;obtain⟨z,y,x,z0,z1,z2⟩ :=dW bt
   go_wp2_with fail;refine bS (v:= .agg #[.int .u8 0, .int .i64 L, .int .i64 d]) (by simp [results,Tryz.results105,go_sem,z,y,x]) rfl ?_;rw[C.out];exact pQ h ch co bt
end
theorem lW.lit (w:World) (t:bY):lW (w.alloc (.cells #[.int .u8 t.lit, .int .i64 t.len, .int .i64 t.bn] 132)) (w.heap.size+1) (some ⟨w.heap.size,0,none⟩) 1 [t]:=by
 have h:=BV w t.lit t.len t.bn 132;refine⟨rfl,λ_=> ⟨_,rfl,σ,λi hi=> ?_⟩⟩;obtain rfl:i=0:=ω;exact⟨by rw[nW];exact h.az 0,by rw[nW];exact h.az 1,by rw[nW];exact h.az 2⟩
def Lc (w:World) (b0 g:Nat) (e:oP) (st:jk) (left:Nat) (A:ax) (n c gm:Nat) (Ap:ax) (np cp:Nat) (r:Ending) (w':World):Prop:=
 ∃(l:List bY) (st':jk) (At:ax) (nt ct:Nat),r= .returned (.slice At nt ct)/\yN e left st l st'/\st'.D.length-st'.at_<=left/\jZ w' w.heap.size At nt ct l/\(∃nm Dm,eA w' b0 g e st' st'.at_ A n c gm nm Dm Ap np cp)/\bb w w' (FF A gm Ap g)
def wN (w:World) (b0 g:Nat) (e:oP) (st:jk) (left:Nat) (A:ax) (n c gm:Nat) (Ap:ax) (np cp:Nat) (gk:Nat) (o:Value) (wr:World):Prop:=
 ∃(l:List bY) (st':jk) (At:ax) (nt ct nm:Nat) (Dm:DataW Unit),o= .slice At nt ct/\yN e left st l st'/\jZ wr w.heap.size At nt ct l/\eA wr b0 g e st' st'.at_ A n c gm nm Dm Ap np cp/\bb w wr (FF A gm Ap g)/\Hid (gk+st'.at_=st'.D.length)
section
variable {w w' w1 w2:World} {b0 g b n c gm nm np cp:Nat} {e:oP} {st:jk} {A Ap:ax} {Dm:DataW Unit}
theorem xZ (fin:Bool) (h:eA w b0 g e st st.at_ A n c gm nm Dm Ap np cp):
  Calls Tryz.prog 96 #[.pointer (some ⟨g,0,none⟩), .bool fin] w (Lc w b0 g e st (if fin then 0 else 261) A n c gm Ap np cp):=by
 obtain⟨left,pK⟩ :=ν ((if fin then 0 else 261));have p:wN w b0 g e st left A n c gm Ap np cp (st.D.length-st.at_) (.slice none 0 0) w:= ⟨[],st,none,0,0,nm,Dm,rfl, .nil st, ⟨rfl,Own.di⟩,h,bb.refl w _,by show _=_;have:=h.ok.hi;omega⟩;rw[pK];obtain⟨i0,hi,M,L,K⟩ :=aL EB;have Hi:=η hi;have gL:=η M;have fN:=η L;have gM:=η K;have jT:=η h.ok;have kh:=η h.big;have Fu:Hid (∀k,w.heap.size<=k->¬FF A gm Ap g k):=λk b hF=>by have:=(h.eG hF).2;omega
 have Y:Hid (∀k,FF A gm Ap g k->k<w.heap.size):=λk b=>(h.eG b).2;have ac:(fin=true/\left=0)\/(fin=false/\left=261):=by cases fin <;> simp at pK <;> simp [pK]
 clear hi M L K pK
 go_in
 rcases ac with ⟨rfl,rfl⟩ | ⟨rfl,rfl⟩
 · go_wp2_with fail;go_loopg [5] (st.D.length-st.at_) (wN w b0 g e st _ A n c gm Ap np cp)
   case atStart=>exact p
   clear p;obtain⟨l,st',At,nt,ct,y,Yz,rfl,a,m,hf,U,OT⟩ :=hrel;have s:=Gu a jT.out;have B:=yh hf;obtain⟨W,H⟩ :=ν (st'.D.length-st'.at_);rw[H]at B;have mL:nt<=100000000000:=by have:=m.1;have:=s.2.2.1;have:=s.1.hi;have:=bf List.length s.2.1;have:=kh.out;omega
   have I:=η H;clear H s;by_cases ab:(0:Int)<(W:Int)
   rotate_left
   · go_wp2_with fail;refine B.mono ?_;rintro r w5 ⟨rfl,q5,rfl⟩
     go_wp2_with fail;go_returns;exact⟨l,st',At,nt,ct,rfl,a,τ I.out, ⟨m.1,m.2.drewN q5⟩, ⟨y,Yz,hf.drewN q5⟩,U.drewN q5⟩
   have N:Hid (st'.at_<st'.D.length):=by show _<_;have:=I.out;omega
   obtain⟨N1,KP, -,ZC, -,Z,V, -, -⟩ :=oO (e:=e) hf.ok N.out;have u:Hid ((fT e st').2.D.length-(fT e st').2.at_<gk/\(fT e st').2.at_<=(fT e st').2.D.length):=by show _<_/\_<=_;rw[Z,V];have:=OT.out;omega
   have C:=yN.snoc a (show _<_ by have:=I.out;omega);clear KP ZC Z V
   go_wp2_with fail;refine B.mono ?_;rintro r w5 ⟨rfl,q5,rfl⟩;have P:=hf.drewN q5;have T:=U.drewN q5;have t:jZ (wr.drewN q5) w.heap.size At nt ct l:= ⟨m.1,m.2.drewN q5⟩
   go_wp2_with fail;refine(JA P N.out).mono ?_;rintro r f ⟨rfl, ⟨x,J,v⟩,G⟩;have E:jZ f w.heap.size At nt ct l:= ⟨t.1,G.own t.2 λq hq=>Fu.out q (t.2.lt hq).1⟩;have Q:=T.trans G λk b=> .inl b;obtain⟨R,X⟩ :=ν (fT e st');rw[X]at v u C⊢;obtain⟨⟨tl,i,td⟩,Yv⟩ :=R;dsimp only at v u C⊢;have O:=lW.lit f ⟨tl,i,td⟩;dsimp only at O;have F:=v.keeps ((aw _ f).alloc (af _) (.cells #[.int .u8 tl, .int .i64 i, .int .i64 td] 132));have o:=Q.trans (bb.bC (S:=FF A gm Ap g) ((aw _ f).alloc (af _) (.cells #[.int .u8 tl, .int .i64 i, .int .i64 td] 132))) λk b=> .inl b;have j:jZ (f.alloc (.cells #[.int .u8 tl, .int .i64 i, .int .i64 td] 132)) w.heap.size At nt ct l:= ⟨E.1,E.2.alloc _⟩;have z:=o.size;clear P T t G E X v Q
   go_wp2_with (at_builtin;(refine mZ w.heap.size i0 rfl (.tmp 14) (.tmp 17) rfl Hi.out gL.out fN.out gM.out rfl j rfl O ω z ?_)
                intro A7 c7 w7 vG Hd xe)
   have d:bb (f.alloc (.cells #[.int .u8 tl, .int .i64 i, .int .i64 td] 132)) w7 (λk=>w.heap.size<=k):=(bb.refl _ _).grown Hd λk b=> .inl (j.2.lt b).1;have MA:=F.dx d λk b h2=>by have:=Y.out k b;omega
   have H9:=o.trans d λk b=> .inr b;go_roundg (Yv.D.length-Yv.at_)
   case measure=>exact u.1
   case rel=>exact⟨_,Yv,A7,nt+1,c7,x,J,rfl,C,vG,MA,H9,by show _=_;have:=u.2;omega⟩
 go_wp2_with fail;go_loopg [5] (st.D.length-st.at_) (wN w b0 g e st _ A n c gm Ap np cp)
 case atStart=>exact p
 clear p;obtain⟨l,st',At,nt,ct,y,Yz,rfl,a,m,hf,U,OT⟩ :=hrel;have s:=Gu a jT.out;have B:=yh hf;obtain⟨W,H⟩ :=ν (st'.D.length-st'.at_);rw[H]at B;have mL:nt<=100000000000:=by have:=m.1;have:=s.2.2.1;have:=s.1.hi;have:=bf List.length s.2.1;have:=kh.out;omega
 have I:=η H;clear H s;by_cases ab:(261:Int)<(W:Int)
 rotate_left
 · go_wp2_with fail;refine B.mono ?_;rintro r w5 ⟨rfl,q5,rfl⟩
   go_wp2_with fail;go_returns;exact⟨l,st',At,nt,ct,rfl,a,τ I.out, ⟨m.1,m.2.drewN q5⟩, ⟨y,Yz,hf.drewN q5⟩,U.drewN q5⟩
 have N:Hid (st'.at_<st'.D.length):=by show _<_;have:=I.out;omega
 obtain⟨N1,KP, -,ZC, -,Z,V, -, -⟩ :=oO (e:=e) hf.ok N.out;have u:Hid ((fT e st').2.D.length-(fT e st').2.at_<gk/\(fT e st').2.at_<=(fT e st').2.D.length):=by show _<_/\_<=_;rw[Z,V];have:=OT.out;omega
 have C:=yN.snoc a (show _<_ by have:=I.out;omega);clear KP ZC Z V
 go_wp2_with fail;refine B.mono ?_;rintro r w5 ⟨rfl,q5,rfl⟩;have P:=hf.drewN q5;have T:=U.drewN q5;have t:jZ (wr.drewN q5) w.heap.size At nt ct l:= ⟨m.1,m.2.drewN q5⟩
 go_wp2_with fail;refine(JA P N.out).mono ?_;rintro r f ⟨rfl, ⟨x,J,v⟩,G⟩;have E:jZ f w.heap.size At nt ct l:= ⟨t.1,G.own t.2 λq hq=>Fu.out q (t.2.lt hq).1⟩;have Q:=T.trans G λk b=> .inl b;obtain⟨R,X⟩ :=ν (fT e st');rw[X]at v u C⊢;obtain⟨⟨tl,i,td⟩,Yv⟩ :=R;dsimp only at v u C⊢;have O:=lW.lit f ⟨tl,i,td⟩;dsimp only at O;have F:=v.keeps ((aw _ f).alloc (af _) (.cells #[.int .u8 tl, .int .i64 i, .int .i64 td] 132));have o:=Q.trans (bb.bC (S:=FF A gm Ap g) ((aw _ f).alloc (af _) (.cells #[.int .u8 tl, .int .i64 i, .int .i64 td] 132))) λk b=> .inl b;have j:jZ (f.alloc (.cells #[.int .u8 tl, .int .i64 i, .int .i64 td] 132)) w.heap.size At nt ct l:= ⟨E.1,E.2.alloc _⟩;have z:=o.size;clear P T t G E X v Q
 go_wp2_with (at_builtin;(refine mZ w.heap.size i0 rfl (.tmp 14) (.tmp 17) rfl Hi.out gL.out fN.out gM.out rfl j rfl O ω z ?_)
              intro A7 c7 w7 vG Hd xe)
 have d:bb (f.alloc (.cells #[.int .u8 tl, .int .i64 i, .int .i64 td] 132)) w7 (λk=>w.heap.size<=k):=(bb.refl _ _).grown Hd λk b=> .inl (j.2.lt b).1;have MA:=F.dx d λk b h2=>by have:=Y.out k b;omega
 have H9:=o.trans d λk b=> .inr b;go_roundg (Yv.D.length-Yv.at_)
 case measure=>exact u.1
 case rel=>exact⟨_,Yv,A7,nt+1,c7,x,J,rfl,C,vG,MA,H9,by show _=_;have:=u.2;omega⟩
end
end Go.Proofs.YtgiimmkmjpbecaaGreat
