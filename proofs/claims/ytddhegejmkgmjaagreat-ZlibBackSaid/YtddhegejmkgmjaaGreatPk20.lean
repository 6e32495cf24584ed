/-
  part
-/
import Derived.Test.YtddhegejmkgmjaaGreatFnd
import Derived.Handy
import Derived.Test.YtddhegejmkgmjaaGreatPk4
set_option linter.unusedVariables false
set_option maxRecDepth 100000
set_option maxHeartbeats 4000000
namespace Go.Proofs.YtddhegejmkgmjaaGreat
open Go.RowKit Go.Maps
theorem CY:Keyed Tryz.prog 44 :=int_keyed Tryz.underlying44
theorem Bi (w:World):(zeroValue 3).run Tryz.prog w= .ok (.int .i64 0) w:=by kernel_rfl
theorem CU {x:Int} (h:0<=x/\x<4294967296):keyOf Tryz.prog 44 (.int .u32 x)=some (.int .u32 x):=keyOf_int_mk Tryz.underlying44 (by simp [Lit.wf,IntKind.min,IntKind.max,IntKind.signed,IntKind.bits];omega)
theorem Dr {P:Program} {f:FuncId} {args:Array Value} {w:World} {q n:Nat} {v:Value} (h:Calls P f args (w.drewN (q+n)) λe w'=>e= .returned v/\∃m,w'=(w.drewN (q+n)).drewN m):
  Calls P f args (w.drewN (q+n)) λe a=>e= .returned v/\∃m,a=w.drewN (q+m):=
 h.mono λ_ _ ⟨b,m,hm⟩ => ⟨b,n+m,by rw[hm,World.drewN_drewN,Nat.add_assoc]⟩
theorem bF.look {w:World} {b0 g b n c gm nm np cp:Nat} {e:jY} {st:ed} {A Ap:Option Addr} {Dm:DataW Unit} (h:bF w b0 g e st b A n c gm nm Dm Ap np cp) {H:Int} (k:0<=H/\H<4294967296) (m:Nat):
  (Instr.lookup 84 (.map (some gm)) (.int .u32 H) true).run Tryz.prog (w.drewN m)= .ok (.tuple #[.int .i64 ((st.head H).getD 0), .bool ((st.head H).isSome)]) (w.drewN m):=by
 have i:=(h.drewN m).map;obtain⟨v,ps,l,f⟩ :=i.look_ok CY (t:= 84) Tryz.underlying84 (Bi _) (plainElem_int (a:=0) Tryz.underlying3 δ) (CU k);rw[(h.rep.2 H).2]at f;obtain⟨c,rfl,j,_⟩ :=plainElem_int_inv Tryz.underlying3 f
 have:(st.head H).getD 0=c:=by
  have d:=congrArg Prod.fst j;injection d with d;injection d with d h4
 rw[l,this,(h.rep.2 H).1]
def iJ (w:World) (t:Nat×Nat) (r:Ending) (w':World):Prop:=r= .returned (.agg #[.int .u8 0, .int .i64 t.1, .int .i64 t.2])/\Below w.heap.size w w'
def tk (t:Nat×Nat):Nat->Value
 | 0=> .int .u8 0
 | 1=> .int .i64 t.1
 | _=> .int .i64 t.2
theorem Ye {w:World} {g:Nat} {t:Nat×Nat} (h:Ar w g 3 (tk t)) (a b:Nat):Ar ((w.setCell ⟨g,1,none⟩ (.int .i64 a)).setCell ⟨g,2,none⟩ (.int .i64 b)) g 3 (tk (a,b)):=
 ((h.aQ (i:=1) ω _).aQ (i:=2) ω _).congr λi hi=>by
   obtain rfl | rfl | rfl:i=0\/i=1\/i=2:=ω
   all_goals rfl
theorem OH (w:World):Ar (w.alloc (.cells #[.int .u8 0, .int .i64 0, .int .i64 0] 90)) w.heap.size 3 (tk (0,0)):=
 Ar.new w #[.int .u8 0, .int .i64 0, .int .i64 0] 90 (show(#[.int .u8 0, .int .i64 0, .int .i64 0]:Array Value).size=3 from rfl) λi hi=>by
  obtain rfl | rfl | rfl:i=0\/i=1\/i=2:=ω
  all_goals rfl
theorem qI {w:World} {g:Nat} {t:Nat×Nat} (h:Ar w g 3 (tk t)):w.cell? ⟨g,0,none⟩ =some (.int .u8 0)/\w.cell? ⟨g,1,none⟩ =some (.int .i64 t.1)/\w.cell? ⟨g,2,none⟩ =some (.int .i64 t.2)/\
  w.frozen? ⟨g,0,none⟩ =false/\w.frozen? ⟨g,1,none⟩ =false/\w.frozen? ⟨g,2,none⟩ =false:=
 ⟨h.cell (i:=0) ω,h.cell (i:=1) ω,h.cell (i:=2) ω,h.frozen' (i:=0) ω,h.frozen' (i:=1) ω,h.frozen' (i:=2) ω⟩
def QC (w:World) (st:ed) (e:jY) (p c b:Nat) (R:Nat×Nat) (k m _n:Value) (wr:World):Prop:=
 ∃(a:Nat) (K:Int) (t:Nat×Nat),m= .int .i64 a/\a<=256/\k= .int .i64 K/\ -1<=K/\K<(p:Int)/\Hid (js st.D st.P st.base p e.nice a K t=R)/\t.1<=258/\t.2<=p/\Ar wr b 3 (tk t)/\Ar wr c 3 (tk (0,0))/\Below w.heap.size w wr
section
variable {w w':World} {b0 g n c gm nm np cp:Nat} {e:jY} {st:ed} {A Ap:Option Addr} {Dm:DataW Unit}
theorem C5 (p:Nat) (h:bF w b0 g e st p A n c gm nm Dm Ap np cp) (hp:st.base<=p):
  Calls Tryz.prog 64 #[.pointer (some ⟨g,0,none⟩), .int .i64 p] w (iJ w (ba e st p)):=by
 obtain⟨c0,c1, -,c3,c4, -,c6,c7⟩ :=mV h;have hb:=h.big;have aE:=h.ok.bl;have WG:=h.eb;have j:=λW (S:bF W b0 g e st p A n c gm nm Dm Ap np cp)=>tE S
 obtain⟨L,x⟩ :=ν (st.D.length);obtain⟨ch,l⟩ :=ν (e.chain);rw[l]at c0 WG;rw[x]at hb aE;have hI:(p:Int)<=L/\(L:Int)<=100000000000/\(0:Int)<=p/\(0:Int)<=ch/\(ch:Int)<=256:=ω;have HL:=η x;have V6:=η l;have Qp:=h.cell.lt;have z:=((Below.refl _ w).alloc (Nat.le_refl _) (.cells #[.int .u8 0, .int .i64 0, .int .i64 0] 90)).alloc σ (.cells #[.int .u8 0, .int .i64 0, .int .i64 0] 90);have ac:Ar ((w.alloc (.cells #[.int .u8 0, .int .i64 0, .int .i64 0] 90)).alloc (.cells #[.int .u8 0, .int .i64 0, .int .i64 0] 90)) w.heap.size 3 (tk (0,0)):=(OH w).alloc _
 have ab:Ar ((w.alloc (.cells #[.int .u8 0, .int .i64 0, .int .i64 0] 90)).alloc (.cells #[.int .u8 0, .int .i64 0, .int .i64 0] 90)) (w.heap.size+1) 3 (tk (0,0)):=by
  have:=OH (w.alloc (.cells #[.int .u8 0, .int .i64 0, .int .i64 0] 90))
  rwa [show(w.alloc (.cells #[.int .u8 0, .int .i64 0, .int .i64 0] 90)).heap.size=w.heap.size+1 by simp]at this
 by_cases u:ch=0
 · have C:Hid (ba e st p=(0,0)):=rZ (.inl (by rw[l];exact u));subst u;clear x l;go_enter Tryz.func64,Tryz.ntmps64
   go_wp2_with fail
   go_returns
   unfold iJ;rw[C.out];exact⟨rfl,((Below.refl _ w).alloc (Nat.le_refl _) _).alloc σ _⟩
 · have bv:((ch:Int)==0)=false:=by simpa using u
   have E:=h.keeps z;by_cases am:L<p+3
   · have C:Hid (ba e st p=(0,0)):=rZ (.inr (by rw[x];exact am));have Xw:(L:Int)<(p:Int)+3:=ω;rw[x]at j;clear x l u;go_enter Tryz.func64,Tryz.ntmps64
     go_wp2_with fail
     refine(j _ E).mono ?_;rintro r w1 ⟨rfl,q1,rfl⟩
     go_wp2_with fail
     go_returns
     unfold iJ;rw[C.out];exact⟨rfl,(((below_drewN z q1).setCell (p:= ⟨w.heap.size,0,none⟩) (Nat.le_refl _) _).setCell (p:= ⟨w.heap.size,1,none⟩) (Nat.le_refl _) _).setCell (p:= ⟨w.heap.size,2,none⟩) (Nat.le_refl _) _⟩
   · have Xw:¬(L:Int)<(p:Int)+3:=ω;obtain⟨H,X⟩ :=ν (iz st.D p);have Qh:0<=H/\H<4294967296:=by rw[<-X];have:=O6 (ix st.D p) (ix st.D (p+1)) (ix st.D (p+2));unfold iz;omega
     have y:=E.look Qh
     have CG:∀m W,bF W b0 g e st p A n c gm nm Dm Ap np cp->Calls Tryz.prog 83 #[.pointer (some ⟨g,0,none⟩), .int .i64 p] (W.drewN m) λr w'=>r= .returned (.int .u32 H)/\∃q,w'=(W.drewN m).drewN q:=λm W S=>by
      have:=Cw (S.drewN m) p hp (by rw[x];omega)
      rwa [X]at this
     have hs:Hid (∀k,st.head H=some k->ba e st p=js st.D st.P st.base p e.nice ch k (0,0)/\0<=k/\k<(p:Int)):=λk hk=>by
      have h5:=h.ok.hd H k hk;have h6:=C4 (e:=e) (st:=st) (p:=p) (k:=k) (by rw[l];exact u) (by rw[x];omega) (by rw[X];exact hk);rw[l]at h6;exact⟨h6,h5⟩
     have tI:Hid (st.head H=none->ba e st p=(0,0)):=λhk=>C3 (by rw[X];exact hk)
     rw[x]at j;have HH:=η CG;have bS:=η X;clear x l u X CG;obtain⟨hd,nX⟩ :=ν (st.head H);rw[nX]at y;have HD:=η nX;clear nX;cases hd with
     | none=>
       have C:Hid (ba e st p=(0,0)):=tI.out HD.out;simp only [Option.getD_none,Option.isSome_none]at y;go_enter Tryz.func64,Tryz.ntmps64
       go_wp2_with fail
       refine(j _ E).mono ?_;rintro r w1 ⟨rfl,q1,rfl⟩
       go_wp2_with fail
       go_quiet ((go_at_call 83;exact Dr (HH.out _ _ E)))
       go_wp2_with fail
       go_loopw [6,8,9] (λk _ _ wr=>k= .int .i64 0/\Ar wr (w.heap.size+1) 3 (tk (0,0))/\Ar wr w.heap.size 3 (tk (0,0))/\Below w.heap.size w wr) (λ_ _ _ _=>0)
       case atStart=>exact⟨rfl,ab.drewN _,ac.drewN _,below_drewN z _⟩
       case round=>
        obtain⟨rfl,E,h0,b⟩ :=hrel;obtain⟨k0,k1,k2, -, -, -⟩ :=qI E;obtain⟨Q,O,M,z0,z1,z2⟩ :=qI h0;have an:=E.lt
        go_wp2_with fail
        refine bodyPost_ret (v:= .agg #[.int .u8 0, .int .i64 0, .int .i64 0]) (by simp [results,Tryz.results64,go_sem,Q,O,M]) rfl ?_;unfold iJ;rw[C.out];exact⟨rfl,((b.setCell (p:= ⟨w.heap.size,0,none⟩) (Nat.le_refl _) _).setCell (p:= ⟨w.heap.size,1,none⟩) (Nat.le_refl _) _).setCell (p:= ⟨w.heap.size,2,none⟩) (Nat.le_refl _) _⟩
     | some k=>
       obtain⟨C,CH,pM⟩ :=hs.out k HD.out;simp only [Option.getD_some,Option.isSome_some]at y;obtain⟨R,o⟩ :=ν (ba e st p);rw[o]at C⊢;have HB:Hid (js st.D st.P st.base p e.nice ch k (0,0)=R):=C.symm;have hP:Hid (∀q, -1<=ix st.P q/\ix st.P q<=q):=h.ok.prev;obtain⟨B,Qe⟩ :=ν (st.base);obtain⟨N0,FA⟩ :=ν (e.nice);have bI:(0:Int)<=B/\(B:Int)<=(p:Int):=ω;have Eo:=η Qe;have al:=η FA;have hn:=h.iQ;rw[HL.out]at hn;have Hn:=η hn;have ap:Hid (∀gd,Ap=some ⟨gd,0,none⟩->gd<w.heap.size):=λgd e=>(h.rO.2.lt (g:=gd) (by rw[e];rfl)).2
       clear C o hs tI Qe FA hn;go_enter Tryz.func64,Tryz.ntmps64
       go_wp2_with fail
       refine(j _ E).mono ?_;rintro r w1 ⟨rfl,q1,rfl⟩
       go_wp2_with fail
       go_quiet ((go_at_call 83;exact Dr (HH.out _ _ E)))
       go_wp2_with fail
       clear y
       go_loopw [6,8,9] (QC w st e p w.heap.size (w.heap.size+1) R) (λ_ m _ _=>(intOf m).toNat)
       case atStart=>exact⟨ch,k,(0,0),rfl,ω,rfl,ω,pM,HB,σ,σ,ab.drewN _,ac.drewN _,below_drewN z _⟩
       case round=>
        obtain⟨tr,K,t,rfl,bi,rfl,YH,bx,hF,pO,Iw,QX,VA,b⟩ :=hrel;obtain⟨T,s⟩ :=t;dsimp only at pO Iw;obtain⟨k0,k1,k2,y0,y1,y2⟩ :=qI QX;obtain⟨Q,O,M,z0,z1,z2⟩ :=qI VA;have an:=QX.lt;have S:=h.keeps b;have bt:g≠w.heap.size+1:=ω;have bs:w.heap.size+1≠g:=ω;obtain⟨c0,c1, -,c3,c4, -,c6,c7⟩ :=mV S;rw[Eo.out]at c4;rw[al.out]at c1;have Wf:(0:Int)<=T/\(T:Int)<=258/\(0:Int)<=s:=ω;dsimp only at k1 k2;by_cases XD:tr=0
        · have o:Hid (R=(T,s)):=by show _=_;rw[<-hF.out,XD];rfl
          have be:((tr:Int))=0:=ω;subst XD;clear hF
          go_wp2_with fail
          refine bodyPost_ret (v:= .agg #[.int .u8 0, .int .i64 T, .int .i64 s]) (by simp [results,Tryz.results64,go_sem,Q,O,M]) rfl ?_;unfold iJ;rw[o.out];exact⟨rfl,((b.setCell (p:= ⟨w.heap.size,0,none⟩) (Nat.le_refl _) _).setCell (p:= ⟨w.heap.size,1,none⟩) (Nat.le_refl _) _).setCell (p:= ⟨w.heap.size,2,none⟩) (Nat.le_refl _) _⟩
        · obtain⟨m,rfl⟩ :∃m,tr=m+1:= ⟨tr-1,ω⟩;have hm:((m+1:Nat):Int)=(m:Int)+1:=ω;have K4:(0:Int)<=m/\(m:Int)<=255/\(0:Int)<(m:Int)+1:=ω
          have Y:js st.D st.P st.base p e.nice (m+1) K (T,s)=if(B:Int)<=K/\(p:Int)-32768<=K then
            (if 3<=fL st.D K.toNat p/\T<fL st.D K.toNat p then
              (if N0<=fL st.D K.toNat p then(fL st.D K.toNat p,p-K.toNat)else js st.D st.P st.base p e.nice m (ix st.P K.toNat) (fL st.D K.toNat p,p-K.toNat))
            else js st.D st.P st.base p e.nice m (ix st.P K.toNat) (T,s))else(T,s):=by rw[<-Eo.out,<-al.out];rfl
          have f:=hF.out;rw[Y]at f;clear Y hF;rw[hm];by_cases I:(B:Int)<=K
          · by_cases G:(p:Int)-32768<=K
            · rw[if_pos ⟨I,G⟩]at f;obtain⟨K',rfl⟩ :=Int.eq_ofNat_of_zero_le (show 0<=K by omega);rw[Int.toNat_natCast]at f;have Z:=KR S K' p (by rw[Eo.out];omega) ω (by rw[HL.out];omega);have aI:=(DG st.D K' p).1;obtain⟨N,hN⟩ :=ν (fL st.D K' p);rw[hN]at Z aI f;obtain⟨i,hi⟩ :∃i,K'=B+i:= ⟨K'-B,ω⟩;have iq:i<n:=by have:=Hn.out;have:=Eo.out;omega
              have bd:IntKind.i64.wrap ((K':Int)-(B:Int))=(i:Int):=by rw[IntWalk.i64_in _ ω];omega
              have bG:(K':Int)-(B:Int)=(i:Int):=ω;have bn:(0:Int)<=i/\(i:Int)<(n:Int):=ω;obtain⟨V,hV⟩ :=ν (ix st.P K');have zB:=hP.out K';rw[hV]at f zB;have U: -1<=V/\V<(p:Int):=ω
              have a:∀W,Below w.heap.size w W->∃gd,Ap=some ⟨gd,0,none⟩/\W.cell? ⟨gd,i,none⟩ =some (.int .i64 V):=λW hW=>by
               have:=(h.keeps hW).place iq
               rwa [Eo.out,<-hi,hV]at this
              have O0:(p:Int)-(K':Int)=((p-K':Nat):Int):=ω;have Hh:=h.ID;have Wa:(0:Int)<=N/\(N:Int)<=258:=ω;have bk:(i:Int)<(np:Int):=ω;have bB:((K':Int)== -1)=false:=σ;have J:=η f;have yJ:=η O0;clear f hi hN hV zB iq Hh XD O0;by_cases TY:3<=N
              · by_cases ad:T<N
                · have ah:(3:Int)<=N/\(T:Int)<N:=ω;obtain⟨d,hd⟩ :=ν (p-K');have Qg:=J.out;rw[if_pos ⟨TY,ad⟩,hd]at Qg;have YZ:(p:Int)-(K':Int)=(d:Int):=by have:=yJ.out;omega
                  have aA:d<=p:=ω;by_cases CK:N0<=N
                  · have o:Hid (R=(N,d)):=by show _=_;rw[<-Qg,if_pos CK]
                    have Xc:(N0:Int)<=(N:Int):=ω;clear Qg hd J a
                    go_wp2_with fail
                    refine Z.mono ?_;rintro r w5 ⟨rfl,F,rfl⟩;have zG:=((below_drewN b F).setCell (p:= ⟨w.heap.size+1,1,none⟩) σ (.int .i64 N)).setCell (p:= ⟨w.heap.size+1,2,none⟩) σ (.int .i64 d)
                    go_wp2_with fail
                    refine bodyPost_ret (v:= .agg #[.int .u8 0, .int .i64 N, .int .i64 d]) (by simp [results,Tryz.results64,go_sem,Q,O,M]) rfl ?_;unfold iJ;rw[o.out];exact⟨rfl,((zG.setCell (p:= ⟨w.heap.size,0,none⟩) (Nat.le_refl _) _).setCell (p:= ⟨w.heap.size,1,none⟩) (Nat.le_refl _) _).setCell (p:= ⟨w.heap.size,2,none⟩) (Nat.le_refl _) _⟩
                  · have o:Hid (js st.D st.P st.base p e.nice m V (N,d)=R):=by show _=_;rw[<-Qg,if_neg CK]
                    have Xc:¬(N0:Int)<=(N:Int):=ω;clear Qg hd J;obtain⟨gd,rfl,cc⟩ :=a _ b;have bp:=ap.out gd rfl;have ao:gd≠w.heap.size+1:=ω;have bo:w.heap.size+1≠gd:=λe=>ao e.symm
                    clear a
                    go_wp2_with fail
                    refine Z.mono ?_;rintro r w5 ⟨rfl,F,rfl⟩;have zG:=((below_drewN b F).setCell (p:= ⟨w.heap.size+1,1,none⟩) σ (.int .i64 N)).setCell (p:= ⟨w.heap.size+1,2,none⟩) σ (.int .i64 d);have aS:=Ye (QX.drewN F) N d;have bb:Ar _ w.heap.size 3 (tk (0,0)):=((VA.drewN F).far (p:= ⟨w.heap.size+1,1,none⟩) σ (.int .i64 N)).far (p:= ⟨w.heap.size+1,2,none⟩) σ (.int .i64 d)
                    go_wp2_with fail
                    go_quiet (fail)
                    go_wp2
                    go_roundw
                    case rel=>exact⟨m,V,(N,d),by go_num,ω,rfl,U.1,U.2,o,ω,aA,aS.drewN _,bb.drewN _,below_drewN zG _⟩
                    case measure=>simp [intOf]
                · have o:Hid (js st.D st.P st.base p e.nice m V (T,s)=R):=by show _=_;rw[<-J.out,if_neg (λh=>ad h.2)]
                  have ah:(3:Int)<=N/\¬(T:Int)<N:=ω;clear J;obtain⟨gd,rfl,cc⟩ :=a _ b;clear a
                  go_wp2_with fail
                  refine Z.mono ?_;rintro r w5 ⟨rfl,F,rfl⟩
                  go_wp2_with fail
                  go_quiet (fail)
                  go_wp2
                  go_roundw
                  case rel=>exact⟨m,V,(T,s),by go_num,ω,rfl,U.1,U.2,o,pO,Iw,QX.drewN _,VA.drewN _,below_drewN b _⟩
                  case measure=>simp [intOf]
              · have o:Hid (js st.D st.P st.base p e.nice m V (T,s)=R):=by show _=_;rw[<-J.out,if_neg (λh=>TY h.1)]
                have ah:(N:Int)<3:=ω;clear J;obtain⟨gd,rfl,cc⟩ :=a _ b;clear a
                go_wp2_with fail
                refine Z.mono ?_;rintro r w5 ⟨rfl,F,rfl⟩
                go_wp2_with fail
                go_quiet (fail)
                go_wp2
                go_roundw
                case rel=>exact⟨m,V,(T,s),by go_num,ω,rfl,U.1,U.2,o,pO,Iw,QX.drewN _,VA.drewN _,below_drewN b _⟩
                case measure=>simp [intOf]
            · have o:Hid (R=(T,s)):=by show _=_;rw[<-f,if_neg (λh=>G h.2)]
              have aC:K<(p:Int)-32768:=ω;clear f G
              go_wp2_with fail
              refine bodyPost_ret (v:= .agg #[.int .u8 0, .int .i64 T, .int .i64 s]) (by simp [results,Tryz.results64,go_sem,Q,O,M]) rfl ?_;unfold iJ;rw[o.out];exact⟨rfl,((b.setCell (p:= ⟨w.heap.size,0,none⟩) (Nat.le_refl _) _).setCell (p:= ⟨w.heap.size,1,none⟩) (Nat.le_refl _) _).setCell (p:= ⟨w.heap.size,2,none⟩) (Nat.le_refl _) _⟩
          · have o:Hid (R=(T,s)):=by show _=_;rw[<-f,if_neg (λh=>I h.1)]
            have aC:K<(B:Int):=ω;clear f I
            go_wp2_with fail
            refine bodyPost_ret (v:= .agg #[.int .u8 0, .int .i64 T, .int .i64 s]) (by simp [results,Tryz.results64,go_sem,Q,O,M]) rfl ?_;unfold iJ;rw[o.out];exact⟨rfl,((b.setCell (p:= ⟨w.heap.size,0,none⟩) (Nat.le_refl _) _).setCell (p:= ⟨w.heap.size,1,none⟩) (Nat.le_refl _) _).setCell (p:= ⟨w.heap.size,2,none⟩) (Nat.le_refl _) _⟩
end
theorem ag.aQ {k:IntKind} {w:World} {b0 g n c:Nat} {e:TypeId} {l:List Int} (h:ag k w b0 e (some ⟨g,0,none⟩) n c l) {i:Nat} (hi:i<n) (v:Int):ag k (w.setCell ⟨g,i,none⟩ (.int k v)) b0 e (some ⟨g,0,none⟩) n c (l.set i v):=
 ⟨by rw[List.length_set];exact h.1,(h.2.aQ (i:=i) ω (.int k v)).congr λj a=>by
   unfold upd;rw[Ga _ _ _ _ (by rw[<-h.1];exact hi)]
   split <;> rfl⟩
theorem drop_set {l:List Int} {i b:Nat} {v:Int}:(l.set (b+i) v).drop b=(l.drop b).set i v:=by
 rw[List.drop_set,if_neg ω,Nat.add_sub_cancel_left]
section
variable {w w' w1 w2:World} {b0 g p n c gm nm np cp gd:Nat} {e:jY} {st:ed} {A Ap:Option Addr} {Dm:DataW Unit}
theorem bF.entered (h:bF w b0 g e st p A n c gm nm Dm Ap np cp) (hp:p<st.D.length) {H:Int} (v:iz st.D p=H) (B:0<=H/\H<4294967296) (i:¬(e.chain=0\/st.D.length<p+3)) (f:aa Ap=some gd) (m:aq w w1 (λk=>k=gd))
  (r:ag .i64 w1 b0 3 Ap np cp ((st.P.set p (was st H)).drop st.base)) (u:w1.grownBy w2 (some gm)) (s:w2.ownsMap Tryz.prog 44 (plainElem Tryz.prog 3) gm (nm+1) (Dm.put (.int .u32 H) (.lit (.int .i64 p)))):
  bF w2 b0 g e (aD e st p) (p+1) A n c gm (nm+1) (Dm.put (.int .u32 H) (.lit (.int .i64 p))) Ap np cp/\aq w w2 (FF A gm Ap g):=by
 have l:gd≠g:=λe=>h.d2 (by rw[f,e])
 have z:gd≠gm:=λe=>h.d6 (by rw[f,e])
 have j:aa A≠some gd:=λe=>h.d4 gd e f
 have o:=h.ok.enter (e:=e) (p:=p) hp;have y:aD e st p={ st with P:=st.P.set p (was st H),head:=λx=>if x=H then some (p:Int)else st.head x }:=by unfold aD;rw[if_neg i,v]
 have b:aq w1 w2 (λk=>k=gm):=(aq.refl w1 _).grown u λk a=>by injection a with a;exact .inl a.symm
 have t:WideAt.IsKeyLit (.int .u32 H):=by exact(by trivial)
 rw[y]at o⊢;refine⟨⟨b.ar (m.ar h.cell λe=>l e.symm) λe=>h.d3 e.symm,h.lo,b.bf (m.bf h.own λq d e=>j (by rw[d,e])) λq d e=>h.d5 (by rw[d,e]),b.bf r λq d e=>h.d6 (by rw[d,e]),s,h.rep.put H p t,h.MV,by have:=h.Za;omega,h.d1,h.d2,h.d3,h.d4,h.d5,h.d6,o,h.fC,h.eb,h.big⟩, ?_⟩;exact(m.more λk a=> .inr (.inr (.inr (by rw[f,a])))).trans (b.more λk a=> .inr (.inl a)) λk a=> .inl a
def nQ (w:World) (b0 g:Nat) (e:jY) (st:ed) (b:Nat) (A:Option Addr) (n c gm:Nat) (Ap:Option Addr) (np cp:Nat) (r:Ending) (w':World):Prop:=
 r= .returned (.tuple #[])/\(∃nm Dm,bF w' b0 g e st b A n c gm nm Dm Ap np cp)/\aq w w' (FF A gm Ap g)
theorem xB (p:Nat) (h:bF w b0 g e st p A n c gm nm Dm Ap np cp) (hp:st.base<=p) (CM:p<st.D.length):
  Calls Tryz.prog 68 #[.pointer (some ⟨g,0,none⟩), .int .i64 p] w (nQ w b0 g e (aD e st p) (p+1) A n c gm Ap np cp):=by
 obtain⟨c0,c1, -,c3,c4, -,c6,c7⟩ :=mV h;have hb:=h.big;have WG:=h.eb;have f:=tE h
 have jV:e.chain=0\/st.D.length<p+3->∀q,nQ w b0 g e (aD e st p) (p+1) A n c gm Ap np cp (.returned (.tuple #[])) (w.drewN q):=λhc q=>by
  have hE:aD e st p=st:=by unfold aD;rw[if_pos hc]
  have a:=h.drewN q;rw[hE];exact⟨rfl, ⟨nm,Dm,a.cell,a.lo,a.own,a.rO,a.map,a.rep,a.MV,by have:=a.Za;omega,a.d1,a.d2,a.d3,a.d4,a.d5,a.d6, ⟨a.ok.len,a.ok.lo,a.ok.hi,CM,a.ok.prev,λx k hk=>by have:=a.ok.hd x k hk;omega⟩,a.fC,a.eb,a.big⟩,(aq.refl w _).drewN q⟩
 have HS:=η jV;clear jV;obtain⟨L,hL⟩ :=ν (st.D.length);obtain⟨ch,s⟩ :=ν (e.chain);rw[s]at c0 WG;rw[hL]at hb f;have hI:(p:Int)<L/\(L:Int)<=100000000000/\(0:Int)<=p/\(0:Int)<=ch/\(ch:Int)<=256:=ω;have O:=η hL;have V6:=η s;clear hL s;by_cases G:ch=0
 · subst G;go_enter Tryz.func68,Tryz.ntmps68
   go_wp2_with fail
   go_returns
   exact HS.out (.inl V6.out) 0
 · have an:((ch:Int)==0)=false:=by simpa using G
   by_cases W:L<p+3
   · have Xw:(L:Int)<(p:Int)+3:=ω;go_enter Tryz.func68,Tryz.ntmps68
     go_wp2_with fail
     refine f.mono ?_;rintro r w1 ⟨rfl,l,rfl⟩
     go_wp2_with fail
     go_returns
     exact HS.out (.inr (by rw[O.out];exact W)) l
   · have Xw:¬(L:Int)<(p:Int)+3:=ω;obtain⟨H,N⟩ :=ν (iz st.D p);have t:0<=H/\H<4294967296:=by rw[<-N];have:=O6 (ix st.D p) (ix st.D (p+1)) (ix st.D (p+2));unfold iz;omega
     have CG:∀m,Calls Tryz.prog 83 #[.pointer (some ⟨g,0,none⟩), .int .i64 p] (w.drewN m) λr w'=>r= .returned (.int .u32 H)/\∃q,w'=(w.drewN m).drewN q:=λm=>by
      have:=Cw (h.drewN m) p hp (by rw[O.out];omega)
      rwa [N]at this
     obtain⟨i,hi⟩ :∃i,p=st.base+i:= ⟨p-st.base,ω⟩;have iq:i<n:=by have:=h.iQ;have:=O.out;omega
     have Ur:=h.ID;obtain⟨gd,hA,cc⟩ :=h.place iq;have d:=h.rO;have b:=h.map;have C:¬(e.chain=0\/st.D.length<p+3):=by rw[O.out,V6.out];omega
     have ab:gd≠g:=λJ=>h.d2 (by rw[hA,<-J];rfl)
     have am:g≠gd:=λJ=>ab J.symm
     have S0:gm≠gd:=λJ=>h.d6 (by rw[hA,J];rfl)
     rw[hA]at d c7;have zf:=d.2.frozen i;have WI:=λw1 w2=>h.entered (w1:=w1) (w2:=w2) (gd:=gd) CM N t C (by rw[hA];rfl)
     rw[hA]at WI;have Zn:=η WI;obtain⟨B,hB⟩ :=ν (st.base);have zU:∀v,(st.P.set p v).drop st.base=(st.P.drop st.base).set i v:=λv=>by rw[hi,drop_set]
     have Zy:=η zU;rw[hB]at c4;have ad:IntKind.i64.wrap ((p:Int)-(B:Int))=(i:Int):=by rw[IntWalk.i64_in _ ω];omega
     have ao:(p:Int)-(B:Int)=(i:Int):=ω;have al:(0:Int)<=i/\(i:Int)<(np:Int):=ω;have ah:=h.Za;have U:=h.look t 0;have o:=h.look t;have WS:i<np:=ω;obtain⟨hd,M⟩ :=ν (st.head H);have y:Hid (was st H=hd.getD (-1)):=by show _=_;unfold was;rw[M]
     have Y:=(h.rep.2 H).1;have X:Hid (Dm.atKey (.int .u32 H) (.lit (.int .i64 0))= .lit (.int .i64 (hd.getD 0))):=by show _=_;rw[<-M];exact(h.rep.2 H).2
     rw[M]at o Y;have Qp:=h.cell.lt;obtain⟨V,hV⟩ :=ν (ix st.P (st.base+i));rw[hV]at cc;have qN:=η hA;have E:nm<maxLen:=by unfold maxLen;omega
     have K9:(Lit.int .i64 (p:Int)).wf=true:=by simp [Lit.wf,IntKind.min,IntKind.max,IntKind.signed,IntKind.bits];omega
     clear N hi iq hB C WI zU M U hV hA Ur;cases hd with
     | none=>
       simp only [Option.getD_none,Option.isSome_none]at o;go_enter Tryz.func68,Tryz.ntmps68
       go_wp2_with fail
       refine f.mono ?_;rintro r w1 ⟨rfl,l,rfl⟩
       go_wp2_with fail
       refine(CG l).mono ?_;rintro r w1 ⟨rfl,u,rfl⟩
       go_wp2_with fail
       go_region
       have j:aq w ((w.drewN (l+u+1)).setCell ⟨gd,i,none⟩ (.int .i64 (-1))) (λk=>k=gd):=((aq.refl w (λk=>k=gd)).drewN _).setCell (p:= ⟨gd,i,none⟩) (.inl rfl) _;have K:=kM b (j.block gm b.lt S0);have z:=ag.aQ (d.drewN (l+u+1)) WS (-1)
       go_wp2_with (first
        | (at_lookup;refine wpList_lookup_own_ok_int _ rfl _ _ 84 rfl 44 3 .i64 CY Tryz.underlying84 Tryz.underlying3 (Bi _) gm nm Dm rfl K _ _ rfl (CU t) ?_;intro c I T;rw[Y];simp only [Option.isSome_none])
        | (at_mapUpdate;refine wpList_mapUpdate_own _ rfl _ _ _ 84 rfl 44 3 CY Tryz.underlying84 (plainElem Tryz.prog 3) gm nm Dm rfl K E _ _ _ rfl rfl (CU t) _ [] (plainElem_int Tryz.underlying3 K9) ?_;intro Q Z FV))
       go_returns
       obtain⟨S,R⟩ :=Zn.out _ Q j (by rw[y.out,Zy.out];exact z) FV Z;exact⟨rfl, ⟨_,_,by rw[qN.out];exact S⟩,by rw[qN.out];exact R⟩
     | some k=>
       simp only [Option.getD_some,Option.isSome_some]at o;go_enter Tryz.func68,Tryz.ntmps68
       go_wp2_with fail
       refine f.mono ?_;rintro r w1 ⟨rfl,l,rfl⟩
       go_wp2_with fail
       refine(CG l).mono ?_;rintro r w1 ⟨rfl,u,rfl⟩
       go_wp2_with fail
       go_region
       have j:aq w ((w.drewN (l+u+1)).setCell ⟨gd,i,none⟩ (.int .i64 (-1))) (λk=>k=gd):=((aq.refl w (λk=>k=gd)).drewN _).setCell (p:= ⟨gd,i,none⟩) (.inl rfl) _;have K:=kM b (j.block gm b.lt S0);have z:=ag.aQ (d.drewN (l+u+1)) WS (-1)
       go_wp2_with (at_lookup;refine wpList_lookup_own_ok_int _ rfl _ _ 84 rfl 44 3 .i64 CY Tryz.underlying84 Tryz.underlying3 (Bi _) gm nm Dm rfl K _ _ rfl (CU t) ?_;intro c I T;rw[Y];simp only [Option.isSome_some])
       have oy:c=k:=by
        have h5:=X.out;rw[I]at h5;injection h5 with h5;injection h5
       subst oy;have ac:=z.2.frozen i;have ap:=z.2.cell (i:=i) ω;have F:aq w ((((w.drewN (l+u+1)).setCell ⟨gd,i,none⟩ (.int .i64 (-1))).drew).setCell ⟨gd,i,none⟩ (.int .i64 c)) (λk=>k=gd):=j.drew.setCell (p:= ⟨gd,i,none⟩) (.inl rfl) _;have kL:=kM b (F.block gm b.lt S0);have fP:=ag.aQ z.drew WS c;rw[List.set_set]at fP
       go_region
       go_wp2_with (at_mapUpdate;refine wpList_mapUpdate_own _ rfl _ _ _ 84 rfl 44 3 CY Tryz.underlying84 (plainElem Tryz.prog 3) gm nm Dm rfl kL E _ _ _ rfl rfl (CU t) _ [] (plainElem_int Tryz.underlying3 K9) ?_;intro Q Z FV)
       go_returns
       obtain⟨S,R⟩ :=Zn.out _ Q F (by rw[y.out,Zy.out];exact fP) FV Z;exact⟨rfl, ⟨_,_,by rw[qN.out];exact S⟩,by rw[qN.out];exact R⟩
end
theorem KC (e:jY) (n:Nat) (st:ed):bw e (n+1) st=moved (aD e (bw e n st) (bw e n st).at_):=by
 induction n generalizing st with
 | zero=>rfl
 | succ n a=>rw[bw,a];rfl
section
variable {w w' w1 w2:World} {b0 g b n c gm nm np cp:Nat} {e:jY} {st:ed} {A Ap:Option Addr} {Dm:DataW Unit}
theorem bF.moved (h:bF w b0 g e st (st.at_+1) A n c gm nm Dm Ap np cp) {T:Int} (f:T=(st.at_:Int)+1):
  bF (w.setCell ⟨g,5,none⟩ (.int .i64 T)) b0 g e (moved st) (st.at_+1) A n c gm nm Dm Ap np cp/\aq w (w.setCell ⟨g,5,none⟩ (.int .i64 T)) (FF A gm Ap g):=by
 subst f;have a:aq w (w.setCell ⟨g,5,none⟩ (.int .i64 ((st.at_:Int)+1))) (λk=>k=g):=(aq.refl w (λk=>k=g)).setCell (p:= ⟨g,5,none⟩) (.inl rfl) _;refine⟨⟨(h.cell.aQ (i:=5) ω _).congr λi hi=> ?_,h.lo,a.bf h.own λq b e=>h.d1 (by rw[b,e]),a.bf h.rO λq b e=>h.d2 (by rw[b,e]),kM h.map (a.block gm h.map.lt h.d3),h.rep,h.MV,h.Za,h.d1,h.d2,h.d3,h.d4,h.d5,h.d6,h.ok.moved,h.fC,h.eb,h.big⟩,a.more λk d=> .inl d⟩;obtain rfl | rfl | rfl | rfl | rfl | rfl | rfl | rfl:i=0\/i=1\/i=2\/i=3\/i=4\/i=5\/i=6\/i=7:=ω
 all_goals rfl
def yL (w:World) (b0 g:Nat) (e:jY) (st:ed) (A:Option Addr) (n c gm:Nat) (Ap:Option Addr) (np cp N:Nat) (i:Value) (wr:World):Prop:=
 ∃(k nm:Nat) (Dm:DataW Unit),k<=N/\i= .int .i64 k/\bF wr b0 g e (bw e k st) (st.at_+k) A n c gm nm Dm Ap np cp/\aq w wr (FF A gm Ap g)
theorem nI (N:Nat) (h:bF w b0 g e st st.at_ A n c gm nm Dm Ap np cp) (P:st.at_+N<=st.D.length):
  Calls Tryz.prog 66 #[.pointer (some ⟨g,0,none⟩), .int .i64 N] w (nQ w b0 g e (bw e N st) (st.at_+N) A n c gm Ap np cp):=by
 have f:yL w b0 g e st A n c gm Ap np cp N (.int .i64 0) w:= ⟨0,nm,Dm,Nat.zero_le _,rfl,h,aq.refl w _⟩;have I:=h.ok;have V:=h.big;have m:=η I;go_enter Tryz.func66,Tryz.ntmps66
 go_wp2_with fail
 go_loopw [5] (yL w b0 g e st A n c gm Ap np cp N) (λi _=>N-(intOf i).toNat)
 case atStart=>exact f
 case round=>
  clear f I;obtain⟨k,R,X,U,rfl,y,L⟩ :=hrel;by_cases v:k<N
  · have S:(k:Int)<(N:Int)/\(0:Int)<=k/\(k:Int)<=100000000000:=ω;obtain⟨-,G,t,F⟩ :=lS (e:=e) (n:=k) m.out ω;have b:(bw e k st).at_=st.at_+k:=t;have H:Hid (bw e (k+1) st=moved (aD e (bw e k st) (st.at_+k))):=by show _=_;rw[KC,t]
    have a:(bw e k st).base<=st.at_+k:=by rw[F];have:=m.out.lo;omega
    have l:=xB (st.at_+k) y a (by rw[G];omega);obtain⟨-, -, -, -, -,M, -, -⟩ :=mV y;rw[b]at M;obtain⟨T,B⟩ :=ν (st.at_+k);have z:Hid (st.at_+(k+1)=T+1):=by show _=_;omega
    have W:(0:Int)<=T/\(T:Int)<=100000000000:=ω;rw[B]at l M H;have s:Hid ((aD e (bw e k st) T).at_=T):=by show _=_;rw[(tF e _ _).2.1,b,B]
    clear b B G t F a P
    go_wp2_with fail
    refine l.mono ?_;rintro r E ⟨rfl, ⟨d,o,p⟩,K⟩;obtain⟨-, -, -, -, -,C, -, -⟩ :=mV p;have Q:=p.cell.frozen' (i:=5) ω;rw[s.out]at C;have j:bF E b0 g e (aD e (bw e k st) T) ((aD e (bw e k st) T).at_+1) A n c gm d o Ap np cp:=by rw[s.out];exact p
    obtain⟨x,J⟩ :=j.moved (T:=(T:Int)+1) (by rw[s.out]);rw[s.out]at x
    have O:yL w b0 g e st A n c gm Ap np cp N (.int .i64 ((k:Int)+1)) (E.setCell ⟨g,5,none⟩ (.int .i64 ((T:Int)+1))):=
     ⟨k+1,d,o,v,by go_num,by rw[H.out,z.out];exact x,(L.trans K λq u=> .inl u).trans J λq u=> .inl u⟩
    clear p x K J j
    go_wp2_with fail
    go_roundw
    case rel=>exact O
    case measure=>simp [intOf];omega
  · obtain rfl:k=N:=ω
    go_wp2_with fail
    go_returns
    exact⟨rfl, ⟨_,_,y⟩,L⟩
end
def tkT (a b c:Int):Nat->Value
 | 0=> .int .u8 a
 | 1=> .int .i64 b
 | _=> .int .i64 c
theorem tO (w:World) (a b c:Int):Ar (w.alloc (.cells #[.int .u8 a, .int .i64 b, .int .i64 c] 90)) w.heap.size 3 (tkT a b c):=
 Ar.new w #[.int .u8 a, .int .i64 b, .int .i64 c] 90 (show(#[.int .u8 a, .int .i64 b, .int .i64 c]:Array Value).size=3 from rfl) λi hi=>by
  obtain rfl | rfl | rfl:i=0\/i=1\/i=2:=ω
  all_goals rfl
theorem bz {w:World} {g:Nat} {a b c:Int} (h:Ar w g 3 (tkT a b c)):w.cell? ⟨g,0,none⟩ =some (.int .u8 a)/\w.cell? ⟨g,1,none⟩ =some (.int .i64 b)/\w.cell? ⟨g,2,none⟩ =some (.int .i64 c)/\
  w.frozen? ⟨g,0,none⟩ =false/\w.frozen? ⟨g,1,none⟩ =false/\w.frozen? ⟨g,2,none⟩ =false:=
 ⟨h.cell (i:=0) ω,h.cell (i:=1) ω,h.cell (i:=2) ω,h.frozen' (i:=0) ω,h.frozen' (i:=1) ω,h.frozen' (i:=2) ω⟩
def BN (w:World) (b0 g:Nat) (e:jY) (R:aF×ed) (A:Option Addr) (n c gm:Nat) (Ap:Option Addr) (np cp:Nat) (r:Ending) (w':World):Prop:=
 r= .returned (.agg #[.int .u8 R.1.lit, .int .i64 R.1.len, .int .i64 R.1.ak])/\(∃nm Dm,bF w' b0 g e R.2 R.2.at_ A n c gm nm Dm Ap np cp)/\aq w w' (FF A gm Ap g)
section
variable {w w' w1 w2:World} {b0 g b n c gm nm np cp:Nat} {e:jY} {st:ed} {A Ap:Option Addr} {Dm:DataW Unit}
theorem kP {d:World} {F:Nat->Value} {a x y:Int} {st':ed} (h:bF w b0 g e st b A n c gm nm Dm Ap np cp) {f:Nat} {l:DataW Unit} (o:bF d b0 g e st' st'.at_ A n c gm f l Ap np cp) (m:aq w d (FF A gm Ap g)) (ar:Ar d w.heap.size 3 F):
  BN w b0 g e (⟨a,x,y⟩,st') A n c gm Ap np cp (.returned (.agg #[.int .u8 a, .int .i64 x, .int .i64 y])) (((d.setCell ⟨w.heap.size,0,none⟩ (.int .u8 a)).setCell ⟨w.heap.size,1,none⟩ (.int .i64 x)).setCell ⟨w.heap.size,2,none⟩ (.int .i64 y)):=by
 have i:aq d (((d.setCell ⟨w.heap.size,0,none⟩ (.int .u8 a)).setCell ⟨w.heap.size,1,none⟩ (.int .i64 x)).setCell ⟨w.heap.size,2,none⟩ (.int .i64 y)) (λk=>k=w.heap.size):=
  (((aq.refl d (λk=>k=w.heap.size)).setCell (p:= ⟨w.heap.size,0,none⟩) (.inl rfl) _).setCell (p:= ⟨w.heap.size,1,none⟩) (.inl rfl) _).setCell (p:= ⟨w.heap.size,2,none⟩) (.inl rfl) _
 exact⟨rfl, ⟨f,l,o.cv i λk j e=>by have:=(h.bH j).2;omega⟩,m.trans i λk j=> .inr ω⟩
theorem Df (h:bF w b0 g e st st.at_ A n c gm nm Dm Ap np cp) (F:st.at_<st.D.length):
  Calls Tryz.prog 49 #[.pointer (some ⟨g,0,none⟩)] w (BN w b0 g e (cy e st) A n c gm Ap np cp):=by
 have mZ:=qY (e:=e) h.ok;obtain⟨N1,JO, -,TY,NV,JM,fW,Wo, -⟩ :=jX (e:=e) h.ok F
 have NQ:cy e st=(if(ba e st st.at_).1=0 then(mj st,bw e 1 st)
  else if e.lazy=true/\(ba e st st.at_).1<e.nice/\st.at_+1<st.D.length then
   (if(ba e st st.at_).1<(ba e (aD e st st.at_) (st.at_+1)).1 then(mj st,moved (aD e st st.at_))
   else(⟨0,(ba e st st.at_).1,(ba e st st.at_).2⟩,bw e ((ba e st st.at_).1-1) (moved (aD e st st.at_))))
  else(⟨0,(ba e st st.at_).1,(ba e st st.at_).2⟩,bw e (ba e st st.at_).1 st)):=rfl
 obtain⟨R,hR⟩ :=ν (cy e st);obtain⟨B,hB⟩ :=ν (ba e st st.at_);rw[hB]at mZ;rw[hR,hB]at NQ;rw[hR];obtain⟨L,d⟩ :=B
 have aC:L<=258/\d<=32768/\st.at_+L<=st.D.length:=by
  rcases mZ with ⟨h1,h2⟩ | ⟨-,h1,h2, -,h3, -⟩
  · dsimp only at h1 h2;omega
  · dsimp only at h1 h2 h3;omega
 have cw:(0:Int)<=L/\(L:Int)<=258/\(0:Int)<=d/\(d:Int)<=32768:=ω;have Qp:=h.cell.lt;have I:=(Below.refl w.heap.size w).alloc (Nat.le_refl _) (.cells #[.int .u8 0, .int .i64 0, .int .i64 0] 90);have h0:=h.keeps I;have VA:=tO w 0 0 0;have Ig:=C5 st.at_ h0 h.ok.lo;rw[hB]at Ig;have eK:=h.big;obtain⟨T,hT⟩ :=ν (st.at_);have Wf:(0:Int)<=T/\(T:Int)<=100000000000:=ω;obtain⟨c0,c1,c2,c3,c4,c5,c6,c7⟩ :=mV h;rw[hT]at c5;have ku:=η NQ;have HB:=η hB;have S:=η hT;obtain⟨v,hv⟩ :=ν (ix st.D st.at_);have aS:Hid (mj st= ⟨v,0,0⟩):=by show _=_;unfold mj;rw[hv]
 rw[hT]at Ig
 have bx:∀W,bF W b0 g e st st.at_ A n c gm nm Dm Ap np cp->Calls Tryz.prog 65 #[.pointer (some ⟨g,0,none⟩), .int .i64 T] W λr w'=>r= .returned (.int .u8 v)/\∃q,w'=W.drewN q:=λW hf=>by
  have:=zr hf st.at_ h.ok.lo F
  rwa [hv,hT]at this
 have Sa:=η F;clear NQ hB hT hv mZ NV JM fW Wo TY JO F hR;go_enter Tryz.func49,Tryz.ntmps49
 go_wp2_with fail
 refine Ig.mono ?_;rintro r w1 ⟨rfl,ad⟩;dsimp only;have RI:=I.trans (ad.mono I.size);have QX:=VA.keeps ad;have xH:=RI.alloc RI.size (.cells #[.int .u8 0, .int .i64 L, .int .i64 d] 90);have WL:=h.keeps xH;have aI:=(mV WL).2.2.2.2.2.1;rw[S.out]at aI;have TJ:=tO w1 0 L d;have bl:=QX.alloc (.cells #[.int .u8 0, .int .i64 L, .int .i64 d] 90);obtain⟨G,hG⟩ :=ν (w1.heap.size);have cr:g<G:=by have:=RI.size;omega
 have cl:w.heap.size<G:=by have:=QX.lt;omega
 rw[hG]at TJ
 go_wp2_with fail
 refine(bx _ WL).mono ?_;rintro r w2 ⟨rfl,Y,rfl⟩
 go_upto_region 3 with fail
 have ac:=(below_drewN xH Y).alloc (below_drewN xH Y).size (.cells #[.int .u8 v, .int .i64 0, .int .i64 0] 90);have Yy:=(bl.drewN Y).alloc (.cells #[.int .u8 v, .int .i64 0, .int .i64 0] 90);have Q8:=(TJ.drewN Y).alloc (.cells #[.int .u8 v, .int .i64 0, .int .i64 0] 90);have E:=tO ((w1.alloc (.cells #[.int .u8 0, .int .i64 L, .int .i64 d] 90)).drewN Y) v 0 0;have am:((w1.alloc (.cells #[.int .u8 0, .int .i64 L, .int .i64 d] 90)).drewN Y).heap.size=G+1:=by rw[<-hG];simp [World.drewN]
 rw[am]at E;clear am;generalize ((w1.alloc (.cells #[.int .u8 0, .int .i64 L, .int .i64 d] 90)).drewN Y).alloc (.cells #[.int .u8 v, .int .i64 0, .int .i64 0] 90)=w3 at*;clear bl QX VA TJ xH WL aI RI ad I h0 Ig;have b:=h.keeps ac;have l:aq w w3 (FF A gm Ap g):=aq.aB ac;have o:Hid (∀k,w.heap.size<=k->¬FF A gm Ap g k):=λk a hF=>by have:=(h.bH hF).2;omega
 obtain⟨c0,c1,c2,c3,c4,c5,c6,c7⟩ :=mV b;rw[S.out]at c5;obtain⟨O,N,M, -, -, -⟩ :=bz Q8;obtain⟨l0,l1,l2, -, -, -⟩ :=bz E;by_cases K:L=0
 · have x:Hid (R=(⟨v,0,0⟩,bw e 1 st)):=by show _=_;rw[ku.out,if_pos K,aS.out]
   have hp:=nI 1 b Sa.out;have ct:(L:Int)=0:=ω;obtain⟨-, -,P, -⟩ :=lS (e:=e) (n:=1) h.ok Sa.out;have mz:=η P;clear P hG
   go_wp2_with fail
   refine hp.mono ?_;rintro r X ⟨rfl, ⟨Z,UR,RZ⟩,j⟩;have C:=j.ar Yy (o.out _ (Nat.le_refl _));have ci:=j.ar E (o.out _ ω);have FT:bF X b0 g e (bw e 1 st) (bw e 1 st).at_ A n c gm Z UR Ap np cp:=by rw[mz.out];exact RZ
   have bT:=l.trans j λk a=> .inl a
   obtain⟨l0,l1,l2, -, -, -⟩ :=bz ci;obtain⟨u,t,s,z0,z1,z2⟩ :=bz C
   go_wp2_with fail
   refine bodyPost_ret (v:= .agg #[.int .u8 v, .int .i64 0, .int .i64 0]) (by simp [results,Tryz.results49,go_sem,u,t,s]) rfl ?_;rw[x.out];exact kP h FT bT C
 · have f:Hid (∀q,Calls Tryz.prog 67 #[.pointer (some ⟨g,0,none⟩)] (w3.drewN q) λr w'=>r= .returned (.int .i64 st.D.length)/\∃m,w'=(w3.drewN q).drewN m):=λq=>tE (b.drewN q)
   obtain⟨DL,Rx⟩ :=ν (st.D.length);rw[Rx]at f aC eK;obtain⟨lz,ab⟩ :=ν (e.lazy);obtain⟨nc,NP⟩ :=ν (e.nice);rw[ab]at c2;rw[NP]at c1;have aE:((L:Int)==0)=false:=by simpa using K
   have J:Hid (st.at_+L<=st.D.length):=by show _<=_;rw[Rx];exact aC.2.2
   obtain⟨-, -,P, -⟩ :=lS (e:=e) (n:=L) h.ok J.out;have mz:=η P;have Ym:=η Rx
   have Q:Hid (R=if lz=true/\L<nc/\T+1<DL then
     (if L<(ba e (aD e st T) (T+1)).1 then(mj st,moved (aD e st T))else(⟨0,L,d⟩,bw e (L-1) (moved (aD e st T))))
     else(⟨0,L,d⟩,bw e L st)):=by
    show _=_
    rw[ku.out,if_neg K,ab,NP,Rx,S.out]
   have z:∀q,aq w3 (w3.drewN q) (FF A gm Ap g):=λq=>(aq.refl w3 _).drewN q
   have cB:(DL:Int)<=100000000000:=ω;clear P hG Rx K ab NP eK ku;cases lz with
   | false=>
     have x:Hid (R=(⟨0,L,d⟩,bw e L st)):=by show _=_;rw[Q.out,if_neg (λh=>by simp at h)]
     clear Q
     go_wp2_with fail
     go_quiet ((go_at_call 67;exact Calls.quiet_of (f.out _)))
     go_wp2_with fail
     refine(nI L (b.drewN _) J.out).mono ?_;rintro r X ⟨rfl, ⟨Z,UR,RZ⟩,j⟩;have z:=l.trans ((z nq).trans j λk a=> .inl a) λk a=> .inl a
     have C:=j.ar (Yy.drewN nq) (o.out _ (Nat.le_refl _));have TK:=j.ar (Q8.drewN nq) (o.out _ ω);have FT:bF X b0 g e (bw e L st) (bw e L st).at_ A n c gm Z UR Ap np cp:=by rw[mz.out];exact RZ
     obtain⟨O,N,M, -, -, -⟩ :=bz TK;obtain⟨u,t,s,z0,z1,z2⟩ :=bz C
     go_wp2_with fail
     refine bodyPost_ret (v:= .agg #[.int .u8 0, .int .i64 L, .int .i64 d]) (by simp [results,Tryz.results49,go_sem,u,t,s]) rfl ?_;rw[x.out];exact kP h FT z C
   | true=>
     by_cases CK:L<nc
     · have Xc:(L:Int)<(nc:Int):=ω;by_cases y:T+1<DL
       · have bs:(T:Int)+1<(DL:Int):=ω;have Wb:Hid (R=if L<(ba e (aD e st T) (T+1)).1 then(mj st,moved (aD e st T))else(⟨0,L,d⟩,bw e (L-1) (moved (aD e st T)))):=by show _=_;rw[Q.out,if_pos ⟨rfl,CK,y⟩]
         have bS:Hid (∀q,Calls Tryz.prog 68 #[.pointer (some ⟨g,0,none⟩), .int .i64 T] (w3.drewN q) (nQ (w3.drewN q) b0 g e (aD e st T) (T+1) A n c gm Ap np cp)):=λq=>by
          have:=xB st.at_ (b.drewN q) h.ok.lo Sa.out
          rwa [S.out]at this
         have zu:=tF e st T;have eJ:Hid ((aD e st T).at_=T):=by show _=_;rw[zu.2.1,S.out]
         have Wp:(aD e st T).base<=T+1:=by rw[zu.2.2];have:=h.ok.lo;have:=S.out;omega
         have N5:Hid ((moved (aD e st T)).D.length=DL):=by show _=_;rw[<-Ym.out];exact congrArg List.length zu.1
         have mZ:=qY (e:=e) (st:=aD e st T) (p:=T+1) (by
          have:=h.ok.enter (e:=e) (p:=st.at_) Sa.out
          rwa [S.out]at this)
         obtain⟨⟨U,ud⟩,hU⟩ :∃U,ba e (aD e st T) (T+1)=U:= ⟨_,rfl⟩;rw[hU]at Wb mZ
         have cs:U<=258/\ud<=32768:=by
          rcases mZ with ⟨h1,h2⟩ | ⟨-,h1,h2, -,h3, -⟩
          · dsimp only at h1 h2;omega
          · dsimp only at h1 h2 h3;omega
         have HU:=η hU;have aA:((T+1:Nat):Int)=(T:Int)+1:=ω;have mn:=η aA;clear Q zu mZ hU aA
         go_wp2_with fail
         go_quiet ((go_at_call 67;exact Calls.quiet_of (f.out _)))
         go_wp2_with fail
         refine(bS.out _).mono ?_;rintro r w5 ⟨rfl, ⟨bp,ck,FU⟩,kU⟩;have ao:=l.trans ((z nq).trans kU λk a=> .inl a) λk a=> .inl a
         have bk:=kU.ar (Yy.drewN nq) (o.out _ (Nat.le_refl _));have Yz:=kU.ar (Q8.drewN nq) (o.out _ ω);have al:=kU.ar (E.drewN nq) (o.out _ ω);obtain⟨-, -, -, -, -,bb, -, -⟩ :=mV FU;rw[eJ.out]at bb;have FK:=C5 (T+1) FU Wp;rw[HU.out,mn.out]at FK;clear b l Yy Q8 E ac c0 c1 c2 c3 c4 c5 c6 c7 O N M l0 l1 l2 z kU
         go_wp2_with fail
         refine FK.mono ?_;rintro r V ⟨rfl,jf⟩;dsimp only;have co:=jf.size;have wQ:=jf.alloc jf.size (.cells #[.int .u8 0, .int .i64 U, .int .i64 ud] 90);have wB:=FU.keeps wQ;have Lq:aq w (V.alloc (.cells #[.int .u8 0, .int .i64 U, .int .i64 ud] 90)) (FF A gm Ap g):=ao.trans (aq.aB wQ) λk a=> .inl a
         have bi:=bk.keeps wQ;have bd:=Yz.keeps wQ;have bn:=al.keeps wQ;have ce:=tO V 0 U ud;have cA:G+1<V.heap.size:=by have:=al.lt;omega
         have cm:(V.alloc (.cells #[.int .u8 0, .int .i64 U, .int .i64 ud] 90)).heap.size=V.heap.size+1:=σ
         go_upto_region 9 with fail
         generalize cz:V.heap.size=G7 at*;generalize V.alloc (.cells #[.int .u8 0, .int .i64 U, .int .i64 ud] 90)=w7 at*;clear wQ bk Yz al FU jf bb ao FK;obtain⟨-, -, -, -, -,c5, -, -⟩ :=mV wB;rw[eJ.out]at c5;have z5:=wB.cell.frozen' (i:=5) ω;obtain⟨O,N,M, -, -, -⟩ :=bz bd;obtain⟨l0,l1,l2, -, -, -⟩ :=bz bn;obtain⟨u0,u1,u2, -, -, -⟩ :=bz ce;obtain⟨u,t,s,z0,z1,z2⟩ :=bz bi;have bI:bF w7 b0 g e (aD e st T) ((aD e st T).at_+1) A n c gm bp ck Ap np cp:=by rw[eJ.out];exact wB
         obtain⟨H,ca⟩ :=bI.moved (T:=(T:Int)+1) (by rw[eJ.out]);have an:=Lq.trans ca λk a=> .inl a
         have oX:g≠w.heap.size:=ω;have bv:w.heap.size≠g:=ω;have ah:Ar _ w.heap.size 3 _:=bi.far (p:= ⟨g,5,none⟩) bv (.int .i64 ((T:Int)+1));have YB:Ar _ G 3 _:=bd.far (p:= ⟨g,5,none⟩) ξ (.int .i64 ((T:Int)+1));have ch:Ar _ (G+1) 3 _:=bn.far (p:= ⟨g,5,none⟩) ξ (.int .i64 ((T:Int)+1));have hm:(moved (aD e st T)).at_=T+1:=by show(aD e st T).at_+1=_;rw[eJ.out]
         rw[eJ.out,<-hm]at H;have HM:=η hm;clear hm;have cq:g≠G+1/\g≠G:=ω;by_cases ap:L<U
         · have cd:(L:Int)<(U:Int):=ω;have x:Hid (R=(⟨v,0,0⟩,moved (aD e st T))):=by show _=_;rw[Wb.out,if_pos ap,aS.out]
           obtain⟨O,N,M, -, -, -⟩ :=bz YB;obtain⟨l0,l1,l2, -, -, -⟩ :=bz ch;obtain⟨u,t,s,z0,z1,z2⟩ :=bz ah
           go_wp2_with fail
           refine bodyPost_ret (v:= .agg #[.int .u8 v, .int .i64 0, .int .i64 0]) (by simp [results,Tryz.results49,go_sem,u,t,s]) rfl ?_;rw[x.out];exact kP h H an ah
         · have cd:¬(L:Int)<(U:Int):=ω;have x:Hid (R=(⟨0,L,d⟩,bw e (L-1) (moved (aD e st T)))):=by show _=_;rw[Wb.out,if_neg ap]
           obtain⟨L1,cZ⟩ :=ν (L-1)
           have cx:(L:Int)-1=(L1:Int):=by have h5:L≠0:=by(intro h6;rw[h6]at aE;simp at aE)
                                          omega
           rw[cZ]at x;have O5:Hid ((moved (aD e st T)).at_+L1<=(moved (aD e st T)).D.length):=by show _<=_;rw[HM.out,N5.out];have:=S.out;omega
           obtain⟨-, -,P, -⟩ :=lS (e:=e) (n:=L1) H.ok O5.out;have cc:=η P;have bt:=nI L1 H O5.out;obtain⟨O,N,M, -, -, -⟩ :=bz YB;clear P cZ
           go_wp2_with fail
           refine bt.mono ?_;rintro r w9 ⟨rfl, ⟨bo,cj,bG⟩,Qk⟩;have cb:=an.trans Qk λk a=> .inl a
           have be:=Qk.ar ah (o.out _ (Nat.le_refl _));have cg:=Qk.ar YB (o.out _ ω);have bB:bF w9 b0 g e (bw e L1 (moved (aD e st T))) (bw e L1 (moved (aD e st T))).at_ A n c gm bo cj Ap np cp:=by rw[cc.out];exact bG
           obtain⟨O,N,M, -, -, -⟩ :=bz cg;obtain⟨u,t,s,z0,z1,z2⟩ :=bz be
           go_wp2_with fail
           refine bodyPost_ret (v:= .agg #[.int .u8 0, .int .i64 L, .int .i64 d]) (by simp [results,Tryz.results49,go_sem,u,t,s]) rfl ?_;rw[x.out];exact kP h bB cb be
       · have bs:¬(T:Int)+1<(DL:Int):=ω;have x:Hid (R=(⟨0,L,d⟩,bw e L st)):=by show _=_;rw[Q.out,if_neg (λh=>y h.2.2)]
         clear Q
         go_wp2_with fail
         go_quiet ((go_at_call 67;exact Calls.quiet_of (f.out _)))
         go_wp2_with fail
         refine(nI L (b.drewN _) J.out).mono ?_;rintro r X ⟨rfl, ⟨Z,UR,RZ⟩,j⟩;have z:=l.trans ((z nq).trans j λk a=> .inl a) λk a=> .inl a
         have C:=j.ar (Yy.drewN nq) (o.out _ (Nat.le_refl _));have TK:=j.ar (Q8.drewN nq) (o.out _ ω);have FT:bF X b0 g e (bw e L st) (bw e L st).at_ A n c gm Z UR Ap np cp:=by rw[mz.out];exact RZ
         obtain⟨O,N,M, -, -, -⟩ :=bz TK;obtain⟨u,t,s,z0,z1,z2⟩ :=bz C
         go_wp2_with fail
         refine bodyPost_ret (v:= .agg #[.int .u8 0, .int .i64 L, .int .i64 d]) (by simp [results,Tryz.results49,go_sem,u,t,s]) rfl ?_;rw[x.out];exact kP h FT z C
     · have Xc:¬(L:Int)<(nc:Int):=ω;have x:Hid (R=(⟨0,L,d⟩,bw e L st)):=by show _=_;rw[Q.out,if_neg (λh=>CK h.2.1)]
       clear Q
       go_wp2_with fail
       go_quiet ((go_at_call 67;exact Calls.quiet_of (f.out _)))
       go_wp2_with fail
       refine(nI L (b.drewN _) J.out).mono ?_;rintro r X ⟨rfl, ⟨Z,UR,RZ⟩,j⟩;have z:=l.trans ((z nq).trans j λk a=> .inl a) λk a=> .inl a
       have C:=j.ar (Yy.drewN nq) (o.out _ (Nat.le_refl _));have TK:=j.ar (Q8.drewN nq) (o.out _ ω);have FT:bF X b0 g e (bw e L st) (bw e L st).at_ A n c gm Z UR Ap np cp:=by rw[mz.out];exact RZ
       obtain⟨O,N,M, -, -, -⟩ :=bz TK;obtain⟨u,t,s,z0,z1,z2⟩ :=bz C
       go_wp2_with fail
       refine bodyPost_ret (v:= .agg #[.int .u8 0, .int .i64 L, .int .i64 d]) (by simp [results,Tryz.results49,go_sem,u,t,s]) rfl ?_;rw[x.out];exact kP h FT z C
end
theorem ig.lit (w:World) (t:aF):ig (w.alloc (.cells #[.int .u8 t.lit, .int .i64 t.len, .int .i64 t.ak] 90)) (w.heap.size+1) (some ⟨w.heap.size,0,none⟩) 1 [t]:=by
 have h:=vO w t.lit t.len t.ak 90;refine⟨rfl,λ_=> ⟨_,rfl,σ,λi hi=> ?_⟩⟩;obtain rfl:i=0:=ω;exact⟨by rw[kA];exact h.cell (i:=0) ω,by rw[kA];exact h.cell (i:=1) ω,by rw[kA];exact h.cell (i:=2) ω⟩
def EL (w:World) (b0 g:Nat) (e:jY) (st:ed) (left:Nat) (A:Option Addr) (n c gm:Nat) (Ap:Option Addr) (np cp:Nat) (r:Ending) (w':World):Prop:=
 ∃(l:List aF) (st':ed) (At:Option Addr) (nt ct:Nat),r= .returned (.slice At nt ct)/\tA e left st l st'/\st'.D.length-st'.at_<=left/\fl w' w.heap.size At nt ct l/\(∃nm Dm,bF w' b0 g e st' st'.at_ A n c gm nm Dm Ap np cp)/\aq w w' (FF A gm Ap g)
def qW (w:World) (b0 g:Nat) (e:jY) (st:ed) (left:Nat) (A:Option Addr) (n c gm:Nat) (Ap:Option Addr) (np cp:Nat) (gk:Nat) (o:Value) (wr:World):Prop:=
 ∃(l:List aF) (st':ed) (At:Option Addr) (nt ct nm:Nat) (Dm:DataW Unit),o= .slice At nt ct/\tA e left st l st'/\fl wr w.heap.size At nt ct l/\bF wr b0 g e st' st'.at_ A n c gm nm Dm Ap np cp/\aq w wr (FF A gm Ap g)/\Hid (gk+st'.at_=st'.D.length)
section
variable {w w' w1 w2:World} {b0 g b n c gm nm np cp:Nat} {e:jY} {st:ed} {A Ap:Option Addr} {Dm:DataW Unit}
theorem sB (fin:Bool) (h:bF w b0 g e st st.at_ A n c gm nm Dm Ap np cp):
  Calls Tryz.prog 30 #[.pointer (some ⟨g,0,none⟩), .bool fin] w (EL w b0 g e st (if fin then 0 else 261) A n c gm Ap np cp):=by
 obtain⟨left,kK⟩ :=ν ((if fin then 0 else 261));have o:qW w b0 g e st left A n c gm Ap np cp (st.D.length-st.at_) (.slice none 0 0) w:= ⟨[],st,none,0,0,nm,Dm,rfl, .nil st, ⟨rfl,Own.br⟩,h,aq.refl w _,by show _=_;have:=h.ok.hi;omega⟩;rw[kK];obtain⟨i0,hi,L,K,J⟩ :=info_parts yC;have Hi:=η hi;have dM:=η L;have cV:=η K;have dN:=η J;have fJ:=η h.ok;have eK:=η h.big;have zv:Hid (∀k,w.heap.size<=k->¬FF A gm Ap g k):=λk b hF=>by have:=(h.bH hF).2;omega
 have Z:Hid (∀k,FF A gm Ap g k->k<w.heap.size):=λk b=>(h.bH b).2
 have ac:(fin=true/\left=0)\/(fin=false/\left=261):=by cases fin <;> simp at kK <;> simp [kK]
 clear hi L K J kK;go_enter Tryz.func30,Tryz.ntmps30
 rcases ac with ⟨rfl,rfl⟩ | ⟨rfl,rfl⟩
 · go_wp2_with fail
   go_loopg [5] (st.D.length-st.at_) (qW w b0 g e st _ A n c gm Ap np cp)
   case atStart=>exact o
   case round=>
    clear o;obtain⟨l,st',At,nt,ct,SQ,QF,rfl,a,m,v,V,WO⟩ :=hrel;have p:=B4 a fJ.out;have z:=sM v;obtain⟨W,G⟩ :=ν (st'.D.length-st'.at_);rw[G]at z;have iI:nt<=100000000000:=by have:=m.1;have:=p.2.2.1;have:=p.1.hi;have:=congrArg List.length p.2.1;have:=eK.out;omega
    have H:=η G;clear G p;by_cases ab:(0:Int)<(W:Int)
    · have N:Hid (st'.at_<st'.D.length):=by show _<_;have:=H.out;omega
      obtain⟨N1,JO, -,TY, -,JM,X, -, -⟩ :=jX (e:=e) v.ok N.out;have t:Hid ((cy e st').2.D.length-(cy e st').2.at_<gk/\(cy e st').2.at_<=(cy e st').2.D.length):=by show _<_/\_<=_;rw[JM,X];have:=WO.out;omega
      have B:=tA.snoc a (show _<_ by have:=H.out;omega);clear JO TY JM X
      go_wp2_with fail
      refine z.mono ?_;rintro r w5 ⟨rfl,d,rfl⟩;have P:=v.drewN d;have U:=V.drewN d;have s:fl (wr.drewN d) w.heap.size At nt ct l:= ⟨m.1,m.2.drewN d⟩
      go_wp2_with fail
      refine(Df P N.out).mono ?_;rintro r i ⟨rfl, ⟨y,I,u⟩,F⟩;have C:fl i w.heap.size At nt ct l:= ⟨s.1,F.own s.2 λq hq=>zv.out q (s.2.lt hq).1⟩;have T:=U.trans F λk b=> .inl b
      obtain⟨R,Y⟩ :=ν (cy e st');rw[Y]at u t B⊢;obtain⟨⟨tl,j,td⟩,x⟩ :=R;dsimp only at u t B⊢;have O:=ig.lit i ⟨tl,j,td⟩;dsimp only at O;have E:=u.keeps ((Below.refl _ i).alloc (Nat.le_refl _) (.cells #[.int .u8 tl, .int .i64 j, .int .i64 td] 90));have Q:=T.trans (aq.aB (S:=FF A gm Ap g) ((Below.refl _ i).alloc (Nat.le_refl _) (.cells #[.int .u8 tl, .int .i64 j, .int .i64 td] 90))) λk b=> .inl b
      have M:fl (i.alloc (.cells #[.int .u8 tl, .int .i64 j, .int .i64 td] 90)) w.heap.size At nt ct l:= ⟨C.1,C.2.alloc _⟩;have XH:=Q.size;clear P U s F C Y u T
      go_wp2_with (at_builtin;(refine iT w.heap.size i0 rfl (.tmp 14) (.tmp 17) rfl Hi.out dM.out cV.out dN.out rfl M rfl O ω XH ?_)
                   intro A7 c7 w7 wZ Qn FE)
      have f:aq (i.alloc (.cells #[.int .u8 tl, .int .i64 j, .int .i64 td] 90)) w7 (λk=>w.heap.size<=k):=(aq.refl _ _).grown Qn λk b=> .inl (M.2.lt b).1
      have wB:=E.cv f λk b h2=>by have:=Z.out k b;omega
      have Lq:=Q.trans f λk b=> .inr b
      go_roundg (x.D.length-x.at_)
      case measure=>exact t.out.1
      case rel=>exact⟨_,x,A7,nt+1,c7,y,I,rfl,B,wZ,wB,Lq,by show _=_;have:=t.out.2;omega⟩
    · go_wp2_with fail
      refine z.mono ?_;rintro r w5 ⟨rfl,d,rfl⟩
      go_wp2_with fail
      go_returns
      exact⟨l,st',At,nt,ct,rfl,a,by have:=H.out;omega, ⟨m.1,m.2.drewN d⟩, ⟨SQ,QF,v.drewN d⟩,V.drewN d⟩
 · go_wp2_with fail
   go_loopg [5] (st.D.length-st.at_) (qW w b0 g e st _ A n c gm Ap np cp)
   case atStart=>exact o
   case round=>
    clear o;obtain⟨l,st',At,nt,ct,SQ,QF,rfl,a,m,v,V,WO⟩ :=hrel;have p:=B4 a fJ.out;have z:=sM v;obtain⟨W,G⟩ :=ν (st'.D.length-st'.at_);rw[G]at z;have iI:nt<=100000000000:=by have:=m.1;have:=p.2.2.1;have:=p.1.hi;have:=congrArg List.length p.2.1;have:=eK.out;omega
    have H:=η G;clear G p;by_cases ab:(261:Int)<(W:Int)
    · have N:Hid (st'.at_<st'.D.length):=by show _<_;have:=H.out;omega
      obtain⟨N1,JO, -,TY, -,JM,X, -, -⟩ :=jX (e:=e) v.ok N.out;have t:Hid ((cy e st').2.D.length-(cy e st').2.at_<gk/\(cy e st').2.at_<=(cy e st').2.D.length):=by show _<_/\_<=_;rw[JM,X];have:=WO.out;omega
      have B:=tA.snoc a (show _<_ by have:=H.out;omega);clear JO TY JM X
      go_wp2_with fail
      refine z.mono ?_;rintro r w5 ⟨rfl,d,rfl⟩;have P:=v.drewN d;have U:=V.drewN d;have s:fl (wr.drewN d) w.heap.size At nt ct l:= ⟨m.1,m.2.drewN d⟩
      go_wp2_with fail
      refine(Df P N.out).mono ?_;rintro r i ⟨rfl, ⟨y,I,u⟩,F⟩;have C:fl i w.heap.size At nt ct l:= ⟨s.1,F.own s.2 λq hq=>zv.out q (s.2.lt hq).1⟩;have T:=U.trans F λk b=> .inl b
      obtain⟨R,Y⟩ :=ν (cy e st');rw[Y]at u t B⊢;obtain⟨⟨tl,j,td⟩,x⟩ :=R;dsimp only at u t B⊢;have O:=ig.lit i ⟨tl,j,td⟩;dsimp only at O;have E:=u.keeps ((Below.refl _ i).alloc (Nat.le_refl _) (.cells #[.int .u8 tl, .int .i64 j, .int .i64 td] 90));have Q:=T.trans (aq.aB (S:=FF A gm Ap g) ((Below.refl _ i).alloc (Nat.le_refl _) (.cells #[.int .u8 tl, .int .i64 j, .int .i64 td] 90))) λk b=> .inl b
      have M:fl (i.alloc (.cells #[.int .u8 tl, .int .i64 j, .int .i64 td] 90)) w.heap.size At nt ct l:= ⟨C.1,C.2.alloc _⟩;have XH:=Q.size;clear P U s F C Y u T
      go_wp2_with (at_builtin;(refine iT w.heap.size i0 rfl (.tmp 14) (.tmp 17) rfl Hi.out dM.out cV.out dN.out rfl M rfl O ω XH ?_)
                   intro A7 c7 w7 wZ Qn FE)
      have f:aq (i.alloc (.cells #[.int .u8 tl, .int .i64 j, .int .i64 td] 90)) w7 (λk=>w.heap.size<=k):=(aq.refl _ _).grown Qn λk b=> .inl (M.2.lt b).1
      have wB:=E.cv f λk b h2=>by have:=Z.out k b;omega
      have Lq:=Q.trans f λk b=> .inr b
      go_roundg (x.D.length-x.at_)
      case measure=>exact t.out.1
      case rel=>exact⟨_,x,A7,nt+1,c7,y,I,rfl,B,wZ,wB,Lq,by show _=_;have:=t.out.2;omega⟩
    · go_wp2_with fail
      refine z.mono ?_;rintro r w5 ⟨rfl,d,rfl⟩
      go_wp2_with fail
      go_returns
      exact⟨l,st',At,nt,ct,rfl,a,by have:=H.out;omega, ⟨m.1,m.2.drewN d⟩, ⟨SQ,QF,v.drewN d⟩,V.drewN d⟩
end
end Go.Proofs.YtddhegejmkgmjaaGreat
