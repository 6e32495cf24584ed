/-
  part
-/
import Derived.Test.YtgiimmkmjpbecaaGreatRfE
import Derived.Test.YtgiimmkmjpbecaaGreatStep
import Derived.Deep.CutBlock
import Derived.Deep.DeepMust
namespace Go.Proofs.YtgiimmkmjpbecaaGreat
open Go.RowKit
set_option linter.unusedVariables false
set_option maxRecDepth 100000
set_option maxHeartbeats 8000000
section
variable {w w' w0 w2:World} {b0 g:Nat} {c c0:Nat->Nat} {R R':RM} {s t t':IS} {v:Int}
theorem IS.NC (s:IS):(s.step.1.kinds=s.kinds/\s.step.1.last=s.last)\/s.step.1.kinds.length=s.kinds.length+1:=by
 have a:∀s:IS,s.over.kinds=s.kinds/\s.over.last=s.last:=λs=>by unfold IS.over;split <;> exact⟨rfl,rfl⟩
 have c:∀(s:IS) b,(s.emit b).1.kinds=s.kinds/\(s.emit b).1.last=s.last:=λs b=> ⟨rfl,rfl⟩;unfold IS.step;split
 · unfold IS.block;split
   · exact .inl ⟨rfl,rfl⟩
   split
   · exact .inr σ
   split
   · exact .inr σ
   split
   · exact .inr σ
   exact .inr σ
 split
 · unfold IS.size;split
   · exact .inl ⟨rfl,rfl⟩
   split <;> exact .inl ⟨rfl,rfl⟩
 split
 · unfold IS.stored;split
   · exact .inl (a s)
   split
   · exact .inl ⟨rfl,rfl⟩
   exact .inl ⟨rfl,rfl⟩
 split
 · unfold IS.sizes;split
   · exact .inl ⟨rfl,rfl⟩
   split <;> exact .inl ⟨rfl,rfl⟩
 split
 · unfold IS.heads;split
   · split <;> exact .inl ⟨rfl,rfl⟩
   split <;> exact .inl ⟨rfl,rfl⟩
 split
 · unfold IS.lengths IS.length IS.kx
   repeat' split
   all_goals exact .inl ⟨rfl,rfl⟩
 split
 · unfold IS.token;split
   · exact .inl ⟨rfl,rfl⟩
   split
   · exact .inl ⟨rfl,rfl⟩
   split
   · exact .inl (a _)
   repeat' split
   all_goals exact .inl ⟨rfl,rfl⟩
 split
 · unfold IS.bn IS.text
   repeat' split
   all_goals exact .inl ⟨rfl,rfl⟩
 exact .inl ⟨rfl,rfl⟩
theorem IS.Steps.last (h:IS.Steps s t):s.kinds.length<=t.kinds.length/\(t.kinds.length=s.kinds.length->t.last=s.last):=by
 induction h with
 | refl=>exact⟨af _,λ_=>rfl⟩
 | @tail t h1 h2 ih=>
   rcases IS.NC t with ⟨a,b⟩ | a
   · rw[a,b];exact ih
   rw[a];exact⟨ω,λe=>ω⟩
theorem IS.Qw (h:s.st=8):s.fin=(s,8):=by
 have e:s.step=(s,8):=by unfold IS.step;rw[h];rfl
 rw[IS.gZ (by rw[e];simp),e]
def wK (w:World) (F:IS×Int) (b:ag) (e:Ending) (w':World):Prop:=
 ∃g c R,e= .returned (.pointer (some ⟨g,0,none⟩))/\ig w' w.heap.size g c R/\Below w.heap.size w w'/\R.E=LO F/\R.out=F.1.all/\R.kinds=F.1.kinds/\R.stops=F.1.stops/\R.aj=F.1.aj/\(F.2=8->R.rest=((b.length-F.1.x.length/8:Nat):Int))
def InR (w:World) (g:Nat) (b:ag) (m:Nat) (k:Nat) (wr:World):Prop:=
 ∃R s c',ig wr w.heap.size g c' R/\Below w.heap.size w wr/\nV R s/\s.Ok/\s.st=0/\IS.Steps (start (dT b) m) s/\Hid (k=s.mu)/\3*R.kinds.length<=R.at_/\R.stops.length<=R.kinds.length/\R.X=dT b
def InB (w:World) (g:Nat) (b:ag) (m:Nat) (c:IS) (V:Nat) (a:Value) (wx:World):Prop:=
 (a= .bool true/\∃R' c' t x',ig wx w.heap.size g c' R'/\Below w.heap.size w wx/\IS.Steps c t/\t.step=(({ t with x:=x' }:IS).over,0)/\nV R' { t with x:=x' }/\t.Ok/\t.last=decide (V%2=1)/\3*R'.kinds.length<=R'.at_/\R'.stops.length+1<=R'.kinds.length/\R'.X=dT b)\/
 (a= .bool false/\∃R' c' t v,ig wx w.heap.size g c' R'/\Below w.heap.size w wx/\c.fin=(t,v)/\v≠8/\L9 R' t v)
theorem InB.of {V:Nat} {b:ag} {m:Nat} {n k:IS} {a:RM} {c1:Nat->Nat} {w1 wx:World} {bo:Bool} (A:ig w1 w.heap.size g c1 a) (p:Below w.heap.size w w1) (o:IS.Steps n k) (hO:k.Ok) (r:k.last=decide (V%2=1)) (s:a.kinds=k.kinds) (y:3*a.kinds.length<=a.at_) (l:a.stops.length+1<=a.kinds.length) (u:a.X=dT b)
  (h:fV w1 c1 w.heap.size g a k (.returned (.bool bo)) wx):InB w g b m n V (.bool bo) wx:=by
 rcases h with ⟨R',t,x',e, ⟨c',f,i⟩,d,c,q,j⟩ | ⟨R',t,v,e, ⟨c',f,i⟩,hf,x,hE⟩
 · injection e with e;injection e with e;subst e;refine .inl ⟨rfl,R',c',t,x',f,p.trans i.1,o.trans d,c,q,hO.steps d, ?_, ?_, ?_,j.X.trans u⟩
   · rw[<-r];refine d.last.2 ?_;have z:R'.kinds=t.kinds:=q.kinds;rw[<-z,j.kinds,s]
   · rw[j.kinds];exact aq y j.le
   rw[j.kinds,j.stops];exact l
 injection e with e;injection e with e;subst e;exact .inr ⟨rfl,R',c',t,v,f,p.trans i.1,by rw[<-o.lM];exact hf,x,hE⟩
theorem wK.bad {m:Nat} {b:ag} {F:IS×Int} (hF:(start (dT b) m).fin=F) (d:IS.Steps (start (dT b) m) s) (h:s.fin=(t,v)) (a:v≠8) (i:ig w' w.heap.size g c R) (f:Below w.heap.size w w') (hE:L9 R t v):wK w F b (.returned (.pointer (some ⟨g,0,none⟩))) w':=by
 have e:F=(t,v):=by rw[<-hF,<-d.lM,h]
 subst e;exact⟨g,c,R,rfl,i,f,by unfold LO;rw[a8 a];exact hE.E,hE.out,hE.kinds,hE.stops,hE.aj,λe=>absurd e a⟩
theorem TN (b:ag):(dT b).length%8=0:=by rw[dQ];omega
def R0 (Ab:ax) (nb cb:Nat) (b:ag) (v:Int):RM:= ⟨none,0,0,[],0,0,none,0,0,[],none,0,0,[],Ab,nb,cb,dT b,0,v, .slice none 0 0, .slice none 0 0, .slice none 0 0, .slice none 0 0,none,0,0,[]⟩
theorem a9C {w1:World} {b0:Nat} {Ab:ax} {nb cb:Nat} {b:ag} (v:Int) (e:aT .u8 w1 b0 5 Ab nb cb (dT b)) (g:b0<=w1.heap.size):
  ∃c,ig (w1.alloc (.cells #[.slice none 0 0, .int .i64 0, .int .i64 0, .slice none 0 0, .slice none 0 0, .slice Ab nb cb, .int .i64 0, .int .i64 v, .slice none 0 0, .slice none 0 0, .slice none 0 0, .slice none 0 0, .slice none 0 0] 84)) b0 w1.heap.size c (R0 Ab nb cb b v):=by
 have d:∀k,ai Ab=some k->b0<=k/\k<w1.heap.size:=λk a=>e.2.lt a;refine⟨λk=>if k=w1.heap.size then 1 else if ai Ab=some k then 6 else 0,Ar.new w1 _ _ rfl (fS rfl rfl rfl rfl rfl rfl rfl rfl rfl rfl rfl rfl rfl),aa rfl,aT.di,λk a=>by simp [ai,R0]at a,aT.di,λk a=>by simp [ai,R0]at a,aT.di,λk a=>by simp [ai,R0]at a, ⟨rfl,Own.di⟩,λk a=>by simp [ai,R0]at a,e.alloc _,λk a=> ?_,λk a=> ?_⟩
 · have:=d k a;show(if _ then _ else _)=6;rw[a8 ω,aa (show ai Ab=some k from a)]
 rw[jy];split at a
 · omega
 split at a
 · rename_i h f
   have:=d k f;omega
 exact absurd rfl a
theorem a6x {a:World} {Ab:ax} {nb cb:Nat} {b:ag} {m:Nat} (f:ig a w.heap.size g c (R0 Ab nb cb b m)) (e:Below w.heap.size w a) (d:b.length<=10000000000) (h:m<=1000000000):InR w g b m (start (dT b) m).mu a:=
 ⟨R0 Ab nb cb b m,start (dT b) m,c,f,e, ⟨rfl,aG _,rfl,rfl,rfl,rfl,by show(m:Int)=(([]:ag).length+m:Nat);simp,rfl,dH.dT b,by show(dT b).length<=_;rw[dQ];omega,TN b,by show([]:ag).length+m<=_;simp;omega,aG _⟩, .start (dH.dT b) m,rfl, .refl _,rfl,aG _,af _,rfl⟩
theorem vV (w:World) (Bd:Nat) (A:ax) (n cp:Nat) (b:ag) (hr:bT .u8 w Bd A n b) (KM:Bd<=w.heap.size) (ea:∀x∈b,0<=x/\x<256) (bl:b.length<=10000000000) (most:Int) (m:Nat) (hm:(m:Int)=max most 0) (Hf:m<=1000000000) (F:IS×Int) (hF:(start (dT b) m).fin=F):
  Calls Tryz.prog 35 #[.slice A n cp, .int .i64 most] w (wK w F b):=by
 obtain⟨i0,hi,ce,cc,ca⟩ :=aL mH;have Hi:=η hi;have gL:=η ce;have fN:=η cc;have gM:=η ca;have HM:=η hm;have HF:=η hF;have pL:n=b.length:=hr.1;have xV:=TM w Bd n cp A b hr KM ea ω;have HB:=η xV;have eT:=η pL;have cv:(most<0/\m=0)\/(0<=most/\(m:Int)=most):=ω;clear hi ce cc ca hm hF xV pL hr;have Tm:=η cv;clear cv
 go_in
 go_wp2_with fail;refine HB.mono ?_;rintro e w1 ⟨Ab,nb,cb,rfl,tL,G⟩;have f:=G.size;obtain⟨c1,kW⟩ :=a9C most tL f;have bd:=G.alloc f (.cells #[.slice none 0 0, .int .i64 0, .int .i64 0, .slice none 0 0, .slice none 0 0, .slice Ab nb cb, .int .i64 0, .int .i64 most, .slice none 0 0, .slice none 0 0, .slice none 0 0, .slice none 0 0, .slice none 0 0] 84);obtain⟨z,Yk⟩ :=ν (w1.heap.size);rw[Yk]at kW;have ej:=η Yk
 have fy:Hid (∃k,((most<0->InR w z b m k ((w1.alloc (.cells #[.slice none 0 0, .int .i64 0, .int .i64 0, .slice none 0 0, .slice none 0 0, .slice Ab nb cb, .int .i64 0, .int .i64 most, .slice none 0 0, .slice none 0 0, .slice none 0 0, .slice none 0 0, .slice none 0 0] 84)).setCell ⟨z,7,none⟩ (.int .i64 0)))/\(0<=most->InR w z b m k (w1.alloc (.cells #[.slice none 0 0, .int .i64 0, .int .i64 0, .slice none 0 0, .slice none 0 0, .slice Ab nb cb, .int .i64 0, .int .i64 most, .slice none 0 0, .slice none 0 0, .slice none 0 0, .slice none 0 0, .slice none 0 0] 84))))):=by
  refine⟨(start (dT b) m).mu,λh=> ?_,λh=> ?_⟩
  · have He:m=0:=by rcases Tm.out with ⟨_,h1⟩ | ⟨h1,_⟩ <;> omega
    subst He;exact a6x (kW.put (i:=7) ω (.int .i64 0) (R0 Ab nb cb b 0) (fS rfl rfl rfl rfl rfl rfl rfl rfl rfl rfl rfl rfl rfl) rfl) (bd.setCell (p:= ⟨z,7,none⟩) (by show w.heap.size<=z;omega) _) bl Hf
  have He:(m:Int)=most:=by rcases Tm.out with ⟨h1,_⟩ | ⟨_,h1⟩ <;> omega
  rw[<-He];rw[<-He]at kW bd;exact a6x kW bd bl Hf
 obtain⟨k0,fy⟩ :=fy.out;have Tp:=η fy;have k7:=kW.cell.az 7;have z7:=kW.cell.aH 7;clear fy kW bd tL G f Yk
 go_upto_if 15 with fail
 rw[ej.out];go_cut [] (λwx=>InR w z b m k0 wx)
 case first=>
  by_cases R4:most<0
  · have HI:=η (Tp.1 R4);clear Tp
    go_wp2_with fail;go_meet;exact HI
  have dp:0<=most:=ω;have HI:=η (Tp.2 dp);clear Tp
  go_wp2_with fail;go_meet;exact HI
 clear k7 z7 Tp;have U:=η hcut;clear hcut
 go_wp2_with fail;go_loopg [] k0 (InR w z b m)
 case atStart=>exact U
 clear U;obtain⟨R,s,c',D,hb,r,hO,an,hs,K,AP,DV,hX⟩ :=hrel;have dq:=r.le;have cj:s.x.length=R.X.length-R.at_:=by rw[<-r.x,ay]
 have eu:R.X.length<=100000000000:=r.len;have y:Hid (s.step=s.block):=by show _=_;unfold IS.step;rw[aa an]
 unfold IS.block at y;by_cases am:s.x.length<3
 · have de:Hid (s.fin=(s,5)):=by
    have e:=y.trans (aa am);show _=_;rw[IS.gZ (by rw[e];simp),e]
   have ht:=η (nS D.refl 3 ω ω dq ω);clear am cj y an
   go_wp2_with fail;refine ht.mono ?_;rintro e w6 ⟨rfl,c6,Ci,Mf⟩
   go_wp2_with fail;go_ret;exact wK.bad HF.out hs de.out δ Ci (hb.trans Mf.1) ⟨r.out,r.kinds,r.stops,r.aj,rfl⟩
 have Z:=η (y.trans (a8 am));have VZ:=gF hO.bit 3;obtain⟨V,hV⟩ :=ν (num s.x 3);have ht:=η (jX D.refl 3 ω ω r.bit ω (V:Int) (by rw[r.x,hV]));rw[hV]at VZ Z;have ex:V<8:=by have:(2:Nat) ^ 3=8:=δ;omega
 obtain⟨L,bB⟩ :=ν (V/2);rw[bB]at Z;have ey:(V:Int)/2=(L:Int):=ω;have ew:(0:Int)<=V/\(V:Int)<8/\(0:Int)<=L/\(L:Int)<4:=ω;have Rk:Hid (R.X.drop (R.at_+3)=s.x.drop 3):=by show _=_;rw[<-r.x,bj]
 have oz:Hid (R.at_+3<=R.X.length):=by show _<=_;omega
 have eS:=η bB;clear am cj y VZ hV bB
 go_wp2_with fail;refine ht.mono ?_;rintro e w6 ⟨rfl,h6⟩;have dl:R.nk=R.kinds.length:=D.kinds.1;have dk:R.nk+1<=1000000000000:=ω;have N:=h6.apart.2.1;have cr:=h6.cell.lt;have et:=h6.lo;have k3:=h6.cell.az 3;rw[show sF { R with at_:=R.at_+3 } 3= .slice R.Ak R.nk R.ck from rfl]at k3;have je:=h6.kinds.alloc (.cells #[.int .i64 (L:Int)] 3);clear dl;go_upto_region 8 with fail
 go_cut [] (λwx=>∃J d4,bU wr c' wx w.heap.size z { R with at_:=R.at_+3,Ak:=J,nk:=R.nk+1,ck:=d4,kinds:=R.kinds++[(L:Int)] })
 case first=>
  go_wp2_with (at_builtin;(refine bm .i64 w.heap.size 3 i0 8 rfl (.tmp 33) (.tmp 35) _ rfl Tryz.underlying80 Hi.out gL.out fN.out gM.out rfl je rfl (bT.lit .i64 w6 [(L:Int)] 3) dk ω ξ ?_)
               intro J d4 w4 bM T dY;have iI:=(h6.cell.alloc (.cells #[.int .i64 (L:Int)] 3)).grown T (λe=>N e.symm);have x3:=iI.az 3;have z3:=iI.aH 3)
  go_meet
  have ao:ai J≠some z:=by
   rcases dY with e | e
   · rw[e];exact N
   rw[e];intro S;injection S with S;simp at S;omega
  have h7:=h6.N4 (A':=J) (n':=R.nk+1) (c':=d4) (l':=R.kinds++[(L:Int)]) ((((bb.refl w6 _).alloc _).grown T (λq hq=> .inl (.inr hq))).setCell (p:= ⟨z,3,none⟩) (.inl (.inl rfl)) (.slice J (R.nk+1) d4)) ((iI.cE 3 _).congr (fS rfl rfl rfl rfl rfl rfl rfl rfl rfl rfl rfl rfl rfl)) (bM.far (p:= ⟨z,3,none⟩) ao _) (λk K=>by
   rcases dY with e | e
   · left;rw[<-e];exact K
   rw[e]at K;injection K with K;right;first | (simp at K;omega) | omega)
  exact⟨J,d4,h7⟩
 obtain⟨J,d4,c4,Q,be⟩ :=hcut;have M:=hb.trans be.1;clear h6 k3 je N;have cw:∀(j:IS),j.x=s.x.drop 3->j.all=s.all->j.rem=s.rem->j.kinds=s.kinds++[(L:Int)]->j.stops=s.stops->j.aj=s.aj->nV { R with at_:=R.at_+3,Ak:=J,nk:=R.nk+1,ck:=d4,kinds:=R.kinds++[(L:Int)] } j:=λj a1 a2 a3 a4 a5 a6=> ⟨by rw[a1];exact Rk,oz.out,by rw[a2];exact r.out,by rw[a4];show R.kinds++_=_;rw[r.kinds],by rw[a5];exact r.stops,by rw[a6];exact r.aj,by rw[a2,a3];exact r.most,r.E,r.bit,r.len,r.even,by rw[a2,a3];exact r.small,aq r.tk (by show R.at_<=R.at_+3;omega)⟩;have aE:3*(R.kinds++[(L:Int)]).length<=R.at_+3:=by rw[ae];simp;omega
 have lj:R.stops.length+1<=(R.kinds++[(L:Int)]).length:=by rw[ae];simp;omega
 have PM:=η cw;have eg:=η an;clear cw an;go_upto_block 2 with fail
 go_cut [7] (λs7 wx=>InB w z b m s V s7 wx)
 case first=>
  obtain IK | ee | ec | eb:L=0\/L=1\/L=2\/L=3:=ω
  · subst IK;have f:=Z.trans (aa rfl);have o:IS.Steps s s.step.1:= .tail (.refl _) (by rw[f]);rw[f]at o;have W:=hO.steps o;have mf:=JV Q.refl W rfl (by show ly (R.X.drop (R.at_+3))=ly (s.x.drop 3);rw[Rk.out]) (PM _ Rk.out rfl rfl rfl rfl rfl);have HC:=η mf;have I:=η (λ(bo:Bool) wx h=>InB.of (b:=b) (m:=m) (V:=V) (bo:=bo) (wx:=wx) Q M o W rfl (by show R.kinds++_=s.kinds++_;rw[r.kinds]) aE lj hX h);clear mf f o W Z
    go_wp2_with fail;refine HC.mono ?_;rintro e w7 h
    obtain⟨bo,rfl⟩ :∃bo,e= .returned (.bool bo):=by
     rcases h with ⟨_,_,_,P,_⟩ | ⟨_,_,_,P,_⟩
     · exact⟨_,P⟩
     exact⟨_,P⟩
    have HQ:=η (I bo _ h);clear h I HC
    go_wp2_with fail;go_meet;exact HQ
  · subst ee
    obtain⟨j,f,u,ac,ab,yY,uR,VW,al,Vo,Vc,AQ⟩ :∃j:IS,s.step=(j,0)/\j.x=s.x.drop 3/\j.all=s.all/\j.rem=s.rem/\j.kinds=s.kinds++[((1:Nat):Int)]/\j.stops=s.stops/\j.aj=s.aj/\j.st=6/\j.lt=ij/\j.ds=iV/\j.last=decide (V%2=1):=
     ⟨_,Z.trans ((a8 δ).trans (aa rfl)),rfl,rfl,rfl,rfl,rfl,rfl,rfl,rfl,rfl,rfl⟩
    have o:IS.Steps s s.step.1:= .tail (.refl _) (by rw[f]);rw[f]at o;have W:=hO.steps o;have c:=PM.out j u ac ab yY uR VW;have bt:∀q,c4 q≠0->w.heap.size<=q/\q<wc.heap.size:=λq hq=>Q.cb q hq;have um:=(bt z (by rw[Q.cg];decide)).1;have ef:=η (Nu Q);have bi:=η o;have da:=η W;have Tr:=η c;have HH:=η (⟨Vo,Vc,al,yY,AQ⟩ :j.lt=ij/\j.ds=iV/\j.st=6/\j.kinds=s.kinds++[((1:Nat):Int)]/\j.last=decide (V%2=1));have en:=η bt;clear f o W Z c u ac ab yY uR VW al Vo Vc AQ bt PM Q be
    go_wp2_with fail;refine ef.mono ?_;rintro e w7 ⟨A1,d1,A2,d2,rfl,B,cy,tL,ib⟩;have oA:Below w.heap.size w w7:=M.trans (cy.below (λk K=>by rw[K];exact um) M.size)
    have hu:∀{A:ax} {n d:Nat} {l:ag},aT .i64 w7 wc.heap.size 3 A n d l->0<n->∀ad,A=some ad->c4 ad.block=0:=by
     intro A n d l ho h0 ad e;have:=(ho.2.lt (g:=ad.block) (by rw[e];rfl)).1;by_cases S:c4 ad.block=0
     · exact S
     have:=(en _ S).2;omega
    obtain⟨Vo,Vc,al,yY,AQ⟩ :=HH.out;have c:=Tr.out;have O:nV { R with at_:=R.at_+3,Ak:=J,nk:=R.nk+1,ck:=d4,kinds:=R.kinds++[((1:Nat):Int)],Al:= .slice A1 288 d1,Ad:= .slice A2 32 d2 } j:= ⟨c.x,c.le,c.out,c.kinds,c.stops,c.aj,c.most,c.E,c.bit,c.len,c.even,c.small,c.tk⟩;have HT:=η (yb B O da.out al A1 A2 288 d1 32 d2 rfl rfl (by rw[Vo];exact tL.rd) (by rw[Vc];exact ib.rd) (hu tL) (hu ib));have I:=η (λ(bo:Bool) wx h=>InB.of (b:=b) (m:=m) (V:=V) (bo:=bo) (wx:=wx) B oA bi.out da.out AQ (by show R.kinds++_=j.kinds;rw[yY,r.kinds]) aE lj hX h);clear O c Vo Vc al yY AQ hu B cy tL ib
    go_wp2_with fail;refine HT.mono ?_;rintro e w8 h
    obtain⟨bo,rfl⟩ :∃bo,e= .returned (.bool bo):=by
     rcases h with ⟨_,_,_,P,_⟩ | ⟨_,_,_,P,_⟩
     · exact⟨_,P⟩
     exact⟨_,P⟩
    have HQ:=η (I bo _ h);clear h I HT
    go_wp2_with fail;go_meet;exact HQ
  · subst ec
    obtain⟨j,f,u,ac,ab,yY,uR,VW,cH,AQ⟩ :∃j:IS,s.step=(j,0)/\j.x=s.x.drop 3/\j.all=s.all/\j.rem=s.rem/\j.kinds=s.kinds++[((2:Nat):Int)]/\j.stops=s.stops/\j.aj=s.aj/\j.st=3/\j.last=decide (V%2=1):=
     ⟨_,Z.trans ((a8 δ).trans ((a8 δ).trans (aa rfl))),rfl,rfl,rfl,rfl,rfl,rfl,rfl,rfl⟩
    have o:IS.Steps s s.step.1:= .tail (.refl _) (by rw[f]);rw[f]at o;have W:=hO.steps o;have c:=PM.out j u ac ab yY uR VW;have bI:=η (Gh Q c W cH);have bi:=η o;have HH:=η (⟨yY.trans (by rw[<-r.kinds]),AQ⟩ :j.kinds=R.kinds++[((2:Nat):Int)]/\j.last=decide (V%2=1));clear f o W Z c u ac ab yY uR VW cH AQ PM Q be
    go_wp2_with fail;refine bI.mono ?_;rintro e w7 h;rcases h with ⟨R7,t7,c7,Al,nl,cl,Ad,nd,cd,rfl,B,H,bv,cD,bx,O,SN,cz,cq,ct,mK,pZ,ah⟩ | ⟨R7,t7,v7,rfl, ⟨c7,B,H⟩,MA,Y,UF⟩
    · have oA:=M.trans H.1;have ap:R7.kinds=R.kinds++[((2:Nat):Int)]:=ah.kinds
      have cm:t7.last=decide (V%2=1):=by
       rw[<-HH.2];refine bv.last.2 ?_;rw[<-O.kinds,ap,HH.1]
      have HT:=η (yb B O bx cD Al Ad nl cl nd cd SN cz cq ct mK pZ);have I:=η (λ(bo:Bool) wx h=>InB.of (b:=b) (m:=m) (V:=V) (bo:=bo) (wx:=wx) B oA (bi.trans bv) bx cm O.kinds (by rw[ap];exact aq aE ah.le) (by rw[ap,ah.stops];exact lj) (ah.X.trans hX) h);clear B H bv cD bx O SN cz cq ct mK pZ ah oA ap cm bI
      go_wp2_with fail;refine HT.mono ?_;rintro e w8 h
      obtain⟨bo,rfl⟩ :∃bo,e= .returned (.bool bo):=by
       rcases h with ⟨_,_,_,P,_⟩ | ⟨_,_,_,P,_⟩
       · exact⟨_,P⟩
       exact⟨_,P⟩
      have HQ:=η (I bo _ h);clear h I HT
      go_wp2_with fail;go_meet;exact HQ
    have HQ:Hid (InB w z b m s V (.bool false) w7):= .inr ⟨rfl,R7,c7,t7,v7,B,M.trans H.1,by rw[<-bi.lM];exact MA,Y,UF⟩;clear B H MA Y UF bI
    go_wp2_with fail;go_meet;exact HQ
  subst eb;have f:=Z.out;rw[a8 δ,a8 δ,a8 δ]at f;have SU:=η ((IS.gZ (s:=s) (by rw[f];show(2:Int)≠0;decide)).trans f);have k1:=Q.cell.az 1;have z1:=Q.cell.aH 1;clear f Z
  go_wp2_with fail;go_meet;exact .inr ⟨rfl,{ R with at_:=R.at_+3,Ak:=J,nk:=R.nk+1,ck:=d4,kinds:=R.kinds++[((3:Nat):Int)],E:=2 },c4,_,2,Q.put (i:=1) ω (.int .i64 2) { R with at_:=R.at_+3,Ak:=J,nk:=R.nk+1,ck:=d4,kinds:=R.kinds++[((3:Nat):Int)],E:=2 } (fS rfl rfl rfl rfl rfl rfl rfl rfl rfl rfl rfl rfl rfl) rfl,M.setCell (p:= ⟨z,1,none⟩) (Q.cb z (by rw[Q.cg];decide)).1 _,SU.out,δ, ⟨r.out,by show R.kinds++_=s.kinds++_;rw[r.kinds],r.stops,r.aj,rfl⟩⟩
 clear eg Z PM Q be r D hX aE lj M Rk oz AP DV;have HS:=η hs;have U:=η hcut;clear hs hcut;rcases U.out with ⟨rfl,a,c1,t,x',D,G,f,ur,c,W,AQ,Vj,VN,Yh⟩ | ⟨rfl,a,c1,t,v,D,G,hf,Y,hE⟩;rotate_left
 · have HQ:=η (wK.bad HF.out HS.out hf Y D G hE);clear U hf Y D G hE
   go_wp2_with fail;go_ret;exact HQ
 have dj:a.ns=a.stops.length:=D.stops.1;have AV:=c.le;have dz:=c.even;have Vp:a.X.length=8*b.length:=by rw[Yh,dQ]
 have df:a.ns+1<=1000000000000:=by have:=c.len;omega
 have ci:a.no=t.all.length:=D.out.1.trans (bf List.length c.out);have N:=D.refl.apart.2.2.1;have cr:=D.cell.lt;have mg:=D.lo;have k0:=D.cell.az 0;have k4:=D.cell.az 4;rw[show sF a 4= .slice a.As a.ns a.cs from rfl]at k4;rw[show sF a 0= .slice a.Ao a.no a.co from rfl]at k0;have je:=(D.stops.alloc (.cells #[.int .i64 (a.no:Nat)] 3)).drew;have cW:=(bT.lit .i64 wc [((a.no:Nat):Int)] 3).drewN 1;have Ho:=η ci;clear dj ci U
 go_wp2_with fail;obtain⟨C,Yr⟩ :∃C,({ t with x:=x' }:IS).over=C:= ⟨_,rfl⟩;rw[Yr]at ur;have bp:IS.Steps s t.step.1:=f.tail (by rw[ur]);have bs:t.step.1.mu<t.mu:=IS.jr (by rw[ur]);rw[ur]at bp bs
 have eh:Hid (C.mu<gk):=by
  have h1:=f.a6F;have h2:=K.out;have h3:C.mu<t.mu:=bs;show _<_;omega
 have cx:=W.steps (IS.Steps.one (s:=t) (by rw[ur]));rw[ur]at cx;have cX:=η (HS.trans bp);have du:a.kinds=t.kinds:=c.kinds;have u:a.X.drop a.at_=x':=c.x;have DT:({ t with x:=x' }:IS).last=decide (V%2=1):=AQ
 have cC:C.all=t.all/\C.kinds=t.kinds/\C.stops=t.stops++[(t.all.length:Int)]/\C.aj=t.aj/\C.rem=t.rem:=by
  rw[<-Yr];unfold IS.over;split <;> exact⟨rfl,rfl,rfl,rfl,rfl⟩
 have cB:V%2=1->C.x=ly x'/\C.st=8:=λe=>by
  rw[<-Yr];unfold IS.over;rw[aa (by rw[DT];simpa using e)];exact⟨rfl,rfl⟩
 have cA:¬V%2=1->C.x=x'/\C.st=0:=λe=>by
  rw[<-Yr];unfold IS.over;rw[a8 (by rw[DT];simpa using e)];exact⟨rfl,rfl⟩
 have db:=η cC;have es:=η cB;have er:=η cA;have Tr:=η c;have cL:=η (⟨Yh,Vj,VN,Vp,u⟩ :a.X=dT b/\3*a.kinds.length<=a.at_/\a.stops.length+1<=a.kinds.length/\a.X.length=8*b.length/\a.X.drop a.at_=x');have ev:(0:Int)<=(a.at_:Int)/\(a.at_:Int)<=100000000000:=by have:=c.len;omega
 have hq:((a.at_:Int)+7)/8=(((a.at_+7)/8:Nat):Int):=ω;have Y4:=η hq;clear Yr ur bp bs W f du u DT AQ cC cB cA c Yh Vj VN Vp AV dz hq K
 go_region_law
  ((refine eK .i64 w.heap.size 3 i0 8 rfl (.tmp 68) (.tmp 74) _ rfl Tryz.underlying80 Hi.out gL.out fN.out gM.out rfl je rfl cW df ω (by first | (simp;omega) | simp) ?_)
   intro J d4 w4 bM T dY;have iI:=(D.cell.alloc (.cells #[.int .i64 (a.no:Nat)] 3)).drew.grown T (λe=>N e.symm);have x4:=iI.az 4;have z4:=iI.aH 4)
 all_goals
  have ao:ai J≠some z:=by
   rcases dY with e | e
   · rw[e];exact N
   rw[e];intro S;injection S with S;simp at S;omega
  have h7:=D.refl.N7 (A':=J) (n':=a.ns+1) (c':=d4) (l':=a.stops++[((a.no:Nat):Int)]) (((((bb.refl wc _).alloc _).drew).grown T (λq hq=> .inl (.inr hq))).setCell (p:= ⟨z,4,none⟩) (.inl (.inl rfl)) (.slice J (a.ns+1) d4)) ((iI.cE 4 _).congr (fS rfl rfl rfl rfl rfl rfl rfl rfl rfl rfl rfl rfl rfl)) (bM.far (p:= ⟨z,4,none⟩) ao _) (λk K=>by
   rcases dY with e | e
   · exact .inl (e▸K)
   rw[e]at K;injection K with K;simp at K;exact .inr (by show wc.heap.size<=k;omega))
  obtain⟨c7,B,H⟩ :=h7;have oA:=G.trans H.1;clear D H ao bM T dY iI x4 z4 je cW N cr k0 k4;obtain⟨w7,ch⟩ :=ν (w4.setCell ⟨z,4,none⟩ (.slice J (a.ns+1) d4));rw[ch]at B oA⊢;clear ch;by_cases ll:V%2=1
  rotate_left
  · have dd:((V:Int)%2==1)=false:=ξ;have HH:=η (⟨B,oA⟩ :_/\_);have bG:=η ll;clear B oA ll
    go_wp2_with fail;go_roundg C.mu
    case measure=>exact eh
    obtain⟨Y,rE⟩ :=HH.out;obtain⟨P,S⟩ :=er.out bG.out;obtain⟨g1,g2,g3,g4,g5⟩ :=db.out;have c:=Tr.out;obtain⟨Yh,Vj,VN,Vp,u⟩ :=cL.out;refine⟨_,C,c7,Y,rE, ⟨u.trans P.symm,c.le,c.out.trans g1.symm,c.kinds.trans g2.symm, ?_,c.aj.trans g4.symm, ?_,c.E,c.bit,c.len,c.even, ?_,c.tk⟩,cx,S,cX.out,rfl,Vj, ?_,Yh⟩
    · show a.stops++[((a.no:Nat):Int)]=C.stops;rw[g3,Ho.out];congr 1;exact c.stops
    · rw[g1,g5];exact c.most
    · rw[g1,g5];exact c.small
    show(a.stops++[((a.no:Nat):Int)]).length<=a.kinds.length;rw[ae];exact VN
  have k6:=B.cell.az 6;have z2:=B.cell.aH 2;have k2:=B.cell.az 2;rw[show∀R:RM,sF R 6= .int .i64 (R.at_:Nat) from λ_=>rfl]at k6;have dd:(V:Int)%2=1:=ω;have Y:=B.put (i:=2) ω (.int .i64 (((a.at_:Int)+7)/8)) { a with As:=J,ns:=a.ns+1,cs:=d4,stops:=a.stops++[((a.no:Nat):Int)],rest:=(((a.at_:Int)+7)/8) } (fS rfl rfl rfl rfl rfl rfl rfl rfl rfl rfl rfl rfl rfl) rfl;have rE:=oA.setCell (p:= ⟨z,2,none⟩) (B.cb z (by rw[B.cg];decide)).1 (.int .i64 (((a.at_:Int)+7)/8));have HH:=η (⟨Y,rE⟩ :_/\_);have bG:=η ll;clear Y rE B oA ll
  go_wp2_with fail;go_ret;obtain⟨Y,rE⟩ :=HH.out;obtain⟨P,S⟩ :=es.out bG.out;obtain⟨g1,g2,g3,g4,g5⟩ :=db.out;have hf:F=(C,8):=by rw[<-HF.out,<-cX.lM,IS.Qw S]
  have c:=Tr.out;obtain⟨Yh,Vj,VN,Vp,u⟩ :=cL.out;subst hf;refine⟨z,c7,_,rfl,Y,rE,c.E.trans (by unfold LO;rw[aa rfl]), ?_, ?_, ?_, ?_,λ_=> ?_⟩
  · exact c.out.trans g1.symm
  · exact c.kinds.trans g2.symm
  · show a.stops++[((a.no:Nat):Int)]=C.stops;rw[g3,Ho.out];congr 1;exact c.stops
  · exact c.aj.trans g4.symm
  show(((a.at_:Int)+7)/8)=((b.length-C.x.length/8:Nat):Int);have hl:x'.length=a.X.length-a.at_:=by rw[<-u,ay]
  rw[P,mP,hl,Vp];have:=c.le;omega
end
end Go.Proofs.YtgiimmkmjpbecaaGreat
