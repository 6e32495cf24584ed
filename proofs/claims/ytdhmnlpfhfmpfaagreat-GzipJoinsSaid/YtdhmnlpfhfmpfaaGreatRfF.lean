/-
  part
-/
import Derived.Test.YtdhmnlpfhfmpfaaGreatRfE
import Derived.Test.YtdhmnlpfhfmpfaaGreatStep
import Derived.Deep.CutBlock
import Derived.Deep.DeepMust
namespace Go.Proofs.YtdhmnlpfhfmpfaaGreat
open Go.RowKit
set_option linter.unusedVariables false
set_option maxRecDepth 100000
set_option maxHeartbeats 8000000
section
variable {w w' w0 w2:World} {b0 g:Nat} {c c0:Nat->Nat} {R R':RM} {s t t':IS} {v:Int}
theorem IS.Mu (s:IS):(s.step.1.kinds=s.kinds/\s.step.1.last=s.last)\/s.step.1.kinds.length=s.kinds.length+1:=by
 have a:∀s:IS,s.over.kinds=s.kinds/\s.over.last=s.last:=λs=>by unfold IS.over;split <;> exact⟨rfl,rfl⟩
 have c:∀(s:IS) b,(s.emit b).1.kinds=s.kinds/\(s.emit b).1.last=s.last:=λs b=> ⟨rfl,rfl⟩;unfold IS.step;split
 · unfold IS.block;split
   · exact .inl ⟨rfl,rfl⟩
   split
   · exact .inr σ
   split
   · exact .inr σ
   split
   · exact .inr σ
   exact .inr σ
 split
 · unfold IS.size;split
   · exact .inl ⟨rfl,rfl⟩
   split <;> exact .inl ⟨rfl,rfl⟩
 split
 · unfold IS.stored;split
   · exact .inl (a s)
   split
   · exact .inl ⟨rfl,rfl⟩
   exact .inl ⟨rfl,rfl⟩
 split
 · unfold IS.sizes;split
   · exact .inl ⟨rfl,rfl⟩
   split <;> exact .inl ⟨rfl,rfl⟩
 split
 · unfold IS.heads;split
   · split <;> exact .inl ⟨rfl,rfl⟩
   split <;> exact .inl ⟨rfl,rfl⟩
 split
 · unfold IS.lengths IS.length IS.ku
   repeat' split
   all_goals exact .inl ⟨rfl,rfl⟩
 split
 · unfold IS.token;split
   · exact .inl ⟨rfl,rfl⟩
   split
   · exact .inl ⟨rfl,rfl⟩
   split
   · exact .inl (a _)
   repeat' split
   all_goals exact .inl ⟨rfl,rfl⟩
 split
 · unfold IS.bk IS.text
   repeat' split
   all_goals exact .inl ⟨rfl,rfl⟩
 exact .inl ⟨rfl,rfl⟩
theorem IS.Steps.last (h:IS.Steps s t):s.kinds.length<=t.kinds.length/\(t.kinds.length=s.kinds.length->t.last=s.last):=by
 induction h with
 | refl=>exact⟨ag _,λ_=>rfl⟩
 | @tail t h1 h2 ih=>
   rcases IS.Mu t with ⟨a,b⟩ | a
   · rw[a,b];exact ih
   rw[a];exact⟨ω,λe=>ω⟩
theorem IS.Pp (h:s.st=8):s.fin=(s,8):=by
 have e:s.step=(s,8):=by unfold IS.step;rw[h];rfl
 rw[IS.ir (by rw[e];simp),e]
def zz (w:World) (F:IS×Int) (b:List Int) (e:Ending) (w':World):Prop:=
 ∃g c R,e= .returned (.pointer (some ⟨g,0,none⟩))/\ie w' w.heap.size g c R/\Below w.heap.size w w'/\R.E=Tf F/\R.out=F.1.all/\R.kinds=F.1.kinds/\R.stops=F.1.stops/\R.aj=F.1.aj/\(F.2=8->R.rest=((b.length-F.1.x.length/8:Nat):Int))
def InR (w:World) (g:Nat) (b:List Int) (m:Nat) (k:Nat) (wr:World):Prop:=
 ∃R s c',ie wr w.heap.size g c' R/\Below w.heap.size w wr/\nX R s/\s.Ok/\s.st=0/\IS.Steps (start (gG b) m) s/\Hid (k=s.mu)/\3*R.kinds.length<=R.at_/\R.stops.length<=R.kinds.length/\R.X=gG b
def InB (w:World) (g:Nat) (b:List Int) (m:Nat) (c:IS) (V:Nat) (a:Value) (wx:World):Prop:=
 (a= .bool true/\∃R' c' t x',ie wx w.heap.size g c' R'/\Below w.heap.size w wx/\IS.Steps c t/\t.step=(({ t with x:=x' }:IS).over,0)/\nX R' { t with x:=x' }/\t.Ok/\t.last=decide (V%2=1)/\3*R'.kinds.length<=R'.at_/\R'.stops.length+1<=R'.kinds.length/\R'.X=gG b)\/
 (a= .bool false/\∃R' c' t v,ie wx w.heap.size g c' R'/\Below w.heap.size w wx/\c.fin=(t,v)/\v≠8/\Kj R' t v)
theorem InB.of {V:Nat} {b:List Int} {m:Nat} {l s1:IS} {a:RM} {c1:Nat->Nat} {w1 wx:World} {bo:Bool} (z:ie w1 w.heap.size g c1 a) (o:Below w.heap.size w w1) (n:IS.Steps l s1) (hO:s1.Ok) (q:s1.last=decide (V%2=1)) (r:a.kinds=s1.kinds) (x:3*a.kinds.length<=a.at_) (k:a.stops.length+1<=a.kinds.length) (s:a.X=gG b)
  (h:fP w1 c1 w.heap.size g a s1 (.returned (.bool bo)) wx):InB w g b m l V (.bool bo) wx:=by
 rcases h with ⟨R',t,x',e, ⟨c',f,i⟩,d,c,p,j⟩ | ⟨R',t,v,e, ⟨c',f,i⟩,hf,u,hE⟩
 · injection e with e;injection e with e;subst e;refine .inl ⟨rfl,R',c',t,x',f,o.trans i.1,n.trans d,c,p,hO.steps d, ?_, ?_, ?_,j.X.trans s⟩
   · rw[<-q];refine d.last.2 ?_;have y:R'.kinds=t.kinds:=p.kinds;rw[<-y,j.kinds,r]
   · rw[j.kinds];exact au x j.le
   rw[j.kinds,j.stops];exact k
 injection e with e;injection e with e;subst e;exact .inr ⟨rfl,R',c',t,v,f,o.trans i.1,by rw[<-n.mr];exact hf,u,hE⟩
theorem zz.bad {m:Nat} {b:List Int} {F:IS×Int} (hF:(start (gG b) m).fin=F) (d:IS.Steps (start (gG b) m) s) (h:s.fin=(t,v)) (a:v≠8) (i:ie w' w.heap.size g c R) (f:Below w.heap.size w w') (hE:Kj R t v):zz w F b (.returned (.pointer (some ⟨g,0,none⟩))) w':=by
 have e:F=(t,v):=by rw[<-hF,<-d.mr,h]
 subst e;exact⟨g,c,R,rfl,i,f,by unfold Tf;rw[aa a];exact hE.E,hE.out,hE.kinds,hE.stops,hE.aj,λe=>absurd e a⟩
theorem SH (b:List Int):(gG b).length%8=0:=by rw[eT];omega
def R0 (Ab:Option Addr) (nb cb:Nat) (b:List Int) (v:Int):RM:= ⟨none,0,0,[],0,0,none,0,0,[],none,0,0,[],Ab,nb,cb,gG b,0,v, .slice none 0 0, .slice none 0 0, .slice none 0 0, .slice none 0 0,none,0,0,[]⟩
theorem b0K {w1:World} {b0:Nat} {Ab:Option Addr} {nb cb:Nat} {b:List Int} (v:Int) (e:aW .u8 w1 b0 5 Ab nb cb (gG b)) (g:b0<=w1.heap.size):
  ∃c,ie (w1.alloc (.cells #[.slice none 0 0, .int .i64 0, .int .i64 0, .slice none 0 0, .slice none 0 0, .slice Ab nb cb, .int .i64 0, .int .i64 v, .slice none 0 0, .slice none 0 0, .slice none 0 0, .slice none 0 0, .slice none 0 0] 67)) b0 w1.heap.size c (R0 Ab nb cb b v):=by
 have d:∀k,ai Ab=some k->b0<=k/\k<w1.heap.size:=λk a=>e.2.lt a;refine⟨λk=>if k=w1.heap.size then 1 else if ai Ab=some k then 6 else 0,Ar.new w1 _ _ rfl (fM rfl rfl rfl rfl rfl rfl rfl rfl rfl rfl rfl rfl rfl),ae rfl,aW.dK,λk a=>by simp [ai,R0]at a,aW.dK,λk a=>by simp [ai,R0]at a,aW.dK,λk a=>by simp [ai,R0]at a, ⟨rfl,Own.dK⟩,λk a=>by simp [ai,R0]at a,e.alloc _,λk a=> ?_,λk a=> ?_⟩
 · have:=d k a;show(if _ then _ else _)=6;rw[aa ω,ae (show ai Ab=some k from a)]
 rw[jw];split at a
 · omega
 split at a
 · rename_i h f
   have:=d k f;omega
 exact absurd rfl a
theorem a7A {a:World} {Ab:Option Addr} {nb cb:Nat} {b:List Int} {m:Nat} (f:ie a w.heap.size g c (R0 Ab nb cb b m)) (e:Below w.heap.size w a) (d:b.length<=10000000000) (h:m<=1000000000):InR w g b m (start (gG b) m).mu a:=
 ⟨R0 Ab nb cb b m,start (gG b) m,c,f,e, ⟨rfl,aF _,rfl,rfl,rfl,rfl,by show(m:Int)=(([]:List Int).length+m:Nat);simp,rfl,dJ.gG b,by show(gG b).length<=_;rw[eT];omega,SH b,by show([]:List Int).length+m<=_;simp;omega,aF _⟩, .start (dJ.gG b) m,rfl, .refl _,rfl,aF _,ag _,rfl⟩
theorem FR (w:World) (Bd:Nat) (A:Option Addr) (n cp:Nat) (b:List Int) (hr:bU .u8 w Bd A n b) (JR:Bd<=w.heap.size) (eb:∀x∈b,0<=x/\x<256) (bl:b.length<=10000000000) (most:Int) (m:Nat) (hm:(m:Int)=max most 0) (Lx:m<=1000000000) (F:IS×Int) (hF:(start (gG b) m).fin=F):
  Calls Tryz.prog 31 #[.slice A n cp, .int .i64 most] w (zz w F b):=by
 obtain⟨i0,hi,ce,cc,ca⟩ :=aJ mI;have Hi:=η hi;have gV:=η ce;have fY:=η cc;have gW:=η ca;have HM:=η hm;have HF:=η hF;have rI:n=b.length:=hr.1;have xW:=SG w Bd n cp A b hr JR eb ω;have HB:=η xW;have fd:=η rI;have ct:(most<0/\m=0)\/(0<=most/\(m:Int)=most):=ω;clear hi ce cc ca hm hF xW rI hr;have Sd:=η ct;clear ct;go_enter Tryz.func31,Tryz.ntmps31
 go_wp2_with fail;refine HB.out.mono ?_;rintro e w1 ⟨Ab,nb,cb,rfl,rR,D⟩;have f:=D.size;obtain⟨c1,ky⟩ :=b0K most rR f;have aE:=D.alloc f (.cells #[.slice none 0 0, .int .i64 0, .int .i64 0, .slice none 0 0, .slice none 0 0, .slice Ab nb cb, .int .i64 0, .int .i64 most, .slice none 0 0, .slice none 0 0, .slice none 0 0, .slice none 0 0, .slice none 0 0] 67);obtain⟨y,Xt⟩ :=ν (w1.heap.size);rw[Xt]at ky;have er:=η Xt
 have fA:Hid (∃k,((most<0->InR w y b m k ((w1.alloc (.cells #[.slice none 0 0, .int .i64 0, .int .i64 0, .slice none 0 0, .slice none 0 0, .slice Ab nb cb, .int .i64 0, .int .i64 most, .slice none 0 0, .slice none 0 0, .slice none 0 0, .slice none 0 0, .slice none 0 0] 67)).setCell ⟨y,7,none⟩ (.int .i64 0)))/\(0<=most->InR w y b m k (w1.alloc (.cells #[.slice none 0 0, .int .i64 0, .int .i64 0, .slice none 0 0, .slice none 0 0, .slice Ab nb cb, .int .i64 0, .int .i64 most, .slice none 0 0, .slice none 0 0, .slice none 0 0, .slice none 0 0, .slice none 0 0] 67))))):=by
  refine⟨(start (gG b) m).mu,λh=> ?_,λh=> ?_⟩
  · have AO:m=0:=by rcases Sd.out with ⟨_,h1⟩ | ⟨h1,_⟩ <;> omega
    subst AO;exact a7A (ky.put (i:=7) ω (.int .i64 0) (R0 Ab nb cb b 0) (fM rfl rfl rfl rfl rfl rfl rfl rfl rfl rfl rfl rfl rfl) rfl) (aE.setCell (p:= ⟨y,7,none⟩) (by show w.heap.size<=y;omega) _) bl Lx
  have AO:(m:Int)=most:=by rcases Sd.out with ⟨h1,_⟩ | ⟨_,h1⟩ <;> omega
  rw[<-AO];rw[<-AO]at ky aE;exact a7A ky aE bl Lx
 obtain⟨k0,fA⟩ :=fA.out;have Sh:=η fA;have k7:=ky.cell.cell (i:=7) ω;have z7:=ky.cell.frozen' (i:=7) ω;clear fA ky aE rR D f Xt
 go_upto_if 15 with fail
 rw[er.out];go_cut [] (λwx=>InR w y b m k0 wx)
 case first=>
  by_cases PY:most<0
  · have HI:=η (Sh.out.1 PY);clear Sh
    go_wp2_with fail;go_meet;exact HI.out
  have du:0<=most:=ω;have HI:=η (Sh.out.2 du);clear Sh
  go_wp2_with fail;go_meet;exact HI.out
 clear k7 z7 Sh;have S:=η hcut;clear hcut
 go_wp2_with fail;go_loopg [] k0 (InR w y b m)
 case atStart=>exact S.out
 clear S;obtain⟨R,s,c',C,hb,o,hO,am,hs,I,yG,Dr,hX⟩ :=hrel;have dy:=o.le;have ci:s.x.length=R.X.length-R.at_:=by rw[<-o.x,av]
 have ew:R.X.length<=100000000000:=o.len;have u:Hid (s.step=s.block):=by show _=_;unfold IS.step;rw[ae am]
 unfold IS.block at u;by_cases al:s.x.length<3
 · have dj:Hid (s.fin=(s,5)):=by
    have e:=u.out.trans (ae al);show _=_;rw[IS.ir (by rw[e];simp),e]
   have ht:=η (nV C.refl 3 ω ω dy ω);clear al ci u am
   go_wp2_with fail;refine ht.out.mono ?_;rintro e w6 ⟨rfl,c6,Ry,L8⟩
   go_wp2_with fail;go_ret;exact zz.bad HF.out hs dj.out δ Ry (hb.trans L8.1) ⟨o.out,o.kinds,o.stops,o.aj,rfl⟩
 have W:=η (u.out.trans (aa al));have Vg:=gD hO.bit 3;obtain⟨V,hV⟩ :=ν (num s.x 3);have ht:=η (jT C.refl 3 ω ω o.bit ω (V:Int) (by rw[o.x,hV]));rw[hV]at Vg W;have eL:V<8:=by have:(2:Nat) ^ 3=8:=δ;omega
 obtain⟨J,bB⟩ :=ν (V/2);rw[bB]at W;have eS:(V:Int)/2=(J:Int):=ω;have ey:(0:Int)<=V/\(V:Int)<8/\(0:Int)<=J/\(J:Int)<4:=ω;have Qf:Hid (R.X.drop (R.at_+3)=s.x.drop 3):=by show _=_;rw[<-o.x,bm]
 have pj:Hid (R.at_+3<=R.X.length):=by show _<=_;omega
 have fa:=η bB;clear al ci u Vg hV bB
 go_wp2_with fail;refine ht.out.mono ?_;rintro e w6 ⟨rfl,h6⟩;have dq:R.nk=R.kinds.length:=C.kinds.1;have dp:R.nk+1<=1000000000000:=ω;have L:=h6.apart.2.1;have cq:=h6.cell.lt;have ev:=h6.lo;have k3:=h6.cell.cell (i:=3) ω;rw[show sF { R with at_:=R.at_+3 } 3= .slice R.Ak R.nk R.ck from rfl]at k3;have iY:=h6.kinds.alloc (.cells #[.int .i64 (J:Int)] 3);clear dq;go_upto_region 8 with fail
 go_cut [] (λwx=>∃H d4,bV wr c' wx w.heap.size y { R with at_:=R.at_+3,Ak:=H,nk:=R.nk+1,ck:=d4,kinds:=R.kinds++[(J:Int)] })
 case first=>
  go_wp2_with (at_builtin;(refine ba .i64 w.heap.size 3 i0 8 rfl (.tmp 33) (.tmp 35) _ rfl Tryz.underlying63 Hi.out gV.out fY.out gW.out rfl iY rfl (bU.lit .i64 w6 [(J:Int)] 3) dp ω ξ ?_)
               intro H d4 w4 bE Q dP;have iE:=(h6.cell.alloc (.cells #[.int .i64 (J:Int)] 3)).grown Q (λe=>L e.symm);have x3:=iE.cell (i:=3) ω;have z3:=iE.frozen' (i:=3) ω)
  go_meet
  have an:ai H≠some y:=by
   rcases dP with e | e
   · rw[e];exact L
   rw[e];intro P;injection P with P;simp at P;omega
  have h7:=h6.LW (A':=H) (n':=R.nk+1) (c':=d4) (l':=R.kinds++[(J:Int)]) ((((bj.refl w6 _).alloc _).grown Q (λq hq=> .inl (.inr hq))).setCell (p:= ⟨y,3,none⟩) (.inl (.inl rfl)) (.slice H (R.nk+1) d4)) ((iE.bC (i:=3) ω _).congr (fM rfl rfl rfl rfl rfl rfl rfl rfl rfl rfl rfl rfl rfl)) (bE.far (p:= ⟨y,3,none⟩) an _) (λk I=>by
   rcases dP with e | e
   · left;rw[<-e];exact I
   rw[e]at I;injection I with I;right;first | (simp at I;omega) | omega)
  exact⟨H,d4,h7⟩
 obtain⟨H,d4,c4,O,be⟩ :=hcut;have K:=hb.trans be.1;clear h6 k3 iY L;have cv:∀(s1:IS),s1.x=s.x.drop 3->s1.all=s.all->s1.rem=s.rem->s1.kinds=s.kinds++[(J:Int)]->s1.stops=s.stops->s1.aj=s.aj->nX { R with at_:=R.at_+3,Ak:=H,nk:=R.nk+1,ck:=d4,kinds:=R.kinds++[(J:Int)] } s1:=λs1 a1 a2 a3 a4 a5 a6=> ⟨by rw[a1];exact Qf.out,pj.out,by rw[a2];exact o.out,by rw[a4];show R.kinds++_=_;rw[o.kinds],by rw[a5];exact o.stops,by rw[a6];exact o.aj,by rw[a2,a3];exact o.most,o.E,o.bit,o.len,o.even,by rw[a2,a3];exact o.small,au o.tk (by show R.at_<=R.at_+3;omega)⟩;have ap:3*(R.kinds++[(J:Int)]).length<=R.at_+3:=by rw[af];simp;omega
 have kG:R.stops.length+1<=(R.kinds++[(J:Int)]).length:=by rw[af];simp;omega
 have OC:=η cv;have ej:=η am;clear cv am;go_upto_block 2 with fail
 go_cut [7] (λs7 wx=>InB w y b m s V s7 wx)
 case first=>
  obtain I0 | ef | ee | ec:J=0\/J=1\/J=2\/J=3:=ω
  · subst I0;have f:=W.out.trans (ae rfl);have j:IS.Steps s s.step.1:= .tail (.refl _) (by rw[f]);rw[f]at j;have T:=hO.steps j;have nC:=Jd O.refl T rfl (by show lD (R.X.drop (R.at_+3))=lD (s.x.drop 3);rw[Qf.out]) (OC.out _ Qf.out rfl rfl rfl rfl rfl);have HC:=η nC;have C7:=η (λ(bo:Bool) wx h=>InB.of (b:=b) (m:=m) (V:=V) (bo:=bo) (wx:=wx) O K j T rfl (by show R.kinds++_=s.kinds++_;rw[o.kinds]) ap kG hX h);clear nC f j T W
    go_wp2_with fail;refine HC.out.mono ?_;rintro e w7 h
    obtain⟨bo,rfl⟩ :∃bo,e= .returned (.bool bo):=by
     rcases h with ⟨_,_,_,N,_⟩ | ⟨_,_,_,N,_⟩
     · exact⟨_,N⟩
     exact⟨_,N⟩
    have HQ:=η (C7.out bo _ h);clear h C7 HC
    go_wp2_with fail;go_meet;exact HQ.out
  · subst ef
    obtain⟨s1,f,r,ab,Y,yF,uZ,Vd,ah,Uw,Uo,Z⟩ :∃s1:IS,s.step=(s1,0)/\s1.x=s.x.drop 3/\s1.all=s.all/\s1.rem=s.rem/\s1.kinds=s.kinds++[((1:Nat):Int)]/\s1.stops=s.stops/\s1.aj=s.aj/\s1.st=6/\s1.lt=ig/\s1.ds=iN/\s1.last=decide (V%2=1):=
     ⟨_,W.out.trans ((aa δ).trans (ae rfl)),rfl,rfl,rfl,rfl,rfl,rfl,rfl,rfl,rfl,rfl⟩
    have j:IS.Steps s s.step.1:= .tail (.refl _) (by rw[f]);rw[f]at j;have T:=hO.steps j;have c:=OC.out s1 r ab Y yF uZ Vd;have bt:∀q,c4 q≠0->w.heap.size<=q/\q<wc.heap.size:=λq hq=>O.cb q hq;have ur:=(bt y (by rw[O.cg];decide)).1;have eg:=η (Mn O);have bi:=η j;have db:=η T;have Si:=η c;have HH:=η (⟨Uw,Uo,ah,yF,Z⟩ :s1.lt=ig/\s1.ds=iN/\s1.st=6/\s1.kinds=s.kinds++[((1:Nat):Int)]/\s1.last=decide (V%2=1));have es:=η bt;clear f j T W c r ab Y yF uZ Vd ah Uw Uo Z bt OC O be
    go_wp2_with fail;refine eg.out.mono ?_;rintro e w7 ⟨A1,d1,A2,d2,rfl,z,cz,rR,jt⟩;have pB:Below w.heap.size w w7:=K.trans (cz.below (λk I=>by rw[I];exact ur) K.size)
    have hu:∀{A:Option Addr} {n d:Nat} {l:List Int},aW .i64 w7 wc.heap.size 3 A n d l->0<n->∀ad,A=some ad->c4 ad.block=0:=by
     intro A n d l ho h0 ad e;have:=(ho.2.lt (g:=ad.block) (by rw[e];rfl)).1;by_cases P:c4 ad.block=0
     · exact P
     have:=(es.out _ P).2;omega
    obtain⟨Uw,Uo,ah,yF,Z⟩ :=HH.out;have c:=Si.out;have M:nX { R with at_:=R.at_+3,Ak:=H,nk:=R.nk+1,ck:=d4,kinds:=R.kinds++[((1:Nat):Int)],Al:= .slice A1 288 d1,Ad:= .slice A2 32 d2 } s1:= ⟨c.x,c.le,c.out,c.kinds,c.stops,c.aj,c.most,c.E,c.bit,c.len,c.even,c.small,c.tk⟩;have HT:=η (yj z M db.out ah A1 A2 288 d1 32 d2 rfl rfl (by rw[Uw];exact rR.rd) (by rw[Uo];exact jt.rd) (hu rR) (hu jt));have C7:=η (λ(bo:Bool) wx h=>InB.of (b:=b) (m:=m) (V:=V) (bo:=bo) (wx:=wx) z pB bi.out db.out Z (by show R.kinds++_=s1.kinds;rw[yF,o.kinds]) ap kG hX h);clear M c Uw Uo ah yF Z hu z cz rR jt
    go_wp2_with fail;refine HT.out.mono ?_;rintro e w8 h
    obtain⟨bo,rfl⟩ :∃bo,e= .returned (.bool bo):=by
     rcases h with ⟨_,_,_,N,_⟩ | ⟨_,_,_,N,_⟩
     · exact⟨_,N⟩
     exact⟨_,N⟩
    have HQ:=η (C7.out bo _ h);clear h C7 HT
    go_wp2_with fail;go_meet;exact HQ.out
  · subst ee
    obtain⟨s1,f,r,ab,Y,yF,uZ,Vd,cL,Z⟩ :∃s1:IS,s.step=(s1,0)/\s1.x=s.x.drop 3/\s1.all=s.all/\s1.rem=s.rem/\s1.kinds=s.kinds++[((2:Nat):Int)]/\s1.stops=s.stops/\s1.aj=s.aj/\s1.st=3/\s1.last=decide (V%2=1):=
     ⟨_,W.out.trans ((aa δ).trans ((aa δ).trans (ae rfl))),rfl,rfl,rfl,rfl,rfl,rfl,rfl,rfl⟩
    have j:IS.Steps s s.step.1:= .tail (.refl _) (by rw[f]);rw[f]at j;have T:=hO.steps j;have c:=OC.out s1 r ab Y yF uZ Vd;have bX:=η (FM O c T cL);have bi:=η j;have HH:=η (⟨yF.trans (by rw[<-o.kinds]),Z⟩ :s1.kinds=R.kinds++[((2:Nat):Int)]/\s1.last=decide (V%2=1));clear f j T W c r ab Y yF uZ Vd cL Z OC O be
    go_wp2_with fail;refine bX.out.mono ?_;rintro e w7 h;rcases h with ⟨R7,t7,c7,Al,nl,cl,Ad,nd,cd,rfl,z,G,bv,cH,bx,M,Rs,cA,cm,cr,kz,qg,ac⟩ | ⟨R7,t7,v7,rfl, ⟨c7,z,G⟩,Ce,U,cx⟩
    · have pB:=K.trans G.1;have ao:R7.kinds=R.kinds++[((2:Nat):Int)]:=ac.kinds
      have cj:t7.last=decide (V%2=1):=by
       rw[<-HH.out.2];refine bv.last.2 ?_;rw[<-M.kinds,ao,HH.out.1]
      have HT:=η (yj z M bx cH Al Ad nl cl nd cd Rs cA cm cr kz qg);have C7:=η (λ(bo:Bool) wx h=>InB.of (b:=b) (m:=m) (V:=V) (bo:=bo) (wx:=wx) z pB (bi.out.trans bv) bx cj M.kinds (by rw[ao];exact au ap ac.le) (by rw[ao,ac.stops];exact kG) (ac.X.trans hX) h);clear z G bv cH bx M Rs cA cm cr kz qg ac pB ao cj bX
      go_wp2_with fail;refine HT.out.mono ?_;rintro e w8 h
      obtain⟨bo,rfl⟩ :∃bo,e= .returned (.bool bo):=by
       rcases h with ⟨_,_,_,N,_⟩ | ⟨_,_,_,N,_⟩
       · exact⟨_,N⟩
       exact⟨_,N⟩
      have HQ:=η (C7.out bo _ h);clear h C7 HT
      go_wp2_with fail;go_meet;exact HQ.out
    have HQ:Hid (InB w y b m s V (.bool false) w7):= .inr ⟨rfl,R7,c7,t7,v7,z,K.trans G.1,by rw[<-bi.out.mr];exact Ce,U,cx⟩;clear z G Ce U cx bX
    go_wp2_with fail;go_meet;exact HQ.out
  subst ec;have f:=W.out;rw[aa δ,aa δ,aa δ]at f;have RB:=η ((IS.ir (s:=s) (by rw[f];show(2:Int)≠0;decide)).trans f);have k1:=O.cell.cell (i:=1) ω;have z1:=O.cell.frozen' (i:=1) ω;clear f W
  go_wp2_with fail;go_meet;exact .inr ⟨rfl,{ R with at_:=R.at_+3,Ak:=H,nk:=R.nk+1,ck:=d4,kinds:=R.kinds++[((3:Nat):Int)],E:=2 },c4,_,2,O.put (i:=1) ω (.int .i64 2) { R with at_:=R.at_+3,Ak:=H,nk:=R.nk+1,ck:=d4,kinds:=R.kinds++[((3:Nat):Int)],E:=2 } (fM rfl rfl rfl rfl rfl rfl rfl rfl rfl rfl rfl rfl rfl) rfl,K.setCell (p:= ⟨y,1,none⟩) (O.cb y (by rw[O.cg];decide)).1 _,RB.out,δ, ⟨o.out,by show R.kinds++_=s.kinds++_;rw[o.kinds],o.stops,o.aj,rfl⟩⟩
 clear ej W OC O be o C hX ap kG K Qf pj yG Dr;have HS:=η hs;have S:=η hcut;clear hs hcut;rcases S.out with ⟨rfl,a,c1,t,x',C,D,f,uz,c,T,Z,Uv,V7,Xq⟩ | ⟨rfl,a,c1,t,v,C,D,hf,U,hE⟩;rotate_left
 · have HQ:=η (zz.bad HF.out HS.out hf U C D hE);clear S hf U C D hE
   go_wp2_with fail;go_ret;exact HQ.out
 have dl:a.ns=a.stops.length:=C.stops.1;have AE:=c.le;have ea:=c.even;have Ux:a.X.length=8*b.length:=by rw[Xq,eT]
 have dk:a.ns+1<=1000000000000:=by have:=c.len;omega
 have ch:a.no=t.all.length:=C.out.1.trans (aL List.length c.out);have L:=C.refl.apart.2.2.1;have cq:=C.cell.lt;have kP:=C.lo;have k0:=C.cell.cell (i:=0) ω;have k4:=C.cell.cell (i:=4) ω;rw[show sF a 4= .slice a.As a.ns a.cs from rfl]at k4;rw[show sF a 0= .slice a.Ao a.no a.co from rfl]at k0;have iY:=(C.stops.alloc (.cells #[.int .i64 (a.no:Nat)] 3)).drew;have cW:=(bU.lit .i64 wc [((a.no:Nat):Int)] 3).drewN 1;have GF:=η ch;clear dl ch S
 go_wp2_with fail;obtain⟨B,K7⟩ :∃B,({ t with x:=x' }:IS).over=B:= ⟨_,rfl⟩;rw[K7]at uz;have bp:IS.Steps s t.step.1:=f.tail (by rw[uz]);have bs:t.step.1.mu<t.mu:=IS.jG (by rw[uz]);rw[uz]at bp bs
 have en:Hid (B.mu<gk):=by
  have h1:=f.a7I;have h2:=I.out;have h3:B.mu<t.mu:=bs;show _<_;omega
 have cw:=T.steps (IS.Steps.one (s:=t) (by rw[uz]));rw[uz]at cw;have da:=η (HS.out.trans bp);have dz:a.kinds=t.kinds:=c.kinds;have r:a.X.drop a.at_=x':=c.x;have CA:({ t with x:=x' }:IS).last=decide (V%2=1):=Z
 have cE:B.all=t.all/\B.kinds=t.kinds/\B.stops=t.stops++[(t.all.length:Int)]/\B.aj=t.aj/\B.rem=t.rem:=by
  rw[<-K7];unfold IS.over;split <;> exact⟨rfl,rfl,rfl,rfl,rfl⟩
 have cD:V%2=1->B.x=lD x'/\B.st=8:=λe=>by
  rw[<-K7];unfold IS.over;rw[ae (by rw[CA];simpa using e)];exact⟨rfl,rfl⟩
 have cB:¬V%2=1->B.x=x'/\B.st=0:=λe=>by
  rw[<-K7];unfold IS.over;rw[aa (by rw[CA];simpa using e)];exact⟨rfl,rfl⟩
 have dd:=η cE;have eu:=η cD;have et:=η cB;have Si:=η c;have cX:=η (⟨Xq,Uv,V7,Ux,r⟩ :a.X=gG b/\3*a.kinds.length<=a.at_/\a.stops.length+1<=a.kinds.length/\a.X.length=8*b.length/\a.X.drop a.at_=x');have ex:(0:Int)<=(a.at_:Int)/\(a.at_:Int)<=100000000000:=by have:=c.len;omega
 have hq:((a.at_:Int)+7)/8=(((a.at_+7)/8:Nat):Int):=ω;have fb:=η hq;clear K7 uz bp bs T f dz r CA Z cE cD cB c Xq Uv V7 Ux AE ea hq I
 go_region_law
  ((refine eM .i64 w.heap.size 3 i0 8 rfl (.tmp 68) (.tmp 74) _ rfl Tryz.underlying63 Hi.out gV.out fY.out gW.out rfl iY rfl cW dk ω (by first | (simp;omega) | simp) ?_)
   intro H d4 w4 bE Q dP;have iE:=(C.cell.alloc (.cells #[.int .i64 (a.no:Nat)] 3)).drew.grown Q (λe=>L e.symm);have x4:=iE.cell (i:=4) ω;have z4:=iE.frozen' (i:=4) ω)
 all_goals
  have an:ai H≠some y:=by
   rcases dP with e | e
   · rw[e];exact L
   rw[e];intro P;injection P with P;simp at P;omega
  have h7:=C.refl.LZ (A':=H) (n':=a.ns+1) (c':=d4) (l':=a.stops++[((a.no:Nat):Int)]) (((((bj.refl wc _).alloc _).drew).grown Q (λq hq=> .inl (.inr hq))).setCell (p:= ⟨y,4,none⟩) (.inl (.inl rfl)) (.slice H (a.ns+1) d4)) ((iE.bC (i:=4) ω _).congr (fM rfl rfl rfl rfl rfl rfl rfl rfl rfl rfl rfl rfl rfl)) (bE.far (p:= ⟨y,4,none⟩) an _) (λk I=>by
   rcases dP with e | e
   · exact .inl (e▸I)
   rw[e]at I;injection I with I;simp at I;exact .inr (by show wc.heap.size<=k;omega))
  obtain⟨c7,z,G⟩ :=h7;have pB:=D.trans G.1;clear C G an bE Q dP iE x4 z4 iY cW L cq k0 k4;obtain⟨w7,Ci⟩ :=ν (w4.setCell ⟨y,4,none⟩ (.slice H (a.ns+1) d4));rw[Ci]at z pB⊢;clear Ci;by_cases oQ:V%2=1
  rotate_left
  · have de:((V:Int)%2==1)=false:=ξ;have HH:=η (⟨z,pB⟩ :_/\_);have bI:=η oQ;clear z pB oQ
    go_wp2_with fail;go_roundg B.mu
    case measure=>exact en.out
    obtain⟨U,rj⟩ :=HH.out;obtain⟨N,P⟩ :=et.out bI.out;obtain⟨g1,g2,g3,g4,g5⟩ :=dd.out;have c:=Si.out;obtain⟨Xq,Uv,V7,Ux,r⟩ :=cX.out;refine⟨_,B,c7,U,rj, ⟨r.trans N.symm,c.le,c.out.trans g1.symm,c.kinds.trans g2.symm, ?_,c.aj.trans g4.symm, ?_,c.E,c.bit,c.len,c.even, ?_,c.tk⟩,cw,P,da.out,rfl,Uv, ?_,Xq⟩
    · show a.stops++[((a.no:Nat):Int)]=B.stops;rw[g3,GF.out];congr 1;exact c.stops
    · rw[g1,g5];exact c.most
    · rw[g1,g5];exact c.small
    show(a.stops++[((a.no:Nat):Int)]).length<=a.kinds.length;rw[af];exact V7
  have k6:=z.cell.cell (i:=6) ω;have z2:=z.cell.frozen' (i:=2) ω;have k2:=z.cell.cell (i:=2) ω;rw[show∀R:RM,sF R 6= .int .i64 (R.at_:Nat) from λ_=>rfl]at k6;have de:(V:Int)%2=1:=ω;have U:=z.put (i:=2) ω (.int .i64 (((a.at_:Int)+7)/8)) { a with As:=H,ns:=a.ns+1,cs:=d4,stops:=a.stops++[((a.no:Nat):Int)],rest:=(((a.at_:Int)+7)/8) } (fM rfl rfl rfl rfl rfl rfl rfl rfl rfl rfl rfl rfl rfl) rfl;have rj:=pB.setCell (p:= ⟨y,2,none⟩) (z.cb y (by rw[z.cg];decide)).1 (.int .i64 (((a.at_:Int)+7)/8));have HH:=η (⟨U,rj⟩ :_/\_);have bI:=η oQ;clear U rj z pB oQ
  go_wp2_with fail;go_ret;obtain⟨U,rj⟩ :=HH.out;obtain⟨N,P⟩ :=eu.out bI.out;obtain⟨g1,g2,g3,g4,g5⟩ :=dd.out;have hf:F=(B,8):=by rw[<-HF.out,<-da.out.mr,IS.Pp P]
  have c:=Si.out;obtain⟨Xq,Uv,V7,Ux,r⟩ :=cX.out;subst hf;refine⟨y,c7,_,rfl,U,rj,c.E.trans (by unfold Tf;rw[ae rfl]), ?_, ?_, ?_, ?_,λ_=> ?_⟩
  · exact c.out.trans g1.symm
  · exact c.kinds.trans g2.symm
  · show a.stops++[((a.no:Nat):Int)]=B.stops;rw[g3,GF.out];congr 1;exact c.stops
  · exact c.aj.trans g4.symm
  show(((a.at_:Int)+7)/8)=((b.length-B.x.length/8:Nat):Int);have hl:x'.length=a.X.length-a.at_:=by rw[<-r,av]
  rw[N,mP,hl,Ux];have:=c.le;omega
end
end Go.Proofs.YtdhmnlpfhfmpfaaGreat
