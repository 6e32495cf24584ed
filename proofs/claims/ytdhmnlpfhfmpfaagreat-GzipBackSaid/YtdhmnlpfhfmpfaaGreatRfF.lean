/-
  part
-/
import Derived.Test.YtdhmnlpfhfmpfaaGreatRfE
import Derived.Test.YtdhmnlpfhfmpfaaGreatStep
import Derived.Deep.CutBlock
import Derived.Deep.DeepMust
namespace Go.Proofs.YtdhmnlpfhfmpfaaGreat
open Go.RowKit
set_option linter.unusedVariables false
set_option maxRecDepth 100000
set_option maxHeartbeats 8000000
section
variable {w w' w0 w2:World} {b0 g:Nat} {c c0:Nat->Nat} {R R':RM} {s t t':IS} {v:Int}
theorem IS.ML (s:IS):(s.step.1.kinds=s.kinds/\s.step.1.last=s.last)\/s.step.1.kinds.length=s.kinds.length+1:=by
 have a:∀s:IS,s.over.kinds=s.kinds/\s.over.last=s.last:=λs=>by unfold IS.over;split <;> exact⟨rfl,rfl⟩
 have c:∀(s:IS) b,(s.emit b).1.kinds=s.kinds/\(s.emit b).1.last=s.last:=λs b=> ⟨rfl,rfl⟩;unfold IS.step;split
 · unfold IS.block;split
   · exact .inl ⟨rfl,rfl⟩
   split
   · exact .inr σ
   split
   · exact .inr σ
   split
   · exact .inr σ
   exact .inr σ
 split
 · unfold IS.size;split
   · exact .inl ⟨rfl,rfl⟩
   split <;> exact .inl ⟨rfl,rfl⟩
 split
 · unfold IS.stored;split
   · exact .inl (a s)
   split
   · exact .inl ⟨rfl,rfl⟩
   exact .inl ⟨rfl,rfl⟩
 split
 · unfold IS.sizes;split
   · exact .inl ⟨rfl,rfl⟩
   split <;> exact .inl ⟨rfl,rfl⟩
 split
 · unfold IS.heads;split
   · split <;> exact .inl ⟨rfl,rfl⟩
   split <;> exact .inl ⟨rfl,rfl⟩
 split
 · unfold IS.lengths IS.length IS.kG
   repeat' split
   all_goals exact .inl ⟨rfl,rfl⟩
 split
 · unfold IS.token;split
   · exact .inl ⟨rfl,rfl⟩
   split
   · exact .inl ⟨rfl,rfl⟩
   split
   · exact .inl (a _)
   repeat' split
   all_goals exact .inl ⟨rfl,rfl⟩
 split
 · unfold IS.bm IS.text
   repeat' split
   all_goals exact .inl ⟨rfl,rfl⟩
 exact .inl ⟨rfl,rfl⟩
theorem IS.Steps.last (h:IS.Steps s t):s.kinds.length<=t.kinds.length/\(t.kinds.length=s.kinds.length->t.last=s.last):=by
 induction h with
 | refl=>exact⟨ai _,λ_=>rfl⟩
 | @tail t h1 h2 ih=>
   rcases IS.ML t with ⟨a,b⟩ | a
   · rw[a,b];exact ih
   rw[a];exact⟨ω,λe=>ω⟩
theorem IS.PO (h:s.st=8):s.fin=(s,8):=by
 have e:s.step=(s,8):=by unfold IS.step;rw[h];rfl
 rw[IS.iA (by rw[e];simp),e]
def zP (w:World) (F:IS×Int) (b:aj) (e:Ending) (w':World):Prop:=
 ∃g c R,e= .returned (.pointer (some ⟨g,0,none⟩))/\il w' w.heap.size g c R/\Below w.heap.size w w'/\R.E=TL F/\R.out=F.1.all/\R.kinds=F.1.kinds/\R.stops=F.1.stops/\R.au=F.1.au/\(F.2=8->R.rest=((b.length-F.1.x.length/8:Nat):Int))
def InR (w:World) (g:Nat) (b:aj) (m:Nat) (k:Nat) (wr:World):Prop:=
 ∃R s c',il wr w.heap.size g c' R/\Below w.heap.size w wr/\og R s/\s.Ok/\s.st=0/\IS.Steps (start (gK b) m) s/\Hid (k=s.mu)/\3*R.kinds.length<=R.at_/\R.stops.length<=R.kinds.length/\R.X=gK b
def InB (w:World) (g:Nat) (b:aj) (m:Nat) (c:IS) (V:Nat) (a:Value) (wx:World):Prop:=
 (a= .bool true/\∃R' c' t x',il wx w.heap.size g c' R'/\Below w.heap.size w wx/\IS.Steps c t/\t.step=(({ t with x:=x' }:IS).over,0)/\og R' { t with x:=x' }/\t.Ok/\t.last=decide (V%2=1)/\3*R'.kinds.length<=R'.at_/\R'.stops.length+1<=R'.kinds.length/\R'.X=gK b)\/
 (a= .bool false/\∃R' c' t v,il wx w.heap.size g c' R'/\Below w.heap.size w wx/\c.fin=(t,v)/\v≠8/\Kv R' t v)
theorem InB.of {V:Nat} {b:aj} {m:Nat} {l s1:IS} {a:RM} {c1:Nat->Nat} {w1 wx:World} {bo:Bool} (z:il w1 w.heap.size g c1 a) (o:Below w.heap.size w w1) (n:IS.Steps l s1) (hO:s1.Ok) (q:s1.last=decide (V%2=1)) (r:a.kinds=s1.kinds) (x:3*a.kinds.length<=a.at_) (k:a.stops.length+1<=a.kinds.length) (s:a.X=gK b)
  (h:fU w1 c1 w.heap.size g a s1 (.returned (.bool bo)) wx):InB w g b m l V (.bool bo) wx:=by
 rcases h with ⟨R',t,x',e, ⟨c',f,i⟩,d,c,p,j⟩ | ⟨R',t,v,e, ⟨c',f,i⟩,hf,u,hE⟩
 · injection e with e;injection e with e;subst e;refine .inl ⟨rfl,R',c',t,x',f,o.trans i.1,n.trans d,c,p,hO.steps d, ?_, ?_, ?_,j.X.trans s⟩
   · rw[<-q];refine d.last.2 ?_;have y:R'.kinds=t.kinds:=p.kinds;rw[<-y,j.kinds,r]
   · rw[j.kinds];exact aw x j.le
   rw[j.kinds,j.stops];exact k
 injection e with e;injection e with e;subst e;exact .inr ⟨rfl,R',c',t,v,f,o.trans i.1,by rw[<-n.mG];exact hf,u,hE⟩
theorem zP.bad {m:Nat} {b:aj} {F:IS×Int} (hF:(start (gK b) m).fin=F) (d:IS.Steps (start (gK b) m) s) (h:s.fin=(t,v)) (a:v≠8) (i:il w' w.heap.size g c R) (f:Below w.heap.size w w') (hE:Kv R t v):zP w F b (.returned (.pointer (some ⟨g,0,none⟩))) w':=by
 have e:F=(t,v):=by rw[<-hF,<-d.mG,h]
 subst e;exact⟨g,c,R,rfl,i,f,by unfold TL;rw[aa a];exact hE.E,hE.out,hE.kinds,hE.stops,hE.au,λe=>absurd e a⟩
theorem Tn (b:aj):(gK b).length%8=0:=by rw[eT];omega
def R0 (Ab:ay) (nb cb:Nat) (b:aj) (v:Int):RM:= ⟨none,0,0,[],0,0,none,0,0,[],none,0,0,[],Ab,nb,cb,gK b,0,v, .slice none 0 0, .slice none 0 0, .slice none 0 0, .slice none 0 0,none,0,0,[]⟩
theorem b1f {w1:World} {b0:Nat} {Ab:ay} {nb cb:Nat} {b:aj} (v:Int) (e:ba .u8 w1 b0 5 Ab nb cb (gK b)) (g:b0<=w1.heap.size):
  ∃c,il (w1.alloc (.cells #[.slice none 0 0, .int .i64 0, .int .i64 0, .slice none 0 0, .slice none 0 0, .slice Ab nb cb, .int .i64 0, .int .i64 v, .slice none 0 0, .slice none 0 0, .slice none 0 0, .slice none 0 0, .slice none 0 0] 67)) b0 w1.heap.size c (R0 Ab nb cb b v):=by
 have d:∀k,ak Ab=some k->b0<=k/\k<w1.heap.size:=λk a=>e.2.lt a;refine⟨λk=>if k=w1.heap.size then 1 else if ak Ab=some k then 6 else 0,Ar.new w1 _ _ rfl (fR rfl rfl rfl rfl rfl rfl rfl rfl rfl rfl rfl rfl rfl),af rfl,ba.dN,λk a=>by simp [ak,R0]at a,ba.dN,λk a=>by simp [ak,R0]at a,ba.dN,λk a=>by simp [ak,R0]at a, ⟨rfl,Own.dN⟩,λk a=>by simp [ak,R0]at a,e.alloc _,λk a=> ?_,λk a=> ?_⟩
 · have:=d k a;show(if _ then _ else _)=6;rw[aa ω,af (show ak Ab=some k from a)]
 rw[jz];split at a
 · omega
 split at a
 · rename_i h f
   have:=d k f;omega
 exact absurd rfl a
theorem a7Y {a:World} {Ab:ay} {nb cb:Nat} {b:aj} {m:Nat} (f:il a w.heap.size g c (R0 Ab nb cb b m)) (e:Below w.heap.size w a) (d:b.length<=10000000000) (h:m<=1000000000):InR w g b m (start (gK b) m).mu a:=
 ⟨R0 Ab nb cb b m,start (gK b) m,c,f,e, ⟨rfl,aF _,rfl,rfl,rfl,rfl,by show(m:Int)=(([]:aj).length+m:Nat);simp,rfl,dO.gK b,by show(gK b).length<=_;rw[eT];omega,Tn b,by show([]:aj).length+m<=_;simp;omega,aF _⟩, .start (dO.gK b) m,rfl, .refl _,rfl,aF _,ai _,rfl⟩
theorem FY (w:World) (Bd:Nat) (A:ay) (n cp:Nat) (b:aj) (hr:bT .u8 w Bd A n b) (K7:Bd<=w.heap.size) (dq:∀x∈b,0<=x/\x<256) (be:b.length<=10000000000) (most:Int) (m:Nat) (hm:(m:Int)=max most 0) (O2:m<=1000000000) (F:IS×Int) (hF:(start (gK b) m).fin=F):
  Calls Tryz.prog 31 #[.slice A n cp, .int .i64 most] w (zP w F b):=by
 obtain⟨i0,hi,cc,ca,bI⟩ :=aL mQ;have Hi:=η hi;have i7:=η cc;have gp:=η ca;have i9:=η bI;have HM:=η hm;have HF:=η hF;have qO:n=b.length:=hr.1;have yu:=Tm w Bd n cp A b hr K7 dq ω;have HB:=η yu;have ex:=η qO;have cq:(most<0/\m=0)\/(0<=most/\(m:Int)=most):=ω;clear hi cc ca bI hm hF yu qO hr;have SS:=η cq;clear cq;go_enter Tryz.func31,Tryz.ntmps31
 go_wp2_with fail;refine HB.out.mono ?_;rintro e w1 ⟨Ab,nb,cb,rfl,pZ,D⟩;have f:=D.size;obtain⟨c1,kJ⟩ :=b1f most pZ f;have ap:=D.alloc f (.cells #[.slice none 0 0, .int .i64 0, .int .i64 0, .slice none 0 0, .slice none 0 0, .slice Ab nb cb, .int .i64 0, .int .i64 most, .slice none 0 0, .slice none 0 0, .slice none 0 0, .slice none 0 0, .slice none 0 0] 67);obtain⟨y,Y6⟩ :=ν (w1.heap.size);rw[Y6]at kJ;have ee:=η Y6
 have fy:Hid (∃k,((most<0->InR w y b m k ((w1.alloc (.cells #[.slice none 0 0, .int .i64 0, .int .i64 0, .slice none 0 0, .slice none 0 0, .slice Ab nb cb, .int .i64 0, .int .i64 most, .slice none 0 0, .slice none 0 0, .slice none 0 0, .slice none 0 0, .slice none 0 0] 67)).setCell ⟨y,7,none⟩ (.int .i64 0)))/\(0<=most->InR w y b m k (w1.alloc (.cells #[.slice none 0 0, .int .i64 0, .int .i64 0, .slice none 0 0, .slice none 0 0, .slice Ab nb cb, .int .i64 0, .int .i64 most, .slice none 0 0, .slice none 0 0, .slice none 0 0, .slice none 0 0, .slice none 0 0] 67))))):=by
  refine⟨(start (gK b) m).mu,λh=> ?_,λh=> ?_⟩
  · have Dw:m=0:=by rcases SS.out with ⟨_,h1⟩ | ⟨h1,_⟩ <;> omega
    subst Dw;exact a7Y (kJ.put (i:=7) ω (.int .i64 0) (R0 Ab nb cb b 0) (fR rfl rfl rfl rfl rfl rfl rfl rfl rfl rfl rfl rfl rfl) rfl) (ap.setCell (p:= ⟨y,7,none⟩) (by show w.heap.size<=y;omega) _) be O2
  have Dw:(m:Int)=most:=by rcases SS.out with ⟨h1,_⟩ | ⟨_,h1⟩ <;> omega
  rw[<-Dw];rw[<-Dw]at kJ ap;exact a7Y kJ ap be O2
 obtain⟨k0,fy⟩ :=fy.out;have SX:=η fy;have k7:=kJ.cell.cell (i:=7) ω;have z7:=kJ.cell.frozen' (i:=7) ω;clear fy kJ ap pZ D f Y6
 go_upto_if 15 with fail
 rw[ee.out];go_cut [] (λwx=>InR w y b m k0 wx)
 case first=>
  by_cases Qu:most<0
  · have HI:=η (SX.out.1 Qu);clear SX
    go_wp2_with fail;go_meet;exact HI.out
  have dj:0<=most:=ω;have HI:=η (SX.out.2 dj);clear SX
  go_wp2_with fail;go_meet;exact HI.out
 clear k7 z7 SX;have S:=η hcut;clear hcut
 go_wp2_with fail;go_loopg [] k0 (InR w y b m)
 case atStart=>exact S.out
 clear S;obtain⟨R,s,c',C,hb,o,hO,al,hs,I,Dv,Dx,hX⟩ :=hrel;have dk:=o.le;have ch:s.x.length=R.X.length-R.at_:=by rw[<-o.x,az]
 have en:R.X.length<=100000000000:=o.len;have u:Hid (s.step=s.block):=by show _=_;unfold IS.step;rw[af al]
 unfold IS.block at u;by_cases ah:s.x.length<3
 · have cX:Hid (s.fin=(s,5)):=by
    have e:=u.out.trans (af ah);show _=_;rw[IS.iA (by rw[e];simp),e]
   have ht:=η (oa C.refl 3 ω ω dk ω);clear ah ch u al
   go_wp2_with fail;refine ht.out.mono ?_;rintro e w6 ⟨rfl,c6,Sd,Ll⟩
   go_wp2_with fail;go_ret;exact zP.bad HF.out hs cX.out δ Sd (hb.trans Ll.1) ⟨o.out,o.kinds,o.stops,o.au,rfl⟩
 have W:=η (u.out.trans (aa ah));have VP:=gI hO.bit 3;obtain⟨V,hV⟩ :=ν (num s.x 3);have ht:=η (jZ C.refl 3 ω ω o.bit ω (V:Int) (by rw[o.x,hV]));rw[hV]at VP W;have et:V<8:=by have:(2:Nat) ^ 3=8:=δ;omega
 obtain⟨J,bv⟩ :=ν (V/2);rw[bv]at W;have eu:(V:Int)/2=(J:Int):=ω;have es:(0:Int)<=V/\(V:Int)<8/\(0:Int)<=J/\(J:Int)<4:=ω;have QJ:Hid (R.X.drop (R.at_+3)=s.x.drop 3):=by show _=_;rw[<-o.x,bn]
 have pD:Hid (R.at_+3<=R.X.length):=by show _<=_;omega
 have ev:=η bv;clear ah ch u VP hV bv
 go_wp2_with fail;refine ht.out.mono ?_;rintro e w6 ⟨rfl,h6⟩;have de:R.nk=R.kinds.length:=C.kinds.1;have dd:R.nk+1<=1000000000000:=ω;have L:=h6.apart.2.1;have cm:=h6.cell.lt;have Vc:=h6.lo;have k3:=h6.cell.cell (i:=3) ω;rw[show sF { R with at_:=R.at_+3 } 3= .slice R.Ak R.nk R.ck from rfl]at k3;have jb:=h6.kinds.alloc (.cells #[.int .i64 (J:Int)] 3);clear de;go_upto_region 8 with fail
 go_cut [] (λwx=>∃H d4,bV wr c' wx w.heap.size y { R with at_:=R.at_+3,Ak:=H,nk:=R.nk+1,ck:=d4,kinds:=R.kinds++[(J:Int)] })
 case first=>
  go_wp2_with (at_builtin;(refine bq .i64 w.heap.size 3 i0 8 rfl (.tmp 33) (.tmp 35) _ rfl Tryz.underlying63 Hi.out i7.out gp.out i9.out rfl jb rfl (bT.lit .i64 w6 [(J:Int)] 3) dd ω ξ ?_)
               intro H d4 w4 bL Q dT;have iL:=(h6.cell.alloc (.cells #[.int .i64 (J:Int)] 3)).grown Q (λe=>L e.symm);have x3:=iL.cell (i:=3) ω;have z3:=iL.frozen' (i:=3) ω)
  go_meet
  have am:ak H≠some y:=by
   rcases dT with e | e
   · rw[e];exact L
   rw[e];intro P;injection P with P;simp at P;omega
  have h7:=h6.Mj (A':=H) (n':=R.nk+1) (c':=d4) (l':=R.kinds++[(J:Int)]) ((((bk.refl w6 _).alloc _).grown Q (λq hq=> .inl (.inr hq))).setCell (p:= ⟨y,3,none⟩) (.inl (.inl rfl)) (.slice H (R.nk+1) d4)) ((iL.bK (i:=3) ω _).congr (fR rfl rfl rfl rfl rfl rfl rfl rfl rfl rfl rfl rfl rfl)) (bL.far (p:= ⟨y,3,none⟩) am _) (λk I=>by
   rcases dT with e | e
   · left;rw[<-e];exact I
   rw[e]at I;injection I with I;right;first | (simp at I;omega) | omega)
  exact⟨H,d4,h7⟩
 obtain⟨H,d4,c4,O,aE⟩ :=hcut;have K:=hb.trans aE.1;clear h6 k3 jb L;have cr:∀(s1:IS),s1.x=s.x.drop 3->s1.all=s.all->s1.rem=s.rem->s1.kinds=s.kinds++[(J:Int)]->s1.stops=s.stops->s1.au=s.au->og { R with at_:=R.at_+3,Ak:=H,nk:=R.nk+1,ck:=d4,kinds:=R.kinds++[(J:Int)] } s1:=λs1 a1 a2 a3 a4 a5 a6=> ⟨by rw[a1];exact QJ.out,pD.out,by rw[a2];exact o.out,by rw[a4];show R.kinds++_=_;rw[o.kinds],by rw[a5];exact o.stops,by rw[a6];exact o.au,by rw[a2,a3];exact o.most,o.E,o.bit,o.len,o.even,by rw[a2,a3];exact o.small,aw o.tk (by show R.at_<=R.at_+3;omega)⟩;have ao:3*(R.kinds++[(J:Int)]).length<=R.at_+3:=by rw[ag];simp;omega
 have lJ:R.stops.length+1<=(R.kinds++[(J:Int)]).length:=by rw[ag];simp;omega
 have P3:=η cr;have eb:=η al;clear cr al;go_upto_block 2 with fail
 go_cut [7] (λs7 wx=>InB w y b m s V s7 wx)
 case first=>
  obtain Ih | dA | dz | du:J=0\/J=1\/J=2\/J=3:=ω
  · subst Ih;have f:=W.out.trans (af rfl);have j:IS.Steps s s.step.1:= .tail (.refl _) (by rw[f]);rw[f]at j;have T:=hO.steps j;have nN:=Jt O.refl T rfl (by show lN (R.X.drop (R.at_+3))=lN (s.x.drop 3);rw[QJ.out]) (P3.out _ QJ.out rfl rfl rfl rfl rfl);have HC:=η nN;have Cg:=η (λ(bo:Bool) wx h=>InB.of (b:=b) (m:=m) (V:=V) (bo:=bo) (wx:=wx) O K j T rfl (by show R.kinds++_=s.kinds++_;rw[o.kinds]) ao lJ hX h);clear nN f j T W
    go_wp2_with fail;refine HC.out.mono ?_;rintro e w7 h
    obtain⟨bo,rfl⟩ :∃bo,e= .returned (.bool bo):=by
     rcases h with ⟨_,_,_,N,_⟩ | ⟨_,_,_,N,_⟩
     · exact⟨_,N⟩
     exact⟨_,N⟩
    have HQ:=η (Cg.out bo _ h);clear h Cg HC
    go_wp2_with fail;go_meet;exact HQ.out
  · subst dA
    obtain⟨s1,f,r,ab,Y,xF,vx,VM,ae,Vd,UZ,Z⟩ :∃s1:IS,s.step=(s1,0)/\s1.x=s.x.drop 3/\s1.all=s.all/\s1.rem=s.rem/\s1.kinds=s.kinds++[((1:Nat):Int)]/\s1.stops=s.stops/\s1.au=s.au/\s1.st=6/\s1.lt=im/\s1.ds=iU/\s1.last=decide (V%2=1):=
     ⟨_,W.out.trans ((aa δ).trans (af rfl)),rfl,rfl,rfl,rfl,rfl,rfl,rfl,rfl,rfl,rfl⟩
    have j:IS.Steps s s.step.1:= .tail (.refl _) (by rw[f]);rw[f]at j;have T:=hO.steps j;have c:=P3.out s1 r ab Y xF vx VM;have bp:∀q,c4 q≠0->w.heap.size<=q/\q<wc.heap.size:=λq hq=>O.cb q hq;have uF:=(bp y (by rw[O.cg];decide)).1;have ea:=η (ME O);have P5:=η j;have cH:=η T;have SY:=η c;have HH:=η (⟨Vd,UZ,ae,xF,Z⟩ :s1.lt=im/\s1.ds=iU/\s1.st=6/\s1.kinds=s.kinds++[((1:Nat):Int)]/\s1.last=decide (V%2=1));have ef:=η bp;clear f j T W c r ab Y xF vx VM ae Vd UZ Z bp P3 O aE
    go_wp2_with fail;refine ea.out.mono ?_;rintro e w7 ⟨A1,d1,A2,d2,rfl,z,cv,pZ,jB⟩;have rJ:Below w.heap.size w w7:=K.trans (cv.below (λk I=>by rw[I];exact uF) K.size)
    have hu:∀{A:ay} {n d:Nat} {l:aj},ba .i64 w7 wc.heap.size 3 A n d l->0<n->∀ad,A=some ad->c4 ad.block=0:=by
     intro A n d l ho h0 ad e;have:=(ho.2.lt (g:=ad.block) (by rw[e];rfl)).1;by_cases P:c4 ad.block=0
     · exact P
     have:=(ef.out _ P).2;omega
    obtain⟨Vd,UZ,ae,xF,Z⟩ :=HH.out;have c:=SY.out;have M:og { R with at_:=R.at_+3,Ak:=H,nk:=R.nk+1,ck:=d4,kinds:=R.kinds++[((1:Nat):Int)],Al:= .slice A1 288 d1,Ad:= .slice A2 32 d2 } s1:= ⟨c.x,c.le,c.out,c.kinds,c.stops,c.au,c.most,c.E,c.bit,c.len,c.even,c.small,c.tk⟩;have HT:=η (yI z M cH.out ae A1 A2 288 d1 32 d2 rfl rfl (by rw[Vd];exact pZ.rd) (by rw[UZ];exact jB.rd) (hu pZ) (hu jB));have Cg:=η (λ(bo:Bool) wx h=>InB.of (b:=b) (m:=m) (V:=V) (bo:=bo) (wx:=wx) z rJ P5.out cH.out Z (by show R.kinds++_=s1.kinds;rw[xF,o.kinds]) ao lJ hX h);clear M c Vd UZ ae xF Z hu z cv pZ jB
    go_wp2_with fail;refine HT.out.mono ?_;rintro e w8 h
    obtain⟨bo,rfl⟩ :∃bo,e= .returned (.bool bo):=by
     rcases h with ⟨_,_,_,N,_⟩ | ⟨_,_,_,N,_⟩
     · exact⟨_,N⟩
     exact⟨_,N⟩
    have HQ:=η (Cg.out bo _ h);clear h Cg HT
    go_wp2_with fail;go_meet;exact HQ.out
  · subst dz
    obtain⟨s1,f,r,ab,Y,xF,vx,VM,cD,Z⟩ :∃s1:IS,s.step=(s1,0)/\s1.x=s.x.drop 3/\s1.all=s.all/\s1.rem=s.rem/\s1.kinds=s.kinds++[((2:Nat):Int)]/\s1.stops=s.stops/\s1.au=s.au/\s1.st=3/\s1.last=decide (V%2=1):=
     ⟨_,W.out.trans ((aa δ).trans ((aa δ).trans (af rfl))),rfl,rfl,rfl,rfl,rfl,rfl,rfl,rfl⟩
    have j:IS.Steps s s.step.1:= .tail (.refl _) (by rw[f]);rw[f]at j;have T:=hO.steps j;have c:=P3.out s1 r ab Y xF vx VM;have bB:=η (FT O c T cD);have P5:=η j;have HH:=η (⟨xF.trans (by rw[<-o.kinds]),Z⟩ :s1.kinds=R.kinds++[((2:Nat):Int)]/\s1.last=decide (V%2=1));clear f j T W c r ab Y xF vx VM cD Z P3 O aE
    go_wp2_with fail;refine bB.out.mono ?_;rintro e w7 h;rcases h with ⟨R7,t7,c7,Al,nl,cl,Ad,nd,cd,rfl,z,G,bs,cB,bt,M,S8,cw,cj,cn,jP,qx,ac⟩ | ⟨R7,t7,v7,rfl, ⟨c7,z,G⟩,LF,U,cu⟩
    · have rJ:=K.trans G.1;have an:R7.kinds=R.kinds++[((2:Nat):Int)]:=ac.kinds
      have ci:t7.last=decide (V%2=1):=by
       rw[<-HH.out.2];refine bs.last.2 ?_;rw[<-M.kinds,an,HH.out.1]
      have HT:=η (yI z M bt cB Al Ad nl cl nd cd S8 cw cj cn jP qx);have Cg:=η (λ(bo:Bool) wx h=>InB.of (b:=b) (m:=m) (V:=V) (bo:=bo) (wx:=wx) z rJ (P5.out.trans bs) bt ci M.kinds (by rw[an];exact aw ao ac.le) (by rw[an,ac.stops];exact lJ) (ac.X.trans hX) h);clear z G bs cB bt M S8 cw cj cn jP qx ac rJ an ci bB
      go_wp2_with fail;refine HT.out.mono ?_;rintro e w8 h
      obtain⟨bo,rfl⟩ :∃bo,e= .returned (.bool bo):=by
       rcases h with ⟨_,_,_,N,_⟩ | ⟨_,_,_,N,_⟩
       · exact⟨_,N⟩
       exact⟨_,N⟩
      have HQ:=η (Cg.out bo _ h);clear h Cg HT
      go_wp2_with fail;go_meet;exact HQ.out
    have HQ:Hid (InB w y b m s V (.bool false) w7):= .inr ⟨rfl,R7,c7,t7,v7,z,K.trans G.1,by rw[<-P5.out.mG];exact LF,U,cu⟩;clear z G LF U cu bB
    go_wp2_with fail;go_meet;exact HQ.out
  subst du;have f:=W.out;rw[aa δ,aa δ,aa δ]at f;have Si:=η ((IS.iA (s:=s) (by rw[f];show(2:Int)≠0;decide)).trans f);have k1:=O.cell.cell (i:=1) ω;have z1:=O.cell.frozen' (i:=1) ω;clear f W
  go_wp2_with fail;go_meet;exact .inr ⟨rfl,{ R with at_:=R.at_+3,Ak:=H,nk:=R.nk+1,ck:=d4,kinds:=R.kinds++[((3:Nat):Int)],E:=2 },c4,_,2,O.put (i:=1) ω (.int .i64 2) { R with at_:=R.at_+3,Ak:=H,nk:=R.nk+1,ck:=d4,kinds:=R.kinds++[((3:Nat):Int)],E:=2 } (fR rfl rfl rfl rfl rfl rfl rfl rfl rfl rfl rfl rfl rfl) rfl,K.setCell (p:= ⟨y,1,none⟩) (O.cb y (by rw[O.cg];decide)).1 _,Si.out,δ, ⟨o.out,by show R.kinds++_=s.kinds++_;rw[o.kinds],o.stops,o.au,rfl⟩⟩
 clear eb W P3 O aE o C hX ao lJ K QJ pD Dv Dx;have HS:=η hs;have S:=η hcut;clear hs hcut;rcases S.out with ⟨rfl,a,c1,t,x',C,D,f,uI,c,T,Z,Vb,VH,Y3⟩ | ⟨rfl,a,c1,t,v,C,D,hf,U,hE⟩;rotate_left
 · have HQ:=η (zP.bad HF.out HS.out hf U C D hE);clear S hf U C D hE
   go_wp2_with fail;go_ret;exact HQ.out
 have db:a.ns=a.stops.length:=C.stops.1;have B4:=c.le;have dp:=c.even;have Ve:a.X.length=8*b.length:=by rw[Y3,eT]
 have da:a.ns+1<=1000000000000:=by have:=c.len;omega
 have ce:a.no=t.all.length:=C.out.1.trans (aN List.length c.out);have L:=C.refl.apart.2.2.1;have cm:=C.cell.lt;have kO:=C.lo;have k0:=C.cell.cell (i:=0) ω;have k4:=C.cell.cell (i:=4) ω;rw[show sF a 4= .slice a.As a.ns a.cs from rfl]at k4;rw[show sF a 0= .slice a.Ao a.no a.co from rfl]at k0;have jb:=(C.stops.alloc (.cells #[.int .i64 (a.no:Nat)] 3)).drew;have cQ:=(bT.lit .i64 wc [((a.no:Nat):Int)] 3).drewN 1;have GK:=η ce;clear db ce S
 go_wp2_with fail;obtain⟨B,Kk⟩ :∃B,({ t with x:=x' }:IS).over=B:= ⟨_,rfl⟩;rw[Kk]at uI;have bi:IS.Steps s t.step.1:=f.tail (by rw[uI]);have bl:t.step.1.mu<t.mu:=IS.jK (by rw[uI]);rw[uI]at bi bl
 have ec:Hid (B.mu<gk):=by
  have h1:=f.a86;have h2:=I.out;have h3:B.mu<t.mu:=bl;show _<_;omega
 have ct:=T.steps (IS.Steps.one (s:=t) (by rw[uI]));rw[uI]at ct;have cG:=η (HS.out.trans bi);have dl:a.kinds=t.kinds:=c.kinds;have r:a.X.drop a.at_=x':=c.x;have Kh:({ t with x:=x' }:IS).last=decide (V%2=1):=Z
 have cA:B.all=t.all/\B.kinds=t.kinds/\B.stops=t.stops++[(t.all.length:Int)]/\B.au=t.au/\B.rem=t.rem:=by
  rw[<-Kk];unfold IS.over;split <;> exact⟨rfl,rfl,rfl,rfl,rfl⟩
 have cz:V%2=1->B.x=lN x'/\B.st=8:=λe=>by
  rw[<-Kk];unfold IS.over;rw[af (by rw[Kh];simpa using e)];exact⟨rfl,rfl⟩
 have cx:¬V%2=1->B.x=x'/\B.st=0:=λe=>by
  rw[<-Kk];unfold IS.over;rw[aa (by rw[Kh];simpa using e)];exact⟨rfl,rfl⟩
 have cJ:=η cA;have ej:=η cz;have eg:=η cx;have SY:=η c;have RV:=η (⟨Y3,Vb,VH,Ve,r⟩ :a.X=gK b/\3*a.kinds.length<=a.at_/\a.stops.length+1<=a.kinds.length/\a.X.length=8*b.length/\a.X.drop a.at_=x');have er:(0:Int)<=(a.at_:Int)/\(a.at_:Int)<=100000000000:=by have:=c.len;omega
 have hq:((a.at_:Int)+7)/8=(((a.at_+7)/8:Nat):Int):=ω;have ew:=η hq;clear Kk uI bi bl T f dl r Kh Z cA cz cx c Y3 Vb VH Ve B4 dp hq I
 go_region_law
  ((refine eN .i64 w.heap.size 3 i0 8 rfl (.tmp 68) (.tmp 74) _ rfl Tryz.underlying63 Hi.out i7.out gp.out i9.out rfl jb rfl cQ da ω (by first | (simp;omega) | simp) ?_)
   intro H d4 w4 bL Q dT;have iL:=(C.cell.alloc (.cells #[.int .i64 (a.no:Nat)] 3)).drew.grown Q (λe=>L e.symm);have x4:=iL.cell (i:=4) ω;have z4:=iL.frozen' (i:=4) ω)
 all_goals
  have am:ak H≠some y:=by
   rcases dT with e | e
   · rw[e];exact L
   rw[e];intro P;injection P with P;simp at P;omega
  have h7:=C.refl.Mm (A':=H) (n':=a.ns+1) (c':=d4) (l':=a.stops++[((a.no:Nat):Int)]) (((((bk.refl wc _).alloc _).drew).grown Q (λq hq=> .inl (.inr hq))).setCell (p:= ⟨y,4,none⟩) (.inl (.inl rfl)) (.slice H (a.ns+1) d4)) ((iL.bK (i:=4) ω _).congr (fR rfl rfl rfl rfl rfl rfl rfl rfl rfl rfl rfl rfl rfl)) (bL.far (p:= ⟨y,4,none⟩) am _) (λk I=>by
   rcases dT with e | e
   · exact .inl (e▸I)
   rw[e]at I;injection I with I;simp at I;exact .inr (by show wc.heap.size<=k;omega))
  obtain⟨c7,z,G⟩ :=h7;have rJ:=D.trans G.1;clear C G am bL Q dT iL x4 z4 jb cQ L cm k0 k4;obtain⟨w7,GC⟩ :=ν (w4.setCell ⟨y,4,none⟩ (.slice H (a.ns+1) d4));rw[GC]at z rJ⊢;clear GC;by_cases pj:V%2=1
  rotate_left
  · have cL:((V:Int)%2==1)=false:=ξ;have HH:=η (⟨z,rJ⟩ :_/\_);have bx:=η pj;clear z rJ pj
    go_wp2_with fail;go_roundg B.mu
    case measure=>exact ec.out
    obtain⟨U,uB⟩ :=HH.out;obtain⟨N,P⟩ :=eg.out bx.out;obtain⟨g1,g2,g3,g4,g5⟩ :=cJ.out;have c:=SY.out;obtain⟨Y3,Vb,VH,Ve,r⟩ :=RV.out;refine⟨_,B,c7,U,uB, ⟨r.trans N.symm,c.le,c.out.trans g1.symm,c.kinds.trans g2.symm, ?_,c.au.trans g4.symm, ?_,c.E,c.bit,c.len,c.even, ?_,c.tk⟩,ct,P,cG.out,rfl,Vb, ?_,Y3⟩
    · show a.stops++[((a.no:Nat):Int)]=B.stops;rw[g3,GK.out];congr 1;exact c.stops
    · rw[g1,g5];exact c.most
    · rw[g1,g5];exact c.small
    show(a.stops++[((a.no:Nat):Int)]).length<=a.kinds.length;rw[ag];exact VH
  have k6:=z.cell.cell (i:=6) ω;have z2:=z.cell.frozen' (i:=2) ω;have k2:=z.cell.cell (i:=2) ω;rw[show∀R:RM,sF R 6= .int .i64 (R.at_:Nat) from λ_=>rfl]at k6;have cL:(V:Int)%2=1:=ω;have U:=z.put (i:=2) ω (.int .i64 (((a.at_:Int)+7)/8)) { a with As:=H,ns:=a.ns+1,cs:=d4,stops:=a.stops++[((a.no:Nat):Int)],rest:=(((a.at_:Int)+7)/8) } (fR rfl rfl rfl rfl rfl rfl rfl rfl rfl rfl rfl rfl rfl) rfl;have uB:=rJ.setCell (p:= ⟨y,2,none⟩) (z.cb y (by rw[z.cg];decide)).1 (.int .i64 (((a.at_:Int)+7)/8));have HH:=η (⟨U,uB⟩ :_/\_);have bx:=η pj;clear U uB z rJ pj
  go_wp2_with fail;go_ret;obtain⟨U,uB⟩ :=HH.out;obtain⟨N,P⟩ :=ej.out bx.out;obtain⟨g1,g2,g3,g4,g5⟩ :=cJ.out;have hf:F=(B,8):=by rw[<-HF.out,<-cG.out.mG,IS.PO P]
  have c:=SY.out;obtain⟨Y3,Vb,VH,Ve,r⟩ :=RV.out;subst hf;refine⟨y,c7,_,rfl,U,uB,c.E.trans (by unfold TL;rw[af rfl]), ?_, ?_, ?_, ?_,λ_=> ?_⟩
  · exact c.out.trans g1.symm
  · exact c.kinds.trans g2.symm
  · show a.stops++[((a.no:Nat):Int)]=B.stops;rw[g3,GK.out];congr 1;exact c.stops
  · exact c.au.trans g4.symm
  show(((a.at_:Int)+7)/8)=((b.length-B.x.length/8:Nat):Int);have hl:x'.length=a.X.length-a.at_:=by rw[<-r,az]
  rw[N,mX,hl,Ve];have:=c.le;omega
end
end Go.Proofs.YtdhmnlpfhfmpfaaGreat
