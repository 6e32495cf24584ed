/-
  part
-/
import Derived.Test.YtdhmnlpfhfmpfaaGreatRfA
import Derived.Deep.DeepCutAuto
set_option linter.unusedVariables false
set_option maxRecDepth 100000
set_option maxHeartbeats 8000000
namespace Go.Proofs.YtdhmnlpfhfmpfaaGreat
open Go.RowKit
section
variable {w w' w0 wr w4:World} {b0 g:Nat} {c c0:Nat->Nat} {R R1 R':RM}
theorem pM {A a:Option Addr} {k d d4:Nat} {l:List Int} (z:ie wr b0 g c R1) (n:bj w wr (λk=>k=g)) (t:aW .i64 wr w.heap.size 3 A k d l) (m:∀q,c q≠0->q<w.heap.size) (C:g<w.heap.size) (B:w.heap.size<=wr.heap.size) (v:Int) (i:Nat) (hi:i<13) (R':RM) (hF:∀j,j<13->upd (sF R1) i (.slice a (k+1) d4) j=sF R' j)
  (x:R'={ R1 with E:=R'.E,rest:=R'.rest,at_:=R'.at_,most:=R'.most,Al:=R'.Al,Ad:=R'.Ad,C6:=R'.C6,CO:=R'.CO })
  (h:(wr.alloc (.cells #[.int .i64 v] 3)).grownBy w4 (ai A)) (o:aW .i64 w4 w.heap.size 3 a (k+1) d4 (l++[v])) (u:ai a=ai A\/ai a=some (wr.alloc (.cells #[.int .i64 v] 3)).heap.size):
  ie (w4.setCell ⟨g,i,none⟩ (.slice a (k+1) d4)) b0 g c R'/\bj w (w4.setCell ⟨g,i,none⟩ (.slice a (k+1) d4)) (λk=>k=g)/\aW .i64 (w4.setCell ⟨g,i,none⟩ (.slice a (k+1) d4)) w.heap.size 3 a (k+1) d4 (l++[v]):=by
 have r:∀q,ai A=some q->w.heap.size<=q:=λq b=>(t.2.lt b).1;have s:bj wr w4 (λq=>ai A=some q):=((bj.refl wr (λq=>ai A=some q)).alloc _).grown h (λq e=> .inl e)
 have y:=z.aside s (λq b=>by
  by_cases e:c q=0
  · exact e
  have:=m q e;have:=r q b;omega)
 have f:ai a≠some g:=λe=>by have:=(o.2.lt e).1;omega
 exact⟨y.put hi _ R' hF x,((n.trans s (λq b=> .inr (r q b))).setCell (p:= ⟨g,i,none⟩) (.inl rfl) _),o.far (p:= ⟨g,i,none⟩) f _⟩
def FxR (w:World) (b0 g:Nat) (c:Nat->Nat) (R:RM) (k:Nat) (i:Value) (wr:World):Prop:=
 ∃(j d:Nat) (A:Option Addr),j<=288/\Hid (k=288-j)/\i= .int .i64 j/\ie wr b0 g c { R with Al:= .slice A j d,Ad:= .slice none 0 0 }/\bj w wr (λk=>k=g)/\aW .i64 wr w.heap.size 3 A j d (ig.take j)/\w.heap.size<=wr.heap.size
def FxS (w:World) (b0 g:Nat) (c:Nat->Nat) (R:RM) (a:Option Addr) (b:Nat) (k:Nat) (i:Value) (wr:World):Prop:=
 ∃(j d:Nat) (A:Option Addr),j<=32/\Hid (k=32-j)/\i= .int .i64 j/\ie wr b0 g c { R with Al:= .slice a 288 b,Ad:= .slice A j d }/\bj w wr (λk=>k=g)/\aW .i64 wr w.heap.size 3 A j d (iN.take j)/\aW .i64 wr w.heap.size 3 a 288 b ig/\(∀q,ai A=some q->ai a≠some q)/\w.heap.size<=wr.heap.size
def a1B (w:World) (b0 g:Nat) (c:Nat->Nat) (R:RM) (e:Ending) (w':World):Prop:=
 ∃A1 d1 A2 d2,e= .returned (.tuple #[])/\ie w' b0 g c { R with Al:= .slice A1 288 d1,Ad:= .slice A2 32 d2 }/\bj w w' (λk=>k=g)/\aW .i64 w' w.heap.size 3 A1 288 d1 ig/\aW .i64 w' w.heap.size 3 A2 32 d2 iN
theorem Mn (h:ie w b0 g c R):
  Calls Tryz.prog 52 #[.pointer (some ⟨g,0,none⟩)] w (a1B w b0 g c R):=by
 obtain⟨F,hi,I,H,G⟩ :=aJ mI;have Hi:=η hi;have N:=η I;have M:=η H;have L:=η G;have K:=h.cell.lt;have t:∀q,c q≠0->q<w.heap.size:=λq v=>(h.cb q v).2;have P:=h.cell.cell (i:=8) ω;have T:=h.cell.cell (i:=9) ω;have E:=h.cell.frozen' (i:=8) ω;have Z:=h.cell.frozen' (i:=9) ω;have D:=(h.put (i:=8) ω (.slice none 0 0) { R with Al:= .slice none 0 0 } (fM rfl rfl rfl rfl rfl rfl rfl rfl rfl rfl rfl rfl rfl) rfl).put (i:=9) ω (.slice none 0 0) { R with Al:= .slice none 0 0,Ad:= .slice none 0 0 } (fM rfl rfl rfl rfl rfl rfl rfl rfl rfl rfl rfl rfl rfl) rfl;have C:bj w ((w.setCell ⟨g,8,none⟩ (.slice none 0 0)).setCell ⟨g,9,none⟩ (.slice none 0 0)) (λk=>k=g):=((bj.refl w (λk=>k=g)).setCell (p:= ⟨g,8,none⟩) (.inl rfl) _).setCell (p:= ⟨g,9,none⟩) (.inl rfl) _;clear hi I H G;go_enter Tryz.func52,Tryz.ntmps52
 go_wp2_with fail;go_loopg [2] 288 (FxR w b0 g c R)
 case atStart=>exact⟨0,0,none,aF _,rfl,rfl,D,C,aW.dK,C.size⟩
 clear D C P T E Z;obtain⟨k,d,A,hk,f,rfl,n,b,m,B⟩ :=hrel;have P:=n.cell.cell (i:=8) ω;rw[show sF { R with Al:= .slice A k d,Ad:= .slice none 0 0 } 8= .slice A k d from rfl]at P;have J:=n.cell.lt;have r:ai A≠some g:=λe=>by have:=(m.2.lt e).1;omega
 by_cases l:k<288
 rotate_left
 · obtain rfl:k=288:=ω;have X:ig.take 288=ig:=ay (by rw[pL];omega);rw[X]at m;have HL:=η X;clear X r f
   go_wp2_with fail;go_loopg [4] 32 (FxS w b0 g c R A d)
   case atStart=>exact⟨0,0,none,aF _,rfl,rfl,n,b,aW.dK,m,λq v=>by simp [ai]at v,B⟩
   clear P n b m B J;obtain⟨k,d3,O,hk,f,rfl,n,b,m,Q,dy,B⟩ :=hrel;have T:=n.cell.cell (i:=9) ω;rw[show sF { R with Al:= .slice A 288 d,Ad:= .slice O k d3 } 9= .slice O k d3 from rfl]at T;have J:=n.cell.lt;have r:ai O≠some g:=λe=>by have:=(m.2.lt e).1;omega
   by_cases l:k<32
   rotate_left
   · obtain rfl:k=32:=ω;have hD:Hid (iN.take 32=iN):=ay (by rw[zU];omega)
     go_wp2_with fail;go_end0;exact⟨A,d,O,d3,rfl,n,b,Q,by rw[hD.out]at m;exact m⟩
   have qh:(k:Int)<32/\(0:Int)<=k:=ω;have z:=η (D8 l);have y:=m.alloc (.cells #[.int .i64 5] 3)
   go_wp2_with (at_builtin;(refine ba .i64 w.heap.size 3 F 8 rfl (.tmp 45) (.tmp 46) _ rfl Tryz.underlying63 Hi.out N.out M.out L.out rfl y rfl (bU.lit .i64 wr [5] 3) ω ω ξ ?_)
                intro o d4 w4 x a u;have s:=(n.cell.alloc (.cells #[.int .i64 5] 3)).grown a (λe=>r e.symm);have x9:=s.cell (i:=9) ω;have Z:=s.frozen' (i:=9) ω)
   have j:=pM n b m t K B 5 9 ω { R with Al:= .slice A 288 d,Ad:= .slice o (k+1) d4 } (fM rfl rfl rfl rfl rfl rfl rfl rfl rfl rfl rfl rfl rfl) rfl a x u
   have V:aW .i64 (w4.setCell ⟨g,9,none⟩ (.slice o (k+1) d4)) w.heap.size 3 A 288 d ig:=((Q.alloc (.cells #[.int .i64 5] 3)).grown a (by
    by_cases e:ai A=none
    · exact .inr e
    refine .inl λY=> ?_;cases wG:ai O with
    | none=>rw[wG]at Y;exact e Y
    | some q=>exact dy q wG (by rw[Y,wG]))).far (p:= ⟨g,9,none⟩) (λ(e:ai A=some g)=>by have:=(Q.2.lt e).1;omega) _
   have U:∀q,ai o=some q->ai A≠some q:=λq v e=>by
    rcases u with h4 | h4
    · exact dy q (by rw[<-h4];exact v) e
    rw[h4]at v;injection v with v;have:=(Q.2.lt e).2;simp at v;omega
   go_roundg (gk-1)
   case measure=>have:=f.out;omega
   case rel=>exact⟨k+1,d4,o,l,by show gk-1=_;have:=f.out;omega,by go_num,j.1,j.2.1,by rw[z.out];exact j.2.2,V,U,by have:=b.size;have:=j.2.1.size;omega⟩
 have qh:(k:Int)<288/\(0:Int)<=k:=ω;have ht:=D9 l;rw[EN k l]at ht;have W:(k:Int)<144\/((144:Int)<=k/\(k:Int)<256)\/((144:Int)<=k/\(256:Int)<=k/\¬(k:Int)<256/\(k:Int)<280)\/((144:Int)<=k/\(256:Int)<=k/\¬(k:Int)<256/\¬(k:Int)<280):=ω;rcases W with D | ⟨D,h2⟩ | ⟨D,h2,h3,h4⟩ | ⟨D,h2,h3,h4⟩
 · rw[ae ω]at ht;have z:=η ht;clear ht;have y:=m.alloc (.cells #[.int .i64 8] 3)
   go_wp2_with (at_builtin;(refine ba .i64 w.heap.size 3 F 8 rfl (.tmp 31) (.tmp 33) _ rfl Tryz.underlying63 Hi.out N.out M.out L.out rfl y rfl (bU.lit .i64 wr [8] 3) ω ω ξ ?_)
                intro o d4 w4 x a u;have s:=(n.cell.alloc (.cells #[.int .i64 8] 3)).grown a (λe=>r e.symm);have S:=s.cell (i:=8) ω;have E:=s.frozen' (i:=8) ω)
   have j:=pM n b m t K B 8 8 ω { R with Al:= .slice o (k+1) d4,Ad:= .slice none 0 0 } (fM rfl rfl rfl rfl rfl rfl rfl rfl rfl rfl rfl rfl rfl) rfl a x u;go_roundg (gk-1)
   case measure=>have:=f.out;omega
   case rel=>exact⟨k+1,d4,o,l,by show gk-1=_;have:=f.out;omega,by go_num,j.1,j.2.1,by rw[z.out];exact j.2.2,by have:=b.size;have:=j.2.1.size;omega⟩
 · rw[aa ω,ae ω]at ht;have z:=η ht;clear ht;have y:=m.alloc (.cells #[.int .i64 9] 3)
   go_wp2_with (at_builtin;(refine ba .i64 w.heap.size 3 F 8 rfl (.tmp 31) (.tmp 33) _ rfl Tryz.underlying63 Hi.out N.out M.out L.out rfl y rfl (bU.lit .i64 wr [9] 3) ω ω ξ ?_)
                intro o d4 w4 x a u;have s:=(n.cell.alloc (.cells #[.int .i64 9] 3)).grown a (λe=>r e.symm);have S:=s.cell (i:=8) ω;have E:=s.frozen' (i:=8) ω)
   have j:=pM n b m t K B 9 8 ω { R with Al:= .slice o (k+1) d4,Ad:= .slice none 0 0 } (fM rfl rfl rfl rfl rfl rfl rfl rfl rfl rfl rfl rfl rfl) rfl a x u;go_roundg (gk-1)
   case measure=>have:=f.out;omega
   case rel=>exact⟨k+1,d4,o,l,by show gk-1=_;have:=f.out;omega,by go_num,j.1,j.2.1,by rw[z.out];exact j.2.2,by have:=b.size;have:=j.2.1.size;omega⟩
 · rw[aa ω,aa ω,ae ω]at ht;have z:=η ht;clear ht;have y:=m.alloc (.cells #[.int .i64 7] 3)
   go_wp2_with (at_builtin;(refine ba .i64 w.heap.size 3 F 8 rfl (.tmp 31) (.tmp 33) _ rfl Tryz.underlying63 Hi.out N.out M.out L.out rfl y rfl (bU.lit .i64 wr [7] 3) ω ω ξ ?_)
                intro o d4 w4 x a u;have s:=(n.cell.alloc (.cells #[.int .i64 7] 3)).grown a (λe=>r e.symm);have S:=s.cell (i:=8) ω;have E:=s.frozen' (i:=8) ω)
   have j:=pM n b m t K B 7 8 ω { R with Al:= .slice o (k+1) d4,Ad:= .slice none 0 0 } (fM rfl rfl rfl rfl rfl rfl rfl rfl rfl rfl rfl rfl rfl) rfl a x u;go_roundg (gk-1)
   case measure=>have:=f.out;omega
   case rel=>exact⟨k+1,d4,o,l,by show gk-1=_;have:=f.out;omega,by go_num,j.1,j.2.1,by rw[z.out];exact j.2.2,by have:=b.size;have:=j.2.1.size;omega⟩
 rw[aa ω,aa ω,aa ω]at ht;have z:=η ht;clear ht;have y:=m.alloc (.cells #[.int .i64 8] 3)
 go_wp2_with (at_builtin;(refine ba .i64 w.heap.size 3 F 8 rfl (.tmp 31) (.tmp 33) _ rfl Tryz.underlying63 Hi.out N.out M.out L.out rfl y rfl (bU.lit .i64 wr [8] 3) ω ω ξ ?_)
              intro o d4 w4 x a u;have s:=(n.cell.alloc (.cells #[.int .i64 8] 3)).grown a (λe=>r e.symm);have S:=s.cell (i:=8) ω;have E:=s.frozen' (i:=8) ω)
 have j:=pM n b m t K B 8 8 ω { R with Al:= .slice o (k+1) d4,Ad:= .slice none 0 0 } (fM rfl rfl rfl rfl rfl rfl rfl rfl rfl rfl rfl rfl rfl) rfl a x u;go_roundg (gk-1)
 case measure=>have:=f.out;omega
 case rel=>exact⟨k+1,d4,o,l,by show gk-1=_;have:=f.out;omega,by go_num,j.1,j.2.1,by rw[z.out];exact j.2.2,by have:=b.size;have:=j.2.1.size;omega⟩
end
structure nX (R:RM) (s:IS):Prop where
 x:R.X.drop R.at_=s.x
 le:R.at_<=R.X.length
 out:R.out=s.all
 kinds:R.kinds=s.kinds
 stops:R.stops=s.stops
 aj:R.aj=s.aj
 most:R.most=((s.all.length+s.rem:Nat):Int)
 E:R.E=0
 bit:dJ R.X
 len:R.X.length<=100000000000
 even:R.X.length%8=0
 small:s.all.length+s.rem<=1000000000
 tk:R.aj.length<=R.at_
structure Ey (R R':RM):Prop where
 X:R'.X=R.X
 kinds:R'.kinds=R.kinds
 stops:R'.stops=R.stops
 le:R.at_<=R'.at_
structure Kj (R:RM) (t:IS) (v:Int):Prop where
 out:R.out=t.all
 kinds:R.kinds=t.kinds
 stops:R.stops=t.stops
 aj:R.aj=t.aj
 E:R.E=v
def fP (w0:World) (c0:Nat->Nat) (b0 g:Nat) (R:RM) (s:IS) (e:Ending) (w':World):Prop:=
 (∃R' t x',e= .returned (.bool true)/\bV w0 c0 w' b0 g R'/\IS.Steps s t/\t.step=(({ t with x:=x' }:IS).over,0)/\nX R' { t with x:=x' }/\Ey R R')\/
 (∃R' t v,e= .returned (.bool false)/\bV w0 c0 w' b0 g R'/\s.fin=(t,v)/\v≠8/\Kj R' t v)
section
variable {w w' w0:World} {b0 g:Nat} {c c0:Nat->Nat} {R R':RM} {s t t':IS} {v:Int}
theorem fP.bad (a:IS.Steps s t) (h:t.step=(t',v)) (d:v≠0) (c:v≠8) (b:bV w0 c0 w' b0 g R') (hE:Kj R' t' v):fP w0 c0 b0 g R s (.returned (.bool false)) w':=
 .inr ⟨R',t',v,rfl,b,by rw[<-a.mr,IS.ir (by rw[h];exact d),h],c,hE⟩
theorem fP.ok {x':List Int} (a:IS.Steps s t) (h:t.step=(({ t with x:=x' }:IS).over,0)) (c:bV w0 c0 w' b0 g R') (d:nX R' { t with x:=x' }) (b:Ey R R'):fP w0 c0 b0 g R s (.returned (.bool true)) w':=
 .inl ⟨R',t,x',rfl,c,a,h,d,b⟩
theorem xx (x:List Int) (h:dJ x) (a b:Nat):num x (a+b)=num x a+2 ^ a*num (x.drop a) b\/x.length<a+b:=by
 by_cases d:x.length<a+b
 · exact .inr d
 refine .inl ?_;have e:x.take (a+b)=x.take a++(x.drop a).take b:=by rw[List.take_add]
 have c:=qJ h (a+b);have g:=qJ h a;have f:=qJ (h.dX a) b;rw[e,iZ,<-g,<-f,aA,bw ω]at c;have h4:((2 ^ a:Nat):Int)=2 ^ a:=σ;have:((num x (a+b):Nat):Int)=((num x a+2 ^ a*num (x.drop a) b:Nat):Int):=by rw[c];simp
 omega
def AlR (w0:World) (c0:Nat->Nat) (b0 g:Nat) (R:RM) (k:Nat) (wr:World):Prop:=
 ∃a,R.at_<=a/\Hid (a<=(R.at_+7)/8*8)/\bV w0 c0 wr b0 g { R with at_:=a }/\Hid (k=(R.at_+7)/8*8-a)
def StR (w0:World) (c0:Nat->Nat) (b0 g:Nat) (R:RM) (s:IS) (n:Nat) (k:Nat) (i:Value) (wr:World):Prop:=
 ∃j R' t,j<=n/\i= .int .i64 j/\Hid (k=n-j)/\bV w0 c0 wr b0 g R'/\IS.Steps s t/\nX R' t/\t.Ok/\t.st=2/\Hid (t.left=n-j)/\Ey R R'
theorem Jd (h:bV w0 c0 w b0 g R) (hO:s.Ok) (L:s.st=1) (hx:lD (R.X.drop R.at_)=s.x) (f:nX R { s with x:=R.X.drop R.at_ }):
  Calls Tryz.prog 51 #[.pointer (some ⟨g,0,none⟩)] w (fP w0 c0 b0 g R s):=by
 have y:=f.len;have tU:=f.even;have be:=f.le;obtain⟨A,hA⟩ :=ν ((R.at_+7)/8*8);have bp:A<=R.X.length:=ω
 have z:Hid (R.X.drop A=s.x):=by
  show _=_;rw[<-hx];unfold lD;rw[bm,av];congr 1;omega
 have HA:=η hA;have am:Hid (∀a,R.at_<=a->a<=A->a%8=0->a=A):=λa h1 h2 h3=>ω;have an:Hid (∀a,R.at_<=a->a<=A->a%8≠0->a+1<=A):=λa h1 h2 h3=>ω;have Z:=η L;have bv:=η tU;have kZ:Hid (AlR w0 c0 b0 g R (A-R.at_) w):= ⟨R.at_,ag _,by show _<=_;omega,h,by show _=_;omega⟩;have bs:(A:Int)<=100000000000:=ω;clear hA tU L hx h;go_enter Tryz.func51,Tryz.ntmps51
 go_wp2_with fail;go_loopg [] (A-R.at_) (AlR w0 c0 b0 g R)
 case atStart=>exact kZ.out
 clear kZ;obtain⟨a,m,v,h,G⟩ :=hrel;obtain⟨-,k1, -, -, -,k5,k6, -⟩ :=h.cells;have z6:=h.cell.frozen' (i:=6) ω;have z1:=h.cell.frozen' (i:=1) ω;have J:=v.out;rw[HA.out]at J;have bl:(0:Int)<=a/\(a:Int)<=100000000000:=ω;by_cases O:a%8=0
 rotate_left
 · have Gu:(0:Int)<(a:Int)%8:=ω;have h2:=h.put (i:=6) ω (.int .i64 ((a:Int)+1)) { R with at_:=a+1 } (fM rfl rfl rfl rfl rfl rfl rfl rfl rfl rfl rfl rfl rfl) rfl;have iX:=η (an.out a m J O);clear O
   go_wp2_with fail;go_roundg (gk-1)
   case measure=>have:=G.out;have:=HA.out;have:=iX.out;omega
   case rel=>exact⟨a+1,ω,by show _<=_;rw[HA.out];exact iX.out,h2,by show gk-1=_;have:=G.out;omega⟩
 have ao:=am.out a m J O;subst ao;have Gu:(a:Int)%8=0:=ω;have ap:¬(0:Int)<(a:Int)%8:=ω;obtain⟨e,u⟩ :=ν (a+32);have hw:IntKind.i64.wrap ((a:Int)+32)=(e:Int):=by rw[aK _ ω];omega
 have rI:R.nb=R.X.length:=h.nb;have Q:s.x.length=R.X.length-a:=by rw[<-z.out,av]
 have d:Hid (s.step=s.size):=by show _=_;unfold IS.step;rw[aa (by have:=Z.out;omega),ae Z.out]
 unfold IS.size at d;have HE:=η u;by_cases aE:(R.nb:Int)<(e:Int)
 · have hs:=η (d.out.trans (ae ω));have h1:=h.drew.put (i:=1) ω (.int .i64 5) { R with at_:=a,E:=5 } (fM rfl rfl rfl rfl rfl rfl rfl rfl rfl rfl rfl rfl rfl) rfl;clear u rI Q d G O m v J
   go_wp2_with fail;go_region
   all_goals
    go_wp2_with fail;go_ret;exact fP.bad (.refl s) hs.out δ δ h1 ⟨f.out,f.kinds,f.stops,f.aj,rfl⟩
 have o:=η (d.out.trans (aa ω));have S:=f.bit;have uZ:=λW (n:bV w0 c0 W b0 g { R with at_:=a })=>jT n 16 ω (au y ω) S (by show a+16<=R.X.length;omega) _ rfl;have NM:=λW (n:bV w0 c0 W b0 g { R with at_:=a+16 })=>jT n 16 ω (au y ω) S (by show a+16+16<=R.X.length;omega) _ rfl;have l:=(xx (R.X.drop a) (S.dX a) 16 16).resolve_right (by rw[av];omega);have yH:=gD (S.dX a) 16;have r:=gD ((S.dX a).dX 16) 16;rw[bm]at l r;obtain⟨N,hN⟩ :=ν (num (R.X.drop a) 16);obtain⟨P,hP⟩ :=ν (num (R.X.drop (a+16)) 16);have uZ:∀W,bV w0 c0 W b0 g { R with at_:=a }->Calls Tryz.prog 50 #[.pointer (some ⟨g,0,none⟩), .int .i64 16] W λe w'=>e= .returned (.tuple #[.int .i64 (N:Nat), .bool true])/\bV w0 c0 w' b0 g { R with at_:=a+16 }:=λW n=>by rw[<-hN];exact uZ W n
 have NM:∀W,bV w0 c0 W b0 g { R with at_:=a+16 }->Calls Tryz.prog 50 #[.pointer (some ⟨g,0,none⟩), .int .i64 16] W λe w'=>e= .returned (.tuple #[.int .i64 (P:Nat), .bool true])/\bV w0 c0 w' b0 g { R with at_:=a+32 }:=λW n=>by rw[<-hP];exact NM W n
 rw[hN,hP]at l;have l:num (R.X.drop a) 32=N+2 ^ 16*P:=l;rw[hN]at yH;rw[hP]at r;have sY:=η uZ;have Xh:=η NM
 have Y:Hid (num s.x 32%65536=N/\num s.x 32/65536=P):=by
  rw[<-z.out];have:(2:Nat) ^ 16=65536:=δ;rw[this]at l yH r;refine⟨?_, ?_⟩ <;> omega
 have bo:(0:Int)<=N/\(N:Int)<65536/\(0:Int)<=P/\(P:Int)<65536:=by
  have:(2:Nat) ^ 16=65536:=δ;omega
 have ac:Hid (R.X.drop (a+32)=s.x.drop 32):=by show _=_;rw[<-z.out,bm]
 rw[Y.out.1,Y.out.2]at o;clear uZ NM l yH r hN hP u rI Q d G O;by_cases AX:N+P=65535
 rotate_left
 · have H:=η (o.out.trans (aa AX));have M:(((N:Int)+(P:Int))==65535)=false:=ξ;clear AX o m v J
   go_wp2_with fail;go_region
   all_goals
    go_wp2_with fail;refine(sY.out _ h.drew).mono ?_;rintro e w5 ⟨rfl,h5⟩
    go_wp2_with fail;refine(Xh.out _ h5).mono ?_;rintro e w6 ⟨rfl,h6⟩;obtain⟨-,j1, -⟩ :=h6.cells;have y1:=h6.cell.frozen' (i:=1) ω;have h7:=h6.put (i:=1) ω (.int .i64 2) { R with at_:=a+32,E:=2 } (fM rfl rfl rfl rfl rfl rfl rfl rfl rfl rfl rfl rfl rfl) rfl
    go_wp2_with fail;go_ret;exact fP.bad (.refl s) H.out δ δ h7 ⟨f.out,f.kinds,f.stops,f.aj,rfl⟩
 have H:=η (o.out.trans (ae AX));have ah:(N:Int)+(P:Int)=65535:=ω;have M:(((N:Int)+(P:Int)) != 65535)=false:=ξ;have ab:=η m
 have fA:Hid (∀W,bV w0 c0 W b0 g { R with at_:=a+32 }->StR w0 c0 b0 g R s N N (.int .i64 0) W):=λW n=>by
  have vD:=hO.step (.inl (by rw[H.out]));rw[H.out]at vD;have T:=IS.Steps.one (s:=s) (by rw[H.out]);rw[H.out]at T;exact⟨0,_,_,aF _,rfl,rfl,n,T, ⟨ac.out,by show a+32<=R.X.length;have h8:=HE.out;have h9:R.nb=R.X.length:=h.nb;omega,f.out,f.kinds,f.stops,f.aj,f.most,f.E,f.bit,f.len,f.even,f.small,au f.tk (by show R.at_<=a+32;have:=ab.out;omega)⟩,vD,rfl,rfl, ⟨rfl,rfl,rfl,by show R.at_<=a+32;have:=ab.out;omega⟩⟩
 clear AX o m v J ah
 go_wp2_with fail;go_region
 all_goals
  go_wp2_with fail;refine(sY.out _ h.drew).mono ?_;rintro e w5 ⟨rfl,h5⟩
  go_wp2_with fail;refine(Xh.out _ h5).mono ?_;rintro e w6 ⟨rfl,h6⟩
  go_wp2_with fail;clear M;go_loopg [7] N (StR w0 c0 b0 g R s N)
  case atStart=>exact fA.out _ h6
  clear fA h5 h6 h;obtain⟨j,R1,t,hj,rfl,G,h,q,c,vD,kh,F,U⟩ :=hrel;have Cn:=η kh;have Sl:=η U;have b:Hid (t.step=t.stored):=by show _=_;unfold IS.step;rw[aa ω,aa ω,ae kh]
  unfold IS.stored at b;clear kh U;by_cases bi:(j:Int)<(N:Int)
  rotate_left
  · have k:t.left=0:=by have:=F.out;omega
    have B:=η (b.out.trans (ae k));clear k b
    go_wp2_with fail;go_ret;exact fP.ok (x':=t.x) q B.out h c Sl.out
  have k:t.left≠0:=by have:=F.out;omega
  have B:=η (b.out.trans (aa k));have AJ:=c.len;have AE:=c.le;have nH:t.x.length=R1.X.length-R1.at_:=by rw[<-c.x,av]
  by_cases K:t.x.length<8
  · have I:=η (B.out.trans (ae K));have ht:=η (nV h 8 ω ω AE ω);clear K nH AJ AE k b B
    go_wp2_with fail;refine ht.out.mono ?_;rintro e w7 ⟨rfl,h7⟩
    go_wp2_with fail;go_ret;exact fP.bad q I.out δ δ h7 ⟨c.out,c.kinds,c.stops,c.aj,rfl⟩
  have I:=η (B.out.trans (aa K));unfold IS.emit at I;have Vg:=gD (c.bit.dX R1.at_) 8;rw[c.x]at Vg;obtain⟨V,hV⟩ :=ν (((num t.x 8:Nat):Int):Int);have ht:=η (jT h 8 ω ω c.bit ω V (by rw[c.x,hV]));rw[hV]at I;have F4:0<=V/\V<256:=by have:(2:Nat) ^ 8=256:=δ;omega
  have ad:Hid (R1.X.drop (R1.at_+8)=t.x.drop 8):=by show _=_;rw[<-c.x,bm]
  have al:Hid (R1.at_+8<=R1.X.length):=by show _<=_;omega
  have jE:=c.most;have Dq:R1.out.length=t.all.length:=by rw[c.out]
  have C:=c.small;by_cases hr:t.rem=0
  · have u:∀W,bV w0 c0 W b0 g { R1 with at_:=R1.at_+8 }->Calls Tryz.prog 70 #[.pointer (some ⟨g,0,none⟩), .int .u8 V] W λe w'=>e= .returned (.bool false)/\bV w0 c0 w' b0 g { R1 with at_:=R1.at_+8,E:=6 }:=λW n=>xE n V (by show R1.most<=_;rw[jE];show _<=((R1.out.length:Nat):Int);omega);have Rj:=η u;have p:Hid (t.step=({ t with x:=t.x.drop 8,left:=t.left-1,all:=t.all++[V].take t.rem,rem:=t.rem - [V].length },6)):=I.out.trans (by rw[ae ξ]);have UQ:=η hr;clear u hr hV Vg K nH AJ AE k jE Dq C b B
    go_wp2_with fail;refine ht.out.mono ?_;rintro e w7 ⟨rfl,h7⟩
    go_wp2_with fail;refine(Rj.out _ h7).mono ?_;rintro e w8 ⟨rfl,h8⟩
    go_wp2_with fail;go_ret;exact fP.bad q p.out δ δ h8 ⟨by rw[UQ.out];show R1.out=t.all++[V].take 0;rw[c.out];simp,c.kinds,c.stops,c.aj,rfl⟩
  have u:∀W,bV w0 c0 W b0 g { R1 with at_:=R1.at_+8 }->Calls Tryz.prog 70 #[.pointer (some ⟨g,0,none⟩), .int .u8 V] W (Eo w0 c0 b0 g { R1 with at_:=R1.at_+8 } V):=λW n=>Bq n V (by show((R1.out.length:Nat):Int)<R1.most;rw[jE];omega) (by show R1.out.length<=_;omega);have Rj:=η u;have p:Hid (t.step=({ t with x:=t.x.drop 8,left:=t.left-1,all:=t.all++[V].take t.rem,rem:=t.rem - [V].length },0)):=I.out.trans (by rw[aa ξ]);have D:Hid ([V].take t.rem=[V]):=ay ξ;have UQ:=η hr;have yq:=η C;have bt:=η k;clear u hr hV Vg K nH AJ AE k jE Dq C b B
  go_wp2_with fail;refine ht.out.mono ?_;rintro e w7 ⟨rfl,h7⟩
  go_wp2_with fail;refine(Rj.out _ h7).mono ?_;rintro e w8 ⟨A8,n8,c8,rfl,h8⟩
  go_wp2_with fail;go_roundg (gk-1)
  case measure=>have:=G.out;omega
  have x7:=vD.step (.inl (by rw[p.out]));have rE:=IS.Steps.tail q (by rw[p.out]);rw[p.out]at x7 rE;refine⟨j+1,_,_,ω,by go_num,by show gk-1=_;have:=G.out;omega,h8,rE, ⟨ad.out,al.out, ?_,c.kinds,c.stops,c.aj, ?_,c.E,c.bit,c.len,c.even, ?_,au c.tk (by show R1.at_<=R1.at_+8;omega)⟩,x7,Cn.out,by show t.left-1=_;have:=F.out;omega, ⟨Sl.out.X,Sl.out.kinds,Sl.out.stops,au Sl.out.le (by show R1.at_<=R1.at_+8;omega)⟩⟩
  · show R1.out++[V]=t.all++[V].take t.rem;rw[D.out,c.out]
  · show R1.most=(((t.all++[V].take t.rem).length+(t.rem - [V].length):Nat):Int);rw[c.most,D.out,af];have:=UQ.out;simp;omega
  show(t.all++[V].take t.rem).length+(t.rem - [V].length)<=_;rw[D.out,af];have:=UQ.out;have:=yq.out;simp;omega
end
section
variable {w w' w0 w2:World} {b0 g:Nat} {c c0:Nat->Nat} {R R':RM} {s t t':IS} {v:Int}
theorem lV.Vu (w:World) (t:cu):lV (w.alloc (.cells #[.int .u8 t.lit, .int .i64 t.len, .int .i64 t.bk] 109)) (w.heap.size+1) (some ⟨w.heap.size,0,none⟩) 1 [t]:=by
 have h:=BP w t.lit t.len t.bk 109;refine⟨rfl,λ_=> ⟨_,rfl,σ,λi hi=> ?_⟩⟩;obtain rfl:i=0:=ω;exact⟨by rw[nY];exact h.cell (i:=0) ω,by rw[nY];exact h.cell (i:=1) ω,by rw[nY];exact h.cell (i:=2) ω⟩
theorem bV.a1u (h:bV w0 c0 w b0 g R) (t:cu) {o:Obj} {A2:Option Addr} {d c2:Nat} (m:(w.alloc o).grownBy w2 (ai R.At)) (l:jW w2 b0 A2 d c2 (R.aj++[t])) (b:ai A2=ai R.At\/ai A2=some (w.alloc o).heap.size):
  bV w0 c0 (w2.setCell ⟨g,12,none⟩ (.slice A2 d c2)) b0 g { R with At:=A2,nt:=d,ct:=c2,aj:=R.aj++[t] }:=by
 have c:=h.apart.2.2.2;have s:=h.cell.lt;have r:=(h.cell.alloc o).grown m (λe=>c e.symm)
 have f:ai A2≠some g:=by
  rcases b with e | e
  · rw[e];exact c
  rw[e];intro j;injection j with j;simp at j;omega
 refine h.VF ((((bj.refl w _).alloc _).grown m (λq n=> .inl (.inr n))).setCell (p:= ⟨g,12,none⟩) (.inl (.inl rfl)) _) ((r.bC (i:=12) ω _).congr (fM rfl rfl rfl rfl rfl rfl rfl rfl rfl rfl rfl rfl rfl)) ⟨l.1,l.2.far (p:= ⟨g,12,none⟩) f _⟩ (λk a=> ?_);rcases b with e | e
 · exact .inl (e▸a)
 rw[e]at a;injection a with a;simp at a;exact .inr ω
theorem a05 (x:Int) (j:Nat) (b:j<29) (a:x=257+(j:Int)) (w:World):Calls Tryz.prog 73 #[.int .i64 x] w λe w'=>e= .returned (.tuple #[.int .i64 ((lB j:Nat):Int), .int .i64 ((lE j:Nat):Int), .bool true])/\w=w':=by
 have:=IK x w;unfold IJ at this;rw[ae ω,show(x-257).toNat=j by omega]at this;exact this
theorem a04 (x:Int) (a:x<257\/285<x) (w:World):Calls Tryz.prog 73 #[.int .i64 x] w λe w'=>e= .returned (.tuple #[.int .i64 0, .int .i64 0, .bool false])/\w=w':=by
 have:=IK x w;unfold IJ at this;rw[aa ω]at this;exact this
theorem Tb (x:Int) (j:Nat) (b:j<30) (a:x=(j:Int)) (w:World):Calls Tryz.prog 74 #[.int .i64 x] w λe w'=>e= .returned (.tuple #[.int .i64 ((dB j:Nat):Int), .int .i64 ((dE j:Nat):Int), .bool true])/\w=w':=by
 have:=D5 x w;unfold zN at this;rw[ae ω,show(x-0).toNat=j by omega]at this;exact this
theorem Ta (x:Int) (a:x<0\/29<x) (w:World):Calls Tryz.prog 74 #[.int .i64 x] w λe w'=>e= .returned (.tuple #[.int .i64 0, .int .i64 0, .bool false])/\w=w':=by
 have:=D5 x w;unfold zN at this;rw[aa ω]at this;exact this
theorem Ko (l:List Int) (D:Nat) {j N:Nat} (h:j<=N):(again l D N).take j=again l D j:=by
 unfold again;rw[<-List.map_take,List.take_range,bw h]
structure TkS (R R':RM):Prop where
 Al:R'.Al=R.Al
 Ad:R'.Ad=R.Ad
 C6:R'.C6=R.C6
 CO:R'.CO=R.CO
 keep:Ey R R'
def a1N (w0:World) (c0:Nat->Nat) (b0 g:Nat) (R:RM) (s:IS) (k:Nat) (wr:World):Prop:=
 ∃R' t,bV w0 c0 wr b0 g R'/\IS.Steps s t/\nX R' t/\t.Ok/\t.st=6/\TkS R R'/\Hid (k=t.mu)/\Hid (t.lt=s.lt)/\Hid (t.ds=s.ds)
def EmR (w0:World) (c0:Nat->Nat) (b0 g:Nat) (R:RM) (t:IS) (D N:Nat) (k:Nat) (i:Value) (wr:World):Prop:=
 ∃j A n cc,j<=N/\Hid (j<=t.rem)/\Hid (k=N-j)/\i= .int .i64 j/\bV w0 c0 wr b0 g { R with Ao:=A,no:=n,co:=cc,out:=t.all++again t.all D j }
theorem yj (h:ie w b0 g c R) (b:nX R s) (hO:s.Ok) (O:s.st=6) (Al Ad:Option Addr) (nl cl d cd:Nat) (JV:R.Al= .slice Al nl cl) (eb:R.Ad= .slice Ad d cd)
  (hl:bU .i64 w w.heap.size Al nl s.lt) (hd:bU .i64 w w.heap.size Ad d s.ds) (kz:0<nl->∀r,Al=some r->c r.block=0) (qg:0<d->∀r,Ad=some r->c r.block=0):
  Calls Tryz.prog 53 #[.pointer (some ⟨g,0,none⟩)] w (fP w c b0 g R s):=by
 obtain⟨i0,hi,cE,cD,cB⟩ :=aJ Ek;have Hi:=η hi;have gV:=η cE;have fY:=η cD;have gW:=η cB;obtain⟨ey,ex⟩ :=hO.h6 (.inl O);obtain⟨de,dl, -⟩ :=vx ey;obtain⟨Xr,dp, -⟩ :=vx ex;have k8:=h.cell.cell (i:=8) ω;rw[show sF R 8= .slice Al nl cl from JV]at k8;have XC:=h.cell.cell (i:=10) ω;have gd:=h.cell.frozen' (i:=10) ω;have fX:nl<=288:=by rw[hl.1];exact de
 have AQ:d<=288:=by rw[hd.1];exact Xr
 have oL:=h.cell.lt;have OC:=η JV;have XU:=η eb;have fA:=η O;have Eu:=η (show∀i,i<nl->0<=ix s.lt i/\ix s.lt i<=15 from λi hi=>dl i (by rw[<-hl.1];exact hi));have gb:=η (show∀i,i<d->0<=ix s.ds i/\ix s.ds i<=15 from λi hi=>dp i (by rw[<-hd.1];exact hi));have Kc:=η kz;have Rh:=η qg;clear hi cE cD cB ey ex de dl Xr dp JV eb O kz qg;go_enter Tryz.func53,Tryz.ntmps53
 go_wp2_with fail;refine(uM _ _ _ _ _ _ hl (ag _) fX).mono ?_;rintro e w1 ⟨T,rfl,dz,Y,fr⟩;have F:=h.keeps Y;have gh:=F.cell.cell (i:=10) ω;have gf:=F.cell.frozen' (i:=10) ω;have Z:=F.put (i:=10) ω (.slice (some ⟨T,0,none⟩) nl nl) { R with C6:= .slice (some ⟨T,0,none⟩) nl nl } (fM rfl rfl rfl rfl rfl rfl rfl rfl rfl rfl rfl rfl rfl) rfl;have Ib:bj w1 (w1.setCell ⟨g,10,none⟩ (.slice (some ⟨T,0,none⟩) nl nl)) (λk=>k=g):=(bj.refl w1 (λk=>k=g)).setCell (p:= ⟨g,10,none⟩) (.inl rfl) _;have x9:=Z.cell.cell (i:=9) ω;rw[show sF { R with C6:= .slice (some ⟨T,0,none⟩) nl nl } 9= .slice Ad d cd from XU.out]at x9
 have fb:Hid (∀(nn:Nat) (A:Option Addr),(0<nn->∀r,A=some r->c r.block=0)->0<nn->∀r,A=some r->¬r.block=g):=λnn A hq h0 r e B=>by
  have:=hq h0 r e;rw[B,h.cg]at this;exact absurd this δ
 have sq:=Ib.rA (hd.below Y) Y.size (λh0 r e=>fb.out d Ad Rh.out h0 r e)
 go_wp2_with fail;refine(uM _ _ _ _ _ _ sq (au Y.size Ib.size) AQ).mono ?_;rintro e w3 ⟨N,rfl,dy,ah,fn⟩;have h3:=Z.keeps ah;have gg:=h3.cell.cell (i:=11) ω;have ge:=h3.cell.frozen' (i:=11) ω;have h4:=h3.put (i:=11) ω (.slice (some ⟨N,0,none⟩) d d) { R with C6:= .slice (some ⟨T,0,none⟩) nl nl,CO:= .slice (some ⟨N,0,none⟩) d d } (fM rfl rfl rfl rfl rfl rfl rfl rfl rfl rfl rfl rfl rfl) rfl;have Zb:bj w3 (w3.setCell ⟨g,11,none⟩ (.slice (some ⟨N,0,none⟩) d d)) (λk=>k=g):=(bj.refl w3 (λk=>k=g)).setCell (p:= ⟨g,11,none⟩) (.inl rfl) _;have f:w.heap.size<=(w1.setCell ⟨g,10,none⟩ (.slice (some ⟨T,0,none⟩) nl nl)).heap.size:=au Y.size Ib.size;have hs3:=au f ah.size
 have ca:∀q,w.heap.size<=q->c q=0:=λq hq=>by
  by_cases e:c q=0
  · exact e
  have:=(h.cb q e).2;omega
 have aE:bj w (w3.setCell ⟨g,11,none⟩ (.slice (some ⟨N,0,none⟩) d d)) (λk=>c k≠0):=by
  have o:bj w w1 (λk=>c k≠0):=bj.bA Y;have a2:=o.trans Ib (λk hk=> .inl (by rw[hk,h.cg];decide));have a3:bj w w3 (λk=>c k≠0):=a2.trans (bj.bA (S:=λ_=>False) ah) (λk hk=>hk.elim);exact a3.trans Zb (λk hk=> .inl (by rw[hk,h.cg];decide))
 have Ru:DE w.heap.size w c (w3.setCell ⟨g,11,none⟩ (.slice (some ⟨N,0,none⟩) d d)) c->True:=λ_=>trivial;have bx:bU .i64 (w3.setCell ⟨g,11,none⟩ (.slice (some ⟨N,0,none⟩) d d)) w.heap.size Al nl s.lt:=aE.rA hl (ag _) (λh0 r e B=>B (Kc.out h0 r e));have Am:bU .i64 (w3.setCell ⟨g,11,none⟩ (.slice (some ⟨N,0,none⟩) d d)) w.heap.size Ad d s.ds:=aE.rA hd (ag _) (λh0 r e B=>B (Rh.out h0 r e))
 have bv:bU .u32 (w3.setCell ⟨g,11,none⟩ (.slice (some ⟨N,0,none⟩) d d)) w1.heap.size (some ⟨T,0,none⟩) nl (jd s.lt):=by
  have q1:=Ib.rA dz (ag _) (λ_ r e B=>by injection e with e;subst e;simp only at B;omega);have q2:=q1.below (ah.mono Ib.size);exact Zb.rA q2 (au Ib.size ah.size) (λ_ r e B=>by injection e with e;subst e;simp only at B;omega)
 have bI:bU .u32 (w3.setCell ⟨g,11,none⟩ (.slice (some ⟨N,0,none⟩) d d)) w3.heap.size (some ⟨N,0,none⟩) d (jd s.ds):=Zb.rA dy (ag _) (λ_ r e B=>by injection e with e;subst e;simp only at B;omega)
 have ew:∀w' R',bV (w3.setCell ⟨g,11,none⟩ (.slice (some ⟨N,0,none⟩) d d)) c w' b0 g R'->bV w c w' b0 g R':=λw' R' hr=>
  bV.fp h4 (DE.step (c':=c) (⟨aw _ _,bj.refl _ _,λ_ _=>rfl⟩ :DE b0 w c w c) h.lo (λk hk=>(h.cb k hk).1) aE (λ_ _=>rfl)) hr
 obtain⟨u,Ds⟩ :=ν (w3.setCell ⟨g,11,none⟩ (.slice (some ⟨N,0,none⟩) d d))
 have C:∀wr R',bV u c wr b0 g R'->bU .i64 wr wr.heap.size Al nl s.lt/\bU .i64 wr wr.heap.size Ad d s.ds/\bU .u32 wr wr.heap.size (some ⟨T,0,none⟩) nl (jd s.lt)/\bU .u32 wr wr.heap.size (some ⟨N,0,none⟩) d (jd s.ds):=λwr R' hr=>by
  obtain⟨ha, -⟩ :=hr.aside;rw[Ds]at bx Am bv bI;have rJ:w3.heap.size<=u.heap.size:=by rw[<-Ds];exact Zb.size
  have bo:w1.heap.size<=u.heap.size:=au (au Ib.size ah.size) rJ;have ao:w.heap.size<=u.heap.size:=au Y.size bo;refine⟨(ha.rA bx ao (λh0 r e B=>B (Kc.out h0 r e))).more (au ao ha.size),(ha.rA Am ao (λh0 r e B=>B (Rh.out h0 r e))).more (au ao ha.size),(ha.rA bv bo (λ_ r e B=> ?_)).more (au bo ha.size),(ha.rA bI rJ (λ_ r e B=> ?_)).more (au rJ ha.size)⟩
  · injection e with e;subst e;exact B (ca _ fr)
  injection e with e;subst e;exact B (ca _ (au f fn))
 rw[Ds]at h4;have fa:=η C;have Xe:Hid (∀w' R',bV u c w' b0 g R'->bV w c w' b0 g R'):=λw' R' hr=>by rw[<-Ds]at hr;exact ew w' R' hr
 have Gl:=η Ds
 have kZ:Hid (a1N u c b0 g { R with C6:= .slice (some ⟨T,0,none⟩) nl nl,CO:= .slice (some ⟨N,0,none⟩) d d } s s.mu u):=
  ⟨_,s,h4.refl, .refl s, ⟨b.x,b.le,b.out,b.kinds,b.stops,b.aj,b.most,b.E,b.bit,b.len,b.even,b.small,b.tk⟩,hO,fA.out, ⟨rfl,rfl,rfl,rfl, ⟨rfl,rfl,rfl,ag _⟩⟩,rfl,rfl,rfl⟩
 clear Ds C ew Ru aE ca bx Am bv bI h4 h3 Z F hl hd sq dz dy
 go_wp2_with fail;rw[Gl.out];have I2:∃R0:RM,({ R with C6:= .slice (some ⟨T,0,none⟩) nl nl,CO:= .slice (some ⟨N,0,none⟩) d d }:RM)=R0/\R0.Al= .slice Al nl cl/\R0.Ad= .slice Ad d cd/\R0.C6= .slice (some ⟨T,0,none⟩) nl nl/\R0.CO= .slice (some ⟨N,0,none⟩) d d/\Ey R R0:= ⟨_,rfl,OC.out,XU.out,rfl,rfl, ⟨rfl,rfl,rfl,ag _⟩⟩;obtain⟨R0,I2,eg,YQ,ef,ej,en⟩ :=I2;rw[I2]at kZ;have XT:=η (And.intro eg (And.intro YQ (And.intro ef (And.intro ej en))));clear I2 eg YQ ef ej en b hO;go_loopg [] s.mu (a1N u c b0 g R0 s)
 case atStart=>exact kZ.out
 clear kZ;obtain⟨R1,t,h,hs,b,hO,O,G,hk,bt,bB⟩ :=hrel;have k8:=h.cell.cell (i:=8) ω;rw[show sF R1 8= .slice Al nl cl from G.Al.trans XT.out.1]at k8;have XC:=h.cell.cell (i:=10) ω;rw[show sF R1 10= .slice (some ⟨T,0,none⟩) nl nl from G.C6.trans XT.out.2.2.1]at XC;have gc:=b.len;have fl:=b.le;have ap:=b.small;have jF:Hid (t.step=t.token):=JD O;unfold IS.token at jF;obtain⟨K,hK⟩ :=ν ((aI t.lt t.x).1);obtain⟨n,hn⟩ :=ν ((aI t.lt t.x).2.1);obtain⟨E,hE⟩ :=ν ((aI t.lt t.x).2.2);have gU:Hid (E=0\/E=3\/E=5):=by have:=eV t.lt t.x;rw[hE]at this;exact this
 have oC:Hid (E=0->0<=K/\K<288/\n<=t.x.length):=λh=>by
  obtain⟨k2,y,e1,B,e3,e4,e5⟩ :=lT (l:=t.lt) (x:=t.x) hO.bit (by rw[hE,h];simp);have h6:=(vx (hO.h6 (.inl O)).1).1;rw[e1]at hK hn;simp at hK hn;omega
 have UC:Hid (E=0->1<=n):=λh=>by have:=jh (l:=t.lt) (x:=t.x) (by rw[hE];exact h);rw[hn]at this;exact this.1
 have dd:aI t.lt t.x=(K,n,E):=by rw[<-hK,<-hn,<-hE]
 rw[hK,hn,hE]at jF
 have Qc:∀W,bV u c W b0 g R1->Calls Tryz.prog 72 #[.pointer (some ⟨g,0,none⟩), .slice Al nl cl, .slice (some ⟨T,0,none⟩) nl nl] W (EB u c b0 g R1 K n E):=λW H=>by
  obtain⟨o,a2,a3,a4⟩ :=fa.out W R1 H;exact Bw H Al (some ⟨T,0,none⟩) nl cl nl s.lt o a3 fX Eu.out ω b.bit fl K n E (by rw[b.x,<-bt.out];exact dd)
 have OD:=η Qc;have Sn:=η O;clear hK hn hE dd Qc O;by_cases nK:E=0
 rotate_left
 · have sB:∀W,bV u c W b0 g R1->Calls Tryz.prog 72 #[.pointer (some ⟨g,0,none⟩), .slice Al nl cl, .slice (some ⟨T,0,none⟩) nl nl] W λe w'=>e= .returned (.tuple #[.int .i64 0, .bool false])/\bV u c w' b0 g { R1 with E:=E }:=λW H=>by
    refine(OD.out W H).mono ?_;rintro e w' (⟨F, -⟩ | ⟨-,F,Z⟩)
    · exact absurd F nK
    exact⟨F,Z⟩
   have Kf:=η sB;have f:=η (jF.out.trans (ae nK));have P:E≠8:=by rcases gU.out with e | e | e <;> omega
   have Gi:=η nK;have cw:=η P;clear jF oC gU OD sB nK P UC
   go_wp2_with fail
   go_region_law
    ((go_simp;go_at_call 72;(refine(Kf.out _ (by first | exact h | exact h.drew | exact h.drewN _)).mono ?_))
     rintro e w5 ⟨rfl,h5⟩)
   all_goals
    go_wp2_with fail;go_ret;exact fP.bad hs f.out Gi.out cw.out (Xe.out _ _ h5) ⟨b.out,b.kinds,b.stops,b.aj,rfl⟩
 subst nK;obtain⟨I0,YN,iX⟩ :=oC.out rfl;have Qe:=η (jF.out.trans (aa δ))
 have sB:∀W,bV u c W b0 g R1->Calls Tryz.prog 72 #[.pointer (some ⟨g,0,none⟩), .slice Al nl cl, .slice (some ⟨T,0,none⟩) nl nl] W λe w'=>e= .returned (.tuple #[.int .i64 K, .bool true])/\bV u c w' b0 g { R1 with at_:=R1.at_+n }:=λW H=>by
  refine(OD.out W H).mono ?_;rintro e w' (⟨-,F,Z⟩ | ⟨F, -⟩)
  · exact⟨F,Z⟩
  exact absurd rfl F
 have Kf:=η sB;have XR:Hid (1<=n):=UC.out rfl;have nH:t.x.length=R1.X.length-R1.at_:=by rw[<-b.x,av]
 have Cj:Hid (R1.X.drop (R1.at_+n)=t.x.drop n):=by show _=_;rw[<-b.x,bm]
 have ce:Hid (R1.at_+n<=R1.X.length):=by show _<=_;omega
 clear jF oC gU OD sB nH UC
 go_wp2_with fail;go_cut [3,4] (λs3 s4 wx=>s3= .int .i64 K/\s4= .bool true/\bV u c wx b0 g { R1 with at_:=R1.at_+n })
 case first=>
  go_region_law
   ((go_simp;go_at_call 72;(refine(Kf.out _ (by first | exact h | exact h.drew | exact h.drewN _)).mono ?_))
    rintro e w5 ⟨rfl,h5⟩)
  all_goals
   go_wp2_with fail;go_meet;exact⟨rfl,rfl,h5⟩
 obtain⟨rfl,rfl,h5⟩ :=hcut;clear k8 XC h;by_cases tT:K=256
 · have f:=η (Qe.out.trans ((aa ω).trans (ae tT)));clear Qe;subst tT
   go_wp2_with fail;go_ret;refine .inl ⟨_,t,t.x.drop n,rfl,Xe.out _ _ h5,hs,f.out, ⟨Cj.out,ce.out,b.out,b.kinds,b.stops,b.aj,b.most,b.E,b.bit,b.len,b.even,b.small,au b.tk (by show R1.at_<=R1.at_+n;omega)⟩, ?_⟩;have o:=XT.out.2.2.2.2;exact⟨G.keep.X.trans o.X,G.keep.kinds.trans o.kinds,G.keep.stops.trans o.stops,au o.le (au G.keep.le (by show R1.at_<=R1.at_+n;omega))⟩
 have gS:(K==256)=false:=by simpa using tT
 by_cases et:K<256
 · have f:=η (Qe.out.trans (ae et));unfold IS.emit at f;have mL:R1.nt=R1.aj.length:=h5.aj.1;have ZE:R1.nt+1<=1000000000000:=by have:=b.tk;omega
   have gl:1<=n:=XR.out;have ch:=h5.apart.2.2.2;have fm:=h5.cell.lt;have NU:=h5.cell.cell (i:=12) ω;rw[show sF { R1 with at_:=R1.at_+n } 12= .slice R1.At R1.nt R1.ct from rfl]at NU;have Lu:=h5.lo;have iY:jW (wc.alloc (.cells #[.int .u8 K, .int .i64 0, .int .i64 0] 109)) b0 R1.At R1.nt R1.ct R1.aj:= ⟨h5.aj.1,h5.aj.2.alloc _⟩;have cW:=lV.Vu wc (cu.mk K 0 0);have Dq:R1.out.length=t.all.length:=by rw[b.out]
   have jE:=b.most;have du:t.rem=0->∀W R2,R2.out=R1.out->R2.most=R1.most->bV u c W b0 g R2->Calls Tryz.prog 70 #[.pointer (some ⟨g,0,none⟩), .int .u8 K] W λe w'=>e= .returned (.bool false)/\bV u c w' b0 g { R2 with E:=6 }:=λhz W R2 F Z H=>xE H K (by rw[Z,F,jE];omega);have dq:t.rem≠0->∀W R2,R2.out=R1.out->R2.most=R1.most->bV u c W b0 g R2->Calls Tryz.prog 70 #[.pointer (some ⟨g,0,none⟩), .int .u8 K] W (Eo u c b0 g R2 K):=λhz W R2 F Z H=>Bq H K (by rw[Z,F,jE];omega) (by rw[F];omega);have ga:=η du;have fS:=η dq;have yq:=η ap;clear du dq Dq jE ap mL tT Qe
   go_wp2_with (at_builtin;(refine mY b0 i0 rfl (.tmp 50) (.tmp 54) rfl Hi.out gV.out fY.out gW.out rfl iY rfl cW ZE ξ ?_)
                intro A4 d4 w4 bE ac dP;have iE:=(h5.cell.alloc (.cells #[.int .u8 K, .int .i64 0, .int .i64 0] 109)).grown ac (λe=>ch e.symm);have cA:=iE.cell (i:=12) ω;have cz:=iE.frozen' (i:=12) ω)
   have h6:=h5.a1u (cu.mk K 0 0) ac bE dP;by_cases hz:t.rem=0
   · have hs3:Hid (t.step=({ t with x:=t.x.drop n,aj:=t.aj++[cu.mk K 0 0],all:=t.all++[K].take t.rem,rem:=t.rem - [K].length },6)):=f.out.trans (by rw[ae ξ]);have he:=η (ga.out hz _ { R1 with at_:=R1.at_+n,At:=A4,nt:=R1.nt+1,ct:=d4,aj:=R1.aj++[cu.mk K 0 0] } rfl rfl h6);have HZ:=η hz;clear hz;refine he.out.mono ?_;rintro e w7 ⟨rfl,h7⟩
     go_wp2_with fail;go_ret;exact fP.bad hs hs3.out δ δ (Xe.out _ _ h7) ⟨by show R1.out=t.all++[K].take t.rem;rw[HZ.out,b.out];simp,b.kinds,b.stops,by show R1.aj++_=t.aj++_;rw[b.aj],rfl⟩
   have hs3:Hid (t.step=({ t with x:=t.x.drop n,aj:=t.aj++[cu.mk K 0 0],all:=t.all++[K].take t.rem,rem:=t.rem - [K].length },0)):=f.out.trans (by rw[aa ξ]);have he:=η (fS.out hz _ { R1 with at_:=R1.at_+n,At:=A4,nt:=R1.nt+1,ct:=d4,aj:=R1.aj++[cu.mk K 0 0] } rfl rfl h6);have bp:Hid ([K].take t.rem=[K]):=ay ξ;have HZ:=η hz;clear hz;refine he.out.mono ?_;rintro e w7 ⟨A8,n8,c8,rfl,h7⟩;have vL:Hid (t.step.1.mu<t.mu):=IS.jG (by rw[hs3.out])
   go_wp2_with fail;go_roundg t.step.1.mu
   case measure=>have:=hk.out;have:=vL.out;omega
   have x7:=hO.step (.inl (by rw[hs3.out]));have rE:=IS.Steps.tail hs (by rw[hs3.out]);rw[hs3.out]at x7 rE⊢;refine⟨_,_,h7,rE, ⟨Cj.out,ce.out, ?_,b.kinds,b.stops,by show R1.aj++_=t.aj++_;rw[b.aj], ?_,b.E,b.bit,b.len,b.even, ?_, ?_⟩,x7,Sn.out, ⟨G.Al,G.Ad,G.C6,G.CO, ⟨G.keep.X,G.keep.kinds,G.keep.stops,au G.keep.le (by show R1.at_<=R1.at_+n;omega)⟩⟩,rfl,bt.out,bB.out⟩
   · show R1.out++[K]=t.all++[K].take t.rem;rw[bp.out,b.out]
   · show R1.most=(((t.all++[K].take t.rem).length+(t.rem - [K].length):Nat):Int);rw[b.most,bp.out,af];have:=HZ.out;simp;omega
   · show(t.all++[K].take t.rem).length+(t.rem - [K].length)<=_;rw[bp.out,af];have:=HZ.out;have:=yq.out;simp;omega
   show(R1.aj++[_]).length<=R1.at_+n;rw[af];have:=b.tk;have:=XR.out;simp;omega
 have kR:=η (Qe.out.trans ((aa et).trans (aa tT)));clear Qe;by_cases cq:285<K
 · have f:=η (kR.out.trans (ae cq));have lq:=η (a04 K (.inr cq) wc);have k1:=h5.cell.cell (i:=1) ω;have z1:=h5.cell.frozen' (i:=1) ω;have h6:=h5.put (i:=1) ω (.int .i64 3) { R1 with at_:=R1.at_+n,E:=3 } (fM rfl rfl rfl rfl rfl rfl rfl rfl rfl rfl rfl rfl rfl) rfl;clear kR tT
   go_wp2_with fail;refine lq.out.mono ?_;rintro e w6 ⟨rfl,rfl⟩
   go_wp2_with fail;go_ret;exact fP.bad hs f.out δ δ (Xe.out _ _ h6) ⟨b.out,b.kinds,b.stops,b.aj,rfl⟩
 have jR:=η (kR.out.trans (aa cq));obtain⟨j,hj⟩ :=ν ((K-257).toNat);have xh:j<29:=ω;have lq:=a05 K j xh ω wc;rw[hj]at jR;have kf:=IB j xh;have NL:=λv=> @Vo j v xh;obtain⟨LB,es⟩ :=ν (lB j);obtain⟨LE,er⟩ :=ν (lE j);rw[es,er]at lq jR kf NL;have ML:=η lq;have Qg:(t.x.drop n).length=R1.X.length-(R1.at_+n):=by rw[<-Cj.out,av]
 have fi:=b.len;have kO:=ce.out;have gE:(0:Int)<=LB/\(LB:Int)<=258/\(0:Int)<=LE/\(LE:Int)<=5:=ω;clear kR hj xh es er lq tT;by_cases C:(t.x.drop n).length<LE
 · have f:=η (jR.out.trans (ae C));have ht:=η (nV h5 LE ω (by show R1.X.length<=_;omega) kO (by show R1.X.length<R1.at_+n+LE;omega));clear C Qg jR NL kf
   go_wp2_with fail;refine ML.out.mono ?_;rintro e w6 ⟨rfl,rfl⟩
   go_wp2_with fail;refine ht.out.mono ?_;rintro e w7 ⟨rfl,h7⟩
   go_wp2_with fail;go_ret;exact fP.bad hs f.out δ δ (Xe.out _ _ h7) ⟨b.out,b.kinds,b.stops,b.aj,rfl⟩
 have f:=η (jR.out.trans (aa C));have CG:=gD (hO.bit.dX n) LE;have cm:=NL _ CG;obtain⟨V,hV⟩ :=ν (num (t.x.drop n) LE);have ht:=η (jT h5 LE ω (by show R1.X.length<=_;omega) b.bit (by show R1.at_+n+LE<=R1.X.length;omega) (V:Int) (by show _=((num (R1.X.drop (R1.at_+n)) LE:Nat):Int);rw[Cj.out,hV]));rw[hV]at f cm CG;obtain⟨L,rP⟩ :=ν (LB+V);rw[rP]at f cm;have gx:(LB:Int)+(V:Int)=(L:Int):=ω;have gw:IntKind.i64.wrap ((LB:Int)+(V:Int))=(L:Int):=by rw[aK _ ω];omega
 have gs:(0:Int)<=V/\(V:Int)<=258/\(3:Int)<=L/\(L:Int)<=258:=ω;have bi:Hid (R1.X.drop (R1.at_+n+LE)=(t.x.drop n).drop LE):=by show _=_;rw[<-Cj.out,bm]
 have pj:Hid (R1.at_+n+LE<=R1.X.length):=by show _<=_;omega
 have vD:=hO.step (.inl (by rw[f.out]));have J:=IS.Steps.tail hs (by rw[f.out]);rw[f.out]at vD J;have rG:Hid (t.step.1.mu<t.mu):=IS.jG (by rw[f.out]);obtain⟨a,uZ⟩ :∃a:IS,({ t with x:=(t.x.drop n).drop LE,len:=L,st:=7 }:IS)=a:= ⟨_,rfl⟩;have cL:a.x=(t.x.drop n).drop LE/\a.ds=t.ds/\a.lt=t.lt/\a.len=L/\a.st=7/\a.all=t.all/\a.rem=t.rem/\a.aj=t.aj/\a.kinds=t.kinds/\a.stops=t.stops:=by rw[<-uZ];exact⟨rfl,rfl,rfl,rfl,rfl,rfl,rfl,rfl,rfl,rfl⟩
 have ux:Hid (a.mu<t.mu):=by have:=rG.out;rw[f.out]at this;rw[<-uZ];exact this
 rw[uZ]at vD J;have vD:a.Ok:=vD;have J:IS.Steps s a:=J;have z:=η cL;clear f C Qg jR NL kf hV CG rP rG cL uZ cm fi kO;have Zj:Hid (a.step=a.bk):=D4 z.out.2.2.2.2.1;unfold IS.bk at Zj;obtain⟨K2,am⟩ :=ν ((aI a.ds a.x).1);obtain⟨y,pn⟩ :=ν ((aI a.ds a.x).2.1);obtain⟨E2,yB⟩ :=ν ((aI a.ds a.x).2.2);have Ur:Hid (E2=0\/E2=3\/E2=5):=by have:=eV a.ds a.x;rw[yB]at this;exact this
 have Vb:Hid (E2=0->0<=K2/\K2<288/\y<=a.x.length):=λh=>by
  obtain⟨k2,n3,e1,B,e3,e4,e5⟩ :=lT (l:=a.ds) (x:=a.x) vD.bit (by rw[yB,h];simp);have h6:=(vx (vD.h6 (.inr z.out.2.2.2.2.1)).2).1;rw[e1]at am pn;simp at am pn;omega
 have xk:aI a.ds a.x=(K2,y,E2):=by rw[<-am,<-pn,<-yB]
 rw[am,pn,yB]at Zj
 have cX:∀W,bV u c W b0 g { R1 with at_:=R1.at_+n+LE }->Calls Tryz.prog 72 #[.pointer (some ⟨g,0,none⟩), .slice Ad d cd, .slice (some ⟨N,0,none⟩) d d] W (EB u c b0 g { R1 with at_:=R1.at_+n+LE } K2 y E2):=λW H=>by
  obtain⟨o,a2,a3,a4⟩ :=fa.out W _ H;exact Bw H Ad (some ⟨N,0,none⟩) d cd d s.ds a2 a4 AQ gb.out (by show R1.X.length<=_;omega) b.bit pj.out K2 y E2 (by show aI s.ds (R1.X.drop (R1.at_+n+LE))=_;rw[bi.out,<-bB.out,<-z.out.2.1,<-z.out.1];exact xk)
 have XW:=η cX;clear am pn yB xk cX
 go_wp2_with fail;refine ML.out.mono ?_;rintro e w6 ⟨rfl,rfl⟩
 go_wp2_with fail;refine ht.out.mono ?_;rintro e w7 ⟨rfl,h7⟩;have k9:=h7.cell.cell (i:=9) ω;rw[show sF { R1 with at_:=R1.at_+n+LE } 9= .slice Ad d cd from G.Ad.trans XT.out.2.1]at k9;have RU:=h7.cell.cell (i:=11) ω;rw[show sF { R1 with at_:=R1.at_+n+LE } 11= .slice (some ⟨N,0,none⟩) d d from G.CO.trans XT.out.2.2.2.1]at RU;clear h5 ht ML;by_cases nK:E2=0
 rotate_left
 · have sB:∀W,bV u c W b0 g { R1 with at_:=R1.at_+n+LE }->Calls Tryz.prog 72 #[.pointer (some ⟨g,0,none⟩), .slice Ad d cd, .slice (some ⟨N,0,none⟩) d d] W λe w'=>e= .returned (.tuple #[.int .i64 0, .bool false])/\bV u c w' b0 g { R1 with at_:=R1.at_+n+LE,E:=E2 }:=λW H=>by
    refine(XW.out W H).mono ?_;rintro e w' (⟨F, -⟩ | ⟨-,F,Z⟩)
    · exact absurd F nK
    exact⟨F,Z⟩
   have cs:=η sB;have hs3:=η (Zj.out.trans (ae nK));have P:E2≠8:=by rcases Ur.out with e | e | e <;> omega
   have Gi:=η nK;have cw:=η P;clear Zj Vb Ur XW sB nK P
   go_wp2_with fail
   go_region_law
    ((go_simp;go_at_call 72;(refine(cs.out _ (by first | exact h7 | exact h7.drew | exact h7.drewN _)).mono ?_))
     rintro e w5 ⟨rfl,M⟩)
   all_goals
    go_wp2_with fail;go_ret;exact fP.bad J hs3.out Gi.out cw.out (Xe.out _ _ M) ⟨by rw[z.out.2.2.2.2.2.1];exact b.out,by rw[z.out.2.2.2.2.2.2.2.2.1];exact b.kinds,by rw[z.out.2.2.2.2.2.2.2.2.2];exact b.stops,by rw[z.out.2.2.2.2.2.2.2.1];exact b.aj,rfl⟩
 subst nK;obtain⟨hc,hb,gj⟩ :=Vb.out rfl;have Zk:=η (Zj.out.trans (aa δ))
 have sB:∀W,bV u c W b0 g { R1 with at_:=R1.at_+n+LE }->Calls Tryz.prog 72 #[.pointer (some ⟨g,0,none⟩), .slice Ad d cd, .slice (some ⟨N,0,none⟩) d d] W λe w'=>e= .returned (.tuple #[.int .i64 K2, .bool true])/\bV u c w' b0 g { R1 with at_:=R1.at_+n+LE+y }:=λW H=>by
  refine(XW.out W H).mono ?_;rintro e w' (⟨-,F,Z⟩ | ⟨F, -⟩)
  · exact⟨F,Z⟩
  exact absurd rfl F
 have cs:=η sB;have ZX:a.x.length=R1.X.length-(R1.at_+n+LE):=by rw[z.out.1,<-bi.out,av]
 have be:Hid (R1.X.drop (R1.at_+n+LE+y)=a.x.drop y):=by show _=_;rw[z.out.1,<-bi.out,bm]
 have dP:Hid (R1.at_+n+LE+y<=R1.X.length):=by show _<=_;have:=pj.out;omega
 have ec:∀(R':RM) (v:Int),R'.out=R1.out->R'.kinds=R1.kinds->R'.stops=R1.stops->R'.aj=R1.aj->R'.E=v->Kj R' a v:=λR' v o a2 a3 a4 a5=> ⟨by rw[z.out.2.2.2.2.2.1,o];exact b.out,by rw[z.out.2.2.2.2.2.2.2.2.1,a2];exact b.kinds,by rw[z.out.2.2.2.2.2.2.2.2.2,a3];exact b.stops,by rw[z.out.2.2.2.2.2.2.2.1,a4];exact b.aj,a5⟩;have Sk:=η ec;clear Zj Vb Ur XW sB ZX ec
 go_wp2_with fail;go_cut [3,4] (λs3 s4 wx=>s3= .int .i64 K2/\s4= .bool true/\bV u c wx b0 g { R1 with at_:=R1.at_+n+LE+y })
 case first=>
  go_region_law
   ((go_simp;go_at_call 72;(refine(cs.out _ (by first | exact h7 | exact h7.drew | exact h7.drewN _)).mono ?_))
    rintro e w5 ⟨rfl,P⟩)
  all_goals
   go_wp2_with fail;go_meet;exact⟨rfl,rfl,P⟩
 rename World=>wd
 obtain⟨rfl,rfl,P⟩ :=hcut;clear k9 RU h7;by_cases cp:29<K2
 · have hs3:=η (Zk.out.trans (ae cp));have al:=η (Ta K2 (.inr cp) wd);have k1:=P.cell.cell (i:=1) ω;have z1:=P.cell.frozen' (i:=1) ω;have M:=P.put (i:=1) ω (.int .i64 3) { R1 with at_:=R1.at_+n+LE+y,E:=3 } (fM rfl rfl rfl rfl rfl rfl rfl rfl rfl rfl rfl rfl rfl) rfl;clear Zk
   go_wp2_with fail;refine al.out.mono ?_;rintro e w6 ⟨rfl,rfl⟩
   go_wp2_with fail;go_ret;exact fP.bad J hs3.out δ δ (Xe.out _ _ M) (Sk.out _ _ rfl rfl rfl rfl rfl)
 have PI:=η (Zk.out.trans (aa cp));obtain⟨j2,RF⟩ :=ν (K2.toNat);have Zp:j2<30:=ω;have al:=Tb K2 j2 Zp ω wd;rw[RF]at PI
 have cc:dB j2<=32768/\dE j2<=13:=by
  have:∀j,j<30->dB j<=32768/\dE j<=13:=by decide+kernel
  exact this j2 Zp
 have vQ:=λv=> @T7 j2 v Zp;obtain⟨DB,ev⟩ :=ν (dB j2);obtain⟨I,Xm⟩ :=ν (dE j2);rw[ev,Xm]at al PI cc vQ;have cx:=η al;have cH:(a.x.drop y).length=R1.X.length-(R1.at_+n+LE+y):=by rw[<-be.out,av]
 have jA:=dP.out;have ho:(0:Int)<=DB/\(DB:Int)<=32768/\(0:Int)<=I/\(I:Int)<=13:=ω;clear Zk RF Zp ev Xm al;by_cases C:(a.x.drop y).length<I
 · have hs3:=η (PI.out.trans (ae C));have ht:=η (nV P I ω (by show R1.X.length<=_;omega) jA (by show R1.X.length<R1.at_+n+LE+y+I;omega));clear C cH PI vQ cc jA
   go_wp2_with fail;refine cx.out.mono ?_;rintro e w6 ⟨rfl,rfl⟩
   go_wp2_with fail;refine ht.out.mono ?_;rintro e w7 ⟨rfl,M⟩
   go_wp2_with fail;go_ret;exact fP.bad J hs3.out δ δ (Xe.out _ _ M) (Sk.out _ _ rfl rfl rfl rfl rfl)
 have Ig:=η (PI.out.trans (aa C));unfold IS.text at Ig;have CG:=gD (vD.bit.dX y) I;have TP:=vQ _ CG;obtain⟨V2,ci⟩ :=ν (num (a.x.drop y) I);have ht:=η (jT P I ω (by show R1.X.length<=_;omega) b.bit (by show R1.at_+n+LE+y+I<=R1.X.length;omega) (V2:Int) (by show _=((num (R1.X.drop (R1.at_+n+LE+y)) I:Nat):Int);rw[be.out,ci]));rw[ci]at Ig TP CG;obtain⟨D,eu⟩ :=ν (DB+V2);rw[eu]at Ig TP;have hh:(DB:Int)+(V2:Int)=(D:Int):=ω;have hg:IntKind.i64.wrap ((DB:Int)+(V2:Int))=(D:Int):=by rw[aK _ ω];omega
 have hm:(1:Int)<=D/\(D:Int)<=32768/\(0:Int)<=V2/\(V2:Int)<=32768:=ω;have RQ:Hid (R1.X.drop (R1.at_+n+LE+y+I)=(a.x.drop y).drop I):=by show _=_;rw[<-be.out,bm]
 have iF:Hid (R1.at_+n+LE+y+I<=R1.X.length):=by show _<=_;omega
 have db:R1.no=R1.out.length:=P.out.1;have Dq:R1.out.length=a.all.length:=by rw[z.out.2.2.2.2.2.1,b.out]
 clear C cH PI vQ cc jA ci CG eu;rw[z.out.2.2.2.1]at Ig;by_cases F8:(R1.no:Int)<(D:Int)
 · have hs3:=η (Ig.out.trans (ae ω));clear Ig db Dq
   go_wp2_with fail;refine cx.out.mono ?_;rintro e w6 ⟨rfl,rfl⟩
   go_wp2_with fail;refine ht.out.mono ?_;rintro e w7 ⟨rfl,M⟩;have k0:=M.cell.cell (i:=0) ω;rw[show sF { R1 with at_:=R1.at_+n+LE+y+I } 0= .slice R1.Ao R1.no R1.co from rfl]at k0;have k1:=M.cell.cell (i:=1) ω;have z1:=M.cell.frozen' (i:=1) ω;have an:=M.put (i:=1) ω (.int .i64 3) { R1 with at_:=R1.at_+n+LE+y+I,E:=3 } (fM rfl rfl rfl rfl rfl rfl rfl rfl rfl rfl rfl rfl rfl) rfl
   go_wp2_with fail;go_ret;exact fP.bad J hs3.out δ δ (Xe.out _ _ an) (Sk.out _ _ rfl rfl rfl rfl rfl)
 have hs3:=η (Ig.out.trans (aa ω));unfold IS.emit at hs3;have fv:D<=a.all.length:=ω;have mL:R1.nt=R1.aj.length:=P.aj.1;have ZE:R1.nt+1<=1000000000000:=by have:=b.tk;omega
 have hp:=η Dq;have b17:=η F8;have jE:=b.most;rw[<-z.out.2.2.2.2.2.1,<-z.out.2.2.2.2.2.2.1]at jE;have bl:=ap;rw[<-z.out.2.2.2.2.2.1,<-z.out.2.2.2.2.2.2.1]at bl;have cv:=η jE;have yq:=η bl;have gm:(D:Int)<=(R1.no:Int)/\(R1.no:Int)<=1000000000:=ω;have gR:3<=L/\L<=258:=ω;clear Ig db Dq jE bl ap mL
 go_wp2_with fail;refine cx.out.mono ?_;rintro e w6 ⟨rfl,rfl⟩
 go_wp2_with fail;refine ht.out.mono ?_;rintro e w7 ⟨rfl,M⟩;have k0:=M.cell.cell (i:=0) ω;rw[show sF { R1 with at_:=R1.at_+n+LE+y+I } 0= .slice R1.Ao R1.no R1.co from rfl]at k0;have NU:=M.cell.cell (i:=12) ω;rw[show sF { R1 with at_:=R1.at_+n+LE+y+I } 12= .slice R1.At R1.nt R1.ct from rfl]at NU;have ch:=M.apart.2.2.2;have fm:=M.cell.lt;have gn:=M.lo;have iY:jW (w7.alloc (.cells #[.int .u8 0, .int .i64 L, .int .i64 D] 109)) b0 R1.At R1.nt R1.ct R1.aj:= ⟨M.aj.1,M.aj.2.alloc _⟩;have cW:=lV.Vu w7 (cu.mk 0 L D)
 go_wp2_with (at_builtin;(refine mY b0 i0 rfl (.tmp 136) (.tmp 140) rfl Hi.out gV.out fY.out gW.out rfl iY rfl cW ZE ξ ?_)
              intro A4 d4 w4 bE ac dP;have iE:=(M.cell.alloc (.cells #[.int .u8 0, .int .i64 L, .int .i64 D] 109)).grown ac (λe=>ch e.symm);have cA:=iE.cell (i:=12) ω;have cz:=iE.frozen' (i:=12) ω)
 have an:=M.a1u (cu.mk 0 L D) ac bE dP;obtain⟨m,cj⟩ :∃m:RM,({ R1 with at_:=R1.at_+n+LE+y+I,At:=A4,nt:=R1.nt+1,ct:=d4,aj:=R1.aj++[cu.mk 0 L D] }:RM)=m:= ⟨_,rfl⟩;have ee:m.out=R1.out/\m.most=R1.most/\m.kinds=R1.kinds/\m.stops=R1.stops/\m.aj=R1.aj++[cu.mk 0 L D]/\m.at_=R1.at_+n+LE+y+I/\m.X=R1.X/\m.E=R1.E/\m.Al=R1.Al/\m.Ad=R1.Ad/\m.C6=R1.C6/\m.CO=R1.CO:=by rw[<-cj];exact⟨rfl,rfl,rfl,rfl,rfl,rfl,rfl,rfl,rfl,rfl,rfl,rfl⟩
 rw[cj]at an;have ab:=η ee;clear cj ee M P k0 NU bE ac dP iE cA cz iY cW;go_loopg [10] L (EmR u c b0 g m a D L)
 case atStart=>exact⟨0,m.Ao,m.no,m.co,aF _,aF _,rfl,rfl,by rw[Kp,ax,z.out.2.2.2.2.2.1,<-b.out,<-ab.out.1];exact an⟩
 clear an;obtain⟨j,Ao,no,co,hj,U,dj,rfl,h⟩ :=hrel;by_cases gr:(j:Int)<(L:Int)
 · have k0:=h.cell.cell (i:=0) ω;rw[show sF { m with Ao:=Ao,no:=no,co:=co,out:=a.all++again a.all D j } 0= .slice Ao no co from rfl]at k0;have xk:no=(a.all++again a.all D j).length:=h.out.1;rw[af,cG]at xk;have U6:=Kn a.all D j ω fv;obtain⟨Q,hQ⟩ :=ν (a.all.length+j-D);have ck:Q<no:=ω;obtain⟨r,rfl,ea,eS⟩ :=h.out.rd.at_ (i:=Q) ck;obtain⟨v,hv⟩ :=ν (ix (a.all++again a.all D j) Q:Int);have c1:wr.cell? (r.add Q)=some (.int .u8 v):=by rw[<-hv];exact eS
   clear eS;rw[hQ,hv]at U6;have fs:Hid (again a.all D (j+1)=again a.all D j++[v]):=U6;have gi:IntKind.i64.wrap ((no:Int)-(D:Int))=(Q:Int):=by rw[aK _ (by have:=yq.out;have:=U.out;omega)];omega
   have gt:(0:Int)<=Q/\(Q:Int)<(no:Int):=ω;have da:=yq.out;have dk:=U.out;by_cases hz:a.rem=j
   · have oK:∀W,bV u c W b0 g { m with Ao:=some r,no:=no,co:=co,out:=a.all++again a.all D j }->Calls Tryz.prog 70 #[.pointer (some ⟨g,0,none⟩), .int .u8 v] W λe w'=>e= .returned (.bool false)/\bV u c w' b0 g { m with Ao:=some r,no:=no,co:=co,out:=a.all++again a.all D j,E:=6 }:=λW H=>xE H v (by show m.most<=(((a.all++again a.all D j).length:Nat):Int);rw[ab.out.2.1,cv.out,af,cG];omega);have Ke:=η oK;have kG:Hid (∃t':IS,a.step=(t',6)/\t'.all=a.all++(again a.all D L).take a.rem/\t'.kinds=a.kinds/\t'.stops=a.stops/\t'.aj=a.aj++[cu.mk 0 L D]):= ⟨{ a with x:=(a.x.drop y).drop I,st:=6,len:=L,aj:=a.aj++[cu.mk 0 L D],all:=a.all++(again a.all D L).take a.rem,rem:=a.rem-(again a.all D L).length },hs3.out.trans (by rw[ae (by rw[cG];omega)]),rfl,rfl,rfl,rfl⟩;have HZ:=η hz;clear hz hQ hv U6 oK xk da dk ea ck
     go_wp2_with fail
     go_region_law
      ((go_simp;go_at_call 70;(refine(Ke.out _ (by first | exact h | exact h.drew | exact h.drewN _)).mono ?_))
       rintro e w5 ⟨rfl,cr⟩)
     all_goals
      go_wp2_with fail;go_ret;obtain⟨t',e1,B,e3,e4,e5⟩ :=kG.out;refine fP.bad J e1 δ δ (Xe.out _ _ cr) ⟨?_, ?_, ?_, ?_,rfl⟩
      · show a.all++again a.all D j=t'.all;rw[B,HZ.out,Ko _ _ hj]
      · show m.kinds=t'.kinds;rw[e3,ab.out.2.2.1,z.out.2.2.2.2.2.2.2.2.1,b.kinds]
      · show m.stops=t'.stops;rw[e4,ab.out.2.2.2.1,z.out.2.2.2.2.2.2.2.2.2,b.stops]
      show m.aj=t'.aj;rw[e5,ab.out.2.2.2.2.1,z.out.2.2.2.2.2.2.2.1,b.aj]
   have oK:∀W,bV u c W b0 g { m with Ao:=some r,no:=no,co:=co,out:=a.all++again a.all D j }->Calls Tryz.prog 70 #[.pointer (some ⟨g,0,none⟩), .int .u8 v] W (Eo u c b0 g { m with Ao:=some r,no:=no,co:=co,out:=a.all++again a.all D j } v):=λW H=>Bq H v (by show(((a.all++again a.all D j).length:Nat):Int)<m.most;rw[ab.out.2.1,cv.out,af,cG];omega) (by show(a.all++again a.all D j).length<=_;rw[af,cG];omega);have Ke:=η oK;have HZ:=η hz;clear hz hQ hv U6 oK xk da dk ea ck
   go_wp2_with fail
   go_region_law
    ((go_simp;go_at_call 70;(refine(Ke.out _ (by first | exact h | exact h.drew | exact h.drewN _)).mono ?_))
     rintro e w5 ⟨A8,n8,c8,rfl,cr⟩)
   all_goals
    go_wp2_with fail;go_roundg (gk-1)
    case measure=>have:=dj.out;omega
    case rel=>exact⟨j+1,A8,n8,c8,ω,by show _<=_;have:=U.out;have:=HZ.out;omega,by show gk-1=_;have:=dj.out;omega,by go_num,by rw[fs.out,<-ak];exact cr⟩
 obtain rfl:j=L:=ω;have kG:Hid (∃t':IS,a.step=(t',0)/\t'.x=(a.x.drop y).drop I/\t'.all=a.all++again a.all D j/\t'.rem=a.rem-j/\t'.kinds=a.kinds/\t'.stops=a.stops/\t'.aj=a.aj++[cu.mk 0 j D]/\t'.st=6/\t'.lt=a.lt/\t'.ds=a.ds):= ⟨{ a with x:=(a.x.drop y).drop I,st:=6,len:=j,aj:=a.aj++[cu.mk 0 j D],all:=a.all++(again a.all D j).take a.rem,rem:=a.rem-(again a.all D j).length },hs3.out.trans (by rw[aa (by rw[cG];have:=U.out;show¬a.rem<j;omega)]),rfl,by show a.all++(again a.all D j).take a.rem=_;rw[ay (by rw[cG];exact U.out)],by show a.rem-(again a.all D j).length=_;rw[cG],rfl,rfl,rfl,rfl,rfl,rfl⟩;obtain⟨t',e1,B,e3,e4,e5,e6,e7,e8,e9,eL⟩ :=kG.out;have x7:=vD.step (.inl (by rw[e1]));have rE:=IS.Steps.tail J (by rw[e1]);have bs:=IS.jG (s:=a) (by rw[e1]);rw[e1]at x7 rE bs;have fd:Hid (t'.mu<t.mu):=by have o:=ux.out;have a2:t'.mu<a.mu:=bs;show _<_;omega
 have bX:Hid (∀W,bV u c W b0 g { m with Ao:=Ao,no:=no,co:=co,out:=a.all++again a.all D j }->a1N u c b0 g R0 s t'.mu W):=λW H=>by
  have o:=ab.out;refine⟨_,t',H,rE, ⟨?_, ?_,e3.symm, ?_, ?_, ?_, ?_, ?_, ?_, ?_, ?_, ?_, ?_⟩,x7,e8, ⟨?_, ?_, ?_, ?_, ⟨?_, ?_, ?_, ?_⟩⟩,rfl, ?_, ?_⟩
  · show m.X.drop m.at_=t'.x;rw[o.2.2.2.2.2.2.1,o.2.2.2.2.2.1,B];exact RQ.out
  · show m.at_<=m.X.length;rw[o.2.2.2.2.2.2.1,o.2.2.2.2.2.1];exact iF.out
  · show m.kinds=t'.kinds;rw[e5,o.2.2.1,z.out.2.2.2.2.2.2.2.2.1,b.kinds]
  · show m.stops=t'.stops;rw[e6,o.2.2.2.1,z.out.2.2.2.2.2.2.2.2.2,b.stops]
  · show m.aj=t'.aj;rw[e7,o.2.2.2.2.1,z.out.2.2.2.2.2.2.2.1,b.aj]
  · show m.most=_;rw[o.2.1,cv.out,e3,e4,af,cG];have:=U.out;omega
  · show m.E=0;rw[o.2.2.2.2.2.2.2.1];exact b.E
  · show dJ m.X;rw[o.2.2.2.2.2.2.1];exact b.bit
  · show m.X.length<=_;rw[o.2.2.2.2.2.2.1];exact b.len
  · show m.X.length%8=0;rw[o.2.2.2.2.2.2.1];exact b.even
  · rw[e3,e4,af,cG];have:=U.out;have:=yq.out;omega
  · show m.aj.length<=m.at_;rw[o.2.2.2.2.1,o.2.2.2.2.2.1,af];have:=b.tk;have:=XR.out;simp;omega
  · exact o.2.2.2.2.2.2.2.2.1.trans G.Al
  · exact o.2.2.2.2.2.2.2.2.2.1.trans G.Ad
  · exact o.2.2.2.2.2.2.2.2.2.2.1.trans G.C6
  · exact o.2.2.2.2.2.2.2.2.2.2.2.trans G.CO
  · exact o.2.2.2.2.2.2.1.trans G.keep.X
  · exact o.2.2.1.trans G.keep.kinds
  · exact o.2.2.2.1.trans G.keep.stops
  · show R0.at_<=m.at_;rw[o.2.2.2.2.2.1];have:=G.keep.le;omega
  · show t'.lt=s.lt;rw[e9,z.out.2.2.1];exact bt.out
  show t'.ds=s.ds;rw[eL,z.out.2.1];exact bB.out
 clear e1 B e3 e4 e5 e6 e7 e8 e9 eL x7 rE bs
 go_wp2_with fail;go_roundg t'.mu
 case measure=>have:=hk.out;have:=fd.out;omega
 case rel=>exact bX.out _ h
end
end Go.Proofs.YtdhmnlpfhfmpfaaGreat
