/-
  part
-/
import Derived.Test.YtdhmnlpfhfmpfaaGreatRfA
import Derived.Deep.DeepCutAuto
set_option linter.unusedVariables false
set_option maxRecDepth 100000
set_option maxHeartbeats 8000000
namespace Go.Proofs.YtdhmnlpfhfmpfaaGreat
open Go.RowKit
section
variable {w w' w0 wr w4:World} {b0 g:Nat} {c c0:Nat->Nat} {R R1 R':RM}
theorem pU {A a:ay} {k d d4:Nat} {l:aj} (z:il wr b0 g c R1) (n:bk w wr (λk=>k=g)) (t:ba .i64 wr w.heap.size 3 A k d l) (m:∀q,c q≠0->q<w.heap.size) (C:g<w.heap.size) (B:w.heap.size<=wr.heap.size) (v:Int) (i:Nat) (hi:i<13) (R':RM) (hF:∀j,j<13->upd (sF R1) i (.slice a (k+1) d4) j=sF R' j)
  (x:R'={ R1 with E:=R'.E,rest:=R'.rest,at_:=R'.at_,most:=R'.most,Al:=R'.Al,Ad:=R'.Ad,Ce:=R'.Ce,CS:=R'.CS })
  (h:(wr.alloc (.cells #[.int .i64 v] 3)).grownBy w4 (ak A)) (o:ba .i64 w4 w.heap.size 3 a (k+1) d4 (l++[v])) (u:ak a=ak A\/ak a=some (wr.alloc (.cells #[.int .i64 v] 3)).heap.size):
  il (w4.setCell ⟨g,i,none⟩ (.slice a (k+1) d4)) b0 g c R'/\bk w (w4.setCell ⟨g,i,none⟩ (.slice a (k+1) d4)) (λk=>k=g)/\ba .i64 (w4.setCell ⟨g,i,none⟩ (.slice a (k+1) d4)) w.heap.size 3 a (k+1) d4 (l++[v]):=by
 have r:∀q,ak A=some q->w.heap.size<=q:=λq b=>(t.2.lt b).1;have s:bk wr w4 (λq=>ak A=some q):=((bk.refl wr (λq=>ak A=some q)).alloc _).grown h (λq e=> .inl e)
 have y:=z.aside s (λq b=>by
  by_cases e:c q=0
  · exact e
  have:=m q e;have:=r q b;omega)
 have f:ak a≠some g:=λe=>by have:=(o.2.lt e).1;omega
 exact⟨y.put hi _ R' hF x,((n.trans s (λq b=> .inr (r q b))).setCell (p:= ⟨g,i,none⟩) (.inl rfl) _),o.far (p:= ⟨g,i,none⟩) f _⟩
def FxR (w:World) (b0 g:Nat) (c:Nat->Nat) (R:RM) (k:Nat) (i:Value) (wr:World):Prop:=
 ∃(j d:Nat) (A:ay),j<=288/\Hid (k=288-j)/\i= .int .i64 j/\il wr b0 g c { R with Al:= .slice A j d,Ad:= .slice none 0 0 }/\bk w wr (λk=>k=g)/\ba .i64 wr w.heap.size 3 A j d (im.take j)/\w.heap.size<=wr.heap.size
def FxS (w:World) (b0 g:Nat) (c:Nat->Nat) (R:RM) (a:ay) (b:Nat) (k:Nat) (i:Value) (wr:World):Prop:=
 ∃(j d:Nat) (A:ay),j<=32/\Hid (k=32-j)/\i= .int .i64 j/\il wr b0 g c { R with Al:= .slice a 288 b,Ad:= .slice A j d }/\bk w wr (λk=>k=g)/\ba .i64 wr w.heap.size 3 A j d (iU.take j)/\ba .i64 wr w.heap.size 3 a 288 b im/\(∀q,ak A=some q->ak a≠some q)/\w.heap.size<=wr.heap.size
def a2g (w:World) (b0 g:Nat) (c:Nat->Nat) (R:RM) (e:Ending) (w':World):Prop:=
 ∃A1 d1 A2 d2,e= .returned (.tuple #[])/\il w' b0 g c { R with Al:= .slice A1 288 d1,Ad:= .slice A2 32 d2 }/\bk w w' (λk=>k=g)/\ba .i64 w' w.heap.size 3 A1 288 d1 im/\ba .i64 w' w.heap.size 3 A2 32 d2 iU
theorem ME (h:il w b0 g c R):
  Calls Tryz.prog 52 #[.pointer (some ⟨g,0,none⟩)] w (a2g w b0 g c R):=by
 obtain⟨F,hi,I,H,G⟩ :=aL mQ;have Hi:=η hi;have N:=η I;have M:=η H;have L:=η G;have K:=h.cell.lt;have t:∀q,c q≠0->q<w.heap.size:=λq v=>(h.cb q v).2;have P:=h.cell.cell (i:=8) ω;have T:=h.cell.cell (i:=9) ω;have E:=h.cell.frozen' (i:=8) ω;have Z:=h.cell.frozen' (i:=9) ω;have D:=(h.put (i:=8) ω (.slice none 0 0) { R with Al:= .slice none 0 0 } (fR rfl rfl rfl rfl rfl rfl rfl rfl rfl rfl rfl rfl rfl) rfl).put (i:=9) ω (.slice none 0 0) { R with Al:= .slice none 0 0,Ad:= .slice none 0 0 } (fR rfl rfl rfl rfl rfl rfl rfl rfl rfl rfl rfl rfl rfl) rfl;have C:bk w ((w.setCell ⟨g,8,none⟩ (.slice none 0 0)).setCell ⟨g,9,none⟩ (.slice none 0 0)) (λk=>k=g):=((bk.refl w (λk=>k=g)).setCell (p:= ⟨g,8,none⟩) (.inl rfl) _).setCell (p:= ⟨g,9,none⟩) (.inl rfl) _;clear hi I H G;go_enter Tryz.func52,Tryz.ntmps52
 go_wp2_with fail;go_loopg [2] 288 (FxR w b0 g c R)
 case atStart=>exact⟨0,0,none,aF _,rfl,rfl,D,C,ba.dN,C.size⟩
 clear D C P T E Z;obtain⟨k,d,A,hk,f,rfl,n,b,m,B⟩ :=hrel;have P:=n.cell.cell (i:=8) ω;rw[show sF { R with Al:= .slice A k d,Ad:= .slice none 0 0 } 8= .slice A k d from rfl]at P;have J:=n.cell.lt;have r:ak A≠some g:=λe=>by have:=(m.2.lt e).1;omega
 by_cases l:k<288
 rotate_left
 · obtain rfl:k=288:=ω;have X:im.take 288=im:=aC (by rw[pT];omega);rw[X]at m;have HL:=η X;clear X r f
   go_wp2_with fail;go_loopg [4] 32 (FxS w b0 g c R A d)
   case atStart=>exact⟨0,0,none,aF _,rfl,rfl,n,b,ba.dN,m,λq v=>by simp [ak]at v,B⟩
   clear P n b m B J;obtain⟨k,d3,O,hk,f,rfl,n,b,m,Q,dA,B⟩ :=hrel;have T:=n.cell.cell (i:=9) ω;rw[show sF { R with Al:= .slice A 288 d,Ad:= .slice O k d3 } 9= .slice O k d3 from rfl]at T;have J:=n.cell.lt;have r:ak O≠some g:=λe=>by have:=(m.2.lt e).1;omega
   by_cases l:k<32
   rotate_left
   · obtain rfl:k=32:=ω;have hD:Hid (iU.take 32=iU):=aC (by rw[AG];omega)
     go_wp2_with fail;go_end0;exact⟨A,d,O,d3,rfl,n,b,Q,by rw[hD.out]at m;exact m⟩
   have pM:(k:Int)<32/\(0:Int)<=k:=ω;have z:=η (Dg l);have y:=m.alloc (.cells #[.int .i64 5] 3)
   go_wp2_with (at_builtin;(refine bq .i64 w.heap.size 3 F 8 rfl (.tmp 45) (.tmp 46) _ rfl Tryz.underlying63 Hi.out N.out M.out L.out rfl y rfl (bT.lit .i64 wr [5] 3) ω ω ξ ?_)
                intro o d4 w4 x a u;have s:=(n.cell.alloc (.cells #[.int .i64 5] 3)).grown a (λe=>r e.symm);have x9:=s.cell (i:=9) ω;have Z:=s.frozen' (i:=9) ω)
   have j:=pU n b m t K B 5 9 ω { R with Al:= .slice A 288 d,Ad:= .slice o (k+1) d4 } (fR rfl rfl rfl rfl rfl rfl rfl rfl rfl rfl rfl rfl rfl) rfl a x u
   have V:ba .i64 (w4.setCell ⟨g,9,none⟩ (.slice o (k+1) d4)) w.heap.size 3 A 288 d im:=((Q.alloc (.cells #[.int .i64 5] 3)).grown a (by
    by_cases e:ak A=none
    · exact .inr e
    refine .inl λY=> ?_;cases wW:ak O with
    | none=>rw[wW]at Y;exact e Y
    | some q=>exact dA q wW (by rw[Y,wW]))).far (p:= ⟨g,9,none⟩) (λ(e:ak A=some g)=>by have:=(Q.2.lt e).1;omega) _
   have U:∀q,ak o=some q->ak A≠some q:=λq v e=>by
    rcases u with h4 | h4
    · exact dA q (by rw[<-h4];exact v) e
    rw[h4]at v;injection v with v;have:=(Q.2.lt e).2;simp at v;omega
   go_roundg (gk-1)
   case measure=>have:=f.out;omega
   case rel=>exact⟨k+1,d4,o,l,by show gk-1=_;have:=f.out;omega,by go_num,j.1,j.2.1,by rw[z.out];exact j.2.2,V,U,ε b.size j.2.1.size⟩
 have pM:(k:Int)<288/\(0:Int)<=k:=ω;have ht:=Dh l;rw[EP k l]at ht;have W:(k:Int)<144\/((144:Int)<=k/\(k:Int)<256)\/((144:Int)<=k/\(256:Int)<=k/\¬(k:Int)<256/\(k:Int)<280)\/((144:Int)<=k/\(256:Int)<=k/\¬(k:Int)<256/\¬(k:Int)<280):=ω;rcases W with D | ⟨D,h2⟩ | ⟨D,h2,h3,h4⟩ | ⟨D,h2,h3,h4⟩
 · rw[af ω]at ht;have z:=η ht;clear ht;have y:=m.alloc (.cells #[.int .i64 8] 3)
   go_wp2_with (at_builtin;(refine bq .i64 w.heap.size 3 F 8 rfl (.tmp 31) (.tmp 33) _ rfl Tryz.underlying63 Hi.out N.out M.out L.out rfl y rfl (bT.lit .i64 wr [8] 3) ω ω ξ ?_)
                intro o d4 w4 x a u;have s:=(n.cell.alloc (.cells #[.int .i64 8] 3)).grown a (λe=>r e.symm);have S:=s.cell (i:=8) ω;have E:=s.frozen' (i:=8) ω)
   have j:=pU n b m t K B 8 8 ω { R with Al:= .slice o (k+1) d4,Ad:= .slice none 0 0 } (fR rfl rfl rfl rfl rfl rfl rfl rfl rfl rfl rfl rfl rfl) rfl a x u;go_roundg (gk-1)
   case measure=>have:=f.out;omega
   case rel=>exact⟨k+1,d4,o,l,by show gk-1=_;have:=f.out;omega,by go_num,j.1,j.2.1,by rw[z.out];exact j.2.2,ε b.size j.2.1.size⟩
 · rw[aa ω,af ω]at ht;have z:=η ht;clear ht;have y:=m.alloc (.cells #[.int .i64 9] 3)
   go_wp2_with (at_builtin;(refine bq .i64 w.heap.size 3 F 8 rfl (.tmp 31) (.tmp 33) _ rfl Tryz.underlying63 Hi.out N.out M.out L.out rfl y rfl (bT.lit .i64 wr [9] 3) ω ω ξ ?_)
                intro o d4 w4 x a u;have s:=(n.cell.alloc (.cells #[.int .i64 9] 3)).grown a (λe=>r e.symm);have S:=s.cell (i:=8) ω;have E:=s.frozen' (i:=8) ω)
   have j:=pU n b m t K B 9 8 ω { R with Al:= .slice o (k+1) d4,Ad:= .slice none 0 0 } (fR rfl rfl rfl rfl rfl rfl rfl rfl rfl rfl rfl rfl rfl) rfl a x u;go_roundg (gk-1)
   case measure=>have:=f.out;omega
   case rel=>exact⟨k+1,d4,o,l,by show gk-1=_;have:=f.out;omega,by go_num,j.1,j.2.1,by rw[z.out];exact j.2.2,ε b.size j.2.1.size⟩
 · rw[aa ω,aa ω,af ω]at ht;have z:=η ht;clear ht;have y:=m.alloc (.cells #[.int .i64 7] 3)
   go_wp2_with (at_builtin;(refine bq .i64 w.heap.size 3 F 8 rfl (.tmp 31) (.tmp 33) _ rfl Tryz.underlying63 Hi.out N.out M.out L.out rfl y rfl (bT.lit .i64 wr [7] 3) ω ω ξ ?_)
                intro o d4 w4 x a u;have s:=(n.cell.alloc (.cells #[.int .i64 7] 3)).grown a (λe=>r e.symm);have S:=s.cell (i:=8) ω;have E:=s.frozen' (i:=8) ω)
   have j:=pU n b m t K B 7 8 ω { R with Al:= .slice o (k+1) d4,Ad:= .slice none 0 0 } (fR rfl rfl rfl rfl rfl rfl rfl rfl rfl rfl rfl rfl rfl) rfl a x u;go_roundg (gk-1)
   case measure=>have:=f.out;omega
   case rel=>exact⟨k+1,d4,o,l,by show gk-1=_;have:=f.out;omega,by go_num,j.1,j.2.1,by rw[z.out];exact j.2.2,ε b.size j.2.1.size⟩
 rw[aa ω,aa ω,aa ω]at ht;have z:=η ht;clear ht;have y:=m.alloc (.cells #[.int .i64 8] 3)
 go_wp2_with (at_builtin;(refine bq .i64 w.heap.size 3 F 8 rfl (.tmp 31) (.tmp 33) _ rfl Tryz.underlying63 Hi.out N.out M.out L.out rfl y rfl (bT.lit .i64 wr [8] 3) ω ω ξ ?_)
              intro o d4 w4 x a u;have s:=(n.cell.alloc (.cells #[.int .i64 8] 3)).grown a (λe=>r e.symm);have S:=s.cell (i:=8) ω;have E:=s.frozen' (i:=8) ω)
 have j:=pU n b m t K B 8 8 ω { R with Al:= .slice o (k+1) d4,Ad:= .slice none 0 0 } (fR rfl rfl rfl rfl rfl rfl rfl rfl rfl rfl rfl rfl rfl) rfl a x u;go_roundg (gk-1)
 case measure=>have:=f.out;omega
 case rel=>exact⟨k+1,d4,o,l,by show gk-1=_;have:=f.out;omega,by go_num,j.1,j.2.1,by rw[z.out];exact j.2.2,ε b.size j.2.1.size⟩
end
structure og (R:RM) (s:IS):Prop where
 x:R.X.drop R.at_=s.x
 le:R.at_<=R.X.length
 out:R.out=s.all
 kinds:R.kinds=s.kinds
 stops:R.stops=s.stops
 au:R.au=s.au
 most:R.most=((s.all.length+s.rem:Nat):Int)
 E:R.E=0
 bit:dO R.X
 len:R.X.length<=100000000000
 even:R.X.length%8=0
 small:s.all.length+s.rem<=1000000000
 tk:R.au.length<=R.at_
structure EA (R R':RM):Prop where
 X:R'.X=R.X
 kinds:R'.kinds=R.kinds
 stops:R'.stops=R.stops
 le:R.at_<=R'.at_
structure Kv (R:RM) (t:IS) (v:Int):Prop where
 out:R.out=t.all
 kinds:R.kinds=t.kinds
 stops:R.stops=t.stops
 au:R.au=t.au
 E:R.E=v
def fU (w0:World) (c0:Nat->Nat) (b0 g:Nat) (R:RM) (s:IS) (e:Ending) (w':World):Prop:=
 (∃R' t x',e= .returned (.bool true)/\bV w0 c0 w' b0 g R'/\IS.Steps s t/\t.step=(({ t with x:=x' }:IS).over,0)/\og R' { t with x:=x' }/\EA R R')\/
 (∃R' t v,e= .returned (.bool false)/\bV w0 c0 w' b0 g R'/\s.fin=(t,v)/\v≠8/\Kv R' t v)
section
variable {w w' w0:World} {b0 g:Nat} {c c0:Nat->Nat} {R R':RM} {s t t':IS} {v:Int}
theorem fU.bad (a:IS.Steps s t) (h:t.step=(t',v)) (d:v≠0) (c:v≠8) (b:bV w0 c0 w' b0 g R') (hE:Kv R' t' v):fU w0 c0 b0 g R s (.returned (.bool false)) w':=
 .inr ⟨R',t',v,rfl,b,by rw[<-a.mG,IS.iA (by rw[h];exact d),h],c,hE⟩
theorem fU.ok {x':aj} (a:IS.Steps s t) (h:t.step=(({ t with x:=x' }:IS).over,0)) (c:bV w0 c0 w' b0 g R') (d:og R' { t with x:=x' }) (b:EA R R'):fU w0 c0 b0 g R s (.returned (.bool true)) w':=
 .inl ⟨R',t,x',rfl,c,a,h,d,b⟩
theorem xQ (x:aj) (h:dO x) (a b:Nat):num x (a+b)=num x a+2 ^ a*num (x.drop a) b\/x.length<a+b:=by
 by_cases d:x.length<a+b
 · exact .inr d
 refine .inl ?_;have e:x.take (a+b)=x.take a++(x.drop a).take b:=by rw[List.take_add]
 have c:=qW h (a+b);have g:=qW h a;have f:=qW (h.ed a) b;rw[e,jc,<-g,<-f,aD,bH ω]at c;have h4:((2 ^ a:Nat):Int)=2 ^ a:=σ;have:((num x (a+b):Nat):Int)=((num x a+2 ^ a*num (x.drop a) b:Nat):Int):=by rw[c];simp
 omega
def AlR (w0:World) (c0:Nat->Nat) (b0 g:Nat) (R:RM) (k:Nat) (wr:World):Prop:=
 ∃a,R.at_<=a/\Hid (a<=(R.at_+7)/8*8)/\bV w0 c0 wr b0 g { R with at_:=a }/\Hid (k=(R.at_+7)/8*8-a)
def StR (w0:World) (c0:Nat->Nat) (b0 g:Nat) (R:RM) (s:IS) (n:Nat) (k:Nat) (i:Value) (wr:World):Prop:=
 ∃j R' t,j<=n/\i= .int .i64 j/\Hid (k=n-j)/\bV w0 c0 wr b0 g R'/\IS.Steps s t/\og R' t/\t.Ok/\t.st=2/\Hid (t.left=n-j)/\EA R R'
theorem Jt (h:bV w0 c0 w b0 g R) (hO:s.Ok) (L:s.st=1) (hx:lN (R.X.drop R.at_)=s.x) (f:og R { s with x:=R.X.drop R.at_ }):
  Calls Tryz.prog 51 #[.pointer (some ⟨g,0,none⟩)] w (fU w0 c0 b0 g R s):=by
 have y:=f.len;have vp:=f.even;have aE:=f.le;obtain⟨A,hA⟩ :=ν ((R.at_+7)/8*8);have bo:A<=R.X.length:=ω
 have z:Hid (R.X.drop A=s.x):=by
  show _=_;rw[<-hx];unfold lN;rw[bn,az];congr 1;omega
 have HA:=η hA;have al:Hid (∀a,R.at_<=a->a<=A->a%8=0->a=A):=λa h1 h2 h3=>ω;have am:Hid (∀a,R.at_<=a->a<=A->a%8≠0->a+1<=A):=λa h1 h2 h3=>ω;have Z:=η L;have bt:=η vp;have lq:Hid (AlR w0 c0 b0 g R (A-R.at_) w):= ⟨R.at_,ai _,by show _<=_;omega,h,by show _=_;omega⟩;have bp:(A:Int)<=100000000000:=ω;clear hA vp L hx h;go_enter Tryz.func51,Tryz.ntmps51
 go_wp2_with fail;go_loopg [] (A-R.at_) (AlR w0 c0 b0 g R)
 case atStart=>exact lq.out
 clear lq;obtain⟨a,m,v,h,G⟩ :=hrel;obtain⟨-,k1, -, -, -,k5,k6, -⟩ :=h.cells;have z6:=h.cell.frozen' (i:=6) ω;have z1:=h.cell.frozen' (i:=1) ω;have J:=v.out;rw[HA.out]at J;have bi:(0:Int)<=a/\(a:Int)<=100000000000:=ω;by_cases O:a%8=0
 rotate_left
 · have Fj:(0:Int)<(a:Int)%8:=ω;have h2:=h.put (i:=6) ω (.int .i64 ((a:Int)+1)) { R with at_:=a+1 } (fR rfl rfl rfl rfl rfl rfl rfl rfl rfl rfl rfl rfl rfl) rfl;have jA:=η (am.out a m J O);clear O
   go_wp2_with fail;go_roundg (gk-1)
   case measure=>have:=G.out;have:=HA.out;have:=jA.out;omega
   case rel=>exact⟨a+1,ω,by show _<=_;rw[HA.out];exact jA.out,h2,by show gk-1=_;have:=G.out;omega⟩
 have an:=al.out a m J O;subst an;have Fj:(a:Int)%8=0:=ω;have ao:¬(0:Int)<(a:Int)%8:=ω;obtain⟨e,u⟩ :=ν (a+32);have hw:IntKind.i64.wrap ((a:Int)+32)=(e:Int):=by rw[aM _ ω];omega
 have qO:R.nb=R.X.length:=h.nb;have Q:s.x.length=R.X.length-a:=by rw[<-z.out,az]
 have d:Hid (s.step=s.size):=by show _=_;unfold IS.step;rw[aa (τ Z.out),af Z.out]
 unfold IS.size at d;have HE:=η u;by_cases ap:(R.nb:Int)<(e:Int)
 · have hs:=η (d.out.trans (af ω));have h1:=h.drew.put (i:=1) ω (.int .i64 5) { R with at_:=a,E:=5 } (fR rfl rfl rfl rfl rfl rfl rfl rfl rfl rfl rfl rfl rfl) rfl;clear u qO Q d G O m v J
   go_wp2_with fail;go_region
   all_goals
    go_wp2_with fail;go_ret;exact fU.bad (.refl s) hs.out δ δ h1 ⟨f.out,f.kinds,f.stops,f.au,rfl⟩
 have o:=η (d.out.trans (aa ω));have S:=f.bit;have vx:=λW (n:bV w0 c0 W b0 g { R with at_:=a })=>jZ n 16 ω (aw y ω) S (by show a+16<=R.X.length;omega) _ rfl;have O9:=λW (n:bV w0 c0 W b0 g { R with at_:=a+16 })=>jZ n 16 ω (aw y ω) S (by show a+16+16<=R.X.length;omega) _ rfl;have l:=(xQ (R.X.drop a) (S.ed a) 16 16).resolve_right (by rw[az];omega);have yX:=gI (S.ed a) 16;have r:=gI ((S.ed a).ed 16) 16;rw[bn]at l r;obtain⟨N,hN⟩ :=ν (num (R.X.drop a) 16);obtain⟨P,hP⟩ :=ν (num (R.X.drop (a+16)) 16);have vx:∀W,bV w0 c0 W b0 g { R with at_:=a }->Calls Tryz.prog 50 #[.pointer (some ⟨g,0,none⟩), .int .i64 16] W λe w'=>e= .returned (.tuple #[.int .i64 (N:Nat), .bool true])/\bV w0 c0 w' b0 g { R with at_:=a+16 }:=λW n=>by rw[<-hN];exact vx W n
 have O9:∀W,bV w0 c0 W b0 g { R with at_:=a+16 }->Calls Tryz.prog 50 #[.pointer (some ⟨g,0,none⟩), .int .i64 16] W λe w'=>e= .returned (.tuple #[.int .i64 (P:Nat), .bool true])/\bV w0 c0 w' b0 g { R with at_:=a+32 }:=λW n=>by rw[<-hP];exact O9 W n
 rw[hN,hP]at l;have l:num (R.X.drop a) 32=N+2 ^ 16*P:=l;rw[hN]at yX;rw[hP]at r;have tD:=η vx;have XU:=η O9
 have Y:Hid (num s.x 32%65536=N/\num s.x 32/65536=P):=by
  rw[<-z.out];have:(2:Nat) ^ 16=65536:=δ;rw[this]at l yX r;refine⟨?_, ?_⟩ <;> omega
 have bl:(0:Int)<=N/\(N:Int)<65536/\(0:Int)<=P/\(P:Int)<65536:=by
  have:(2:Nat) ^ 16=65536:=δ;omega
 have ac:Hid (R.X.drop (a+32)=s.x.drop 32):=by show _=_;rw[<-z.out,bn]
 rw[Y.out.1,Y.out.2]at o;clear vx O9 l yX r hN hP u qO Q d G O;by_cases CJ:N+P=65535
 rotate_left
 · have H:=η (o.out.trans (aa CJ));have M:(((N:Int)+(P:Int))==65535)=false:=ξ;clear CJ o m v J
   go_wp2_with fail;go_region
   all_goals
    go_wp2_with fail;refine(tD.out _ h.drew).mono ?_;rintro e w5 ⟨rfl,h5⟩
    go_wp2_with fail;refine(XU.out _ h5).mono ?_;rintro e w6 ⟨rfl,h6⟩;obtain⟨-,j1, -⟩ :=h6.cells;have y1:=h6.cell.frozen' (i:=1) ω;have h7:=h6.put (i:=1) ω (.int .i64 2) { R with at_:=a+32,E:=2 } (fR rfl rfl rfl rfl rfl rfl rfl rfl rfl rfl rfl rfl rfl) rfl
    go_wp2_with fail;go_ret;exact fU.bad (.refl s) H.out δ δ h7 ⟨f.out,f.kinds,f.stops,f.au,rfl⟩
 have H:=η (o.out.trans (af CJ));have ae:(N:Int)+(P:Int)=65535:=ω;have M:(((N:Int)+(P:Int)) != 65535)=false:=ξ;have ab:=η m
 have fy:Hid (∀W,bV w0 c0 W b0 g { R with at_:=a+32 }->StR w0 c0 b0 g R s N N (.int .i64 0) W):=λW n=>by
  have vQ:=hO.step (.inl (by rw[H.out]));rw[H.out]at vQ;have T:=IS.Steps.one (s:=s) (by rw[H.out]);rw[H.out]at T;exact⟨0,_,_,aF _,rfl,rfl,n,T, ⟨ac.out,by show a+32<=R.X.length;have h8:=HE.out;have h9:R.nb=R.X.length:=h.nb;omega,f.out,f.kinds,f.stops,f.au,f.most,f.E,f.bit,f.len,f.even,f.small,aw f.tk (by show R.at_<=a+32;have:=ab.out;omega)⟩,vQ,rfl,rfl, ⟨rfl,rfl,rfl,by show R.at_<=a+32;have:=ab.out;omega⟩⟩
 clear CJ o m v J ae
 go_wp2_with fail;go_region
 all_goals
  go_wp2_with fail;refine(tD.out _ h.drew).mono ?_;rintro e w5 ⟨rfl,h5⟩
  go_wp2_with fail;refine(XU.out _ h5).mono ?_;rintro e w6 ⟨rfl,h6⟩
  go_wp2_with fail;clear M;go_loopg [7] N (StR w0 c0 b0 g R s N)
  case atStart=>exact fy.out _ h6
  clear fy h5 h6 h;obtain⟨j,R1,t,hj,rfl,G,h,q,c,vQ,kz,F,U⟩ :=hrel;have wU:=η kz;have T6:=η U;have b:Hid (t.step=t.stored):=by show _=_;unfold IS.step;rw[aa ω,aa ω,af kz]
  unfold IS.stored at b;clear kz U;by_cases be:(j:Int)<(N:Int)
  rotate_left
  · have k:t.left=0:=by have:=F.out;omega
    have B:=η (b.out.trans (af k));clear k b
    go_wp2_with fail;go_ret;exact fU.ok (x':=t.x) q B.out h c T6.out
  have k:t.left≠0:=by have:=F.out;omega
  have B:=η (b.out.trans (aa k));have B6:=c.len;have B4:=c.le;have mf:t.x.length=R1.X.length-R1.at_:=by rw[<-c.x,az]
  by_cases K:t.x.length<8
  · have I:=η (B.out.trans (af K));have ht:=η (oa h 8 ω ω B4 ω);clear K mf B6 B4 k b B
    go_wp2_with fail;refine ht.out.mono ?_;rintro e w7 ⟨rfl,h7⟩
    go_wp2_with fail;go_ret;exact fU.bad q I.out δ δ h7 ⟨c.out,c.kinds,c.stops,c.au,rfl⟩
  have I:=η (B.out.trans (aa K));unfold IS.emit at I;have VP:=gI (c.bit.ed R1.at_) 8;rw[c.x]at VP;obtain⟨V,hV⟩ :=ν (((num t.x 8:Nat):Int):Int);have ht:=η (jZ h 8 ω ω c.bit ω V (by rw[c.x,hV]));rw[hV]at I;have Lq:0<=V/\V<256:=by have:(2:Nat) ^ 8=256:=δ;omega
  have ad:Hid (R1.X.drop (R1.at_+8)=t.x.drop 8):=by show _=_;rw[<-c.x,bn]
  have ah:Hid (R1.at_+8<=R1.X.length):=by show _<=_;omega
  have jI:=c.most;have x7:R1.out.length=t.all.length:=by rw[c.out]
  have C:=c.small;by_cases hr:t.rem=0
  · have u:∀W,bV w0 c0 W b0 g { R1 with at_:=R1.at_+8 }->Calls Tryz.prog 70 #[.pointer (some ⟨g,0,none⟩), .int .u8 V] W λe w'=>e= .returned (.bool false)/\bV w0 c0 w' b0 g { R1 with at_:=R1.at_+8,E:=6 }:=λW n=>xX n V (by show R1.most<=_;rw[jI];show _<=((R1.out.length:Nat):Int);omega);have RQ:=η u;have p:Hid (t.step=({ t with x:=t.x.drop 8,left:=t.left-1,all:=t.all++[V].take t.rem,rem:=t.rem - [V].length },6)):=I.out.trans (by rw[af ξ]);have Vv:=η hr;clear u hr hV VP K mf B6 B4 k jI x7 C b B
    go_wp2_with fail;refine ht.out.mono ?_;rintro e w7 ⟨rfl,h7⟩
    go_wp2_with fail;refine(RQ.out _ h7).mono ?_;rintro e w8 ⟨rfl,h8⟩
    go_wp2_with fail;go_ret;exact fU.bad q p.out δ δ h8 ⟨by rw[Vv.out];show R1.out=t.all++[V].take 0;rw[c.out];simp,c.kinds,c.stops,c.au,rfl⟩
  have u:∀W,bV w0 c0 W b0 g { R1 with at_:=R1.at_+8 }->Calls Tryz.prog 70 #[.pointer (some ⟨g,0,none⟩), .int .u8 V] W (Es w0 c0 b0 g { R1 with at_:=R1.at_+8 } V):=λW n=>BB n V (by show((R1.out.length:Nat):Int)<R1.most;rw[jI];omega) (by show R1.out.length<=_;omega);have RQ:=η u;have p:Hid (t.step=({ t with x:=t.x.drop 8,left:=t.left-1,all:=t.all++[V].take t.rem,rem:=t.rem - [V].length },0)):=I.out.trans (by rw[aa ξ]);have D:Hid ([V].take t.rem=[V]):=aC ξ;have Vv:=η hr;have yN:=η C;have bs:=η k;clear u hr hV VP K mf B6 B4 k jI x7 C b B
  go_wp2_with fail;refine ht.out.mono ?_;rintro e w7 ⟨rfl,h7⟩
  go_wp2_with fail;refine(RQ.out _ h7).mono ?_;rintro e w8 ⟨A8,n8,c8,rfl,h8⟩
  go_wp2_with fail;go_roundg (gk-1)
  case measure=>have:=G.out;omega
  have xy:=vQ.step (.inl (by rw[p.out]));have pW:=IS.Steps.tail q (by rw[p.out]);rw[p.out]at xy pW;refine⟨j+1,_,_,ω,by go_num,by show gk-1=_;have:=G.out;omega,h8,pW, ⟨ad.out,ah.out, ?_,c.kinds,c.stops,c.au, ?_,c.E,c.bit,c.len,c.even, ?_,aw c.tk (by show R1.at_<=R1.at_+8;omega)⟩,xy,wU.out,by show t.left-1=_;have:=F.out;omega, ⟨T6.out.X,T6.out.kinds,T6.out.stops,aw T6.out.le (by show R1.at_<=R1.at_+8;omega)⟩⟩
  · show R1.out++[V]=t.all++[V].take t.rem;rw[D.out,c.out]
  · show R1.most=(((t.all++[V].take t.rem).length+(t.rem - [V].length):Nat):Int);rw[c.most,D.out,ag];have:=Vv.out;simp;omega
  show(t.all++[V].take t.rem).length+(t.rem - [V].length)<=_;rw[D.out,ag];have:=Vv.out;have:=yN.out;simp;omega
end
section
variable {w w' w0 w2:World} {b0 g:Nat} {c c0:Nat->Nat} {R R':RM} {s t t':IS} {v:Int}
theorem mn.W7 (w:World) (t:cy):mn (w.alloc (.cells #[.int .u8 t.lit, .int .i64 t.len, .int .i64 t.bm] 109)) (w.heap.size+1) (some ⟨w.heap.size,0,none⟩) 1 [t]:=by
 have h:=BZ w t.lit t.len t.bm 109;refine⟨rfl,λ_=> ⟨_,rfl,σ,λi hi=> ?_⟩⟩;obtain rfl:i=0:=ω;exact⟨by rw[oh];exact h.cell (i:=0) ω,by rw[oh];exact h.cell (i:=1) ω,by rw[oh];exact h.cell (i:=2) ω⟩
theorem bV.a1Y (h:bV w0 c0 w b0 g R) (t:cy) {o:Obj} {A2:ay} {d c2:Nat} (m:(w.alloc o).grownBy w2 (ak R.At)) (l:kh w2 b0 A2 d c2 (R.au++[t])) (b:ak A2=ak R.At\/ak A2=some (w.alloc o).heap.size):
  bV w0 c0 (w2.setCell ⟨g,12,none⟩ (.slice A2 d c2)) b0 g { R with At:=A2,nt:=d,ct:=c2,au:=R.au++[t] }:=by
 have c:=h.apart.2.2.2;have s:=h.cell.lt;have r:=(h.cell.alloc o).grown m (λe=>c e.symm)
 have f:ak A2≠some g:=by
  rcases b with e | e
  · rw[e];exact c
  rw[e];intro j;injection j with j;simp at j;omega
 refine h.Wj ((((bk.refl w _).alloc _).grown m (λq n=> .inl (.inr n))).setCell (p:= ⟨g,12,none⟩) (.inl (.inl rfl)) _) ((r.bK (i:=12) ω _).congr (fR rfl rfl rfl rfl rfl rfl rfl rfl rfl rfl rfl rfl rfl)) ⟨l.1,l.2.far (p:= ⟨g,12,none⟩) f _⟩ (λk a=> ?_);rcases b with e | e
 · exact .inl (e▸a)
 rw[e]at a;injection a with a;simp at a;exact .inr ω
theorem a0x (x:Int) (j:Nat) (b:j<29) (a:x=257+(j:Int)) (w:World):Calls Tryz.prog 73 #[.int .i64 x] w λe w'=>e= .returned (.tuple #[.int .i64 ((lB j:Nat):Int), .int .i64 ((lE j:Nat):Int), .bool true])/\w=w':=by
 have:=J5 x w;unfold J4 at this;rw[af ω,show(x-257).toNat=j by omega]at this;exact this
theorem a0w (x:Int) (a:x<257\/285<x) (w:World):Calls Tryz.prog 73 #[.int .i64 x] w λe w'=>e= .returned (.tuple #[.int .i64 0, .int .i64 0, .bool false])/\w=w':=by
 have:=J5 x w;unfold J4 at this;rw[aa ω]at this;exact this
theorem TH (x:Int) (j:Nat) (b:j<30) (a:x=(j:Int)) (w:World):Calls Tryz.prog 74 #[.int .i64 x] w λe w'=>e= .returned (.tuple #[.int .i64 ((dB j:Nat):Int), .int .i64 ((dE j:Nat):Int), .bool true])/\w=w':=by
 have:=Dc x w;unfold Au at this;rw[af ω,show(x-0).toNat=j by omega]at this;exact this
theorem TG (x:Int) (a:x<0\/29<x) (w:World):Calls Tryz.prog 74 #[.int .i64 x] w λe w'=>e= .returned (.tuple #[.int .i64 0, .int .i64 0, .bool false])/\w=w':=by
 have:=Dc x w;unfold Au at this;rw[aa ω]at this;exact this
theorem KB (l:aj) (D:Nat) {j N:Nat} (h:j<=N):(again l D N).take j=again l D j:=by
 unfold again;rw[<-List.map_take,List.take_range,bH h]
structure TkS (R R':RM):Prop where
 Al:R'.Al=R.Al
 Ad:R'.Ad=R.Ad
 Ce:R'.Ce=R.Ce
 CS:R'.CS=R.CS
 keep:EA R R'
def a2t (w0:World) (c0:Nat->Nat) (b0 g:Nat) (R:RM) (s:IS) (k:Nat) (wr:World):Prop:=
 ∃R' t,bV w0 c0 wr b0 g R'/\IS.Steps s t/\og R' t/\t.Ok/\t.st=6/\TkS R R'/\Hid (k=t.mu)/\Hid (t.lt=s.lt)/\Hid (t.ds=s.ds)
def EmR (w0:World) (c0:Nat->Nat) (b0 g:Nat) (R:RM) (t:IS) (D N:Nat) (k:Nat) (i:Value) (wr:World):Prop:=
 ∃j A n cc,j<=N/\Hid (j<=t.rem)/\Hid (k=N-j)/\i= .int .i64 j/\bV w0 c0 wr b0 g { R with Ao:=A,no:=n,co:=cc,out:=t.all++again t.all D j }
theorem yI (h:il w b0 g c R) (b:og R s) (hO:s.Ok) (O:s.st=6) (Al Ad:ay) (nl cl d cd:Nat) (Ka:R.Al= .slice Al nl cl) (eb:R.Ad= .slice Ad d cd)
  (hl:bT .i64 w w.heap.size Al nl s.lt) (hd:bT .i64 w w.heap.size Ad d s.ds) (jP:0<nl->∀r,Al=some r->c r.block=0) (qx:0<d->∀r,Ad=some r->c r.block=0):
  Calls Tryz.prog 53 #[.pointer (some ⟨g,0,none⟩)] w (fU w c b0 g R s):=by
 obtain⟨i0,hi,cJ,cH,cG⟩ :=aL Eo;have Hi:=η hi;have i7:=η cJ;have gp:=η cH;have i9:=η cG;obtain⟨ey,ex⟩ :=hO.h6 (.inl O);obtain⟨Sp,dl, -⟩ :=vK ey;obtain⟨Y4,dp, -⟩ :=vK ex;have k8:=h.cell.cell (i:=8) ω;rw[show sF R 8= .slice Al nl cl from Ka]at k8;have IV:=h.cell.cell (i:=10) ω;have ge:=h.cell.frozen' (i:=10) ω;have fz:nl<=288:=by rw[hl.1];exact Sp
 have B9:d<=288:=by rw[hd.1];exact Y4
 have oX:=h.cell.lt;have P3:=η Ka;have YA:=η eb;have fI:=η O;have Ew:=η (show∀i,i<nl->0<=ix s.lt i/\ix s.lt i<=15 from λi hi=>dl i (by rw[<-hl.1];exact hi));have gc:=η (show∀i,i<d->0<=ix s.ds i/\ix s.ds i<=15 from λi hi=>dp i (by rw[<-hd.1];exact hi));have RO:=η jP;have RN:=η qx;clear hi cJ cH cG ey ex Sp dl Y4 dp Ka eb O jP qx;go_enter Tryz.func53,Tryz.ntmps53
 go_wp2_with fail;refine(uU _ _ _ _ _ _ hl (ai _) fz).mono ?_;rintro e w1 ⟨T,rfl,dA,Y,fv⟩;have F:=h.keeps Y;have gj:=F.cell.cell (i:=10) ω;have gh:=F.cell.frozen' (i:=10) ω;have Z:=F.put (i:=10) ω (.slice (some ⟨T,0,none⟩) nl nl) { R with Ce:= .slice (some ⟨T,0,none⟩) nl nl } (fR rfl rfl rfl rfl rfl rfl rfl rfl rfl rfl rfl rfl rfl) rfl;have Iw:bk w1 (w1.setCell ⟨g,10,none⟩ (.slice (some ⟨T,0,none⟩) nl nl)) (λk=>k=g):=(bk.refl w1 (λk=>k=g)).setCell (p:= ⟨g,10,none⟩) (.inl rfl) _;have x9:=Z.cell.cell (i:=9) ω;rw[show sF { R with Ce:= .slice (some ⟨T,0,none⟩) nl nl } 9= .slice Ad d cd from YA.out]at x9
 have fi:Hid (∀(nn:Nat) (A:ay),(0<nn->∀r,A=some r->c r.block=0)->0<nn->∀r,A=some r->¬r.block=g):=λnn A hq h0 r e B=>by
  have:=hq h0 r e;rw[B,h.cg]at this;exact absurd this δ
 have sI:=Iw.ri (hd.below Y) Y.size (λh0 r e=>fi.out d Ad RN.out h0 r e)
 go_wp2_with fail;refine(uU _ _ _ _ _ _ sI (aw Y.size Iw.size) B9).mono ?_;rintro e w3 ⟨N,rfl,dz,ah,fs⟩;have h3:=Z.keeps ah;have gi:=h3.cell.cell (i:=11) ω;have gf:=h3.cell.frozen' (i:=11) ω;have h4:=h3.put (i:=11) ω (.slice (some ⟨N,0,none⟩) d d) { R with Ce:= .slice (some ⟨T,0,none⟩) nl nl,CS:= .slice (some ⟨N,0,none⟩) d d } (fR rfl rfl rfl rfl rfl rfl rfl rfl rfl rfl rfl rfl rfl) rfl;have ZV:bk w3 (w3.setCell ⟨g,11,none⟩ (.slice (some ⟨N,0,none⟩) d d)) (λk=>k=g):=(bk.refl w3 (λk=>k=g)).setCell (p:= ⟨g,11,none⟩) (.inl rfl) _;have f:w.heap.size<=(w1.setCell ⟨g,10,none⟩ (.slice (some ⟨T,0,none⟩) nl nl)).heap.size:=aw Y.size Iw.size;have hs3:=aw f ah.size
 have ch:∀q,w.heap.size<=q->c q=0:=λq hq=>by
  by_cases e:c q=0
  · exact e
  have:=(h.cb q e).2;omega
 have bi:bk w (w3.setCell ⟨g,11,none⟩ (.slice (some ⟨N,0,none⟩) d d)) (λk=>c k≠0):=by
  have o:bk w w1 (λk=>c k≠0):=bk.bJ Y;have a2:=o.trans Iw (λk hk=> .inl (by rw[hk,h.cg];decide));have a3:bk w w3 (λk=>c k≠0):=a2.trans (bk.bJ (S:=λ_=>False) ah) (λk hk=>hk.elim);exact a3.trans ZV (λk hk=> .inl (by rw[hk,h.cg];decide))
 have Sa:DE w.heap.size w c (w3.setCell ⟨g,11,none⟩ (.slice (some ⟨N,0,none⟩) d d)) c->True:=λ_=>trivial;have ca:bT .i64 (w3.setCell ⟨g,11,none⟩ (.slice (some ⟨N,0,none⟩) d d)) w.heap.size Al nl s.lt:=bi.ri hl (ai _) (λh0 r e B=>B (RO.out h0 r e));have Iz:bT .i64 (w3.setCell ⟨g,11,none⟩ (.slice (some ⟨N,0,none⟩) d d)) w.heap.size Ad d s.ds:=bi.ri hd (ai _) (λh0 r e B=>B (RN.out h0 r e))
 have bI:bT .u32 (w3.setCell ⟨g,11,none⟩ (.slice (some ⟨N,0,none⟩) d d)) w1.heap.size (some ⟨T,0,none⟩) nl (jk s.lt):=by
  have q1:=Iw.ri dA (ai _) (λ_ r e B=>by injection e with e;subst e;simp only at B;omega);have q2:=q1.below (ah.mono Iw.size);exact ZV.ri q2 (aw Iw.size ah.size) (λ_ r e B=>by injection e with e;subst e;simp only at B;omega)
 have ce:bT .u32 (w3.setCell ⟨g,11,none⟩ (.slice (some ⟨N,0,none⟩) d d)) w3.heap.size (some ⟨N,0,none⟩) d (jk s.ds):=ZV.ri dz (ai _) (λ_ r e B=>by injection e with e;subst e;simp only at B;omega)
 have ew:∀w' R',bV (w3.setCell ⟨g,11,none⟩ (.slice (some ⟨N,0,none⟩) d d)) c w' b0 g R'->bV w c w' b0 g R':=λw' R' hr=>
  bV.fo h4 (DE.step (c':=c) (⟨ax _ _,bk.refl _ _,λ_ _=>rfl⟩ :DE b0 w c w c) h.lo (λk hk=>(h.cb k hk).1) bi (λ_ _=>rfl)) hr
 obtain⟨u,Dy⟩ :=ν (w3.setCell ⟨g,11,none⟩ (.slice (some ⟨N,0,none⟩) d d))
 have C:∀wr R',bV u c wr b0 g R'->bT .i64 wr wr.heap.size Al nl s.lt/\bT .i64 wr wr.heap.size Ad d s.ds/\bT .u32 wr wr.heap.size (some ⟨T,0,none⟩) nl (jk s.lt)/\bT .u32 wr wr.heap.size (some ⟨N,0,none⟩) d (jk s.ds):=λwr R' hr=>by
  obtain⟨ha, -⟩ :=hr.aside;rw[Dy]at ca Iz bI ce;have uh:w3.heap.size<=u.heap.size:=by rw[<-Dy];exact ZV.size
  have bs:w1.heap.size<=u.heap.size:=aw (aw Iw.size ah.size) uh;have ao:w.heap.size<=u.heap.size:=aw Y.size bs;refine⟨(ha.ri ca ao (λh0 r e B=>B (RO.out h0 r e))).more (aw ao ha.size),(ha.ri Iz ao (λh0 r e B=>B (RN.out h0 r e))).more (aw ao ha.size),(ha.ri bI bs (λ_ r e B=> ?_)).more (aw bs ha.size),(ha.ri ce uh (λ_ r e B=> ?_)).more (aw uh ha.size)⟩
  · injection e with e;subst e;exact B (ch _ fv)
  injection e with e;subst e;exact B (ch _ (aw f fs))
 rw[Dy]at h4;have fa:=η C;have XQ:Hid (∀w' R',bV u c w' b0 g R'->bV w c w' b0 g R'):=λw' R' hr=>by rw[<-Dy]at hr;exact ew w' R' hr
 have Gv:=η Dy
 have lq:Hid (a2t u c b0 g { R with Ce:= .slice (some ⟨T,0,none⟩) nl nl,CS:= .slice (some ⟨N,0,none⟩) d d } s s.mu u):=
  ⟨_,s,h4.refl, .refl s, ⟨b.x,b.le,b.out,b.kinds,b.stops,b.au,b.most,b.E,b.bit,b.len,b.even,b.small,b.tk⟩,hO,fI.out, ⟨rfl,rfl,rfl,rfl, ⟨rfl,rfl,rfl,ai _⟩⟩,rfl,rfl,rfl⟩
 clear Dy C ew Sa bi ch ca Iz bI ce h4 h3 Z F hl hd sI dA dz
 go_wp2_with fail;rw[Gv.out];have Ij:∃R0:RM,({ R with Ce:= .slice (some ⟨T,0,none⟩) nl nl,CS:= .slice (some ⟨N,0,none⟩) d d }:RM)=R0/\R0.Al= .slice Al nl cl/\R0.Ad= .slice Ad d cd/\R0.Ce= .slice (some ⟨T,0,none⟩) nl nl/\R0.CS= .slice (some ⟨N,0,none⟩) d d/\EA R R0:= ⟨_,rfl,P3.out,YA.out,rfl,rfl, ⟨rfl,rfl,rfl,ai _⟩⟩;obtain⟨R0,Ij,eg,ZH,ef,ej,en⟩ :=Ij;rw[Ij]at lq;have Yz:=η (And.intro eg (And.intro ZH (And.intro ef (And.intro ej en))));clear Ij eg ZH ef ej en b hO;go_loopg [] s.mu (a2t u c b0 g R0 s)
 case atStart=>exact lq.out
 clear lq;obtain⟨R1,t,h,hs,b,hO,O,G,hk,bB,cc⟩ :=hrel;have k8:=h.cell.cell (i:=8) ω;rw[show sF R1 8= .slice Al nl cl from G.Al.trans Yz.out.1]at k8;have IV:=h.cell.cell (i:=10) ω;rw[show sF R1 10= .slice (some ⟨T,0,none⟩) nl nl from G.Ce.trans Yz.out.2.2.1]at IV;have gd:=b.len;have fn:=b.le;have ap:=b.small;have jJ:Hid (t.step=t.token):=JS O;unfold IS.token at jJ;obtain⟨K,hK⟩ :=ν ((aK t.lt t.x).1);obtain⟨n,hn⟩ :=ν ((aK t.lt t.x).2.1);obtain⟨E,hE⟩ :=ν ((aK t.lt t.x).2.2);have gY:Hid (E=0\/E=3\/E=5):=by have:=eU t.lt t.x;rw[hE]at this;exact this
 have oM:Hid (E=0->0<=K/\K<288/\n<=t.x.length):=λh=>by
  obtain⟨k2,y,e1,B,e3,e4,e5⟩ :=mi (l:=t.lt) (x:=t.x) hO.bit (by rw[hE,h];simp);have h6:=(vK (hO.h6 (.inl O)).1).1;rw[e1]at hK hn;simp at hK hn;omega
 have Vi:Hid (E=0->1<=n):=λh=>by have:=jn (l:=t.lt) (x:=t.x) (by rw[hE];exact h);rw[hn]at this;exact this.1
 have de:aK t.lt t.x=(K,n,E):=by rw[<-hK,<-hn,<-hE]
 rw[hK,hn,hE]at jJ
 have QG:∀W,bV u c W b0 g R1->Calls Tryz.prog 72 #[.pointer (some ⟨g,0,none⟩), .slice Al nl cl, .slice (some ⟨T,0,none⟩) nl nl] W (ED u c b0 g R1 K n E):=λW H=>by
  obtain⟨o,a2,a3,a4⟩ :=fa.out W R1 H;exact BG H Al (some ⟨T,0,none⟩) nl cl nl s.lt o a3 fz Ew.out ω b.bit fn K n E (by rw[b.x,<-bB.out];exact de)
 have P6:=η QG;have T7:=η O;clear hK hn hE de QG O;by_cases nS:E=0
 rotate_left
 · have sN:∀W,bV u c W b0 g R1->Calls Tryz.prog 72 #[.pointer (some ⟨g,0,none⟩), .slice Al nl cl, .slice (some ⟨T,0,none⟩) nl nl] W λe w'=>e= .returned (.tuple #[.int .i64 0, .bool false])/\bV u c w' b0 g { R1 with E:=E }:=λW H=>by
    refine(P6.out W H).mono ?_;rintro e w' (⟨F, -⟩ | ⟨-,F,Z⟩)
    · exact absurd F nS
    exact⟨F,Z⟩
   have Ks:=η sN;have f:=η (jJ.out.trans (af nS));have P:E≠8:=by rcases gY.out with e | e | e <;> omega
   have Gr:=η nS;have cz:=η P;clear jJ oM gY P6 sN nS P Vi
   go_wp2_with fail
   go_region_law
    ((go_simp;go_at_call 72;(refine(Ks.out _ (by first | exact h | exact h.drew | exact h.drewN _)).mono ?_))
     rintro e w5 ⟨rfl,h5⟩)
   all_goals
    go_wp2_with fail;go_ret;exact fU.bad hs f.out Gr.out cz.out (XQ.out _ _ h5) ⟨b.out,b.kinds,b.stops,b.au,rfl⟩
 subst nS;obtain⟨Ih,ZB,jA⟩ :=oM.out rfl;have QI:=η (jJ.out.trans (aa δ))
 have sN:∀W,bV u c W b0 g R1->Calls Tryz.prog 72 #[.pointer (some ⟨g,0,none⟩), .slice Al nl cl, .slice (some ⟨T,0,none⟩) nl nl] W λe w'=>e= .returned (.tuple #[.int .i64 K, .bool true])/\bV u c w' b0 g { R1 with at_:=R1.at_+n }:=λW H=>by
  refine(P6.out W H).mono ?_;rintro e w' (⟨-,F,Z⟩ | ⟨F, -⟩)
  · exact⟨F,Z⟩
  exact absurd rfl F
 have Ks:=η sN;have Yx:Hid (1<=n):=Vi.out rfl;have mf:t.x.length=R1.X.length-R1.at_:=by rw[<-b.x,az]
 have Cp:Hid (R1.X.drop (R1.at_+n)=t.x.drop n):=by show _=_;rw[<-b.x,bn]
 have cj:Hid (R1.at_+n<=R1.X.length):=by show _<=_;omega
 clear jJ oM gY P6 sN mf Vi
 go_wp2_with fail;go_cut [3,4] (λs3 s4 wx=>s3= .int .i64 K/\s4= .bool true/\bV u c wx b0 g { R1 with at_:=R1.at_+n })
 case first=>
  go_region_law
   ((go_simp;go_at_call 72;(refine(Ks.out _ (by first | exact h | exact h.drew | exact h.drewN _)).mono ?_))
    rintro e w5 ⟨rfl,h5⟩)
  all_goals
   go_wp2_with fail;go_meet;exact⟨rfl,rfl,h5⟩
 obtain⟨rfl,rfl,h5⟩ :=hcut;clear k8 IV h;by_cases ug:K=256
 · have f:=η (QI.out.trans ((aa ω).trans (af ug)));clear QI;subst ug
   go_wp2_with fail;go_ret;refine .inl ⟨_,t,t.x.drop n,rfl,XQ.out _ _ h5,hs,f.out, ⟨Cp.out,cj.out,b.out,b.kinds,b.stops,b.au,b.most,b.E,b.bit,b.len,b.even,b.small,aw b.tk (by show R1.at_<=R1.at_+n;omega)⟩, ?_⟩;have o:=Yz.out.2.2.2.2;exact⟨G.keep.X.trans o.X,G.keep.kinds.trans o.kinds,G.keep.stops.trans o.stops,aw o.le (aw G.keep.le (by show R1.at_<=R1.at_+n;omega))⟩
 have hb:(K==256)=false:=by simpa using ug
 by_cases et:K<256
 · have f:=η (QI.out.trans (af et));unfold IS.emit at f;have mU:R1.nt=R1.au.length:=h5.au.1;have bv:R1.nt+1<=1000000000000:=by have:=b.tk;omega
   have gn:1<=n:=Yx.out;have ck:=h5.apart.2.2.2;have fr:=h5.cell.lt;have LY:=h5.cell.cell (i:=12) ω;rw[show sF { R1 with at_:=R1.at_+n } 12= .slice R1.At R1.nt R1.ct from rfl]at LY;have gt:=h5.lo;have jb:kh (wc.alloc (.cells #[.int .u8 K, .int .i64 0, .int .i64 0] 109)) b0 R1.At R1.nt R1.ct R1.au:= ⟨h5.au.1,h5.au.2.alloc _⟩;have cQ:=mn.W7 wc (cy.mk K 0 0);have x7:R1.out.length=t.all.length:=by rw[b.out]
   have jI:=b.most;have du:t.rem=0->∀W R2,R2.out=R1.out->R2.most=R1.most->bV u c W b0 g R2->Calls Tryz.prog 70 #[.pointer (some ⟨g,0,none⟩), .int .u8 K] W λe w'=>e= .returned (.bool false)/\bV u c w' b0 g { R2 with E:=6 }:=λhz W R2 F Z H=>xX H K (by rw[Z,F,jI];omega);have dq:t.rem≠0->∀W R2,R2.out=R1.out->R2.most=R1.most->bV u c W b0 g R2->Calls Tryz.prog 70 #[.pointer (some ⟨g,0,none⟩), .int .u8 K] W (Es u c b0 g R2 K):=λhz W R2 F Z H=>BB H K (by rw[Z,F,jI];omega) (by rw[F];omega);have gb:=η du;have ga:=η dq;have yN:=η ap;clear du dq x7 jI ap mU ug QI
   go_wp2_with (at_builtin;(refine nG b0 i0 rfl (.tmp 50) (.tmp 54) rfl Hi.out i7.out gp.out i9.out rfl jb rfl cQ bv ξ ?_)
                intro A4 d4 w4 bL ac dT;have iL:=(h5.cell.alloc (.cells #[.int .u8 K, .int .i64 0, .int .i64 0] 109)).grown ac (λe=>ck e.symm);have cD:=iL.cell (i:=12) ω;have cB:=iL.frozen' (i:=12) ω)
   have h6:=h5.a1Y (cy.mk K 0 0) ac bL dT;by_cases hz:t.rem=0
   · have hs3:Hid (t.step=({ t with x:=t.x.drop n,au:=t.au++[cy.mk K 0 0],all:=t.all++[K].take t.rem,rem:=t.rem - [K].length },6)):=f.out.trans (by rw[af ξ]);have he:=η (gb.out hz _ { R1 with at_:=R1.at_+n,At:=A4,nt:=R1.nt+1,ct:=d4,au:=R1.au++[cy.mk K 0 0] } rfl rfl h6);have HZ:=η hz;clear hz;refine he.out.mono ?_;rintro e w7 ⟨rfl,h7⟩
     go_wp2_with fail;go_ret;exact fU.bad hs hs3.out δ δ (XQ.out _ _ h7) ⟨by show R1.out=t.all++[K].take t.rem;rw[HZ.out,b.out];simp,b.kinds,b.stops,by show R1.au++_=t.au++_;rw[b.au],rfl⟩
   have hs3:Hid (t.step=({ t with x:=t.x.drop n,au:=t.au++[cy.mk K 0 0],all:=t.all++[K].take t.rem,rem:=t.rem - [K].length },0)):=f.out.trans (by rw[aa ξ]);have he:=η (ga.out hz _ { R1 with at_:=R1.at_+n,At:=A4,nt:=R1.nt+1,ct:=d4,au:=R1.au++[cy.mk K 0 0] } rfl rfl h6);have bt:Hid ([K].take t.rem=[K]):=aC ξ;have HZ:=η hz;clear hz;refine he.out.mono ?_;rintro e w7 ⟨A8,n8,c8,rfl,h7⟩;have vX:Hid (t.step.1.mu<t.mu):=IS.jK (by rw[hs3.out])
   go_wp2_with fail;go_roundg t.step.1.mu
   case measure=>have:=hk.out;have:=vX.out;omega
   have xy:=hO.step (.inl (by rw[hs3.out]));have pW:=IS.Steps.tail hs (by rw[hs3.out]);rw[hs3.out]at xy pW⊢;refine⟨_,_,h7,pW, ⟨Cp.out,cj.out, ?_,b.kinds,b.stops,by show R1.au++_=t.au++_;rw[b.au], ?_,b.E,b.bit,b.len,b.even, ?_, ?_⟩,xy,T7.out, ⟨G.Al,G.Ad,G.Ce,G.CS, ⟨G.keep.X,G.keep.kinds,G.keep.stops,aw G.keep.le (by show R1.at_<=R1.at_+n;omega)⟩⟩,rfl,bB.out,cc.out⟩
   · show R1.out++[K]=t.all++[K].take t.rem;rw[bt.out,b.out]
   · show R1.most=(((t.all++[K].take t.rem).length+(t.rem - [K].length):Nat):Int);rw[b.most,bt.out,ag];have:=HZ.out;simp;omega
   · show(t.all++[K].take t.rem).length+(t.rem - [K].length)<=_;rw[bt.out,ag];have:=HZ.out;have:=yN.out;simp;omega
   show(R1.au++[_]).length<=R1.at_+n;rw[ag];have:=b.tk;have:=Yx.out;simp;omega
 have l7:=η (QI.out.trans ((aa et).trans (aa ug)));clear QI;by_cases cs:285<K
 · have f:=η (l7.out.trans (af cs));have lI:=η (a0w K (.inr cs) wc);have k1:=h5.cell.cell (i:=1) ω;have z1:=h5.cell.frozen' (i:=1) ω;have h6:=h5.put (i:=1) ω (.int .i64 3) { R1 with at_:=R1.at_+n,E:=3 } (fR rfl rfl rfl rfl rfl rfl rfl rfl rfl rfl rfl rfl rfl) rfl;clear l7 ug
   go_wp2_with fail;refine lI.out.mono ?_;rintro e w6 ⟨rfl,rfl⟩
   go_wp2_with fail;go_ret;exact fU.bad hs f.out δ δ (XQ.out _ _ h6) ⟨b.out,b.kinds,b.stops,b.au,rfl⟩
 have jX:=η (l7.out.trans (aa cs));obtain⟨j,hj⟩ :=ν ((K-257).toNat);have xE:j<29:=ω;have lI:=a0x K j xE ω wc;rw[hj]at jX;have jW:=IY j xE;have O8:=λv=> @VX j v xE;obtain⟨LB,es⟩ :=ν (lB j);obtain⟨LE,er⟩ :=ν (lE j);rw[es,er]at lI jX jW O8;have Gs:=η lI;have QK:(t.x.drop n).length=R1.X.length-(R1.at_+n):=by rw[<-Cp.out,az]
 have fm:=b.len;have kK:=cj.out;have gV:(0:Int)<=LB/\(LB:Int)<=258/\(0:Int)<=LE/\(LE:Int)<=5:=ω;clear l7 hj xE es er lI ug;by_cases C:(t.x.drop n).length<LE
 · have f:=η (jX.out.trans (af C));have ht:=η (oa h5 LE ω (by show R1.X.length<=_;omega) kK (by show R1.X.length<R1.at_+n+LE;omega));clear C QK jX O8 jW
   go_wp2_with fail;refine Gs.out.mono ?_;rintro e w6 ⟨rfl,rfl⟩
   go_wp2_with fail;refine ht.out.mono ?_;rintro e w7 ⟨rfl,h7⟩
   go_wp2_with fail;go_ret;exact fU.bad hs f.out δ δ (XQ.out _ _ h7) ⟨b.out,b.kinds,b.stops,b.au,rfl⟩
 have f:=η (jX.out.trans (aa C));have CL:=gI (hO.bit.ed n) LE;have cq:=O8 _ CL;obtain⟨V,hV⟩ :=ν (num (t.x.drop n) LE);have ht:=η (jZ h5 LE ω (by show R1.X.length<=_;omega) b.bit (by show R1.at_+n+LE<=R1.X.length;omega) (V:Int) (by show _=((num (R1.X.drop (R1.at_+n)) LE:Nat):Int);rw[Cp.out,hV]));rw[hV]at f cq CL;obtain⟨L,rY⟩ :=ν (LB+V);rw[rY]at f cq;have gE:(LB:Int)+(V:Int)=(L:Int):=ω;have gA:IntKind.i64.wrap ((LB:Int)+(V:Int))=(L:Int):=by rw[aM _ ω];omega
 have gw:(0:Int)<=V/\(V:Int)<=258/\(3:Int)<=L/\(L:Int)<=258:=ω;have bo:Hid (R1.X.drop (R1.at_+n+LE)=(t.x.drop n).drop LE):=by show _=_;rw[<-Cp.out,bn]
 have pD:Hid (R1.at_+n+LE<=R1.X.length):=by show _<=_;omega
 have vQ:=hO.step (.inl (by rw[f.out]));have J:=IS.Steps.tail hs (by rw[f.out]);rw[f.out]at vQ J;have rU:Hid (t.step.1.mu<t.mu):=IS.jK (by rw[f.out]);obtain⟨a,vx⟩ :∃a:IS,({ t with x:=(t.x.drop n).drop LE,len:=L,st:=7 }:IS)=a:= ⟨_,rfl⟩;have cX:a.x=(t.x.drop n).drop LE/\a.ds=t.ds/\a.lt=t.lt/\a.len=L/\a.st=7/\a.all=t.all/\a.rem=t.rem/\a.au=t.au/\a.kinds=t.kinds/\a.stops=t.stops:=by rw[<-vx];exact⟨rfl,rfl,rfl,rfl,rfl,rfl,rfl,rfl,rfl,rfl⟩
 have vr:Hid (a.mu<t.mu):=by have:=rU.out;rw[f.out]at this;rw[<-vx];exact this
 rw[vx]at vQ J;have vQ:a.Ok:=vQ;have J:IS.Steps s a:=J;have z:=η cX;clear f C QK jX O8 jW hV CL rY rU cX vx cq fm kK;have ae:Hid (a.step=a.bm):=Db z.out.2.2.2.2.1;unfold IS.bm at ae;obtain⟨K2,am⟩ :=ν ((aK a.ds a.x).1);obtain⟨y,oA⟩ :=ν ((aK a.ds a.x).2.1);obtain⟨E2,yT⟩ :=ν ((aK a.ds a.x).2.2);have V4:Hid (E2=0\/E2=3\/E2=5):=by have:=eU a.ds a.x;rw[yT]at this;exact this
 have VK:Hid (E2=0->0<=K2/\K2<288/\y<=a.x.length):=λh=>by
  obtain⟨k2,n3,e1,B,e3,e4,e5⟩ :=mi (l:=a.ds) (x:=a.x) vQ.bit (by rw[yT,h];simp);have h6:=(vK (vQ.h6 (.inr z.out.2.2.2.2.1)).2).1;rw[e1]at am oA;simp at am oA;omega
 have xI:aK a.ds a.x=(K2,y,E2):=by rw[<-am,<-oA,<-yT]
 rw[am,oA,yT]at ae
 have da:∀W,bV u c W b0 g { R1 with at_:=R1.at_+n+LE }->Calls Tryz.prog 72 #[.pointer (some ⟨g,0,none⟩), .slice Ad d cd, .slice (some ⟨N,0,none⟩) d d] W (ED u c b0 g { R1 with at_:=R1.at_+n+LE } K2 y E2):=λW H=>by
  obtain⟨o,a2,a3,a4⟩ :=fa.out W _ H;exact BG H Ad (some ⟨N,0,none⟩) d cd d s.ds a2 a4 B9 gc.out (by show R1.X.length<=_;omega) b.bit pD.out K2 y E2 (by show aK s.ds (R1.X.drop (R1.at_+n+LE))=_;rw[bo.out,<-cc.out,<-z.out.2.1,<-z.out.1];exact xI)
 have YC:=η da;clear am oA yT xI da
 go_wp2_with fail;refine Gs.out.mono ?_;rintro e w6 ⟨rfl,rfl⟩
 go_wp2_with fail;refine ht.out.mono ?_;rintro e w7 ⟨rfl,h7⟩;have k9:=h7.cell.cell (i:=9) ω;rw[show sF { R1 with at_:=R1.at_+n+LE } 9= .slice Ad d cd from G.Ad.trans Yz.out.2.1]at k9;have VW:=h7.cell.cell (i:=11) ω;rw[show sF { R1 with at_:=R1.at_+n+LE } 11= .slice (some ⟨N,0,none⟩) d d from G.CS.trans Yz.out.2.2.2.1]at VW;clear h5 ht Gs;by_cases nS:E2=0
 rotate_left
 · have sN:∀W,bV u c W b0 g { R1 with at_:=R1.at_+n+LE }->Calls Tryz.prog 72 #[.pointer (some ⟨g,0,none⟩), .slice Ad d cd, .slice (some ⟨N,0,none⟩) d d] W λe w'=>e= .returned (.tuple #[.int .i64 0, .bool false])/\bV u c w' b0 g { R1 with at_:=R1.at_+n+LE,E:=E2 }:=λW H=>by
    refine(YC.out W H).mono ?_;rintro e w' (⟨F, -⟩ | ⟨-,F,Z⟩)
    · exact absurd F nS
    exact⟨F,Z⟩
   have cw:=η sN;have hs3:=η (ae.out.trans (af nS));have P:E2≠8:=by rcases V4.out with e | e | e <;> omega
   have Gr:=η nS;have cz:=η P;clear ae VK V4 YC sN nS P
   go_wp2_with fail
   go_region_law
    ((go_simp;go_at_call 72;(refine(cw.out _ (by first | exact h7 | exact h7.drew | exact h7.drewN _)).mono ?_))
     rintro e w5 ⟨rfl,M⟩)
   all_goals
    go_wp2_with fail;go_ret;exact fU.bad J hs3.out Gr.out cz.out (XQ.out _ _ M) ⟨by rw[z.out.2.2.2.2.2.1];exact b.out,by rw[z.out.2.2.2.2.2.2.2.2.1];exact b.kinds,by rw[z.out.2.2.2.2.2.2.2.2.2];exact b.stops,by rw[z.out.2.2.2.2.2.2.2.1];exact b.au,rfl⟩
 subst nS;obtain⟨hg,hc,gm⟩ :=VK.out rfl;have be:=η (ae.out.trans (aa δ))
 have sN:∀W,bV u c W b0 g { R1 with at_:=R1.at_+n+LE }->Calls Tryz.prog 72 #[.pointer (some ⟨g,0,none⟩), .slice Ad d cd, .slice (some ⟨N,0,none⟩) d d] W λe w'=>e= .returned (.tuple #[.int .i64 K2, .bool true])/\bV u c w' b0 g { R1 with at_:=R1.at_+n+LE+y }:=λW H=>by
  refine(YC.out W H).mono ?_;rintro e w' (⟨-,F,Z⟩ | ⟨F, -⟩)
  · exact⟨F,Z⟩
  exact absurd rfl F
 have cw:=η sN;have fb:a.x.length=R1.X.length-(R1.at_+n+LE):=by rw[z.out.1,<-bo.out,az]
 have bl:Hid (R1.X.drop (R1.at_+n+LE+y)=a.x.drop y):=by show _=_;rw[z.out.1,<-bo.out,bn]
 have dT:Hid (R1.at_+n+LE+y<=R1.X.length):=by show _<=_;have:=pD.out;omega
 have ec:∀(R':RM) (v:Int),R'.out=R1.out->R'.kinds=R1.kinds->R'.stops=R1.stops->R'.au=R1.au->R'.E=v->Kv R' a v:=λR' v o a2 a3 a4 a5=> ⟨by rw[z.out.2.2.2.2.2.1,o];exact b.out,by rw[z.out.2.2.2.2.2.2.2.2.1,a2];exact b.kinds,by rw[z.out.2.2.2.2.2.2.2.2.2,a3];exact b.stops,by rw[z.out.2.2.2.2.2.2.2.1,a4];exact b.au,a5⟩;have T5:=η ec;clear ae VK V4 YC sN fb ec
 go_wp2_with fail;go_cut [3,4] (λs3 s4 wx=>s3= .int .i64 K2/\s4= .bool true/\bV u c wx b0 g { R1 with at_:=R1.at_+n+LE+y })
 case first=>
  go_region_law
   ((go_simp;go_at_call 72;(refine(cw.out _ (by first | exact h7 | exact h7.drew | exact h7.drewN _)).mono ?_))
    rintro e w5 ⟨rfl,P⟩)
  all_goals
   go_wp2_with fail;go_meet;exact⟨rfl,rfl,P⟩
 rename World=>wd
 obtain⟨rfl,rfl,P⟩ :=hcut;clear k9 VW h7;by_cases cr:29<K2
 · have hs3:=η (be.out.trans (af cr));have al:=η (TG K2 (.inr cr) wd);have k1:=P.cell.cell (i:=1) ω;have z1:=P.cell.frozen' (i:=1) ω;have M:=P.put (i:=1) ω (.int .i64 3) { R1 with at_:=R1.at_+n+LE+y,E:=3 } (fR rfl rfl rfl rfl rfl rfl rfl rfl rfl rfl rfl rfl rfl) rfl;clear be
   go_wp2_with fail;refine al.out.mono ?_;rintro e w6 ⟨rfl,rfl⟩
   go_wp2_with fail;go_ret;exact fU.bad J hs3.out δ δ (XQ.out _ _ M) (T5.out _ _ rfl rfl rfl rfl rfl)
 have Qi:=η (be.out.trans (aa cr));obtain⟨j2,NZ⟩ :=ν (K2.toNat);have aE:j2<30:=ω;have al:=TH K2 j2 aE ω wd;rw[NZ]at Qi
 have ci:dB j2<=32768/\dE j2<=13:=by
  have:∀j,j<30->dB j<=32768/\dE j<=13:=by decide+kernel
  exact this j2 aE
 have wj:=λv=> @TD j2 v aE;obtain⟨DB,ev⟩ :=ν (dB j2);obtain⟨I,XZ⟩ :=ν (dE j2);rw[ev,XZ]at al Qi ci wj;have cA:=η al;have cL:(a.x.drop y).length=R1.X.length-(R1.at_+n+LE+y):=by rw[<-bl.out,az]
 have jD:=dT.out;have hp:(0:Int)<=DB/\(DB:Int)<=32768/\(0:Int)<=I/\(I:Int)<=13:=ω;clear be NZ aE ev XZ al;by_cases C:(a.x.drop y).length<I
 · have hs3:=η (Qi.out.trans (af C));have ht:=η (oa P I ω (by show R1.X.length<=_;omega) jD (by show R1.X.length<R1.at_+n+LE+y+I;omega));clear C cL Qi wj ci jD
   go_wp2_with fail;refine cA.out.mono ?_;rintro e w6 ⟨rfl,rfl⟩
   go_wp2_with fail;refine ht.out.mono ?_;rintro e w7 ⟨rfl,M⟩
   go_wp2_with fail;go_ret;exact fU.bad J hs3.out δ δ (XQ.out _ _ M) (T5.out _ _ rfl rfl rfl rfl rfl)
 have IA:=η (Qi.out.trans (aa C));unfold IS.text at IA;have CL:=gI (vQ.bit.ed y) I;have Up:=wj _ CL;obtain⟨V2,cm⟩ :=ν (num (a.x.drop y) I);have ht:=η (jZ P I ω (by show R1.X.length<=_;omega) b.bit (by show R1.at_+n+LE+y+I<=R1.X.length;omega) (V2:Int) (by show _=((num (R1.X.drop (R1.at_+n+LE+y)) I:Nat):Int);rw[bl.out,cm]));rw[cm]at IA Up CL;obtain⟨D,eu⟩ :=ν (DB+V2);rw[eu]at IA Up;have hm:(DB:Int)+(V2:Int)=(D:Int):=ω;have hh:IntKind.i64.wrap ((DB:Int)+(V2:Int))=(D:Int):=by rw[aM _ ω];omega
 have ho:(1:Int)<=D/\(D:Int)<=32768/\(0:Int)<=V2/\(V2:Int)<=32768:=ω;have fd:Hid (R1.X.drop (R1.at_+n+LE+y+I)=(a.x.drop y).drop I):=by show _=_;rw[<-bl.out,bn]
 have iZ:Hid (R1.at_+n+LE+y+I<=R1.X.length):=by show _<=_;omega
 have dd:R1.no=R1.out.length:=P.out.1;have x7:R1.out.length=a.all.length:=by rw[z.out.2.2.2.2.2.1,b.out]
 clear C cL Qi wj ci jD cm CL eu;rw[z.out.2.2.2.1]at IA;by_cases Fe:(R1.no:Int)<(D:Int)
 · have hs3:=η (IA.out.trans (af ω));clear IA dd x7
   go_wp2_with fail;refine cA.out.mono ?_;rintro e w6 ⟨rfl,rfl⟩
   go_wp2_with fail;refine ht.out.mono ?_;rintro e w7 ⟨rfl,M⟩;have k0:=M.cell.cell (i:=0) ω;rw[show sF { R1 with at_:=R1.at_+n+LE+y+I } 0= .slice R1.Ao R1.no R1.co from rfl]at k0;have k1:=M.cell.cell (i:=1) ω;have z1:=M.cell.frozen' (i:=1) ω;have an:=M.put (i:=1) ω (.int .i64 3) { R1 with at_:=R1.at_+n+LE+y+I,E:=3 } (fR rfl rfl rfl rfl rfl rfl rfl rfl rfl rfl rfl rfl rfl) rfl
   go_wp2_with fail;go_ret;exact fU.bad J hs3.out δ δ (XQ.out _ _ an) (T5.out _ _ rfl rfl rfl rfl rfl)
 have hs3:=η (IA.out.trans (aa ω));unfold IS.emit at hs3;have fA:D<=a.all.length:=ω;have mU:R1.nt=R1.au.length:=P.au.1;have bv:R1.nt+1<=1000000000000:=by have:=b.tk;omega
 have hu:=η x7;have b1w:=η Fe;have jI:=b.most;rw[<-z.out.2.2.2.2.2.1,<-z.out.2.2.2.2.2.2.1]at jI;have bp:=ap;rw[<-z.out.2.2.2.2.2.1,<-z.out.2.2.2.2.2.2.1]at bp;have cx:=η jI;have yN:=η bp;have gr:(D:Int)<=(R1.no:Int)/\(R1.no:Int)<=1000000000:=ω;have gW:3<=L/\L<=258:=ω;clear IA dd x7 jI bp ap mU
 go_wp2_with fail;refine cA.out.mono ?_;rintro e w6 ⟨rfl,rfl⟩
 go_wp2_with fail;refine ht.out.mono ?_;rintro e w7 ⟨rfl,M⟩;have k0:=M.cell.cell (i:=0) ω;rw[show sF { R1 with at_:=R1.at_+n+LE+y+I } 0= .slice R1.Ao R1.no R1.co from rfl]at k0;have LY:=M.cell.cell (i:=12) ω;rw[show sF { R1 with at_:=R1.at_+n+LE+y+I } 12= .slice R1.At R1.nt R1.ct from rfl]at LY;have ck:=M.apart.2.2.2;have fr:=M.cell.lt;have gs:=M.lo;have jb:kh (w7.alloc (.cells #[.int .u8 0, .int .i64 L, .int .i64 D] 109)) b0 R1.At R1.nt R1.ct R1.au:= ⟨M.au.1,M.au.2.alloc _⟩;have cQ:=mn.W7 w7 (cy.mk 0 L D)
 go_wp2_with (at_builtin;(refine nG b0 i0 rfl (.tmp 136) (.tmp 140) rfl Hi.out i7.out gp.out i9.out rfl jb rfl cQ bv ξ ?_)
              intro A4 d4 w4 bL ac dT;have iL:=(M.cell.alloc (.cells #[.int .u8 0, .int .i64 L, .int .i64 D] 109)).grown ac (λe=>ck e.symm);have cD:=iL.cell (i:=12) ω;have cB:=iL.frozen' (i:=12) ω)
 have an:=M.a1Y (cy.mk 0 L D) ac bL dT;obtain⟨m,cn⟩ :∃m:RM,({ R1 with at_:=R1.at_+n+LE+y+I,At:=A4,nt:=R1.nt+1,ct:=d4,au:=R1.au++[cy.mk 0 L D] }:RM)=m:= ⟨_,rfl⟩;have ee:m.out=R1.out/\m.most=R1.most/\m.kinds=R1.kinds/\m.stops=R1.stops/\m.au=R1.au++[cy.mk 0 L D]/\m.at_=R1.at_+n+LE+y+I/\m.X=R1.X/\m.E=R1.E/\m.Al=R1.Al/\m.Ad=R1.Ad/\m.Ce=R1.Ce/\m.CS=R1.CS:=by rw[<-cn];exact⟨rfl,rfl,rfl,rfl,rfl,rfl,rfl,rfl,rfl,rfl,rfl,rfl⟩
 rw[cn]at an;have ab:=η ee;clear cn ee M P k0 LY bL ac dT iL cD cB jb cQ;go_loopg [10] L (EmR u c b0 g m a D L)
 case atStart=>exact⟨0,m.Ao,m.no,m.co,aF _,aF _,rfl,rfl,by rw[KC,aA,z.out.2.2.2.2.2.1,<-b.out,<-ab.out.1];exact an⟩
 clear an;obtain⟨j,Ao,no,co,hj,U,dj,rfl,h⟩ :=hrel;by_cases gu:(j:Int)<(L:Int)
 · have k0:=h.cell.cell (i:=0) ω;rw[show sF { m with Ao:=Ao,no:=no,co:=co,out:=a.all++again a.all D j } 0= .slice Ao no co from rfl]at k0;have xI:no=(a.all++again a.all D j).length:=h.out.1;rw[ag,cK]at xI;have UD:=KA a.all D j ω fA;obtain⟨Q,hQ⟩ :=ν (a.all.length+j-D);have cp:Q<no:=ω;obtain⟨r,rfl,ea,eS⟩ :=h.out.rd.at_ (i:=Q) cp;obtain⟨v,hv⟩ :=ν (ix (a.all++again a.all D j) Q:Int);have c1:wr.cell? (r.add Q)=some (.int .u8 v):=by rw[<-hv];exact eS
   clear eS;rw[hQ,hv]at UD;have fy:Hid (again a.all D (j+1)=again a.all D j++[v]):=UD;have gl:IntKind.i64.wrap ((no:Int)-(D:Int))=(Q:Int):=by rw[aM _ (ε yN.out U.out)];omega
   have gx:(0:Int)<=Q/\(Q:Int)<(no:Int):=ω;have db:=yN.out;have dk:=U.out;by_cases hz:a.rem=j
   · have oW:∀W,bV u c W b0 g { m with Ao:=some r,no:=no,co:=co,out:=a.all++again a.all D j }->Calls Tryz.prog 70 #[.pointer (some ⟨g,0,none⟩), .int .u8 v] W λe w'=>e= .returned (.bool false)/\bV u c w' b0 g { m with Ao:=some r,no:=no,co:=co,out:=a.all++again a.all D j,E:=6 }:=λW H=>xX H v (by show m.most<=(((a.all++again a.all D j).length:Nat):Int);rw[ab.out.2.1,cx.out,ag,cK];omega);have Kr:=η oW;have lJ:Hid (∃t':IS,a.step=(t',6)/\t'.all=a.all++(again a.all D L).take a.rem/\t'.kinds=a.kinds/\t'.stops=a.stops/\t'.au=a.au++[cy.mk 0 L D]):= ⟨{ a with x:=(a.x.drop y).drop I,st:=6,len:=L,au:=a.au++[cy.mk 0 L D],all:=a.all++(again a.all D L).take a.rem,rem:=a.rem-(again a.all D L).length },hs3.out.trans (by rw[af (by rw[cK];omega)]),rfl,rfl,rfl,rfl⟩;have HZ:=η hz;clear hz hQ hv UD oW xI db dk ea cp
     go_wp2_with fail
     go_region_law
      ((go_simp;go_at_call 70;(refine(Kr.out _ (by first | exact h | exact h.drew | exact h.drewN _)).mono ?_))
       rintro e w5 ⟨rfl,cv⟩)
     all_goals
      go_wp2_with fail;go_ret;obtain⟨t',e1,B,e3,e4,e5⟩ :=lJ.out;refine fU.bad J e1 δ δ (XQ.out _ _ cv) ⟨?_, ?_, ?_, ?_,rfl⟩
      · show a.all++again a.all D j=t'.all;rw[B,HZ.out,KB _ _ hj]
      · show m.kinds=t'.kinds;rw[e3,ab.out.2.2.1,z.out.2.2.2.2.2.2.2.2.1,b.kinds]
      · show m.stops=t'.stops;rw[e4,ab.out.2.2.2.1,z.out.2.2.2.2.2.2.2.2.2,b.stops]
      show m.au=t'.au;rw[e5,ab.out.2.2.2.2.1,z.out.2.2.2.2.2.2.2.1,b.au]
   have oW:∀W,bV u c W b0 g { m with Ao:=some r,no:=no,co:=co,out:=a.all++again a.all D j }->Calls Tryz.prog 70 #[.pointer (some ⟨g,0,none⟩), .int .u8 v] W (Es u c b0 g { m with Ao:=some r,no:=no,co:=co,out:=a.all++again a.all D j } v):=λW H=>BB H v (by show(((a.all++again a.all D j).length:Nat):Int)<m.most;rw[ab.out.2.1,cx.out,ag,cK];omega) (by show(a.all++again a.all D j).length<=_;rw[ag,cK];omega);have Kr:=η oW;have HZ:=η hz;clear hz hQ hv UD oW xI db dk ea cp
   go_wp2_with fail
   go_region_law
    ((go_simp;go_at_call 70;(refine(Kr.out _ (by first | exact h | exact h.drew | exact h.drewN _)).mono ?_))
     rintro e w5 ⟨A8,n8,c8,rfl,cv⟩)
   all_goals
    go_wp2_with fail;go_roundg (gk-1)
    case measure=>have:=dj.out;omega
    case rel=>exact⟨j+1,A8,n8,c8,ω,by show _<=_;have:=U.out;have:=HZ.out;omega,by show gk-1=_;have:=dj.out;omega,by go_num,by rw[fy.out,<-av];exact cv⟩
 obtain rfl:j=L:=ω;have lJ:Hid (∃t':IS,a.step=(t',0)/\t'.x=(a.x.drop y).drop I/\t'.all=a.all++again a.all D j/\t'.rem=a.rem-j/\t'.kinds=a.kinds/\t'.stops=a.stops/\t'.au=a.au++[cy.mk 0 j D]/\t'.st=6/\t'.lt=a.lt/\t'.ds=a.ds):= ⟨{ a with x:=(a.x.drop y).drop I,st:=6,len:=j,au:=a.au++[cy.mk 0 j D],all:=a.all++(again a.all D j).take a.rem,rem:=a.rem-(again a.all D j).length },hs3.out.trans (by rw[aa (by rw[cK];have:=U.out;show¬a.rem<j;omega)]),rfl,by show a.all++(again a.all D j).take a.rem=_;rw[aC (by rw[cK];exact U.out)],by show a.rem-(again a.all D j).length=_;rw[cK],rfl,rfl,rfl,rfl,rfl,rfl⟩;obtain⟨t',e1,B,e3,e4,e5,e6,e7,e8,e9,XW⟩ :=lJ.out;have xy:=vQ.step (.inl (by rw[e1]));have pW:=IS.Steps.tail J (by rw[e1]);have bx:=IS.jK (s:=a) (by rw[e1]);rw[e1]at xy pW bx;have fl:Hid (t'.mu<t.mu):=by have o:=vr.out;have a2:t'.mu<a.mu:=bx;show _<_;omega
 have cu:Hid (∀W,bV u c W b0 g { m with Ao:=Ao,no:=no,co:=co,out:=a.all++again a.all D j }->a2t u c b0 g R0 s t'.mu W):=λW H=>by
  have o:=ab.out;refine⟨_,t',H,pW, ⟨?_, ?_,e3.symm, ?_, ?_, ?_, ?_, ?_, ?_, ?_, ?_, ?_, ?_⟩,xy,e8, ⟨?_, ?_, ?_, ?_, ⟨?_, ?_, ?_, ?_⟩⟩,rfl, ?_, ?_⟩
  · show m.X.drop m.at_=t'.x;rw[o.2.2.2.2.2.2.1,o.2.2.2.2.2.1,B];exact fd.out
  · show m.at_<=m.X.length;rw[o.2.2.2.2.2.2.1,o.2.2.2.2.2.1];exact iZ.out
  · show m.kinds=t'.kinds;rw[e5,o.2.2.1,z.out.2.2.2.2.2.2.2.2.1,b.kinds]
  · show m.stops=t'.stops;rw[e6,o.2.2.2.1,z.out.2.2.2.2.2.2.2.2.2,b.stops]
  · show m.au=t'.au;rw[e7,o.2.2.2.2.1,z.out.2.2.2.2.2.2.2.1,b.au]
  · show m.most=_;rw[o.2.1,cx.out,e3,e4,ag,cK];have:=U.out;omega
  · show m.E=0;rw[o.2.2.2.2.2.2.2.1];exact b.E
  · show dO m.X;rw[o.2.2.2.2.2.2.1];exact b.bit
  · show m.X.length<=_;rw[o.2.2.2.2.2.2.1];exact b.len
  · show m.X.length%8=0;rw[o.2.2.2.2.2.2.1];exact b.even
  · rw[e3,e4,ag,cK];have:=U.out;have:=yN.out;omega
  · show m.au.length<=m.at_;rw[o.2.2.2.2.1,o.2.2.2.2.2.1,ag];have:=b.tk;have:=Yx.out;simp;omega
  · exact o.2.2.2.2.2.2.2.2.1.trans G.Al
  · exact o.2.2.2.2.2.2.2.2.2.1.trans G.Ad
  · exact o.2.2.2.2.2.2.2.2.2.2.1.trans G.Ce
  · exact o.2.2.2.2.2.2.2.2.2.2.2.trans G.CS
  · exact o.2.2.2.2.2.2.1.trans G.keep.X
  · exact o.2.2.1.trans G.keep.kinds
  · exact o.2.2.2.1.trans G.keep.stops
  · show R0.at_<=m.at_;rw[o.2.2.2.2.2.1];have:=G.keep.le;omega
  · show t'.lt=s.lt;rw[e9,z.out.2.2.1];exact bB.out
  show t'.ds=s.ds;rw[XW,z.out.2.1];exact cc.out
 clear e1 B e3 e4 e5 e6 e7 e8 e9 XW xy pW bx
 go_wp2_with fail;go_roundg t'.mu
 case measure=>have:=hk.out;have:=fl.out;omega
 case rel=>exact cu.out _ h
end
end Go.Proofs.YtdhmnlpfhfmpfaaGreat
