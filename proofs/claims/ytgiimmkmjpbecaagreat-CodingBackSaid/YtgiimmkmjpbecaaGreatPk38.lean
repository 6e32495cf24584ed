/-
  part
-/
import Derived.Test.YtgiimmkmjpbecaaGreatRfA
import Derived.Deep.DeepCutAuto
set_option linter.unusedVariables false
set_option maxRecDepth 100000
set_option maxHeartbeats 8000000
namespace Go.Proofs.YtgiimmkmjpbecaaGreat
open Go.RowKit
section
variable {w w' w0 wr w4:World} {b0 g:Nat} {c c0:Nat->Nat} {R R1 R':RM}
theorem pH {A a:ax} {k d d4:Nat} {l:ag} (z:ig wr b0 g c R1) (n:bb w wr (λk=>k=g)) (t:aT .i64 wr w.heap.size 3 A k d l) (m:∀q,c q≠0->q<w.heap.size) (C:g<w.heap.size) (B:w.heap.size<=wr.heap.size) (v:Int) (i:Nat) (hi:i<13) (R':RM) (hF:∀j,j<13->upd (sF R1) i (.slice a (k+1) d4) j=sF R' j)
  (x:R'={ R1 with E:=R'.E,rest:=R'.rest,at_:=R'.at_,most:=R'.most,Al:=R'.Al,Ad:=R'.Ad,Ca:=R'.Ca,D9:=R'.D9 })
  (h:(wr.alloc (.cells #[.int .i64 v] 3)).grownBy w4 (ai A)) (o:aT .i64 w4 w.heap.size 3 a (k+1) d4 (l++[v])) (u:ai a=ai A\/ai a=some (wr.alloc (.cells #[.int .i64 v] 3)).heap.size):
  ig (w4.setCell ⟨g,i,none⟩ (.slice a (k+1) d4)) b0 g c R'/\bb w (w4.setCell ⟨g,i,none⟩ (.slice a (k+1) d4)) (λk=>k=g)/\aT .i64 (w4.setCell ⟨g,i,none⟩ (.slice a (k+1) d4)) w.heap.size 3 a (k+1) d4 (l++[v]):=by
 have r:∀q,ai A=some q->w.heap.size<=q:=λq b=>(t.2.lt b).1;have s:bb wr w4 (λq=>ai A=some q):=((bb.refl wr (λq=>ai A=some q)).alloc _).grown h (λq e=> .inl e)
 have y:=z.aside s (λq b=>by
  by_cases e:c q=0
  · exact e
  have:=m q e;have:=r q b;omega)
 have f:ai a≠some g:=λe=>by have:=(o.2.lt e).1;omega
 exact⟨y.put hi _ R' hF x,((n.trans s (λq b=> .inr (r q b))).setCell (p:= ⟨g,i,none⟩) (.inl rfl) _),o.far (p:= ⟨g,i,none⟩) f _⟩
def FxR (w:World) (b0 g:Nat) (c:Nat->Nat) (R:RM) (k:Nat) (i:Value) (wr:World):Prop:=
 ∃(j d:Nat) (A:ax),j<=288/\Hid (k=288-j)/\i= .int .i64 j/\ig wr b0 g c { R with Al:= .slice A j d,Ad:= .slice none 0 0 }/\bb w wr (λk=>k=g)/\aT .i64 wr w.heap.size 3 A j d (ij.take j)/\w.heap.size<=wr.heap.size
def FxS (w:World) (b0 g:Nat) (c:Nat->Nat) (R:RM) (a:ax) (b:Nat) (k:Nat) (i:Value) (wr:World):Prop:=
 ∃(j d:Nat) (A:ax),j<=32/\Hid (k=32-j)/\i= .int .i64 j/\ig wr b0 g c { R with Al:= .slice a 288 b,Ad:= .slice A j d }/\bb w wr (λk=>k=g)/\aT .i64 wr w.heap.size 3 A j d (iV.take j)/\aT .i64 wr w.heap.size 3 a 288 b ij/\(∀q,ai A=some q->ai a≠some q)/\w.heap.size<=wr.heap.size
def a1J (w:World) (b0 g:Nat) (c:Nat->Nat) (R:RM) (e:Ending) (w':World):Prop:=
 ∃A1 d1 A2 d2,e= .returned (.tuple #[])/\ig w' b0 g c { R with Al:= .slice A1 288 d1,Ad:= .slice A2 32 d2 }/\bb w w' (λk=>k=g)/\aT .i64 w' w.heap.size 3 A1 288 d1 ij/\aT .i64 w' w.heap.size 3 A2 32 d2 iV
theorem Nu (h:ig w b0 g c R):
  Calls Tryz.prog 51 #[.pointer (some ⟨g,0,none⟩)] w (a1J w b0 g c R):=by
 obtain⟨F,hi,I,H,G⟩ :=aL mH;have Hi:=η hi;have N:=η I;have M:=η H;have L:=η G;have K:=h.cell.lt;have t:∀q,c q≠0->q<w.heap.size:=λq v=>(h.cb q v).2;have P:=h.cell.az 8;have T:=h.cell.az 9;have E:=h.cell.aH 8;have Z:=h.cell.aH 9;have D:=(h.put (i:=8) ω (.slice none 0 0) { R with Al:= .slice none 0 0 } (fS rfl rfl rfl rfl rfl rfl rfl rfl rfl rfl rfl rfl rfl) rfl).put (i:=9) ω (.slice none 0 0) { R with Al:= .slice none 0 0,Ad:= .slice none 0 0 } (fS rfl rfl rfl rfl rfl rfl rfl rfl rfl rfl rfl rfl rfl) rfl;have C:bb w ((w.setCell ⟨g,8,none⟩ (.slice none 0 0)).setCell ⟨g,9,none⟩ (.slice none 0 0)) (λk=>k=g):=((bb.refl w (λk=>k=g)).setCell (p:= ⟨g,8,none⟩) (.inl rfl) _).setCell (p:= ⟨g,9,none⟩) (.inl rfl) _;clear hi I H G
 go_in
 go_wp2_with fail;go_loopg [2] 288 (FxR w b0 g c R)
 case atStart=>exact⟨0,0,none,aG _,rfl,rfl,D,C,aT.di,C.size⟩
 clear D C P T E Z;obtain⟨k,d,A,hk,f,rfl,n,b,m,B⟩ :=hrel;have P:=n.cell.az 8;rw[show sF { R with Al:= .slice A k d,Ad:= .slice none 0 0 } 8= .slice A k d from rfl]at P;have J:=n.cell.lt;have r:ai A≠some g:=λe=>by have:=(m.2.lt e).1;omega
 by_cases l:k<288
 rotate_left
 · obtain rfl:k=288:=ω;have X:ij.take 288=ij:=aA (by rw[pG];omega);rw[X]at m;have HL:=η X;clear X r f
   go_wp2_with fail;go_loopg [4] 32 (FxS w b0 g c R A d)
   case atStart=>exact⟨0,0,none,aG _,rfl,rfl,n,b,aT.di,m,λq v=>by simp [ai]at v,B⟩
   clear P n b m B J;obtain⟨k,d3,O,hk,f,rfl,n,b,m,Q,df,B⟩ :=hrel;have T:=n.cell.az 9;rw[show sF { R with Al:= .slice A 288 d,Ad:= .slice O k d3 } 9= .slice O k d3 from rfl]at T;have J:=n.cell.lt;have r:ai O≠some g:=λe=>by have:=(m.2.lt e).1;omega
   by_cases l:k<32
   rotate_left
   · obtain rfl:k=32:=ω;have hD:Hid (iV.take 32=iV):=aA (by rw[zZ];omega)
     go_wp2_with fail;go_end0;exact⟨A,d,O,d3,rfl,n,b,Q,by rw[hD.out]at m;exact m⟩
   have qB:(k:Int)<32/\(0:Int)<=k:=ω;have z:=η (DD l);have y:=m.alloc (.cells #[.int .i64 5] 3)
   go_wp2_with (at_builtin;(refine bm .i64 w.heap.size 3 F 8 rfl (.tmp 45) (.tmp 46) _ rfl Tryz.underlying80 Hi.out N.out M.out L.out rfl y rfl (bT.lit .i64 wr [5] 3) ω ω ξ ?_)
                intro o d4 w4 x a u;have s:=(n.cell.alloc (.cells #[.int .i64 5] 3)).grown a (λe=>r e.symm);have x9:=s.az 9;have Z:=s.aH 9)
   have j:=pH n b m t K B 5 9 ω { R with Al:= .slice A 288 d,Ad:= .slice o (k+1) d4 } (fS rfl rfl rfl rfl rfl rfl rfl rfl rfl rfl rfl rfl rfl) rfl a x u
   have V:aT .i64 (w4.setCell ⟨g,9,none⟩ (.slice o (k+1) d4)) w.heap.size 3 A 288 d ij:=((Q.alloc (.cells #[.int .i64 5] 3)).grown a (by
    by_cases e:ai A=none
    · exact .inr e
    refine .inl λY=> ?_;cases wC:ai O with
    | none=>rw[wC]at Y;exact e Y
    | some q=>exact df q wC (by rw[Y,wC]))).far (p:= ⟨g,9,none⟩) (λ(e:ai A=some g)=>by have:=(Q.2.lt e).1;omega) _
   have U:∀q,ai o=some q->ai A≠some q:=λq v e=>by
    rcases u with h4 | h4
    · exact df q (by rw[<-h4];exact v) e
    rw[h4]at v;injection v with v;have:=(Q.2.lt e).2;simp at v;omega
   go_roundg (gk-1)
   case measure=>have:=f.out;omega
   case rel=>exact⟨k+1,d4,o,l,by show gk-1=_;have:=f.out;omega,by go_num,j.1,j.2.1,by rw[z.out];exact j.2.2,V,U,ε b.size j.2.1.size⟩
 have qB:(k:Int)<288/\(0:Int)<=k:=ω;have ht:=DF l;rw[Fk k l]at ht;have W:(k:Int)<144\/((144:Int)<=k/\(k:Int)<256)\/((144:Int)<=k/\(256:Int)<=k/\¬(k:Int)<256/\(k:Int)<280)\/((144:Int)<=k/\(256:Int)<=k/\¬(k:Int)<256/\¬(k:Int)<280):=ω;rcases W with D | ⟨D,h2⟩ | ⟨D,h2,h3,h4⟩ | ⟨D,h2,h3,h4⟩
 · rw[aa ω]at ht;have z:=η ht;clear ht;have y:=m.alloc (.cells #[.int .i64 8] 3)
   go_wp2_with (at_builtin;(refine bm .i64 w.heap.size 3 F 8 rfl (.tmp 31) (.tmp 33) _ rfl Tryz.underlying80 Hi.out N.out M.out L.out rfl y rfl (bT.lit .i64 wr [8] 3) ω ω ξ ?_)
                intro o d4 w4 x a u;have s:=(n.cell.alloc (.cells #[.int .i64 8] 3)).grown a (λe=>r e.symm);have S:=s.az 8;have E:=s.aH 8)
   have j:=pH n b m t K B 8 8 ω { R with Al:= .slice o (k+1) d4,Ad:= .slice none 0 0 } (fS rfl rfl rfl rfl rfl rfl rfl rfl rfl rfl rfl rfl rfl) rfl a x u;go_roundg (gk-1)
   case measure=>have:=f.out;omega
   case rel=>exact⟨k+1,d4,o,l,by show gk-1=_;have:=f.out;omega,by go_num,j.1,j.2.1,by rw[z.out];exact j.2.2,ε b.size j.2.1.size⟩
 · rw[a8 ω,aa ω]at ht;have z:=η ht;clear ht;have y:=m.alloc (.cells #[.int .i64 9] 3)
   go_wp2_with (at_builtin;(refine bm .i64 w.heap.size 3 F 8 rfl (.tmp 31) (.tmp 33) _ rfl Tryz.underlying80 Hi.out N.out M.out L.out rfl y rfl (bT.lit .i64 wr [9] 3) ω ω ξ ?_)
                intro o d4 w4 x a u;have s:=(n.cell.alloc (.cells #[.int .i64 9] 3)).grown a (λe=>r e.symm);have S:=s.az 8;have E:=s.aH 8)
   have j:=pH n b m t K B 9 8 ω { R with Al:= .slice o (k+1) d4,Ad:= .slice none 0 0 } (fS rfl rfl rfl rfl rfl rfl rfl rfl rfl rfl rfl rfl rfl) rfl a x u;go_roundg (gk-1)
   case measure=>have:=f.out;omega
   case rel=>exact⟨k+1,d4,o,l,by show gk-1=_;have:=f.out;omega,by go_num,j.1,j.2.1,by rw[z.out];exact j.2.2,ε b.size j.2.1.size⟩
 · rw[a8 ω,a8 ω,aa ω]at ht;have z:=η ht;clear ht;have y:=m.alloc (.cells #[.int .i64 7] 3)
   go_wp2_with (at_builtin;(refine bm .i64 w.heap.size 3 F 8 rfl (.tmp 31) (.tmp 33) _ rfl Tryz.underlying80 Hi.out N.out M.out L.out rfl y rfl (bT.lit .i64 wr [7] 3) ω ω ξ ?_)
                intro o d4 w4 x a u;have s:=(n.cell.alloc (.cells #[.int .i64 7] 3)).grown a (λe=>r e.symm);have S:=s.az 8;have E:=s.aH 8)
   have j:=pH n b m t K B 7 8 ω { R with Al:= .slice o (k+1) d4,Ad:= .slice none 0 0 } (fS rfl rfl rfl rfl rfl rfl rfl rfl rfl rfl rfl rfl rfl) rfl a x u;go_roundg (gk-1)
   case measure=>have:=f.out;omega
   case rel=>exact⟨k+1,d4,o,l,by show gk-1=_;have:=f.out;omega,by go_num,j.1,j.2.1,by rw[z.out];exact j.2.2,ε b.size j.2.1.size⟩
 rw[a8 ω,a8 ω,a8 ω]at ht;have z:=η ht;clear ht;have y:=m.alloc (.cells #[.int .i64 8] 3)
 go_wp2_with (at_builtin;(refine bm .i64 w.heap.size 3 F 8 rfl (.tmp 31) (.tmp 33) _ rfl Tryz.underlying80 Hi.out N.out M.out L.out rfl y rfl (bT.lit .i64 wr [8] 3) ω ω ξ ?_)
              intro o d4 w4 x a u;have s:=(n.cell.alloc (.cells #[.int .i64 8] 3)).grown a (λe=>r e.symm);have S:=s.az 8;have E:=s.aH 8)
 have j:=pH n b m t K B 8 8 ω { R with Al:= .slice o (k+1) d4,Ad:= .slice none 0 0 } (fS rfl rfl rfl rfl rfl rfl rfl rfl rfl rfl rfl rfl rfl) rfl a x u;go_roundg (gk-1)
 case measure=>have:=f.out;omega
 case rel=>exact⟨k+1,d4,o,l,by show gk-1=_;have:=f.out;omega,by go_num,j.1,j.2.1,by rw[z.out];exact j.2.2,ε b.size j.2.1.size⟩
end
structure nV (R:RM) (s:IS):Prop where
 x:R.X.drop R.at_=s.x
 le:R.at_<=R.X.length
 out:R.out=s.all
 kinds:R.kinds=s.kinds
 stops:R.stops=s.stops
 aj:R.aj=s.aj
 most:R.most=((s.all.length+s.rem:Nat):Int)
 E:R.E=0
 bit:dH R.X
 len:R.X.length<=100000000000
 even:R.X.length%8=0
 small:s.all.length+s.rem<=1000000000
 tk:R.aj.length<=R.at_
structure ET (R R':RM):Prop where
 X:R'.X=R.X
 kinds:R'.kinds=R.kinds
 stops:R'.stops=R.stops
 le:R.at_<=R'.at_
structure L9 (R:RM) (t:IS) (v:Int):Prop where
 out:R.out=t.all
 kinds:R.kinds=t.kinds
 stops:R.stops=t.stops
 aj:R.aj=t.aj
 E:R.E=v
def fV (w0:World) (c0:Nat->Nat) (b0 g:Nat) (R:RM) (s:IS) (e:Ending) (w':World):Prop:=
 (∃R' t x',e= .returned (.bool true)/\bU w0 c0 w' b0 g R'/\IS.Steps s t/\t.step=(({ t with x:=x' }:IS).over,0)/\nV R' { t with x:=x' }/\ET R R')\/
 (∃R' t v,e= .returned (.bool false)/\bU w0 c0 w' b0 g R'/\s.fin=(t,v)/\v≠8/\L9 R' t v)
section
variable {w w' w0:World} {b0 g:Nat} {c c0:Nat->Nat} {R R':RM} {s t t':IS} {v:Int}
theorem fV.bad (a:IS.Steps s t) (h:t.step=(t',v)) (d:v≠0) (c:v≠8) (b:bU w0 c0 w' b0 g R') (hE:L9 R' t' v):fV w0 c0 b0 g R s (.returned (.bool false)) w':=
 .inr ⟨R',t',v,rfl,b,by rw[<-a.lM,IS.gZ (by rw[h];exact d),h],c,hE⟩
theorem fV.ok {x':ag} (a:IS.Steps s t) (h:t.step=(({ t with x:=x' }:IS).over,0)) (c:bU w0 c0 w' b0 g R') (d:nV R' { t with x:=x' }) (b:ET R R'):fV w0 c0 b0 g R s (.returned (.bool true)) w':=
 .inl ⟨R',t,x',rfl,c,a,h,d,b⟩
theorem xu (x:ag) (h:dH x) (a b:Nat):num x (a+b)=num x a+2 ^ a*num (x.drop a) b\/x.length<a+b:=by
 by_cases d:x.length<a+b
 · exact .inr d
 refine .inl ?_;have e:x.take (a+b)=x.take a++(x.drop a).take b:=by rw[List.take_add]
 have c:=qI h (a+b);have g:=qI h a;have f:=qI (h.dU a) b;rw[e,jf,<-g,<-f,aD,bF ω]at c;have h4:((2 ^ a:Nat):Int)=2 ^ a:=σ;have:((num x (a+b):Nat):Int)=((num x a+2 ^ a*num (x.drop a) b:Nat):Int):=by rw[c];simp
 omega
def AlR (w0:World) (c0:Nat->Nat) (b0 g:Nat) (R:RM) (k:Nat) (wr:World):Prop:=
 ∃a,R.at_<=a/\Hid (a<=(R.at_+7)/8*8)/\bU w0 c0 wr b0 g { R with at_:=a }/\Hid (k=(R.at_+7)/8*8-a)
def StR (w0:World) (c0:Nat->Nat) (b0 g:Nat) (R:RM) (s:IS) (n:Nat) (k:Nat) (i:Value) (wr:World):Prop:=
 ∃j R' t,j<=n/\i= .int .i64 j/\Hid (k=n-j)/\bU w0 c0 wr b0 g R'/\IS.Steps s t/\nV R' t/\t.Ok/\t.st=2/\Hid (t.left=n-j)/\ET R R'
theorem JV (h:bU w0 c0 w b0 g R) (hO:s.Ok) (M:s.st=1) (hx:ly (R.X.drop R.at_)=s.x) (f:nV R { s with x:=R.X.drop R.at_ }):
  Calls Tryz.prog 50 #[.pointer (some ⟨g,0,none⟩)] w (fV w0 c0 b0 g R s):=by
 have z:=f.len;have tI:=f.even;have bi:=f.le;obtain⟨A,hA⟩ :=ν ((R.at_+7)/8*8);have bs:A<=R.X.length:=ω
 have B:Hid (R.X.drop A=s.x):=by
  show _=_;rw[<-hx];unfold ly;rw[bj,ay];congr 1;omega
 have HA:=η hA;have ao:Hid (∀a,R.at_<=a->a<=A->a%8=0->a=A):=λa h1 h2 h3=>ω;have ap:Hid (∀a,R.at_<=a->a<=A->a%8≠0->a+1<=A):=λa h1 h2 h3=>ω;have ac:=η M;have bx:=η tI;have jz:Hid (AlR w0 c0 b0 g R (A-R.at_) w):= ⟨R.at_,af _,by show _<=_;omega,h,by show _=_;omega⟩;have bt:(A:Int)<=100000000000:=ω;clear hA tI M hx h
 go_in
 go_wp2_with fail;go_loopg [] (A-R.at_) (AlR w0 c0 b0 g R)
 case atStart=>exact jz
 clear jz;obtain⟨a,m,y,h,H⟩ :=hrel;obtain⟨-,k1, -, -, -,k5,k6, -⟩ :=h.cells;have z6:=h.cell.aH 6;have z1:=h.cell.aH 1;have K:=y.out;rw[HA.out]at K;have bo:(0:Int)<=a/\(a:Int)<=100000000000:=ω;by_cases Q:a%8=0
 rotate_left
 · have J7:(0:Int)<(a:Int)%8:=ω;have h2:=h.put (i:=6) ω (.int .i64 ((a:Int)+1)) { R with at_:=a+1 } (fS rfl rfl rfl rfl rfl rfl rfl rfl rfl rfl rfl rfl rfl) rfl;have iu:=η (ap a m K Q);clear Q
   go_wp2_with fail;go_roundg (gk-1)
   case measure=>have:=H.out;have:=HA.out;have:=iu.out;omega
   case rel=>exact⟨a+1,ω,by show _<=_;rw[HA.out];exact iu,h2,by show gk-1=_;have:=H.out;omega⟩
 have aE:=ao.out a m K Q;subst aE;have J7:(a:Int)%8=0:=ω;have bd:¬(0:Int)<(a:Int)%8:=ω;obtain⟨e,v⟩ :=ν (a+32);have hw:IntKind.i64.wrap ((a:Int)+32)=(e:Int):=by rw[aM _ ω];omega
 have pL:R.nb=R.X.length:=h.nb;have S:s.x.length=R.X.length-a:=by rw[<-B.out,ay]
 have d:Hid (s.step=s.size):=by show _=_;unfold IS.step;rw[a8 (τ ac.out),aa ac.out]
 unfold IS.size at d;have HE:=η v;by_cases be:(R.nb:Int)<(e:Int)
 · have hs:=η (d.trans (aa ω));have h1:=h.drew.put (i:=1) ω (.int .i64 5) { R with at_:=a,E:=5 } (fS rfl rfl rfl rfl rfl rfl rfl rfl rfl rfl rfl rfl rfl) rfl;clear v pL S d H Q m y K
   go_wp2_with fail;go_region
   all_goals
    go_wp2_with fail;go_ret;exact fV.bad (.refl s) hs.out δ δ h1 ⟨f.out,f.kinds,f.stops,f.aj,rfl⟩
 have o:=η (d.trans (a8 ω));have T:=f.bit;have uR:=λW (n:bU w0 c0 W b0 g { R with at_:=a })=>jX n 16 ω (aq z ω) T (by show a+16<=R.X.length;omega) _ rfl;have P7:=λW (n:bU w0 c0 W b0 g { R with at_:=a+16 })=>jX n 16 ω (aq z ω) T (by show a+16+16<=R.X.length;omega) _ rfl;have l:=(xu (R.X.drop a) (T.dU a) 16 16).resolve_right (by rw[ay];omega);have yD:=gF (T.dU a) 16;have u:=gF ((T.dU a).dU 16) 16;rw[bj]at l u;obtain⟨N,hN⟩ :=ν (num (R.X.drop a) 16);obtain⟨P,hP⟩ :=ν (num (R.X.drop (a+16)) 16);have uR:∀W,bU w0 c0 W b0 g { R with at_:=a }->Calls Tryz.prog 49 #[.pointer (some ⟨g,0,none⟩), .int .i64 16] W λe w'=>e= .returned (.tuple #[.int .i64 (N:Nat), .bool true])/\bU w0 c0 w' b0 g { R with at_:=a+16 }:=λW n=>by rw[<-hN];exact uR W n
 have P7:∀W,bU w0 c0 W b0 g { R with at_:=a+16 }->Calls Tryz.prog 49 #[.pointer (some ⟨g,0,none⟩), .int .i64 16] W λe w'=>e= .returned (.tuple #[.int .i64 (P:Nat), .bool true])/\bU w0 c0 w' b0 g { R with at_:=a+32 }:=λW n=>by rw[<-hP];exact P7 W n
 rw[hN,hP]at l;have l:num (R.X.drop a) 32=N+2 ^ 16*P:=l;rw[hN]at yD;rw[hP]at u;have sQ:=η uR;have ab:=η P7
 have Z:Hid (num s.x 32%65536=N/\num s.x 32/65536=P):=by
  rw[<-B.out];have:(2:Nat) ^ 16=65536:=δ;rw[this]at l yD u;refine⟨?_, ?_⟩ <;> omega
 have bp:(0:Int)<=N/\(N:Int)<65536/\(0:Int)<=P/\(P:Int)<65536:=by
  have:(2:Nat) ^ 16=65536:=δ;omega
 have ah:Hid (R.X.drop (a+32)=s.x.drop 32):=by show _=_;rw[<-B.out,bj]
 rw[Z.1,Z.2]at o;clear uR P7 l yD u hN hP v pL S d H Q;by_cases yG:N+P=65535
 rotate_left
 · have I:=η (o.trans (a8 yG));have O:(((N:Int)+(P:Int))==65535)=false:=ξ;clear yG o m y K
   go_wp2_with fail;go_region
   all_goals
    go_wp2_with fail;refine(sQ _ h.drew).mono ?_;rintro e w5 ⟨rfl,h5⟩
    go_wp2_with fail;refine(ab _ h5).mono ?_;rintro e w6 ⟨rfl,h6⟩;obtain⟨-,j1, -⟩ :=h6.cells;have y1:=h6.cell.aH 1;have h7:=h6.put (i:=1) ω (.int .i64 2) { R with at_:=a+32,E:=2 } (fS rfl rfl rfl rfl rfl rfl rfl rfl rfl rfl rfl rfl rfl) rfl
    go_wp2_with fail;go_ret;exact fV.bad (.refl s) I.out δ δ h7 ⟨f.out,f.kinds,f.stops,f.aj,rfl⟩
 have I:=η (o.trans (aa yG));have am:(N:Int)+(P:Int)=65535:=ω;have O:(((N:Int)+(P:Int)) != 65535)=false:=ξ;have ad:=η m
 have fy:Hid (∀W,bU w0 c0 W b0 g { R with at_:=a+32 }->StR w0 c0 b0 g R s N N (.int .i64 0) W):=λW n=>by
  have vt:=hO.step (.inl (by rw[I.out]));rw[I.out]at vt;have U:=IS.Steps.one (s:=s) (by rw[I.out]);rw[I.out]at U;exact⟨0,_,_,aG _,rfl,rfl,n,U, ⟨ah.out,by show a+32<=R.X.length;have h8:=HE.out;have h9:R.nb=R.X.length:=h.nb;omega,f.out,f.kinds,f.stops,f.aj,f.most,f.E,f.bit,f.len,f.even,f.small,aq f.tk (by show R.at_<=a+32;have:=ad.out;omega)⟩,vt,rfl,rfl, ⟨rfl,rfl,rfl,by show R.at_<=a+32;have:=ad.out;omega⟩⟩
 clear yG o m y K am
 go_wp2_with fail;go_region
 all_goals
  go_wp2_with fail;refine(sQ _ h.drew).mono ?_;rintro e w5 ⟨rfl,h5⟩
  go_wp2_with fail;refine(ab _ h5).mono ?_;rintro e w6 ⟨rfl,h6⟩
  go_wp2_with fail;clear O;go_loopg [7] N (StR w0 c0 b0 g R s N)
  case atStart=>exact fy.out _ h6
  clear fy h5 h6 h;obtain⟨j,R1,t,hj,rfl,H,h,r,c,vt,jU,G,Y⟩ :=hrel;have Cv:=η jU;have q:=η Y;have b:Hid (t.step=t.stored):=by show _=_;unfold IS.step;rw[a8 ω,a8 ω,aa jU]
  unfold IS.stored at b;clear jU Y;by_cases bl:(j:Int)<(N:Int)
  rotate_left
  · have k:t.left=0:=by have:=G.out;omega
    have C:=η (b.trans (aa k));clear k b
    go_wp2_with fail;go_ret;exact fV.ok (x':=t.x) r C.out h c q.out
  have k:t.left≠0:=by have:=G.out;omega
  have C:=η (b.trans (a8 k));have AX:=c.len;have AV:=c.le;have ln:t.x.length=R1.X.length-R1.at_:=by rw[<-c.x,ay]
  by_cases L:t.x.length<8
  · have J:=η (C.trans (aa L));have ht:=η (nS h 8 ω ω AV ω);clear L ln AX AV k b C
    go_wp2_with fail;refine ht.mono ?_;rintro e w7 ⟨rfl,h7⟩
    go_wp2_with fail;go_ret;exact fV.bad r J.out δ δ h7 ⟨c.out,c.kinds,c.stops,c.aj,rfl⟩
  have J:=η (C.trans (a8 L));unfold IS.emit at J;have VZ:=gF (c.bit.dU R1.at_) 8;rw[c.x]at VZ;obtain⟨V,hV⟩ :=ν (((num t.x 8:Nat):Int):Int);have ht:=η (jX h 8 ω ω c.bit ω V (by rw[c.x,hV]));rw[hV]at J;have GZ:0<=V/\V<256:=by have:(2:Nat) ^ 8=256:=δ;omega
  have al:Hid (R1.X.drop (R1.at_+8)=t.x.drop 8):=by show _=_;rw[<-c.x,bj]
  have an:Hid (R1.at_+8<=R1.X.length):=by show _<=_;omega
  have jL:=c.most;have P0:R1.out.length=t.all.length:=by rw[c.out]
  have D:=c.small;by_cases hr:t.rem=0
  · have v:∀W,bU w0 c0 W b0 g { R1 with at_:=R1.at_+8 }->Calls Tryz.prog 59 #[.pointer (some ⟨g,0,none⟩), .int .u8 V] W λe w'=>e= .returned (.bool false)/\bU w0 c0 w' b0 g { R1 with at_:=R1.at_+8,E:=6 }:=λW n=>xC n V (by show R1.most<=_;rw[jL];show _<=((R1.out.length:Nat):Int);omega);have SF:=η v;have p:Hid (t.step=({ t with x:=t.x.drop 8,left:=t.left-1,all:=t.all++[V].take t.rem,rem:=t.rem - [V].length },6)):=J.trans (by rw[aa ξ]);have MI:=η hr;clear v hr hV VZ L ln AX AV k jL P0 D b C
    go_wp2_with fail;refine ht.mono ?_;rintro e w7 ⟨rfl,h7⟩
    go_wp2_with fail;refine(SF _ h7).mono ?_;rintro e w8 ⟨rfl,h8⟩
    go_wp2_with fail;go_ret;exact fV.bad r p.out δ δ h8 ⟨by rw[MI.out];show R1.out=t.all++[V].take 0;rw[c.out];simp,c.kinds,c.stops,c.aj,rfl⟩
  have v:∀W,bU w0 c0 W b0 g { R1 with at_:=R1.at_+8 }->Calls Tryz.prog 59 #[.pointer (some ⟨g,0,none⟩), .int .u8 V] W (EH w0 c0 b0 g { R1 with at_:=R1.at_+8 } V):=λW n=>Bu n V (by show((R1.out.length:Nat):Int)<R1.most;rw[jL];omega) (by show R1.out.length<=_;omega);have SF:=η v;have p:Hid (t.step=({ t with x:=t.x.drop 8,left:=t.left-1,all:=t.all++[V].take t.rem,rem:=t.rem - [V].length },0)):=J.trans (by rw[a8 ξ]);have F:Hid ([V].take t.rem=[V]):=aA ξ;have MI:=η hr;have Db:=η D;have bv:=η k;clear v hr hV VZ L ln AX AV k jL P0 D b C
  go_wp2_with fail;refine ht.mono ?_;rintro e w7 ⟨rfl,h7⟩
  go_wp2_with fail;refine(SF _ h7).mono ?_;rintro e w8 ⟨A8,n8,c8,rfl,h8⟩
  go_wp2_with fail;go_roundg (gk-1)
  case measure=>have:=H.out;omega
  have xd:=vt.step (.inl (by rw[p.out]));have po:=IS.Steps.tail r (by rw[p.out]);rw[p.out]at xd po;refine⟨j+1,_,_,ω,by go_num,by show gk-1=_;have:=H.out;omega,h8,po, ⟨al.out,an.out, ?_,c.kinds,c.stops,c.aj, ?_,c.E,c.bit,c.len,c.even, ?_,aq c.tk (by show R1.at_<=R1.at_+8;omega)⟩,xd,Cv.out,by show t.left-1=_;have:=G.out;omega, ⟨q.X,q.kinds,q.stops,aq q.le (by show R1.at_<=R1.at_+8;omega)⟩⟩
  · show R1.out++[V]=t.all++[V].take t.rem;rw[F.out,c.out]
  · show R1.most=(((t.all++[V].take t.rem).length+(t.rem - [V].length):Nat):Int);rw[c.most,F.out,ae];have:=MI.out;simp;omega
  show(t.all++[V].take t.rem).length+(t.rem - [V].length)<=_;rw[F.out,ae];have:=MI.out;have:=Db.out;simp;omega
end
section
variable {w w' w0 w2:World} {b0 g:Nat} {c c0:Nat->Nat} {R R':RM} {s t t':IS} {v:Int}
theorem lW.Wl (w:World) (t:bY):lW (w.alloc (.cells #[.int .u8 t.lit, .int .i64 t.len, .int .i64 t.bn] 132)) (w.heap.size+1) (some ⟨w.heap.size,0,none⟩) 1 [t]:=by
 have h:=BV w t.lit t.len t.bn 132;refine⟨rfl,λ_=> ⟨_,rfl,σ,λi hi=> ?_⟩⟩;obtain rfl:i=0:=ω;exact⟨by rw[nW];exact h.az 0,by rw[nW];exact h.az 1,by rw[nW];exact h.az 2⟩
theorem bU.a1B (h:bU w0 c0 w b0 g R) (t:bY) {o:Obj} {A2:ax} {d c2:Nat} (l:(w.alloc o).grownBy w2 (ai R.At)) (j:jZ w2 b0 A2 d c2 (R.aj++[t])) (b:ai A2=ai R.At\/ai A2=some (w.alloc o).heap.size):
  bU w0 c0 (w2.setCell ⟨g,12,none⟩ (.slice A2 d c2)) b0 g { R with At:=A2,nt:=d,ct:=c2,aj:=R.aj++[t] }:=by
 have c:=h.apart.2.2.2;have r:=h.cell.lt;have n:=(h.cell.alloc o).grown l (λe=>c e.symm)
 have f:ai A2≠some g:=by
  rcases b with e | e
  · rw[e];exact c
  rw[e];intro i;injection i with i;simp at i;omega
 refine h.Wx ((((bb.refl w _).alloc _).grown l (λq m=> .inl (.inr m))).setCell (p:= ⟨g,12,none⟩) (.inl (.inl rfl)) _) ((n.cE 12 _).congr (fS rfl rfl rfl rfl rfl rfl rfl rfl rfl rfl rfl rfl rfl)) ⟨j.1,j.2.far (p:= ⟨g,12,none⟩) f _⟩ (λk a=> ?_);rcases b with e | e
 · exact .inl (e▸a)
 rw[e]at a;injection a with a;simp at a;exact .inr ω
theorem a0v (x:Int) (j:Nat) (b:j<29) (a:x=257+(j:Int)) (w:World):Calls Tryz.prog 62 #[.int .i64 x] w λe w'=>e= .returned (.tuple #[.int .i64 ((lB j:Nat):Int), .int .i64 ((lE j:Nat):Int), .bool true])/\w=w':=by
 have:=Jt x w;unfold Js at this;rw[aa ω,show(x-257).toNat=j by omega]at this;exact this
theorem a0u (x:Int) (a:x<257\/285<x) (w:World):Calls Tryz.prog 62 #[.int .i64 x] w λe w'=>e= .returned (.tuple #[.int .i64 0, .int .i64 0, .bool false])/\w=w':=by
 have:=Jt x w;unfold Js at this;rw[a8 ω]at this;exact this
theorem U9 (x:Int) (j:Nat) (b:j<30) (a:x=(j:Int)) (w:World):Calls Tryz.prog 63 #[.int .i64 x] w λe w'=>e= .returned (.tuple #[.int .i64 ((dB j:Nat):Int), .int .i64 ((dE j:Nat):Int), .bool true])/\w=w':=by
 have:=Dw x w;unfold zM at this;rw[aa ω,show(x-0).toNat=j by omega]at this;exact this
theorem U8 (x:Int) (a:x<0\/29<x) (w:World):Calls Tryz.prog 63 #[.int .i64 x] w λe w'=>e= .returned (.tuple #[.int .i64 0, .int .i64 0, .bool false])/\w=w':=by
 have:=Dw x w;unfold zM at this;rw[a8 ω]at this;exact this
theorem Lf (l:ag) (D:Nat) {j N:Nat} (h:j<=N):(again l D N).take j=again l D j:=by
 unfold again;rw[<-List.map_take,List.take_range,bF h]
structure TkS (R R':RM):Prop where
 Al:R'.Al=R.Al
 Ad:R'.Ad=R.Ad
 Ca:R'.Ca=R.Ca
 D9:R'.D9=R.D9
 keep:ET R R'
def a1U (w0:World) (c0:Nat->Nat) (b0 g:Nat) (R:RM) (s:IS) (k:Nat) (wr:World):Prop:=
 ∃R' t,bU w0 c0 wr b0 g R'/\IS.Steps s t/\nV R' t/\t.Ok/\t.st=6/\TkS R R'/\Hid (k=t.mu)/\Hid (t.lt=s.lt)/\Hid (t.ds=s.ds)
def EmR (w0:World) (c0:Nat->Nat) (b0 g:Nat) (R:RM) (t:IS) (D N:Nat) (k:Nat) (i:Value) (wr:World):Prop:=
 ∃j A n cc,j<=N/\Hid (j<=t.rem)/\Hid (k=N-j)/\i= .int .i64 j/\bU w0 c0 wr b0 g { R with Ao:=A,no:=n,co:=cc,out:=t.all++again t.all D j }
theorem yb (h:ig w b0 g c R) (b:nV R s) (hO:s.Ok) (O:s.st=6) (Al Ad:ax) (nl cl d cd:Nat) (DK:R.Al= .slice Al nl cl) (eg:R.Ad= .slice Ad d cd)
  (hl:bT .i64 w w.heap.size Al nl s.lt) (hd:bT .i64 w w.heap.size Ad d s.ds) (mK:0<nl->∀r,Al=some r->c r.block=0) (pZ:0<d->∀r,Ad=some r->c r.block=0):
  Calls Tryz.prog 52 #[.pointer (some ⟨g,0,none⟩)] w (fV w c b0 g R s):=by
 obtain⟨i0,hi,cX,cL,cH⟩ :=aL EB;have Hi:=η hi;have gL:=η cX;have fN:=η cL;have gM:=η cH;obtain⟨eY,eT⟩ :=hO.h6 (.inl O);obtain⟨dk,du, -⟩ :=vg eY;obtain⟨Yi,dz, -⟩ :=vg eT;have k8:=h.cell.az 8;rw[show sF R 8= .slice Al nl cl from DK]at k8;have bl:=h.cell.az 10;have gh:=h.cell.aH 10;have fG:nl<=288:=by rw[hl.1];exact dk
 have Cm:d<=288:=by rw[hd.1];exact Yi
 have og:=h.cell.lt;have PM:=η DK;have YJ:=η eg;have gb:=η O;have EN:=η (show∀i,i<nl->0<=ix s.lt i/\ix s.lt i<=15 from λi hi=>du i (by rw[<-hl.1];exact hi));have ge:=η (show∀i,i<d->0<=ix s.ds i/\ix s.ds i<=15 from λi hi=>dz i (by rw[<-hd.1];exact hi));have YE:=η mK;have SE:=η pZ;clear hi cX cL cH eY eT dk du Yi dz DK eg O mK pZ
 go_in
 go_wp2_with fail;refine(uG _ _ _ _ _ _ hl (af _) fG).mono ?_;rintro e w1 ⟨T,rfl,ee,Y,fz⟩;have F:=h.keeps Y;have gm:=F.cell.az 10;have gj:=F.cell.aH 10;have Z:=F.put (i:=10) ω (.slice (some ⟨T,0,none⟩) nl nl) { R with Ca:= .slice (some ⟨T,0,none⟩) nl nl } (fS rfl rfl rfl rfl rfl rfl rfl rfl rfl rfl rfl rfl rfl) rfl;have IW:bb w1 (w1.setCell ⟨g,10,none⟩ (.slice (some ⟨T,0,none⟩) nl nl)) (λk=>k=g):=(bb.refl w1 (λk=>k=g)).setCell (p:= ⟨g,10,none⟩) (.inl rfl) _;have x9:=Z.cell.az 9;rw[show sF { R with Ca:= .slice (some ⟨T,0,none⟩) nl nl } 9= .slice Ad d cd from YJ.out]at x9
 have fm:Hid (∀(nn:Nat) (A:ax),(0<nn->∀r,A=some r->c r.block=0)->0<nn->∀r,A=some r->¬r.block=g):=λnn A hq h0 r e B=>by
  have:=hq h0 r e;rw[B,h.cg]at this;exact absurd this δ
 have sf:=IW.rp (hd.below Y) Y.size (λh0 r e=>fm.out d Ad SE.out h0 r e)
 go_wp2_with fail;refine(uG _ _ _ _ _ _ sf (aq Y.size IW.size) Cm).mono ?_;rintro e w3 ⟨N,rfl,ec,al,fy⟩;have h3:=Z.keeps al;have gl:=h3.cell.az 11;have gi:=h3.cell.aH 11;have h4:=h3.put (i:=11) ω (.slice (some ⟨N,0,none⟩) d d) { R with Ca:= .slice (some ⟨T,0,none⟩) nl nl,D9:= .slice (some ⟨N,0,none⟩) d d } (fS rfl rfl rfl rfl rfl rfl rfl rfl rfl rfl rfl rfl rfl) rfl;have ZT:bb w3 (w3.setCell ⟨g,11,none⟩ (.slice (some ⟨N,0,none⟩) d d)) (λk=>k=g):=(bb.refl w3 (λk=>k=g)).setCell (p:= ⟨g,11,none⟩) (.inl rfl) _;have f:w.heap.size<=(w1.setCell ⟨g,10,none⟩ (.slice (some ⟨T,0,none⟩) nl nl)).heap.size:=aq Y.size IW.size;have hs3:=aq f al.size
 have ci:∀q,w.heap.size<=q->c q=0:=λq hq=>by
  by_cases e:c q=0
  · exact e
  have:=(h.cb q e).2;omega
 have bi:bb w (w3.setCell ⟨g,11,none⟩ (.slice (some ⟨N,0,none⟩) d d)) (λk=>c k≠0):=by
  have o:bb w w1 (λk=>c k≠0):=bb.bC Y;have a2:=o.trans IW (λk hk=> .inl (by rw[hk,h.cg];decide));have a3:bb w w3 (λk=>c k≠0):=a2.trans (bb.bC (S:=λ_=>False) al) (λk hk=>hk.elim);exact a3.trans ZT (λk hk=> .inl (by rw[hk,h.cg];decide))
 have SQ:DE w.heap.size w c (w3.setCell ⟨g,11,none⟩ (.slice (some ⟨N,0,none⟩) d d)) c->True:=λ_=>trivial;have cc:bT .i64 (w3.setCell ⟨g,11,none⟩ (.slice (some ⟨N,0,none⟩) d d)) w.heap.size Al nl s.lt:=bi.rp hl (af _) (λh0 r e B=>B (YE h0 r e));have J0:bT .i64 (w3.setCell ⟨g,11,none⟩ (.slice (some ⟨N,0,none⟩) d d)) w.heap.size Ad d s.ds:=bi.rp hd (af _) (λh0 r e B=>B (SE h0 r e))
 have ca:bT .u32 (w3.setCell ⟨g,11,none⟩ (.slice (some ⟨N,0,none⟩) d d)) w1.heap.size (some ⟨T,0,none⟩) nl (jo s.lt):=by
  have q1:=IW.rp ee (af _) (λ_ r e B=>by injection e with e;subst e;simp only at B;omega);have q2:=q1.below (al.mono IW.size);exact ZT.rp q2 (aq IW.size al.size) (λ_ r e B=>by injection e with e;subst e;simp only at B;omega)
 have ch:bT .u32 (w3.setCell ⟨g,11,none⟩ (.slice (some ⟨N,0,none⟩) d d)) w3.heap.size (some ⟨N,0,none⟩) d (jo s.ds):=ZT.rp ec (af _) (λ_ r e B=>by injection e with e;subst e;simp only at B;omega)
 have eS:∀w' R',bU (w3.setCell ⟨g,11,none⟩ (.slice (some ⟨N,0,none⟩) d d)) c w' b0 g R'->bU w c w' b0 g R':=λw' R' hr=>
  bU.fo h4 (DE.step (c':=c) (⟨aw _ _,bb.refl _ _,λ_ _=>rfl⟩ :DE b0 w c w c) h.lo (λk hk=>(h.cb k hk).1) bi (λ_ _=>rfl)) hr
 obtain⟨u,DW⟩ :=ν (w3.setCell ⟨g,11,none⟩ (.slice (some ⟨N,0,none⟩) d d))
 have C:∀wr R',bU u c wr b0 g R'->bT .i64 wr wr.heap.size Al nl s.lt/\bT .i64 wr wr.heap.size Ad d s.ds/\bT .u32 wr wr.heap.size (some ⟨T,0,none⟩) nl (jo s.lt)/\bT .u32 wr wr.heap.size (some ⟨N,0,none⟩) d (jo s.ds):=λwr R' hr=>by
  obtain⟨ha, -⟩ :=hr.aside;rw[DW]at cc J0 ca ch;have qD:w3.heap.size<=u.heap.size:=by rw[<-DW];exact ZT.size
  have bt:w1.heap.size<=u.heap.size:=aq (aq IW.size al.size) qD;have ap:w.heap.size<=u.heap.size:=aq Y.size bt;refine⟨(ha.rp cc ap (λh0 r e B=>B (YE h0 r e))).more (aq ap ha.size),(ha.rp J0 ap (λh0 r e B=>B (SE h0 r e))).more (aq ap ha.size),(ha.rp ca bt (λ_ r e B=> ?_)).more (aq bt ha.size),(ha.rp ch qD (λ_ r e B=> ?_)).more (aq qD ha.size)⟩
  · injection e with e;subst e;exact B (ci _ fz)
  injection e with e;subst e;exact B (ci _ (aq f fy))
 rw[DW]at h4;have fd:=η C;have Y1:Hid (∀w' R',bU u c w' b0 g R'->bU w c w' b0 g R'):=λw' R' hr=>by rw[<-DW]at hr;exact eS w' R' hr
 have GW:=η DW
 have jz:Hid (a1U u c b0 g { R with Ca:= .slice (some ⟨T,0,none⟩) nl nl,D9:= .slice (some ⟨N,0,none⟩) d d } s s.mu u):=
  ⟨_,s,h4.refl, .refl s, ⟨b.x,b.le,b.out,b.kinds,b.stops,b.aj,b.most,b.E,b.bit,b.len,b.even,b.small,b.tk⟩,hO,gb.out, ⟨rfl,rfl,rfl,rfl, ⟨rfl,rfl,rfl,af _⟩⟩,rfl,rfl,rfl⟩
 clear DW C eS SQ bi ci cc J0 ca ch h4 h3 Z F hl hd sf ee ec
 go_wp2_with fail;rw[GW.out];have IM:∃R0:RM,({ R with Ca:= .slice (some ⟨T,0,none⟩) nl nl,D9:= .slice (some ⟨N,0,none⟩) d d }:RM)=R0/\R0.Al= .slice Al nl cl/\R0.Ad= .slice Ad d cd/\R0.Ca= .slice (some ⟨T,0,none⟩) nl nl/\R0.D9= .slice (some ⟨N,0,none⟩) d d/\ET R R0:= ⟨_,rfl,PM.out,YJ.out,rfl,rfl, ⟨rfl,rfl,rfl,af _⟩⟩;obtain⟨R0,IM,er,ZF,en,es,et⟩ :=IM;rw[IM]at jz;have SH:=η (And.intro er (And.intro ZF (And.intro en (And.intro es et))));clear IM er ZF en es et b hO;go_loopg [] s.mu (a1U u c b0 g R0 s)
 case atStart=>exact jz
 clear jz;obtain⟨R1,t,h,hs,b,hO,O,G,hk,bI,ce⟩ :=hrel;have k8:=h.cell.az 8;rw[show sF R1 8= .slice Al nl cl from G.Al.trans SH.1]at k8;have bl:=h.cell.az 10;rw[show sF R1 10= .slice (some ⟨T,0,none⟩) nl nl from G.Ca.trans SH.2.2.1]at bl;have gf:=b.len;have fs:=b.le;have aE:=b.small;have jB:Hid (t.step=t.token):=Kp O;unfold IS.token at jB;obtain⟨K,hK⟩ :=ν ((aK t.lt t.x).1);obtain⟨n,hn⟩ :=ν ((aK t.lt t.x).2.1);obtain⟨E,hE⟩ :=ν ((aK t.lt t.x).2.2);have fg:Hid (E=0\/E=3\/E=5):=by have:=eP t.lt t.x;rw[hE]at this;exact this
 have oB:Hid (E=0->0<=K/\K<288/\n<=t.x.length):=λh=>by
  obtain⟨k2,y,e1,B,e3,e4,e5⟩ :=lU (l:=t.lt) (x:=t.x) hO.bit (by rw[hE,h];simp);have h6:=(vg (hO.h6 (.inl O)).1).1;rw[e1]at hK hn;simp at hK hn;omega
 have Vt:Hid (E=0->1<=n):=λh=>by have:=js (l:=t.lt) (x:=t.x) (by rw[hE];exact h);rw[hn]at this;exact this.1
 have dj:aK t.lt t.x=(K,n,E):=by rw[<-hK,<-hn,<-hE]
 rw[hK,hn,hE]at jB
 have Re:∀W,bU u c W b0 g R1->Calls Tryz.prog 61 #[.pointer (some ⟨g,0,none⟩), .slice Al nl cl, .slice (some ⟨T,0,none⟩) nl nl] W (EX u c b0 g R1 K n E):=λW H=>by
  obtain⟨o,a2,a3,a4⟩ :=fd.out W R1 H;exact BA H Al (some ⟨T,0,none⟩) nl cl nl s.lt o a3 fG EN.out ω b.bit fs K n E (by rw[b.x,<-bI.out];exact dj)
 have PN:=η Re;have Tu:=η O;clear hK hn hE dj Re O;by_cases pn:E=0
 rotate_left
 · have sj:∀W,bU u c W b0 g R1->Calls Tryz.prog 61 #[.pointer (some ⟨g,0,none⟩), .slice Al nl cl, .slice (some ⟨T,0,none⟩) nl nl] W λe w'=>e= .returned (.tuple #[.int .i64 0, .bool false])/\bU u c w' b0 g { R1 with E:=E }:=λW H=>by
    refine(PN W H).mono ?_;rintro e w' (⟨F, -⟩ | ⟨-,F,Z⟩)
    · exact absurd F pn
    exact⟨F,Z⟩
   have L5:=η sj;have f:=η (jB.trans (aa pn));have P:E≠8:=by rcases fg.out with e | e | e <;> omega
   have GU:=η pn;have cA:=η P;clear jB oB fg PN sj pn P Vt
   go_wp2_with fail
   go_region_law
    ((go_simp;go_at_call 61;(refine(L5 _ (by first | exact h | exact h.drew | exact h.drewN _)).mono ?_))
     rintro e w5 ⟨rfl,h5⟩)
   all_goals
    go_wp2_with fail;go_ret;exact fV.bad hs f.out GU.out cA.out (Y1 _ _ h5) ⟨b.out,b.kinds,b.stops,b.aj,rfl⟩
 subst pn;obtain⟨IK,ZA,iu⟩ :=oB.out rfl;have Rh:=η (jB.trans (a8 δ))
 have sj:∀W,bU u c W b0 g R1->Calls Tryz.prog 61 #[.pointer (some ⟨g,0,none⟩), .slice Al nl cl, .slice (some ⟨T,0,none⟩) nl nl] W λe w'=>e= .returned (.tuple #[.int .i64 K, .bool true])/\bU u c w' b0 g { R1 with at_:=R1.at_+n }:=λW H=>by
  refine(PN W H).mono ?_;rintro e w' (⟨-,F,Z⟩ | ⟨F, -⟩)
  · exact⟨F,Z⟩
  exact absurd rfl F
 have L5:=η sj;have Ts:Hid (1<=n):=Vt.out rfl;have ln:t.x.length=R1.X.length-R1.at_:=by rw[<-b.x,ay]
 have Cp:Hid (R1.X.drop (R1.at_+n)=t.x.drop n):=by show _=_;rw[<-b.x,bj]
 have ck:Hid (R1.at_+n<=R1.X.length):=by show _<=_;omega
 clear jB oB fg PN sj ln Vt
 go_wp2_with fail;go_cut [3,4] (λs3 s4 wx=>s3= .int .i64 K/\s4= .bool true/\bU u c wx b0 g { R1 with at_:=R1.at_+n })
 case first=>
  go_region_law
   ((go_simp;go_at_call 61;(refine(L5 _ (by first | exact h | exact h.drew | exact h.drewN _)).mono ?_))
    rintro e w5 ⟨rfl,h5⟩)
  all_goals
   go_wp2_with fail;go_meet;exact⟨rfl,rfl,h5⟩
 obtain⟨rfl,rfl,h5⟩ :=hcut;clear k8 bl h;by_cases tR:K=256
 · have f:=η (Rh.trans ((a8 ω).trans (aa tR)));clear Rh;subst tR
   go_wp2_with fail;go_ret;refine .inl ⟨_,t,t.x.drop n,rfl,Y1.out _ _ h5,hs,f.out, ⟨Cp.out,ck.out,b.out,b.kinds,b.stops,b.aj,b.most,b.E,b.bit,b.len,b.even,b.small,aq b.tk (by show R1.at_<=R1.at_+n;omega)⟩, ?_⟩;have o:=SH.2.2.2.2;exact⟨G.keep.X.trans o.X,G.keep.kinds.trans o.kinds,G.keep.stops.trans o.stops,aq o.le (aq G.keep.le (by show R1.at_<=R1.at_+n;omega))⟩
 have hh:(K==256)=false:=by simpa using tR
 by_cases ew:K<256
 · have f:=η (Rh.trans (aa ew));unfold IS.emit at f;have mL:R1.nt=R1.aj.length:=h5.aj.1;have bx:R1.nt+1<=1000000000000:=by have:=b.tk;omega
   have gs:1<=n:=Ts.out;have cm:=h5.apart.2.2.2;have fv:=h5.cell.lt;have Wa:=h5.cell.az 12;rw[show sF { R1 with at_:=R1.at_+n } 12= .slice R1.At R1.nt R1.ct from rfl]at Wa;have AZ:=h5.lo;have je:jZ (wc.alloc (.cells #[.int .u8 K, .int .i64 0, .int .i64 0] 132)) b0 R1.At R1.nt R1.ct R1.aj:= ⟨h5.aj.1,h5.aj.2.alloc _⟩;have cW:=lW.Wl wc (bY.mk K 0 0);have P0:R1.out.length=t.all.length:=by rw[b.out]
   have jL:=b.most;have eb:t.rem=0->∀W R2,R2.out=R1.out->R2.most=R1.most->bU u c W b0 g R2->Calls Tryz.prog 59 #[.pointer (some ⟨g,0,none⟩), .int .u8 K] W λe w'=>e= .returned (.bool false)/\bU u c w' b0 g { R2 with E:=6 }:=λhz W R2 F Z H=>xC H K (by rw[Z,F,jL];omega);have ea:t.rem≠0->∀W R2,R2.out=R1.out->R2.most=R1.most->bU u c W b0 g R2->Calls Tryz.prog 59 #[.pointer (some ⟨g,0,none⟩), .int .u8 K] W (EH u c b0 g R2 K):=λhz W R2 F Z H=>Bu H K (by rw[Z,F,jL];omega) (by rw[F];omega);have gd:=η eb;have gc:=η ea;have Db:=η aE;clear eb ea P0 jL aE mL tR Rh
   go_wp2_with (at_builtin;(refine mZ b0 i0 rfl (.tmp 50) (.tmp 54) rfl Hi.out gL.out fN.out gM.out rfl je rfl cW bx ξ ?_)
                intro A4 d4 w4 bM ac dY;have iI:=(h5.cell.alloc (.cells #[.int .u8 K, .int .i64 0, .int .i64 0] 132)).grown ac (λe=>cm e.symm);have cD:=iI.az 12;have cC:=iI.aH 12)
   have h6:=h5.a1B (bY.mk K 0 0) ac bM dY;by_cases hz:t.rem=0
   · have hs3:Hid (t.step=({ t with x:=t.x.drop n,aj:=t.aj++[bY.mk K 0 0],all:=t.all++[K].take t.rem,rem:=t.rem - [K].length },6)):=f.out.trans (by rw[aa ξ]);have he:=η (gd hz _ { R1 with at_:=R1.at_+n,At:=A4,nt:=R1.nt+1,ct:=d4,aj:=R1.aj++[bY.mk K 0 0] } rfl rfl h6);have HZ:=η hz;clear hz;refine he.mono ?_;rintro e w7 ⟨rfl,h7⟩
     go_wp2_with fail;go_ret;exact fV.bad hs hs3.out δ δ (Y1 _ _ h7) ⟨by show R1.out=t.all++[K].take t.rem;rw[HZ.out,b.out];simp,b.kinds,b.stops,by show R1.aj++_=t.aj++_;rw[b.aj],rfl⟩
   have hs3:Hid (t.step=({ t with x:=t.x.drop n,aj:=t.aj++[bY.mk K 0 0],all:=t.all++[K].take t.rem,rem:=t.rem - [K].length },0)):=f.out.trans (by rw[a8 ξ]);have he:=η (gc hz _ { R1 with at_:=R1.at_+n,At:=A4,nt:=R1.nt+1,ct:=d4,aj:=R1.aj++[bY.mk K 0 0] } rfl rfl h6);have bv:Hid ([K].take t.rem=[K]):=aA ξ;have HZ:=η hz;clear hz;refine he.mono ?_;rintro e w7 ⟨A8,n8,c8,rfl,h7⟩;have vD:Hid (t.step.1.mu<t.mu):=IS.jr (by rw[hs3.out])
   go_wp2_with fail;go_roundg t.step.1.mu
   case measure=>have:=hk.out;have:=vD.out;omega
   have xd:=hO.step (.inl (by rw[hs3.out]));have po:=IS.Steps.tail hs (by rw[hs3.out]);rw[hs3.out]at xd po⊢;refine⟨_,_,h7,po, ⟨Cp.out,ck.out, ?_,b.kinds,b.stops,by show R1.aj++_=t.aj++_;rw[b.aj], ?_,b.E,b.bit,b.len,b.even, ?_, ?_⟩,xd,Tu.out, ⟨G.Al,G.Ad,G.Ca,G.D9, ⟨G.keep.X,G.keep.kinds,G.keep.stops,aq G.keep.le (by show R1.at_<=R1.at_+n;omega)⟩⟩,rfl,bI.out,ce.out⟩
   · show R1.out++[K]=t.all++[K].take t.rem;rw[bv.out,b.out]
   · show R1.most=(((t.all++[K].take t.rem).length+(t.rem - [K].length):Nat):Int);rw[b.most,bv.out,ae];have:=HZ.out;simp;omega
   · show(t.all++[K].take t.rem).length+(t.rem - [K].length)<=_;rw[bv.out,ae];have:=HZ.out;have:=Db.out;simp;omega
   show(R1.aj++[_]).length<=R1.at_+n;rw[ae];have:=b.tk;have:=Ts.out;simp;omega
 have kP:=η (Rh.trans ((a8 ew).trans (a8 tR)));clear Rh;by_cases cw:285<K
 · have f:=η (kP.trans (aa cw));have kB:=η (a0u K (.inr cw) wc);have k1:=h5.cell.az 1;have z1:=h5.cell.aH 1;have h6:=h5.put (i:=1) ω (.int .i64 3) { R1 with at_:=R1.at_+n,E:=3 } (fS rfl rfl rfl rfl rfl rfl rfl rfl rfl rfl rfl rfl rfl) rfl;clear kP tR
   go_wp2_with fail;refine kB.out.mono ?_;rintro e w6 ⟨rfl,rfl⟩
   go_wp2_with fail;go_ret;exact fV.bad hs f.out δ δ (Y1 _ _ h6) ⟨b.out,b.kinds,b.stops,b.aj,rfl⟩
 have jV:=η (kP.trans (a8 cw));obtain⟨j,hj⟩ :=ν ((K-257).toNat);have xh:j<29:=ω;have kB:=a0v K j xh ω wc;rw[hj]at jV;have kA:=Jm j xh;have P6:=λv=> @Wc j v xh;obtain⟨LB,ev⟩ :=ν (lB j);obtain⟨LE,eu⟩ :=ν (lE j);rw[ev,eu]at kB jV kA P6;have L4:=η kB;have Rl:(t.x.drop n).length=R1.X.length-(R1.at_+n):=by rw[<-Cp.out,ay]
 have fr:=b.len;have iq:=ck.out;have hc:(0:Int)<=LB/\(LB:Int)<=258/\(0:Int)<=LE/\(LE:Int)<=5:=ω;clear kP hj xh ev eu kB tR;by_cases C:(t.x.drop n).length<LE
 · have f:=η (jV.trans (aa C));have ht:=η (nS h5 LE ω (by show R1.X.length<=_;omega) iq (by show R1.X.length<R1.at_+n+LE;omega));clear C Rl jV P6 kA
   go_wp2_with fail;refine L4.mono ?_;rintro e w6 ⟨rfl,rfl⟩
   go_wp2_with fail;refine ht.mono ?_;rintro e w7 ⟨rfl,h7⟩
   go_wp2_with fail;go_ret;exact fV.bad hs f.out δ δ (Y1 _ _ h7) ⟨b.out,b.kinds,b.stops,b.aj,rfl⟩
 have f:=η (jV.trans (a8 C));have CU:=gF (hO.bit.dU n) LE;have cs:=P6 _ CU;obtain⟨V,hV⟩ :=ν (num (t.x.drop n) LE);have ht:=η (jX h5 LE ω (by show R1.X.length<=_;omega) b.bit (by show R1.at_+n+LE<=R1.X.length;omega) (V:Int) (by show _=((num (R1.X.drop (R1.at_+n)) LE:Nat):Int);rw[Cp.out,hV]));rw[hV]at f cs CU;obtain⟨L,rD⟩ :=ν (LB+V);rw[rD]at f cs;have hb:(LB:Int)+(V:Int)=(L:Int):=ω;have gV:IntKind.i64.wrap ((LB:Int)+(V:Int))=(L:Int):=by rw[aM _ ω];omega
 have gA:(0:Int)<=V/\(V:Int)<=258/\(3:Int)<=L/\(L:Int)<=258:=ω;have bp:Hid (R1.X.drop (R1.at_+n+LE)=(t.x.drop n).drop LE):=by show _=_;rw[<-Cp.out,bj]
 have oz:Hid (R1.at_+n+LE<=R1.X.length):=by show _<=_;omega
 have vt:=hO.step (.inl (by rw[f.out]));have J:=IS.Steps.tail hs (by rw[f.out]);rw[f.out]at vt J;have rv:Hid (t.step.1.mu<t.mu):=IS.jr (by rw[f.out]);obtain⟨a,uR⟩ :∃a:IS,({ t with x:=(t.x.drop n).drop LE,len:=L,st:=7 }:IS)=a:= ⟨_,rfl⟩;have db:a.x=(t.x.drop n).drop LE/\a.ds=t.ds/\a.lt=t.lt/\a.len=L/\a.st=7/\a.all=t.all/\a.rem=t.rem/\a.aj=t.aj/\a.kinds=t.kinds/\a.stops=t.stops:=by rw[<-uR];exact⟨rfl,rfl,rfl,rfl,rfl,rfl,rfl,rfl,rfl,rfl⟩
 have tU:Hid (a.mu<t.mu):=by have:=rv.out;rw[f.out]at this;rw[<-uR];exact this
 rw[uR]at vt J;have vt:a.Ok:=vt;have J:IS.Steps s a:=J;have z:=η db;clear f C Rl jV P6 kA hV CU rD rv db uR cs fr iq;have ah:Hid (a.step=a.bn):=Dv z.2.2.2.2.1;unfold IS.bn at ah;obtain⟨K2,an⟩ :=ν ((aK a.ds a.x).1);obtain⟨y,ow⟩ :=ν ((aK a.ds a.x).2.1);obtain⟨E2,yu⟩ :=ν ((aK a.ds a.x).2.2);have Vf:Hid (E2=0\/E2=3\/E2=5):=by have:=eP a.ds a.x;rw[yu]at this;exact this
 have VR:Hid (E2=0->0<=K2/\K2<288/\y<=a.x.length):=λh=>by
  obtain⟨k2,n3,e1,B,e3,e4,e5⟩ :=lU (l:=a.ds) (x:=a.x) vt.bit (by rw[yu,h];simp);have h6:=(vg (vt.h6 (.inr z.2.2.2.2.1)).2).1;rw[e1]at an ow;simp at an ow;omega
 have xj:aK a.ds a.x=(K2,y,E2):=by rw[<-an,<-ow,<-yu]
 rw[an,ow,yu]at ah
 have dd:∀W,bU u c W b0 g { R1 with at_:=R1.at_+n+LE }->Calls Tryz.prog 61 #[.pointer (some ⟨g,0,none⟩), .slice Ad d cd, .slice (some ⟨N,0,none⟩) d d] W (EX u c b0 g { R1 with at_:=R1.at_+n+LE } K2 y E2):=λW H=>by
  obtain⟨o,a2,a3,a4⟩ :=fd.out W _ H;exact BA H Ad (some ⟨N,0,none⟩) d cd d s.ds a2 a4 Cm ge.out (by show R1.X.length<=_;omega) b.bit oz.out K2 y E2 (by show aK s.ds (R1.X.drop (R1.at_+n+LE))=_;rw[bp.out,<-ce.out,<-z.2.1,<-z.1];exact xj)
 have YL:=η dd;clear an ow yu xj dd
 go_wp2_with fail;refine L4.mono ?_;rintro e w6 ⟨rfl,rfl⟩
 go_wp2_with fail;refine ht.mono ?_;rintro e w7 ⟨rfl,h7⟩;have k9:=h7.cell.az 9;rw[show sF { R1 with at_:=R1.at_+n+LE } 9= .slice Ad d cd from G.Ad.trans SH.2.1]at k9;have W9:=h7.cell.az 11;rw[show sF { R1 with at_:=R1.at_+n+LE } 11= .slice (some ⟨N,0,none⟩) d d from G.D9.trans SH.2.2.2.1]at W9;clear h5 ht L4;by_cases pn:E2=0
 rotate_left
 · have sj:∀W,bU u c W b0 g { R1 with at_:=R1.at_+n+LE }->Calls Tryz.prog 61 #[.pointer (some ⟨g,0,none⟩), .slice Ad d cd, .slice (some ⟨N,0,none⟩) d d] W λe w'=>e= .returned (.tuple #[.int .i64 0, .bool false])/\bU u c w' b0 g { R1 with at_:=R1.at_+n+LE,E:=E2 }:=λW H=>by
    refine(YL W H).mono ?_;rintro e w' (⟨F, -⟩ | ⟨-,F,Z⟩)
    · exact absurd F pn
    exact⟨F,Z⟩
   have cy:=η sj;have hs3:=η (ah.trans (aa pn));have P:E2≠8:=by rcases Vf.out with e | e | e <;> omega
   have GU:=η pn;have cA:=η P;clear ah VR Vf YL sj pn P
   go_wp2_with fail
   go_region_law
    ((go_simp;go_at_call 61;(refine(cy _ (by first | exact h7 | exact h7.drew | exact h7.drewN _)).mono ?_))
     rintro e w5 ⟨rfl,M⟩)
   all_goals
    go_wp2_with fail;go_ret;exact fV.bad J hs3.out GU.out cA.out (Y1 _ _ M) ⟨by rw[z.2.2.2.2.2.1];exact b.out,by rw[z.2.2.2.2.2.2.2.2.1];exact b.kinds,by rw[z.2.2.2.2.2.2.2.2.2];exact b.stops,by rw[z.2.2.2.2.2.2.2.1];exact b.aj,rfl⟩
 subst pn;obtain⟨ho,hm,gr⟩ :=VR.out rfl;have be:=η (ah.trans (a8 δ))
 have sj:∀W,bU u c W b0 g { R1 with at_:=R1.at_+n+LE }->Calls Tryz.prog 61 #[.pointer (some ⟨g,0,none⟩), .slice Ad d cd, .slice (some ⟨N,0,none⟩) d d] W λe w'=>e= .returned (.tuple #[.int .i64 K2, .bool true])/\bU u c w' b0 g { R1 with at_:=R1.at_+n+LE+y }:=λW H=>by
  refine(YL W H).mono ?_;rintro e w' (⟨-,F,Z⟩ | ⟨F, -⟩)
  · exact⟨F,Z⟩
  exact absurd rfl F
 have cy:=η sj;have fi:a.x.length=R1.X.length-(R1.at_+n+LE):=by rw[z.1,<-bp.out,ay]
 have bo:Hid (R1.X.drop (R1.at_+n+LE+y)=a.x.drop y):=by show _=_;rw[z.1,<-bp.out,bj]
 have dY:Hid (R1.at_+n+LE+y<=R1.X.length):=by show _<=_;have:=oz.out;omega
 have eh:∀(R':RM) (v:Int),R'.out=R1.out->R'.kinds=R1.kinds->R'.stops=R1.stops->R'.aj=R1.aj->R'.E=v->L9 R' a v:=λR' v o a2 a3 a4 a5=> ⟨by rw[z.2.2.2.2.2.1,o];exact b.out,by rw[z.2.2.2.2.2.2.2.2.1,a2];exact b.kinds,by rw[z.2.2.2.2.2.2.2.2.2,a3];exact b.stops,by rw[z.2.2.2.2.2.2.2.1,a4];exact b.aj,a5⟩;have Tt:=η eh;clear ah VR Vf YL sj fi eh
 go_wp2_with fail;go_cut [3,4] (λs3 s4 wx=>s3= .int .i64 K2/\s4= .bool true/\bU u c wx b0 g { R1 with at_:=R1.at_+n+LE+y })
 case first=>
  go_region_law
   ((go_simp;go_at_call 61;(refine(cy _ (by first | exact h7 | exact h7.drew | exact h7.drewN _)).mono ?_))
    rintro e w5 ⟨rfl,P⟩)
  all_goals
   go_wp2_with fail;go_meet;exact⟨rfl,rfl,P⟩
 rename World=>wd
 obtain⟨rfl,rfl,P⟩ :=hcut;clear k9 W9 h7;by_cases cv:29<K2
 · have hs3:=η (be.trans (aa cv));have am:=η (U8 K2 (.inr cv) wd);have k1:=P.cell.az 1;have z1:=P.cell.aH 1;have M:=P.put (i:=1) ω (.int .i64 3) { R1 with at_:=R1.at_+n+LE+y,E:=3 } (fS rfl rfl rfl rfl rfl rfl rfl rfl rfl rfl rfl rfl rfl) rfl;clear be
   go_wp2_with fail;refine am.out.mono ?_;rintro e w6 ⟨rfl,rfl⟩
   go_wp2_with fail;go_ret;exact fV.bad J hs3.out δ δ (Y1 _ _ M) (Tt _ _ rfl rfl rfl rfl rfl)
 have QO:=η (be.trans (a8 cv));obtain⟨j2,dq⟩ :=ν (K2.toNat);have bd:j2<30:=ω;have am:=U9 K2 j2 bd ω wd;rw[dq]at QO
 have cj:dB j2<=32768/\dE j2<=13:=by
  have:∀j,j<30->dB j<=32768/\dE j<=13:=by decide+kernel
  exact this j2 bd
 have vJ:=λv=> @U5 j2 v bd;obtain⟨DB,ey⟩ :=ν (dB j2);obtain⟨I,Yd⟩ :=ν (dE j2);rw[ey,Yd]at am QO cj vJ;have cB:=η am;have da:(a.x.drop y).length=R1.X.length-(R1.at_+n+LE+y):=by rw[<-bo.out,ay]
 have jF:=dY.out;have hx:(0:Int)<=DB/\(DB:Int)<=32768/\(0:Int)<=I/\(I:Int)<=13:=ω;clear be dq bd ey Yd am;by_cases C:(a.x.drop y).length<I
 · have hs3:=η (QO.trans (aa C));have ht:=η (nS P I ω (by show R1.X.length<=_;omega) jF (by show R1.X.length<R1.at_+n+LE+y+I;omega));clear C da QO vJ cj jF
   go_wp2_with fail;refine cB.mono ?_;rintro e w6 ⟨rfl,rfl⟩
   go_wp2_with fail;refine ht.mono ?_;rintro e w7 ⟨rfl,M⟩
   go_wp2_with fail;go_ret;exact fV.bad J hs3.out δ δ (Y1 _ _ M) (Tt _ _ rfl rfl rfl rfl rfl)
 have J1:=η (QO.trans (a8 C));unfold IS.text at J1;have CU:=gF (vt.bit.dU y) I;have UE:=vJ _ CU;obtain⟨V2,cp⟩ :=ν (num (a.x.drop y) I);have ht:=η (jX P I ω (by show R1.X.length<=_;omega) b.bit (by show R1.at_+n+LE+y+I<=R1.X.length;omega) (V2:Int) (by show _=((num (R1.X.drop (R1.at_+n+LE+y)) I:Nat):Int);rw[bo.out,cp]));rw[cp]at J1 UE CU;obtain⟨D,ex⟩ :=ν (DB+V2);rw[ex]at J1 UE;have hu:(DB:Int)+(V2:Int)=(D:Int):=ω;have hp:IntKind.i64.wrap ((DB:Int)+(V2:Int))=(D:Int):=by rw[aM _ ω];omega
 have hw:(1:Int)<=D/\(D:Int)<=32768/\(0:Int)<=V2/\(V2:Int)<=32768:=ω;have fl:Hid (R1.X.drop (R1.at_+n+LE+y+I)=(a.x.drop y).drop I):=by show _=_;rw[<-bo.out,bj]
 have fk:Hid (R1.at_+n+LE+y+I<=R1.X.length):=by show _<=_;omega
 have df:R1.no=R1.out.length:=P.out.1;have P0:R1.out.length=a.all.length:=by rw[z.2.2.2.2.2.1,b.out]
 clear C da QO vJ cj jF cp CU ex;rw[z.2.2.2.1]at J1;by_cases FC:(R1.no:Int)<(D:Int)
 · have hs3:=η (J1.trans (aa ω));clear J1 df P0
   go_wp2_with fail;refine cB.mono ?_;rintro e w6 ⟨rfl,rfl⟩
   go_wp2_with fail;refine ht.mono ?_;rintro e w7 ⟨rfl,M⟩;have k0:=M.cell.az 0;rw[show sF { R1 with at_:=R1.at_+n+LE+y+I } 0= .slice R1.Ao R1.no R1.co from rfl]at k0;have k1:=M.cell.az 1;have z1:=M.cell.aH 1;have ao:=M.put (i:=1) ω (.int .i64 3) { R1 with at_:=R1.at_+n+LE+y+I,E:=3 } (fS rfl rfl rfl rfl rfl rfl rfl rfl rfl rfl rfl rfl rfl) rfl
   go_wp2_with fail;go_ret;exact fV.bad J hs3.out δ δ (Y1 _ _ ao) (Tt _ _ rfl rfl rfl rfl rfl)
 have hs3:=η (J1.trans (a8 ω));unfold IS.emit at hs3;have ga:D<=a.all.length:=ω;have mL:R1.nt=R1.aj.length:=P.aj.1;have bx:R1.nt+1<=1000000000000:=by have:=b.tk;omega
 have hy:=η P0;have a9T:=η FC;have jL:=b.most;rw[<-z.2.2.2.2.2.1,<-z.2.2.2.2.2.2.1]at jL;have bs:=aE;rw[<-z.2.2.2.2.2.1,<-z.2.2.2.2.2.2.1]at bs;have cz:=η jL;have Db:=η bs;have gt:(D:Int)<=(R1.no:Int)/\(R1.no:Int)<=1000000000:=ω;have hg:3<=L/\L<=258:=ω;clear J1 df P0 jL bs aE mL
 go_wp2_with fail;refine cB.mono ?_;rintro e w6 ⟨rfl,rfl⟩
 go_wp2_with fail;refine ht.mono ?_;rintro e w7 ⟨rfl,M⟩;have k0:=M.cell.az 0;rw[show sF { R1 with at_:=R1.at_+n+LE+y+I } 0= .slice R1.Ao R1.no R1.co from rfl]at k0;have Wa:=M.cell.az 12;rw[show sF { R1 with at_:=R1.at_+n+LE+y+I } 12= .slice R1.At R1.nt R1.ct from rfl]at Wa;have cm:=M.apart.2.2.2;have fv:=M.cell.lt;have gw:=M.lo;have je:jZ (w7.alloc (.cells #[.int .u8 0, .int .i64 L, .int .i64 D] 132)) b0 R1.At R1.nt R1.ct R1.aj:= ⟨M.aj.1,M.aj.2.alloc _⟩;have cW:=lW.Wl w7 (bY.mk 0 L D)
 go_wp2_with (at_builtin;(refine mZ b0 i0 rfl (.tmp 136) (.tmp 140) rfl Hi.out gL.out fN.out gM.out rfl je rfl cW bx ξ ?_)
              intro A4 d4 w4 bM ac dY;have iI:=(M.cell.alloc (.cells #[.int .u8 0, .int .i64 L, .int .i64 D] 132)).grown ac (λe=>cm e.symm);have cD:=iI.az 12;have cC:=iI.aH 12)
 have ao:=M.a1B (bY.mk 0 L D) ac bM dY;obtain⟨m,cq⟩ :∃m:RM,({ R1 with at_:=R1.at_+n+LE+y+I,At:=A4,nt:=R1.nt+1,ct:=d4,aj:=R1.aj++[bY.mk 0 L D] }:RM)=m:= ⟨_,rfl⟩;have ej:m.out=R1.out/\m.most=R1.most/\m.kinds=R1.kinds/\m.stops=R1.stops/\m.aj=R1.aj++[bY.mk 0 L D]/\m.at_=R1.at_+n+LE+y+I/\m.X=R1.X/\m.E=R1.E/\m.Al=R1.Al/\m.Ad=R1.Ad/\m.Ca=R1.Ca/\m.D9=R1.D9:=by rw[<-cq];exact⟨rfl,rfl,rfl,rfl,rfl,rfl,rfl,rfl,rfl,rfl,rfl,rfl⟩
 rw[cq]at ao;have ab:=η ej;clear cq ej M P k0 Wa bM ac dY iI cD cC je cW;go_loopg [10] L (EmR u c b0 g m a D L)
 case atStart=>exact⟨0,m.Ao,m.no,m.co,aG _,aG _,rfl,rfl,by rw[Lg,ak,z.2.2.2.2.2.1,<-b.out,<-ab.1];exact ao⟩
 clear ao;obtain⟨j,Ao,no,co,hj,U,dl,rfl,h⟩ :=hrel;by_cases gx:(j:Int)<(L:Int)
 · have k0:=h.cell.az 0;rw[show sF { m with Ao:=Ao,no:=no,co:=co,out:=a.all++again a.all D j } 0= .slice Ao no co from rfl]at k0;have xj:no=(a.all++again a.all D j).length:=h.out.1;rw[ae,cG]at xj;have UU:=Le a.all D j ω ga;obtain⟨Q,hQ⟩ :=ν (a.all.length+j-D);have cr:Q<no:=ω;obtain⟨r,rfl,ef,fb⟩ :=h.out.rd.at_ (i:=Q) cr;obtain⟨v,hv⟩ :=ν (ix (a.all++again a.all D j) Q:Int);have c1:wr.cell? (r.add Q)=some (.int .u8 v):=by rw[<-hv];exact fb
   clear fb;rw[hQ,hv]at UU;have fY:Hid (again a.all D (j+1)=again a.all D j++[v]):=UU;have gn:IntKind.i64.wrap ((no:Int)-(D:Int))=(Q:Int):=by rw[aM _ (ε Db.out U.out)];omega
   have gE:(0:Int)<=Q/\(Q:Int)<(no:Int):=ω;have de:=Db.out;have dp:=U.out;by_cases hz:a.rem=j
   · have oJ:∀W,bU u c W b0 g { m with Ao:=some r,no:=no,co:=co,out:=a.all++again a.all D j }->Calls Tryz.prog 59 #[.pointer (some ⟨g,0,none⟩), .int .u8 v] W λe w'=>e= .returned (.bool false)/\bU u c w' b0 g { m with Ao:=some r,no:=no,co:=co,out:=a.all++again a.all D j,E:=6 }:=λW H=>xC H v (by show m.most<=(((a.all++again a.all D j).length:Nat):Int);rw[ab.2.1,cz.out,ae,cG];omega);have L3:=η oJ;have lj:Hid (∃t':IS,a.step=(t',6)/\t'.all=a.all++(again a.all D L).take a.rem/\t'.kinds=a.kinds/\t'.stops=a.stops/\t'.aj=a.aj++[bY.mk 0 L D]):= ⟨{ a with x:=(a.x.drop y).drop I,st:=6,len:=L,aj:=a.aj++[bY.mk 0 L D],all:=a.all++(again a.all D L).take a.rem,rem:=a.rem-(again a.all D L).length },hs3.out.trans (by rw[aa (by rw[cG];omega)]),rfl,rfl,rfl,rfl⟩;have HZ:=η hz;clear hz hQ hv UU oJ xj de dp ef cr
     go_wp2_with fail
     go_region_law
      ((go_simp;go_at_call 59;(refine(L3 _ (by first | exact h | exact h.drew | exact h.drewN _)).mono ?_))
       rintro e w5 ⟨rfl,cx⟩)
     all_goals
      go_wp2_with fail;go_ret;obtain⟨t',e1,B,e3,e4,e5⟩ :=lj.out;refine fV.bad J e1 δ δ (Y1 _ _ cx) ⟨?_, ?_, ?_, ?_,rfl⟩
      · show a.all++again a.all D j=t'.all;rw[B,HZ.out,Lf _ _ hj]
      · show m.kinds=t'.kinds;rw[e3,ab.2.2.1,z.2.2.2.2.2.2.2.2.1,b.kinds]
      · show m.stops=t'.stops;rw[e4,ab.2.2.2.1,z.2.2.2.2.2.2.2.2.2,b.stops]
      show m.aj=t'.aj;rw[e5,ab.2.2.2.2.1,z.2.2.2.2.2.2.2.1,b.aj]
   have oJ:∀W,bU u c W b0 g { m with Ao:=some r,no:=no,co:=co,out:=a.all++again a.all D j }->Calls Tryz.prog 59 #[.pointer (some ⟨g,0,none⟩), .int .u8 v] W (EH u c b0 g { m with Ao:=some r,no:=no,co:=co,out:=a.all++again a.all D j } v):=λW H=>Bu H v (by show(((a.all++again a.all D j).length:Nat):Int)<m.most;rw[ab.2.1,cz.out,ae,cG];omega) (by show(a.all++again a.all D j).length<=_;rw[ae,cG];omega);have L3:=η oJ;have HZ:=η hz;clear hz hQ hv UU oJ xj de dp ef cr
   go_wp2_with fail
   go_region_law
    ((go_simp;go_at_call 59;(refine(L3 _ (by first | exact h | exact h.drew | exact h.drewN _)).mono ?_))
     rintro e w5 ⟨A8,n8,c8,rfl,cx⟩)
   all_goals
    go_wp2_with fail;go_roundg (gk-1)
    case measure=>have:=dl.out;omega
    case rel=>exact⟨j+1,A8,n8,c8,ω,by show _<=_;have:=U.out;have:=HZ.out;omega,by show gk-1=_;have:=dl.out;omega,by go_num,by rw[fY.out,<-av];exact cx⟩
 obtain rfl:j=L:=ω;have lj:Hid (∃t':IS,a.step=(t',0)/\t'.x=(a.x.drop y).drop I/\t'.all=a.all++again a.all D j/\t'.rem=a.rem-j/\t'.kinds=a.kinds/\t'.stops=a.stops/\t'.aj=a.aj++[bY.mk 0 j D]/\t'.st=6/\t'.lt=a.lt/\t'.ds=a.ds):= ⟨{ a with x:=(a.x.drop y).drop I,st:=6,len:=j,aj:=a.aj++[bY.mk 0 j D],all:=a.all++(again a.all D j).take a.rem,rem:=a.rem-(again a.all D j).length },hs3.out.trans (by rw[a8 (by rw[cG];have:=U.out;show¬a.rem<j;omega)]),rfl,by show a.all++(again a.all D j).take a.rem=_;rw[aA (by rw[cG];exact U.out)],by show a.rem-(again a.all D j).length=_;rw[cG],rfl,rfl,rfl,rfl,rfl,rfl⟩;obtain⟨t',e1,B,e3,e4,e5,e6,e7,e8,e9,fa⟩ :=lj.out;have xd:=vt.step (.inl (by rw[e1]));have po:=IS.Steps.tail J (by rw[e1]);have bB:=IS.jr (s:=a) (by rw[e1]);rw[e1]at xd po bB;have fn:Hid (t'.mu<t.mu):=by have o:=tU.out;have a2:t'.mu<a.mu:=bB;show _<_;omega
 have bG:Hid (∀W,bU u c W b0 g { m with Ao:=Ao,no:=no,co:=co,out:=a.all++again a.all D j }->a1U u c b0 g R0 s t'.mu W):=λW H=>by
  have o:=ab.out;refine⟨_,t',H,po, ⟨?_, ?_,e3.symm, ?_, ?_, ?_, ?_, ?_, ?_, ?_, ?_, ?_, ?_⟩,xd,e8, ⟨?_, ?_, ?_, ?_, ⟨?_, ?_, ?_, ?_⟩⟩,rfl, ?_, ?_⟩
  · show m.X.drop m.at_=t'.x;rw[o.2.2.2.2.2.2.1,o.2.2.2.2.2.1,B];exact fl
  · show m.at_<=m.X.length;rw[o.2.2.2.2.2.2.1,o.2.2.2.2.2.1];exact fk
  · show m.kinds=t'.kinds;rw[e5,o.2.2.1,z.2.2.2.2.2.2.2.2.1,b.kinds]
  · show m.stops=t'.stops;rw[e6,o.2.2.2.1,z.2.2.2.2.2.2.2.2.2,b.stops]
  · show m.aj=t'.aj;rw[e7,o.2.2.2.2.1,z.2.2.2.2.2.2.2.1,b.aj]
  · show m.most=_;rw[o.2.1,cz.out,e3,e4,ae,cG];have:=U.out;omega
  · show m.E=0;rw[o.2.2.2.2.2.2.2.1];exact b.E
  · show dH m.X;rw[o.2.2.2.2.2.2.1];exact b.bit
  · show m.X.length<=_;rw[o.2.2.2.2.2.2.1];exact b.len
  · show m.X.length%8=0;rw[o.2.2.2.2.2.2.1];exact b.even
  · rw[e3,e4,ae,cG];have:=U.out;have:=Db.out;omega
  · show m.aj.length<=m.at_;rw[o.2.2.2.2.1,o.2.2.2.2.2.1,ae];have:=b.tk;have:=Ts.out;simp;omega
  · exact o.2.2.2.2.2.2.2.2.1.trans G.Al
  · exact o.2.2.2.2.2.2.2.2.2.1.trans G.Ad
  · exact o.2.2.2.2.2.2.2.2.2.2.1.trans G.Ca
  · exact o.2.2.2.2.2.2.2.2.2.2.2.trans G.D9
  · exact o.2.2.2.2.2.2.1.trans G.keep.X
  · exact o.2.2.1.trans G.keep.kinds
  · exact o.2.2.2.1.trans G.keep.stops
  · show R0.at_<=m.at_;rw[o.2.2.2.2.2.1];have:=G.keep.le;omega
  · show t'.lt=s.lt;rw[e9,z.2.2.1];exact bI.out
  show t'.ds=s.ds;rw[fa,z.2.1];exact ce.out
 clear e1 B e3 e4 e5 e6 e7 e8 e9 fa xd po bB
 go_wp2_with fail;go_roundg t'.mu
 case measure=>have:=hk.out;have:=fn.out;omega
 case rel=>exact bG.out _ h
end
end Go.Proofs.YtgiimmkmjpbecaaGreat
