/-
  part
-/
import Derived.Test.YtddhegejmkgmjaaGreatRfA
import Derived.Deep.DeepCutAuto
set_option linter.unusedVariables false
set_option maxRecDepth 100000
set_option maxHeartbeats 8000000
namespace Go.Proofs.YtddhegejmkgmjaaGreat
open Go.RowKit
section
variable {w w' w0 wr w4:World} {b0 g:Nat} {c c0:Nat->Nat} {R R1 R':RM}
theorem kG {A a:Option Addr} {k d d4:Nat} {l:List Int} (z:cX wr b0 g c R1) (n:aq w wr (λk=>k=g)) (t:ag .i64 wr w.heap.size 3 A k d l) (m:∀q,c q≠0->q<w.heap.size) (C:g<w.heap.size) (B:w.heap.size<=wr.heap.size) (v:Int) (i:Nat) (hi:i<13) (R':RM) (hF:∀j,j<13->upd (sF R1) i (.slice a (k+1) d4) j=sF R' j)
  (x:R'={ R1 with E:=R'.E,rest:=R'.rest,at_:=R'.at_,most:=R'.most,Al:=R'.Al,Ad:=R'.Ad,vZ:=R'.vZ,xk:=R'.xk })
  (h:(wr.alloc (.cells #[.int .i64 v] 3)).grownBy w4 (aa A)) (o:ag .i64 w4 w.heap.size 3 a (k+1) d4 (l++[v])) (u:aa a=aa A\/aa a=some (wr.alloc (.cells #[.int .i64 v] 3)).heap.size):
  cX (w4.setCell ⟨g,i,none⟩ (.slice a (k+1) d4)) b0 g c R'/\aq w (w4.setCell ⟨g,i,none⟩ (.slice a (k+1) d4)) (λk=>k=g)/\ag .i64 (w4.setCell ⟨g,i,none⟩ (.slice a (k+1) d4)) w.heap.size 3 a (k+1) d4 (l++[v]):=by
 have r:∀q,aa A=some q->w.heap.size<=q:=λq b=>(t.2.lt b).1
 have s:aq wr w4 (λq=>aa A=some q):=((aq.refl wr (λq=>aa A=some q)).alloc _).grown h (λq e=> .inl e)
 have y:=z.aside s (λq b=>by
  by_cases e:c q=0
  · exact e
  · have:=m q e;have:=r q b;omega)
 have f:aa a≠some g:=λe=>by have:=(o.2.lt e).1;omega
 exact⟨y.put hi _ R' hF x,((n.trans s (λq b=> .inr (r q b))).setCell (p:= ⟨g,i,none⟩) (.inl rfl) _),o.far (p:= ⟨g,i,none⟩) f _⟩
def FxR (w:World) (b0 g:Nat) (c:Nat->Nat) (R:RM) (k:Nat) (i:Value) (wr:World):Prop:=
 ∃(j d:Nat) (A:Option Addr),j<=288/\Hid (k=288-j)/\i= .int .i64 j/\cX wr b0 g c { R with Al:= .slice A j d,Ad:= .slice none 0 0 }/\aq w wr (λk=>k=g)/\ag .i64 wr w.heap.size 3 A j d (cY.take j)/\w.heap.size<=wr.heap.size
def FxS (w:World) (b0 g:Nat) (c:Nat->Nat) (R:RM) (a:Option Addr) (b:Nat) (k:Nat) (i:Value) (wr:World):Prop:=
 ∃(j d:Nat) (A:Option Addr),j<=32/\Hid (k=32-j)/\i= .int .i64 j/\cX wr b0 g c { R with Al:= .slice a 288 b,Ad:= .slice A j d }/\aq w wr (λk=>k=g)/\ag .i64 wr w.heap.size 3 A j d (dP.take j)/\ag .i64 wr w.heap.size 3 a 288 b cY/\(∀q,aa A=some q->aa a≠some q)/\w.heap.size<=wr.heap.size
def UW (w:World) (b0 g:Nat) (c:Nat->Nat) (R:RM) (e:Ending) (w':World):Prop:=
 ∃A1 d1 a d2,e= .returned (.tuple #[])/\cX w' b0 g c { R with Al:= .slice A1 288 d1,Ad:= .slice a 32 d2 }/\aq w w' (λk=>k=g)/\ag .i64 w' w.heap.size 3 A1 288 d1 cY/\ag .i64 w' w.heap.size 3 a 32 d2 dP
theorem GD (h:cX w b0 g c R):
  Calls Tryz.prog 40 #[.pointer (some ⟨g,0,none⟩)] w (UW w b0 g c R):=by
 obtain⟨F,hi,I,H,G⟩ :=info_parts iF;have Hi:=η hi;have N:=η I;have M:=η H;have L:=η G;have K:=h.cell.lt;have t:∀q,c q≠0->q<w.heap.size:=λq v=>(h.cb q v).2
 have P:=h.cell.cell (i:=8) ω;have T:=h.cell.cell (i:=9) ω;have E:=h.cell.frozen' (i:=8) ω;have Z:=h.cell.frozen' (i:=9) ω;have D:=(h.put (i:=8) ω (.slice none 0 0) { R with Al:= .slice none 0 0 } (cu rfl rfl rfl rfl rfl rfl rfl rfl rfl rfl rfl rfl rfl) rfl).put (i:=9) ω (.slice none 0 0) { R with Al:= .slice none 0 0,Ad:= .slice none 0 0 } (cu rfl rfl rfl rfl rfl rfl rfl rfl rfl rfl rfl rfl rfl) rfl;have C:aq w ((w.setCell ⟨g,8,none⟩ (.slice none 0 0)).setCell ⟨g,9,none⟩ (.slice none 0 0)) (λk=>k=g):=((aq.refl w (λk=>k=g)).setCell (p:= ⟨g,8,none⟩) (.inl rfl) _).setCell (p:= ⟨g,9,none⟩) (.inl rfl) _;clear hi I H G;go_enter Tryz.func40,Tryz.ntmps40
 go_wp2_with fail
 go_loopg [2] 288 (FxR w b0 g c R)
 case atStart=>exact⟨0,0,none,Nat.zero_le _,rfl,rfl,D,C,ag.br,C.size⟩
 case round=>
  clear D C P T E Z;obtain⟨k,d,A,hk,f,rfl,n,b,m,B⟩ :=hrel;have P:=n.cell.cell (i:=8) ω;rw[show sF { R with Al:= .slice A k d,Ad:= .slice none 0 0 } 8= .slice A k d from rfl]at P;have J:=n.cell.lt;have r:aa A≠some g:=λe=>by have:=(m.2.lt e).1;omega
  by_cases l:k<288
  · have mA:(k:Int)<288/\(0:Int)<=k:=ω;have ht:=xD l;rw[zj k l]at ht;have W:(k:Int)<144\/((144:Int)<=k/\(k:Int)<256)\/((144:Int)<=k/\(256:Int)<=k/\¬(k:Int)<256/\(k:Int)<280)\/((144:Int)<=k/\(256:Int)<=k/\¬(k:Int)<256/\¬(k:Int)<280):=ω;rcases W with D | ⟨D,h2⟩ | ⟨D,h2,h3,h4⟩ | ⟨D,h2,h3,h4⟩
    · rw[if_pos ω]at ht;have z:=η ht;clear ht;have y:=m.alloc (.cells #[.int .i64 8] 3)
      go_wp2_with (at_builtin;(refine au .i64 w.heap.size 3 F 8 rfl (.tmp 31) (.tmp 33) _ rfl Tryz.underlying51 Hi.out N.out M.out L.out rfl y rfl (aT.lit .i64 wr [8] 3) ω ω ξ ?_)
                   intro o d4 w4 x a u;have s:=(n.cell.alloc (.cells #[.int .i64 8] 3)).grown a (λe=>r e.symm);have S:=s.cell (i:=8) ω;have E:=s.frozen' (i:=8) ω)
      have j:=kG n b m t K B 8 8 ω { R with Al:= .slice o (k+1) d4,Ad:= .slice none 0 0 } (cu rfl rfl rfl rfl rfl rfl rfl rfl rfl rfl rfl rfl rfl) rfl a x u;go_roundg (gk-1)
      case measure=>have:=f.out;omega
      case rel=>exact⟨k+1,d4,o,l,by show gk-1=_;have:=f.out;omega,by go_num,j.1,j.2.1,by rw[z.out];exact j.2.2,by have:=b.size;have:=j.2.1.size;omega⟩
    · rw[if_neg ω,if_pos ω]at ht;have z:=η ht;clear ht;have y:=m.alloc (.cells #[.int .i64 9] 3)
      go_wp2_with (at_builtin;(refine au .i64 w.heap.size 3 F 8 rfl (.tmp 31) (.tmp 33) _ rfl Tryz.underlying51 Hi.out N.out M.out L.out rfl y rfl (aT.lit .i64 wr [9] 3) ω ω ξ ?_)
                   intro o d4 w4 x a u;have s:=(n.cell.alloc (.cells #[.int .i64 9] 3)).grown a (λe=>r e.symm);have S:=s.cell (i:=8) ω;have E:=s.frozen' (i:=8) ω)
      have j:=kG n b m t K B 9 8 ω { R with Al:= .slice o (k+1) d4,Ad:= .slice none 0 0 } (cu rfl rfl rfl rfl rfl rfl rfl rfl rfl rfl rfl rfl rfl) rfl a x u;go_roundg (gk-1)
      case measure=>have:=f.out;omega
      case rel=>exact⟨k+1,d4,o,l,by show gk-1=_;have:=f.out;omega,by go_num,j.1,j.2.1,by rw[z.out];exact j.2.2,by have:=b.size;have:=j.2.1.size;omega⟩
    · rw[if_neg ω,if_neg ω,if_pos ω]at ht;have z:=η ht;clear ht;have y:=m.alloc (.cells #[.int .i64 7] 3)
      go_wp2_with (at_builtin;(refine au .i64 w.heap.size 3 F 8 rfl (.tmp 31) (.tmp 33) _ rfl Tryz.underlying51 Hi.out N.out M.out L.out rfl y rfl (aT.lit .i64 wr [7] 3) ω ω ξ ?_)
                   intro o d4 w4 x a u;have s:=(n.cell.alloc (.cells #[.int .i64 7] 3)).grown a (λe=>r e.symm);have S:=s.cell (i:=8) ω;have E:=s.frozen' (i:=8) ω)
      have j:=kG n b m t K B 7 8 ω { R with Al:= .slice o (k+1) d4,Ad:= .slice none 0 0 } (cu rfl rfl rfl rfl rfl rfl rfl rfl rfl rfl rfl rfl rfl) rfl a x u;go_roundg (gk-1)
      case measure=>have:=f.out;omega
      case rel=>exact⟨k+1,d4,o,l,by show gk-1=_;have:=f.out;omega,by go_num,j.1,j.2.1,by rw[z.out];exact j.2.2,by have:=b.size;have:=j.2.1.size;omega⟩
    · rw[if_neg ω,if_neg ω,if_neg ω]at ht;have z:=η ht;clear ht;have y:=m.alloc (.cells #[.int .i64 8] 3)
      go_wp2_with (at_builtin;(refine au .i64 w.heap.size 3 F 8 rfl (.tmp 31) (.tmp 33) _ rfl Tryz.underlying51 Hi.out N.out M.out L.out rfl y rfl (aT.lit .i64 wr [8] 3) ω ω ξ ?_)
                   intro o d4 w4 x a u;have s:=(n.cell.alloc (.cells #[.int .i64 8] 3)).grown a (λe=>r e.symm);have S:=s.cell (i:=8) ω;have E:=s.frozen' (i:=8) ω)
      have j:=kG n b m t K B 8 8 ω { R with Al:= .slice o (k+1) d4,Ad:= .slice none 0 0 } (cu rfl rfl rfl rfl rfl rfl rfl rfl rfl rfl rfl rfl rfl) rfl a x u;go_roundg (gk-1)
      case measure=>have:=f.out;omega
      case rel=>exact⟨k+1,d4,o,l,by show gk-1=_;have:=f.out;omega,by go_num,j.1,j.2.1,by rw[z.out];exact j.2.2,by have:=b.size;have:=j.2.1.size;omega⟩
  · obtain rfl:k=288:=ω;have X:cY.take 288=cY:=List.take_of_length_le (by rw[kF];omega);rw[X]at m;have HL:=η X;clear X r f
    go_wp2_with fail
    go_loopg [4] 32 (FxS w b0 g c R A d)
    case atStart=>exact⟨0,0,none,Nat.zero_le _,rfl,rfl,n,b,ag.br,m,λq v=>by simp [aa]at v,B⟩
    case round=>
     clear P n b m B J;obtain⟨k,d3,O,hk,f,rfl,n,b,m,Q,bb,B⟩ :=hrel;have T:=n.cell.cell (i:=9) ω;rw[show sF { R with Al:= .slice A 288 d,Ad:= .slice O k d3 } 9= .slice O k d3 from rfl]at T;have J:=n.cell.lt;have r:aa O≠some g:=λe=>by have:=(m.2.lt e).1;omega
     by_cases l:k<32
     · have mA:(k:Int)<32/\(0:Int)<=k:=ω;have z:=η (xC l);have y:=m.alloc (.cells #[.int .i64 5] 3)
       go_wp2_with (at_builtin;(refine au .i64 w.heap.size 3 F 8 rfl (.tmp 45) (.tmp 46) _ rfl Tryz.underlying51 Hi.out N.out M.out L.out rfl y rfl (aT.lit .i64 wr [5] 3) ω ω ξ ?_)
                    intro o d4 w4 x a u;have s:=(n.cell.alloc (.cells #[.int .i64 5] 3)).grown a (λe=>r e.symm);have x9:=s.cell (i:=9) ω;have Z:=s.frozen' (i:=9) ω)
       have j:=kG n b m t K B 5 9 ω { R with Al:= .slice A 288 d,Ad:= .slice o (k+1) d4 } (cu rfl rfl rfl rfl rfl rfl rfl rfl rfl rfl rfl rfl rfl) rfl a x u
       have V:ag .i64 (w4.setCell ⟨g,9,none⟩ (.slice o (k+1) d4)) w.heap.size 3 A 288 d cY:=((Q.alloc (.cells #[.int .i64 5] 3)).grown a (by
        by_cases e:aa A=none
        · exact .inr e
        · refine .inl λY=> ?_
          cases qN:aa O with
          | none=>rw[qN]at Y;exact e Y
          | some q=>exact bb q qN (by rw[Y,qN]))).far (p:= ⟨g,9,none⟩) (λ(e:aa A=some g)=>by have:=(Q.2.lt e).1;omega) _
       have U:∀q,aa o=some q->aa A≠some q:=λq v e=>by
        rcases u with h4 | h4
        · exact bb q (by rw[<-h4];exact v) e
        · rw[h4]at v;injection v with v;have:=(Q.2.lt e).2;simp at v;omega
       go_roundg (gk-1)
       case measure=>have:=f.out;omega
       case rel=>exact⟨k+1,d4,o,l,by show gk-1=_;have:=f.out;omega,by go_num,j.1,j.2.1,by rw[z.out];exact j.2.2,V,U,by have:=b.size;have:=j.2.1.size;omega⟩
     · obtain rfl:k=32:=ω;have hD:Hid (dP.take 32=dP):=List.take_of_length_le (by rw[uu];omega)
       go_wp2_with fail
       go_end0
       exact⟨A,d,O,d3,rfl,n,b,Q,by rw[hD.out]at m;exact m⟩
end
structure jq (R:RM) (s:IS):Prop where
 x:R.X.drop R.at_=s.x
 le:R.at_<=R.X.length
 out:R.out=s.all
 kinds:R.kinds=s.kinds
 stops:R.stops=s.stops
 a8:R.a8=s.a8
 most:R.most=((s.all.length+s.rem:Nat):Int)
 E:R.E=0
 bit:bc R.X
 len:R.X.length<=100000000000
 even:R.X.length%8=0
 small:s.all.length+s.rem<=1000000000
 tk:R.a8.length<=R.at_
structure yK (R R':RM):Prop where
 X:R'.X=R.X
 kinds:R'.kinds=R.kinds
 stops:R'.stops=R.stops
 le:R.at_<=R'.at_
structure EI (R:RM) (t:IS) (v:Int):Prop where
 out:R.out=t.all
 kinds:R.kinds=t.kinds
 stops:R.stops=t.stops
 a8:R.a8=t.a8
 E:R.E=v
def cE (w0:World) (c0:Nat->Nat) (b0 g:Nat) (R:RM) (s:IS) (e:Ending) (w':World):Prop:=
 (∃R' t x',e= .returned (.bool true)/\az w0 c0 w' b0 g R'/\IS.Steps s t/\t.step=(({ t with x:=x' }:IS).over,0)/\jq R' { t with x:=x' }/\yK R R')\/
 (∃R' t v,e= .returned (.bool false)/\az w0 c0 w' b0 g R'/\s.fin=(t,v)/\v≠8/\EI R' t v)
section
variable {w w' w0:World} {b0 g:Nat} {c c0:Nat->Nat} {R R':RM} {s t t':IS} {v:Int}
theorem cE.bad (a:IS.Steps s t) (h:t.step=(t',v)) (e:v≠0) (d:v≠8) (b:az w0 c0 w' b0 g R') (c:EI R' t' v):cE w0 c0 b0 g R s (.returned (.bool false)) w':=
 .inr ⟨R',t',v,rfl,b,by rw[<-a.iv,IS.dn (by rw[h];exact e),h],d,c⟩
theorem cE.ok {x':List Int} (a:IS.Steps s t) (h:t.step=(({ t with x:=x' }:IS).over,0)) (c:az w0 c0 w' b0 g R') (d:jq R' { t with x:=x' }) (b:yK R R'):cE w0 c0 b0 g R s (.returned (.bool true)) w':=
 .inl ⟨R',t,x',rfl,c,a,h,d,b⟩
theorem rN (x:List Int) (h:bc x) (a b:Nat):num x (a+b)=num x a+2 ^ a*num (x.drop a) b\/x.length<a+b:=by
 by_cases d:x.length<a+b
 · exact .inr d
 · refine .inl ?_;have e:x.take (a+b)=x.take a++(x.drop a).take b:=by rw[List.take_add]
   have c:=lO h (a+b);have g:=lO h a;have f:=lO (h.bu a) b;rw[e,dX,<-g,<-f,List.length_take,Nat.min_eq_left ω]at c;have h4:((2 ^ a:Nat):Int)=2 ^ a:=σ;have:((num x (a+b):Nat):Int)=((num x a+2 ^ a*num (x.drop a) b:Nat):Int):=by rw[c];simp
   omega
def AlR (w0:World) (c0:Nat->Nat) (b0 g:Nat) (R:RM) (k:Nat) (wr:World):Prop:=
 ∃a,R.at_<=a/\Hid (a<=(R.at_+7)/8*8)/\az w0 c0 wr b0 g { R with at_:=a }/\Hid (k=(R.at_+7)/8*8-a)
def StR (w0:World) (c0:Nat->Nat) (b0 g:Nat) (R:RM) (s:IS) (n:Nat) (k:Nat) (i:Value) (wr:World):Prop:=
 ∃j R' t,j<=n/\i= .int .i64 j/\Hid (k=n-j)/\az w0 c0 wr b0 g R'/\IS.Steps s t/\jq R' t/\t.Ok/\t.st=2/\Hid (t.left=n-j)/\yK R R'
theorem Dy (h:az w0 c0 w b0 g R) (hO:s.Ok) (K:s.st=1) (hx:gO (R.X.drop R.at_)=s.x) (f:jq R { s with x:=R.X.drop R.at_ }):
  Calls Tryz.prog 39 #[.pointer (some ⟨g,0,none⟩)] w (cE w0 c0 b0 g R s):=by
 have y:=f.len;have oF:=f.even;have ap:=f.le;obtain⟨A,hA⟩ :=ν ((R.at_+7)/8*8);have VW:A<=R.X.length:=ω
 have z:Hid (R.X.drop A=s.x):=by
  show _=_
  rw[<-hx];unfold gO;rw[List.drop_drop,List.length_drop];congr 1;omega
 have HA:=η hA;have ah:Hid (∀a,R.at_<=a->a<=A->a%8=0->a=A):=λa h1 h2 h3=>ω
 have al:Hid (∀a,R.at_<=a->a<=A->a%8≠0->a+1<=A):=λa h1 h2 h3=>ω
 have U:=η K;have aS:=η oF;have gy:Hid (AlR w0 c0 b0 g R (A-R.at_) w):= ⟨R.at_,Nat.le_refl _,by show _<=_;omega,h,by show _=_;omega⟩;have aE:(A:Int)<=100000000000:=ω;clear hA oF K hx h;go_enter Tryz.func39,Tryz.ntmps39
 go_wp2_with fail
 go_loopg [] (A-R.at_) (AlR w0 c0 b0 g R)
 case atStart=>exact gy.out
 case round=>
  clear gy;obtain⟨a,m,v,h,F⟩ :=hrel;obtain⟨-,k1, -, -, -,k5,k6, -⟩ :=h.cells;have z6:=h.cell.frozen' (i:=6) ω;have z1:=h.cell.frozen' (i:=1) ω;have I:=v.out;rw[HA.out]at I;have aC:(0:Int)<=a/\(a:Int)<=100000000000:=ω;by_cases L:a%8=0
  · have am:=ah.out a m I L;subst am;have K4:(a:Int)%8=0:=ω;have an:¬(0:Int)<(a:Int)%8:=ω;obtain⟨e,u⟩ :=ν (a+32);have hw:IntKind.i64.wrap ((a:Int)+32)=(e:Int):=by rw[IntWalk.i64_in _ ω];omega
    have mC:R.nb=R.X.length:=h.nb;have M:s.x.length=R.X.length-a:=by rw[<-z.out,List.length_drop]
    have d:Hid (s.step=s.size):=by show _=_;unfold IS.step;rw[if_neg (by have:=U.out;omega),if_pos U.out]
    unfold IS.size at d;have HE:=η u;by_cases ao:(R.nb:Int)<(e:Int)
    · have hs:=η (d.out.trans (if_pos ω));have h1:=h.drew.put (i:=1) ω (.int .i64 5) { R with at_:=a,E:=5 } (cu rfl rfl rfl rfl rfl rfl rfl rfl rfl rfl rfl rfl rfl) rfl;clear u mC M d F L m v I
      go_wp2_with fail
      go_region
      all_goals
       go_wp2_with fail
       go_ret
       exact cE.bad (.refl s) hs.out δ δ h1 ⟨f.out,f.kinds,f.stops,f.a8,rfl⟩
    · have o:=η (d.out.trans (if_neg ω));have O:=f.bit;have pO:=λW (n:az w0 c0 W b0 g { R with at_:=a })=>fg n 16 ω (Nat.le_trans y ω) O (by show a+16<=R.X.length;omega) _ rfl
      have Z:=λW (n:az w0 c0 W b0 g { R with at_:=a+16 })=>fg n 16 ω (Nat.le_trans y ω) O (by show a+16+16<=R.X.length;omega) _ rfl
      have l:=(rN (R.X.drop a) (O.bu a) 16 16).resolve_right (by rw[List.length_drop];omega);have sZ:=cO (O.bu a) 16;have r:=cO ((O.bu a).bu 16) 16;rw[List.drop_drop]at l r;obtain⟨N,hN⟩ :=ν (num (R.X.drop a) 16);obtain⟨P,hP⟩ :=ν (num (R.X.drop (a+16)) 16);have pO:∀W,az w0 c0 W b0 g { R with at_:=a }->Calls Tryz.prog 38 #[.pointer (some ⟨g,0,none⟩), .int .i64 16] W λe w'=>e= .returned (.tuple #[.int .i64 (N:Nat), .bool true])/\az w0 c0 w' b0 g { R with at_:=a+16 }:=λW n=>by rw[<-hN];exact pO W n
      have Z:∀W,az w0 c0 W b0 g { R with at_:=a+16 }->Calls Tryz.prog 38 #[.pointer (some ⟨g,0,none⟩), .int .i64 16] W λe w'=>e= .returned (.tuple #[.int .i64 (P:Nat), .bool true])/\az w0 c0 w' b0 g { R with at_:=a+32 }:=λW n=>by rw[<-hP];exact Z W n
      rw[hN,hP]at l;have l:num (R.X.drop a) 32=N+2 ^ 16*P:=l;rw[hN]at sZ;rw[hP]at r;have mn:=η pO;have Q4:=η Z
      have T:Hid (num s.x 32%65536=N/\num s.x 32/65536=P):=by
       rw[<-z.out];have:(2:Nat) ^ 16=65536:=δ;rw[this]at l sZ r;refine⟨?_, ?_⟩ <;> omega
      have Wa:(0:Int)<=N/\(N:Int)<65536/\(0:Int)<=P/\(P:Int)<65536:=by
       have:(2:Nat) ^ 16=65536:=δ;omega
      have ab:Hid (R.X.drop (a+32)=s.x.drop 32):=by show _=_;rw[<-z.out,List.drop_drop]
      rw[T.out.1,T.out.2]at o;clear pO Z l sZ r hN hP u mC M d F L;by_cases rI:N+P=65535
      · have G:=η (o.out.trans (if_pos rI));have ad:(N:Int)+(P:Int)=65535:=ω;have Z4:(((N:Int)+(P:Int)) != 65535)=false:=ξ;have UY:=η m
        have bS:Hid (∀W,az w0 c0 W b0 g { R with at_:=a+32 }->StR w0 c0 b0 g R s N N (.int .i64 0) W):=λW n=>by
         have qd:=hO.step (.inl (by rw[G.out]));rw[G.out]at qd;have Q:=IS.Steps.one (s:=s) (by rw[G.out]);rw[G.out]at Q;exact⟨0,_,_,Nat.zero_le _,rfl,rfl,n,Q, ⟨ab.out,by show a+32<=R.X.length;have h8:=HE.out;have h9:R.nb=R.X.length:=h.nb;omega,f.out,f.kinds,f.stops,f.a8,f.most,f.E,f.bit,f.len,f.even,f.small,Nat.le_trans f.tk (by show R.at_<=a+32;have:=UY.out;omega)⟩,qd,rfl,rfl, ⟨rfl,rfl,rfl,by show R.at_<=a+32;have:=UY.out;omega⟩⟩
        clear rI o m v I ad
        go_wp2_with fail
        go_region
        all_goals
         go_wp2_with fail
         refine(mn.out _ h.drew).mono ?_;rintro e w5 ⟨rfl,h5⟩
         go_wp2_with fail
         refine(Q4.out _ h5).mono ?_;rintro e w6 ⟨rfl,h6⟩
         go_wp2_with fail
         clear Z4
         go_loopg [7] N (StR w0 c0 b0 g R s N)
         case atStart=>exact bS.out _ h6
         case round=>
          clear bS h5 h6 h;obtain⟨j,R1,t,hj,rfl,F,h,q,c,qd,fc,Un,S⟩ :=hrel;have tX:=η fc;have Y:=η S;have b:Hid (t.step=t.stored):=by show _=_;unfold IS.step;rw[if_neg ω,if_neg ω,if_pos fc]
          unfold IS.stored at b;clear fc S;by_cases aA:(j:Int)<(N:Int)
          · have k:t.left≠0:=by have:=Un.out;omega
            have B:=η (b.out.trans (if_neg k));have uL:=c.len;have uJ:=c.le;have lH:t.x.length=R1.X.length-R1.at_:=by rw[<-c.x,List.length_drop]
            by_cases J:t.x.length<8
            · have H:=η (B.out.trans (if_pos J));have ht:=η (jm h 8 ω ω uJ ω);clear J lH uL uJ k b B
              go_wp2_with fail
              refine ht.out.mono ?_;rintro e w7 ⟨rfl,h7⟩
              go_wp2_with fail
              go_ret
              exact cE.bad q H.out δ δ h7 ⟨c.out,c.kinds,c.stops,c.a8,rfl⟩
            · have H:=η (B.out.trans (if_neg J));unfold IS.emit at H;have Oo:=cO (c.bit.bu R1.at_) 8;rw[c.x]at Oo;obtain⟨V,hV⟩ :=ν (((num t.x 8:Nat):Int):Int);have ht:=η (fg h 8 ω ω c.bit ω V (by rw[c.x,hV]));rw[hV]at H;have zB:0<=V/\V<256:=by have:(2:Nat) ^ 8=256:=δ;omega
              have ac:Hid (R1.X.drop (R1.at_+8)=t.x.drop 8):=by show _=_;rw[<-c.x,List.drop_drop]
              have JS:Hid (R1.at_+8<=R1.X.length):=by show _<=_;omega
              have eP:=c.most;have Sj:R1.out.length=t.all.length:=by rw[c.out]
              have C:=c.small;by_cases hr:t.rem=0
              · have u:∀W,az w0 c0 W b0 g { R1 with at_:=R1.at_+8 }->Calls Tryz.prog 55 #[.pointer (some ⟨g,0,none⟩), .int .u8 V] W λe w'=>e= .returned (.bool false)/\az w0 c0 w' b0 g { R1 with at_:=R1.at_+8,E:=6 }:=λW n=>rR n V (by show R1.most<=_;rw[eP];show _<=((R1.out.length:Nat):Int);omega)
                have QK:=η u;have p:Hid (t.step=({ t with x:=t.x.drop 8,left:=t.left-1,all:=t.all++[V].take t.rem,rem:=t.rem - [V].length },6)):=H.out.trans (by rw[if_pos ξ]);have O2:=η hr;clear u hr hV Oo J lH uL uJ k eP Sj C b B
                go_wp2_with fail
                refine ht.out.mono ?_;rintro e w7 ⟨rfl,h7⟩
                go_wp2_with fail
                refine(QK.out _ h7).mono ?_;rintro e w8 ⟨rfl,h8⟩
                go_wp2_with fail
                go_ret
                exact cE.bad q p.out δ δ h8 ⟨by rw[O2.out];show R1.out=t.all++[V].take 0;rw[c.out];simp,c.kinds,c.stops,c.a8,rfl⟩
              · have u:∀W,az w0 c0 W b0 g { R1 with at_:=R1.at_+8 }->Calls Tryz.prog 55 #[.pointer (some ⟨g,0,none⟩), .int .u8 V] W (yH w0 c0 b0 g { R1 with at_:=R1.at_+8 } V):=λW n=>vu n V (by show((R1.out.length:Nat):Int)<R1.most;rw[eP];omega) (by show R1.out.length<=_;omega)
                have QK:=η u;have p:Hid (t.step=({ t with x:=t.x.drop 8,left:=t.left-1,all:=t.all++[V].take t.rem,rem:=t.rem - [V].length },0)):=H.out.trans (by rw[if_neg ξ]);have D:Hid ([V].take t.rem=[V]):=List.take_of_length_le ξ;have O2:=η hr;have sP:=η C;have aI:=η k;clear u hr hV Oo J lH uL uJ k eP Sj C b B
                go_wp2_with fail
                refine ht.out.mono ?_;rintro e w7 ⟨rfl,h7⟩
                go_wp2_with fail
                refine(QK.out _ h7).mono ?_;rintro e w8 ⟨A8,n8,c8,rfl,h8⟩
                go_wp2_with fail
                go_roundg (gk-1)
                case measure=>have:=F.out;omega
                case rel=>
                 have rr:=qd.step (.inl (by rw[p.out]));have kI:=IS.Steps.tail q (by rw[p.out]);rw[p.out]at rr kI;refine⟨j+1,_,_,ω,by go_num,by show gk-1=_;have:=F.out;omega,h8,kI, ⟨ac.out,JS.out, ?_,c.kinds,c.stops,c.a8, ?_,c.E,c.bit,c.len,c.even, ?_,Nat.le_trans c.tk (by show R1.at_<=R1.at_+8;omega)⟩,rr,tX.out,by show t.left-1=_;have:=Un.out;omega, ⟨Y.out.X,Y.out.kinds,Y.out.stops,Nat.le_trans Y.out.le (by show R1.at_<=R1.at_+8;omega)⟩⟩
                 · show R1.out++[V]=t.all++[V].take t.rem
                   rw[D.out,c.out]
                 · show R1.most=(((t.all++[V].take t.rem).length+(t.rem - [V].length):Nat):Int)
                   rw[c.most,D.out,List.length_append];have:=O2.out;simp;omega
                 · show(t.all++[V].take t.rem).length+(t.rem - [V].length)<=_
                   rw[D.out,List.length_append];have:=O2.out;have:=sP.out;simp;omega
          · have k:t.left=0:=by have:=Un.out;omega
            have B:=η (b.out.trans (if_pos k));clear k b
            go_wp2_with fail
            go_ret
            exact cE.ok (x':=t.x) q B.out h c Y.out
      · have G:=η (o.out.trans (if_neg rI));have Z4:(((N:Int)+(P:Int))==65535)=false:=ξ;clear rI o m v I
        go_wp2_with fail
        go_region
        all_goals
         go_wp2_with fail
         refine(mn.out _ h.drew).mono ?_;rintro e w5 ⟨rfl,h5⟩
         go_wp2_with fail
         refine(Q4.out _ h5).mono ?_;rintro e w6 ⟨rfl,h6⟩;obtain⟨-,j1, -⟩ :=h6.cells;have y1:=h6.cell.frozen' (i:=1) ω;have h7:=h6.put (i:=1) ω (.int .i64 2) { R with at_:=a+32,E:=2 } (cu rfl rfl rfl rfl rfl rfl rfl rfl rfl rfl rfl rfl rfl) rfl
         go_wp2_with fail
         go_ret
         exact cE.bad (.refl s) G.out δ δ h7 ⟨f.out,f.kinds,f.stops,f.a8,rfl⟩
  · have K4:(0:Int)<(a:Int)%8:=ω;have h2:=h.put (i:=6) ω (.int .i64 ((a:Int)+1)) { R with at_:=a+1 } (cu rfl rfl rfl rfl rfl rfl rfl rfl rfl rfl rfl rfl rfl) rfl;have dT:=η (al.out a m I L);clear L
    go_wp2_with fail
    go_roundg (gk-1)
    case measure=>have:=F.out;have:=HA.out;have:=dT.out;omega
    case rel=>exact⟨a+1,ω,by show _<=_;rw[HA.out];exact dT.out,h2,by show gk-1=_;have:=F.out;omega⟩
end
section
variable {w w' w0 w2:World} {b0 g:Nat} {c c0:Nat->Nat} {R R':RM} {s t t':IS} {v:Int}
theorem ig.SK (w:World) (t:aF):ig (w.alloc (.cells #[.int .u8 t.lit, .int .i64 t.len, .int .i64 t.ak] 90)) (w.heap.size+1) (some ⟨w.heap.size,0,none⟩) 1 [t]:=by
 have h:=vO w t.lit t.len t.ak 90;refine⟨rfl,λ_=> ⟨_,rfl,σ,λi hi=> ?_⟩⟩;obtain rfl:i=0:=ω;exact⟨by rw[kA];exact h.cell (i:=0) ω,by rw[kA];exact h.cell (i:=1) ω,by rw[kA];exact h.cell (i:=2) ω⟩
theorem az.UK (h:az w0 c0 w b0 g R) (t:aF) {o:Obj} {a:Option Addr} {f c2:Nat} (n:(w.alloc o).grownBy w2 (aa R.At)) (m:fl w2 b0 a f c2 (R.a8++[t])) (c:aa a=aa R.At\/aa a=some (w.alloc o).heap.size):
  az w0 c0 (w2.setCell ⟨g,12,none⟩ (.slice a f c2)) b0 g { R with At:=a,nt:=f,ct:=c2,a8:=R.a8++[t] }:=by
 have d:=h.apart.2.2.2;have u:=h.cell.lt;have s:=(h.cell.alloc o).grown n (λe=>d e.symm)
 have j:aa a≠some g:=by
  rcases c with e | e
  · rw[e];exact d
  · rw[e];intro l;injection l with l;simp at l;omega
 refine h.OL ((((aq.refl w _).alloc _).grown n (λq r=> .inl (.inr r))).setCell (p:= ⟨g,12,none⟩) (.inl (.inl rfl)) _) ((s.aQ (i:=12) ω _).congr (cu rfl rfl rfl rfl rfl rfl rfl rfl rfl rfl rfl rfl rfl)) ⟨m.1,m.2.far (p:= ⟨g,12,none⟩) j _⟩ (λk b=> ?_);rcases c with e | e
 · exact .inl (e▸b)
 · rw[e]at b;injection b with b;simp at b;exact .inr ω
theorem SH (x:Int) (j:Nat) (b:j<29) (a:x=257+(j:Int)) (w:World):Calls Tryz.prog 58 #[.int .i64 x] w λe w'=>e= .returned (.tuple #[.int .i64 ((lB j:Nat):Int), .int .i64 ((lE j:Nat):Int), .bool true])/\w=w':=by
 have:=D8 x w;unfold D7 at this;rw[if_pos ω,show(x-257).toNat=j by omega]at this;exact this
theorem SG (x:Int) (a:x<257\/285<x) (w:World):Calls Tryz.prog 58 #[.int .i64 x] w λe w'=>e= .returned (.tuple #[.int .i64 0, .int .i64 0, .bool false])/\w=w':=by
 have:=D8 x w;unfold D7 at this;rw[if_neg ω]at this;exact this
theorem MC (x:Int) (j:Nat) (b:j<30) (a:x=(j:Int)) (w:World):Calls Tryz.prog 59 #[.int .i64 x] w λe w'=>e= .returned (.tuple #[.int .i64 ((dB j:Nat):Int), .int .i64 ((dE j:Nat):Int), .bool true])/\w=w':=by
 have:=xx x w;unfold uj at this;rw[if_pos ω,show(x-0).toNat=j by omega]at this;exact this
theorem MB (x:Int) (a:x<0\/29<x) (w:World):Calls Tryz.prog 59 #[.int .i64 x] w λe w'=>e= .returned (.tuple #[.int .i64 0, .int .i64 0, .bool false])/\w=w':=by
 have:=xx x w;unfold uj at this;rw[if_neg ω]at this;exact this
theorem ER (l:List Int) (D:Nat) {j N:Nat} (h:j<=N):(again l D N).take j=again l D j:=by
 unfold again;rw[<-List.map_take,List.take_range,Nat.min_eq_left h]
structure TkS (R R':RM):Prop where
 Al:R'.Al=R.Al
 Ad:R'.Ad=R.Ad
 vZ:R'.vZ=R.vZ
 xk:R'.xk=R.xk
 keep:yK R R'
def Vx (w0:World) (c0:Nat->Nat) (b0 g:Nat) (R:RM) (s:IS) (k:Nat) (wr:World):Prop:=
 ∃R' t,az w0 c0 wr b0 g R'/\IS.Steps s t/\jq R' t/\t.Ok/\t.st=6/\TkS R R'/\Hid (k=t.mu)/\Hid (t.lt=s.lt)/\Hid (t.ds=s.ds)
def EmR (w0:World) (c0:Nat->Nat) (b0 g:Nat) (R:RM) (t:IS) (D N:Nat) (k:Nat) (i:Value) (wr:World):Prop:=
 ∃j A n cc,j<=N/\Hid (j<=t.rem)/\Hid (k=N-j)/\i= .int .i64 j/\az w0 c0 wr b0 g { R with Ao:=A,no:=n,co:=cc,out:=t.all++again t.all D j }
theorem sI (h:cX w b0 g c R) (b:jq R s) (hO:s.Ok) (O:s.st=6) (Al Ad:Option Addr) (nl cl d cd:Nat) (Ev:R.Al= .slice Al nl cl) (cD:R.Ad= .slice Ad d cd)
  (hl:aT .i64 w w.heap.size Al nl s.lt) (hd:aT .i64 w w.heap.size Ad d s.ds) (ja:0<nl->∀r,Al=some r->c r.block=0) (kV:0<d->∀r,Ad=some r->c r.block=0):
  Calls Tryz.prog 41 #[.pointer (some ⟨g,0,none⟩)] w (cE w c b0 g R s):=by
 obtain⟨i0,hi,ca,bS,bI⟩ :=info_parts yC;have Hi:=η hi;have dM:=η ca;have cV:=η bS;have dN:=η bI;obtain⟨TN,db⟩ :=hO.h6 (.inl O);obtain⟨YV,cr, -⟩ :=pY TN;obtain⟨Ql,cs, -⟩ :=pY db;have k8:=h.cell.cell (i:=8) ω;rw[show sF R 8= .slice Al nl cl from Ev]at k8;have ap:=h.cell.cell (i:=10) ω;have ee:=h.cell.frozen' (i:=10) ω;have bT:nl<=288:=by rw[hl.1];exact YV
 have wC:d<=288:=by rw[hd.1];exact Ql
 have kJ:=h.cell.lt;have J9:=η Ev;have Lg:=η cD;have dH:=η O;have yI:=η (show∀i,i<nl->0<=ix s.lt i/\ix s.lt i<=15 from λi hi=>cr i (by rw[<-hl.1];exact hi));have Ym:=η (show∀i,i<d->0<=ix s.ds i/\ix s.ds i<=15 from λi hi=>cs i (by rw[<-hd.1];exact hi));have Bk:=η ja;have Le:=η kV;clear hi ca bS bI TN db YV cr Ql cs Ev cD O ja kV;go_enter Tryz.func41,Tryz.ntmps41
 go_wp2_with fail
 refine(pB _ _ _ _ _ _ hl (Nat.le_refl _) bT).mono ?_;rintro e w1 ⟨T,rfl,cA,U,du⟩;have F:=h.keeps U;have en:=F.cell.cell (i:=10) ω;have eg:=F.cell.frozen' (i:=10) ω;have Y:=F.put (i:=10) ω (.slice (some ⟨T,0,none⟩) nl nl) { R with vZ:= .slice (some ⟨T,0,none⟩) nl nl } (cu rfl rfl rfl rfl rfl rfl rfl rfl rfl rfl rfl rfl rfl) rfl;have Cz:aq w1 (w1.setCell ⟨g,10,none⟩ (.slice (some ⟨T,0,none⟩) nl nl)) (λk=>k=g):=(aq.refl w1 (λk=>k=g)).setCell (p:= ⟨g,10,none⟩) (.inl rfl) _;have x9:=Y.cell.cell (i:=9) ω;rw[show sF { R with vZ:= .slice (some ⟨T,0,none⟩) nl nl } 9= .slice Ad d cd from Lg.out]at x9
 have dh:Hid (∀(nn:Nat) (A:Option Addr),(0<nn->∀r,A=some r->c r.block=0)->0<nn->∀r,A=some r->¬r.block=g):=λnn A hq h0 r e B=>by
  have:=hq h0 r e;rw[B,h.cg]at this;exact absurd this δ
 have mb:=Cz.oH (hd.below U) U.size (λh0 r e=>dh.out d Ad Le.out h0 r e)
 go_wp2_with fail
 refine(pB _ _ _ _ _ _ mb (Nat.le_trans U.size Cz.size) wC).mono ?_;rintro e Z ⟨N,rfl,cz,ac,dq⟩;have h3:=Y.keeps ac;have Zb:=h3.cell.cell (i:=11) ω;have ef:=h3.cell.frozen' (i:=11) ω;have h4:=h3.put (i:=11) ω (.slice (some ⟨N,0,none⟩) d d) { R with vZ:= .slice (some ⟨T,0,none⟩) nl nl,xk:= .slice (some ⟨N,0,none⟩) d d } (cu rfl rfl rfl rfl rfl rfl rfl rfl rfl rfl rfl rfl rfl) rfl;have RQ:aq Z (Z.setCell ⟨g,11,none⟩ (.slice (some ⟨N,0,none⟩) d d)) (λk=>k=g):=(aq.refl Z (λk=>k=g)).setCell (p:= ⟨g,11,none⟩) (.inl rfl) _;have f:w.heap.size<=(w1.setCell ⟨g,10,none⟩ (.slice (some ⟨T,0,none⟩) nl nl)).heap.size:=Nat.le_trans U.size Cz.size;have hs3:=Nat.le_trans f ac.size
 have Ud:∀q,w.heap.size<=q->c q=0:=λq hq=>by
  by_cases e:c q=0
  · exact e
  · have:=(h.cb q e).2;omega
 have ao:aq w (Z.setCell ⟨g,11,none⟩ (.slice (some ⟨N,0,none⟩) d d)) (λk=>c k≠0):=by
  have o:aq w w1 (λk=>c k≠0):=aq.aB U;have a2:=o.trans Cz (λk hk=> .inl (by rw[hk,h.cg];decide));have a3:aq w Z (λk=>c k≠0):=a2.trans (aq.aB (S:=λ_=>False) ac) (λk hk=>hk.elim);exact a3.trans RQ (λk hk=> .inl (by rw[hk,h.cg];decide))
 have Lk:DE w.heap.size w c (Z.setCell ⟨g,11,none⟩ (.slice (some ⟨N,0,none⟩) d d)) c->True:=λ_=>trivial
 have bk:aT .i64 (Z.setCell ⟨g,11,none⟩ (.slice (some ⟨N,0,none⟩) d d)) w.heap.size Al nl s.lt:=ao.oH hl (Nat.le_refl _) (λh0 r e B=>B (Bk.out h0 r e));have Nx:aT .i64 (Z.setCell ⟨g,11,none⟩ (.slice (some ⟨N,0,none⟩) d d)) w.heap.size Ad d s.ds:=ao.oH hd (Nat.le_refl _) (λh0 r e B=>B (Le.out h0 r e))
 have WX:aT .u32 (Z.setCell ⟨g,11,none⟩ (.slice (some ⟨N,0,none⟩) d d)) w1.heap.size (some ⟨T,0,none⟩) nl (eh s.lt):=by
  have q1:=Cz.oH cA (Nat.le_refl _) (λ_ r e B=>by injection e with e;subst e;simp only at B;omega);have q2:=q1.below (ac.mono Cz.size);exact RQ.oH q2 (Nat.le_trans Cz.size ac.size) (λ_ r e B=>by injection e with e;subst e;simp only at B;omega)
 have WB:aT .u32 (Z.setCell ⟨g,11,none⟩ (.slice (some ⟨N,0,none⟩) d d)) Z.heap.size (some ⟨N,0,none⟩) d (eh s.ds):=RQ.oH cz (Nat.le_refl _) (λ_ r e B=>by injection e with e;subst e;simp only at B;omega)
 have Lj:∀w' R',az (Z.setCell ⟨g,11,none⟩ (.slice (some ⟨N,0,none⟩) d d)) c w' b0 g R'->az w c w' b0 g R':=λw' R' hr=>
  az.bR h4 (DE.step (c':=c) (⟨Below.refl _ _,aq.refl _ _,λ_ _=>rfl⟩ :DE b0 w c w c) h.lo (λk hk=>(h.cb k hk).1) ao (λ_ _=>rfl)) hr
 obtain⟨u,xL⟩ :=ν (Z.setCell ⟨g,11,none⟩ (.slice (some ⟨N,0,none⟩) d d))
 have C:∀wr R',az u c wr b0 g R'->aT .i64 wr wr.heap.size Al nl s.lt/\aT .i64 wr wr.heap.size Ad d s.ds/\aT .u32 wr wr.heap.size (some ⟨T,0,none⟩) nl (eh s.lt)/\aT .u32 wr wr.heap.size (some ⟨N,0,none⟩) d (eh s.ds):=λwr R' hr=>by
  obtain⟨ha, -⟩ :=hr.aside;rw[xL]at bk Nx WX WB;have nY:Z.heap.size<=u.heap.size:=by rw[<-xL];exact RQ.size
  have bb:w1.heap.size<=u.heap.size:=Nat.le_trans (Nat.le_trans Cz.size ac.size) nY;have am:w.heap.size<=u.heap.size:=Nat.le_trans U.size bb;refine⟨(ha.oH bk am (λh0 r e B=>B (Bk.out h0 r e))).more (Nat.le_trans am ha.size),(ha.oH Nx am (λh0 r e B=>B (Le.out h0 r e))).more (Nat.le_trans am ha.size),(ha.oH WX bb (λ_ r e B=> ?_)).more (Nat.le_trans bb ha.size),(ha.oH WB nY (λ_ r e B=> ?_)).more (Nat.le_trans nY ha.size)⟩
  · injection e with e;subst e;exact B (Ud _ du)
  · injection e with e;subst e;exact B (Ud _ (Nat.le_trans f dq))
 rw[xL]at h4;have df:=η C;have PY:Hid (∀w' R',az u c w' b0 g R'->az w c w' b0 g R'):=λw' R' hr=>by rw[<-xL]at hr;exact Lj w' R' hr
 have Br:=η xL
 have gy:Hid (Vx u c b0 g { R with vZ:= .slice (some ⟨T,0,none⟩) nl nl,xk:= .slice (some ⟨N,0,none⟩) d d } s s.mu u):=
  ⟨_,s,h4.refl, .refl s, ⟨b.x,b.le,b.out,b.kinds,b.stops,b.a8,b.most,b.E,b.bit,b.len,b.even,b.small,b.tk⟩,hO,dH.out, ⟨rfl,rfl,rfl,rfl, ⟨rfl,rfl,rfl,Nat.le_refl _⟩⟩,rfl,rfl,rfl⟩
 clear xL C Lj Lk ao Ud bk Nx WX WB h4 h3 Y F hl hd mb cA cz
 go_wp2_with fail
 rw[Br.out];have Nd:∃R0:RM,({ R with vZ:= .slice (some ⟨T,0,none⟩) nl nl,xk:= .slice (some ⟨N,0,none⟩) d d }:RM)=R0/\R0.Al= .slice Al nl cl/\R0.Ad= .slice Ad d cd/\R0.vZ= .slice (some ⟨T,0,none⟩) nl nl/\R0.xk= .slice (some ⟨N,0,none⟩) d d/\yK R R0:= ⟨_,rfl,J9.out,Lg.out,rfl,rfl, ⟨rfl,rfl,rfl,Nat.le_refl _⟩⟩;obtain⟨R0,Nd,cL,RF,U3,TZ,cQ⟩ :=Nd;rw[Nd]at gy;have Tw:=η (And.intro cL (And.intro RF (And.intro U3 (And.intro TZ cQ))));clear Nd cL RF U3 TZ cQ b hO
 go_loopg [] s.mu (Vx u c b0 g R0 s)
 case atStart=>exact gy.out
 case round=>
  clear gy;obtain⟨R1,t,h,hs,b,hO,O,G,hk,bi,YO⟩ :=hrel;have k8:=h.cell.cell (i:=8) ω;rw[show sF R1 8= .slice Al nl cl from G.Al.trans Tw.out.1]at k8;have ap:=h.cell.cell (i:=10) ω;rw[show sF R1 10= .slice (some ⟨T,0,none⟩) nl nl from G.vZ.trans Tw.out.2.2.1]at ap;have ec:=b.len;have dl:=b.le;have an:=b.small;have eG:Hid (t.step=t.token):=E9 O;unfold IS.token at eG;obtain⟨K,hK⟩ :=ν ((ae t.lt t.x).1);obtain⟨n,hn⟩ :=ν ((ae t.lt t.x).2.1);obtain⟨E,hE⟩ :=ν ((ae t.lt t.x).2.2);have eZ:Hid (E=0\/E=3\/E=5):=by have:=bK t.lt t.x;rw[hE]at this;exact this
  have jL:Hid (E=0->0<=K/\K<288/\n<=t.x.length):=λh=>by
   obtain⟨k2,y,e1,B,e3,e4,e5⟩ :=ie (l:=t.lt) (x:=t.x) hO.bit (by rw[hE,h];simp);have h6:=(pY (hO.h6 (.inl O)).1).1;rw[e1]at hK hn;simp at hK hn;omega
  have NR:Hid (E=0->1<=n):=λh=>by have:=eo (l:=t.lt) (x:=t.x) (by rw[hE];exact h);rw[hn]at this;exact this.1
  have ck:ae t.lt t.x=(K,n,E):=by rw[<-hK,<-hn,<-hE]
  rw[hK,hn,hE]at eG
  have Ke:∀W,az u c W b0 g R1->Calls Tryz.prog 57 #[.pointer (some ⟨g,0,none⟩), .slice Al nl cl, .slice (some ⟨T,0,none⟩) nl nl] W (yO u c b0 g R1 K n E):=λW H=>by
   obtain⟨o,a2,a3,a4⟩ :=df.out W R1 H;exact vC H Al (some ⟨T,0,none⟩) nl cl nl s.lt o a3 bT yI.out ω b.bit dl K n E (by rw[b.x,<-bi.out];exact ck)
  have Ja:=η Ke;have LU:=η O;clear hK hn hE ck Ke O;by_cases lr:E=0
  · subst lr;obtain⟨Ia,RA,dT⟩ :=jL.out rfl;have Kg:=η (eG.out.trans (if_neg δ))
    have nj:∀W,az u c W b0 g R1->Calls Tryz.prog 57 #[.pointer (some ⟨g,0,none⟩), .slice Al nl cl, .slice (some ⟨T,0,none⟩) nl nl] W λe w'=>e= .returned (.tuple #[.int .i64 K, .bool true])/\az u c w' b0 g { R1 with at_:=R1.at_+n }:=λW H=>by
     refine(Ja.out W H).mono ?_;rintro e w' (⟨-,F,Y⟩ | ⟨F, -⟩)
     · exact⟨F,Y⟩
     · exact absurd rfl F
    have EF:=η nj;have Ve:Hid (1<=n):=NR.out rfl;have lH:t.x.length=R1.X.length-R1.at_:=by rw[<-b.x,List.length_drop]
    have wE:Hid (R1.X.drop (R1.at_+n)=t.x.drop n):=by show _=_;rw[<-b.x,List.drop_drop]
    have Wk:Hid (R1.at_+n<=R1.X.length):=by show _<=_;omega
    clear eG jL eZ Ja nj lH NR
    go_wp2_with fail
    go_cut [3,4] (λs3 s4 wx=>s3= .int .i64 K/\s4= .bool true/\az u c wx b0 g { R1 with at_:=R1.at_+n })
    case first=>
     go_region_law
      ((go_simp;go_at_call 57;(refine(EF.out _ (by first | exact h | exact h.drew | exact h.drewN _)).mono ?_))
       rintro e w5 ⟨rfl,h5⟩)
     all_goals
      go_wp2_with fail
      go_meet
      exact⟨rfl,rfl,h5⟩
    case rest=>
     obtain⟨rfl,rfl,h5⟩ :=hcut;clear k8 ap h;by_cases oD:K=256
     · have f:=η (Kg.out.trans ((if_neg ω).trans (if_pos oD)));clear Kg;subst oD
       go_wp2_with fail
       go_ret
       refine .inl ⟨_,t,t.x.drop n,rfl,PY.out _ _ h5,hs,f.out, ⟨wE.out,Wk.out,b.out,b.kinds,b.stops,b.a8,b.most,b.E,b.bit,b.len,b.even,b.small,Nat.le_trans b.tk (by show R1.at_<=R1.at_+n;omega)⟩, ?_⟩;have o:=Tw.out.2.2.2.2;exact⟨G.keep.X.trans o.X,G.keep.kinds.trans o.kinds,G.keep.stops.trans o.stops,Nat.le_trans o.le (Nat.le_trans G.keep.le (by show R1.at_<=R1.at_+n;omega))⟩
     · have eS:(K==256)=false:=by simpa using oD
       by_cases TV:K<256
       · have f:=η (Kg.out.trans (if_pos TV));unfold IS.emit at f;have iI:R1.nt=R1.a8.length:=h5.a8.1;have Sg:R1.nt+1<=1000000000000:=by have:=b.tk;omega
         have Ur:1<=n:=Ve.out;have bl:=h5.apart.2.2.2;have dp:=h5.cell.lt;have Ox:=h5.cell.cell (i:=12) ω;rw[show sF { R1 with at_:=R1.at_+n } 12= .slice R1.At R1.nt R1.ct from rfl]at Ox;have FY:=h5.lo;have eD:fl (wc.alloc (.cells #[.int .u8 K, .int .i64 0, .int .i64 0] 90)) b0 R1.At R1.nt R1.ct R1.a8:= ⟨h5.a8.1,h5.a8.2.alloc _⟩;have aS:=ig.SK wc (aF.mk K 0 0);have Sj:R1.out.length=t.all.length:=by rw[b.out]
         have eP:=b.most;have cx:t.rem=0->∀W R2,R2.out=R1.out->R2.most=R1.most->az u c W b0 g R2->Calls Tryz.prog 55 #[.pointer (some ⟨g,0,none⟩), .int .u8 K] W λe w'=>e= .returned (.bool false)/\az u c w' b0 g { R2 with E:=6 }:=λhz W R2 F Y H=>rR H K (by rw[Y,F,eP];omega)
         have cw:t.rem≠0->∀W R2,R2.out=R1.out->R2.most=R1.most->az u c W b0 g R2->Calls Tryz.prog 55 #[.pointer (some ⟨g,0,none⟩), .int .u8 K] W (yH u c b0 g R2 K):=λhz W R2 F Y H=>vu H K (by rw[Y,F,eP];omega) (by rw[F];omega)
         have eb:=η cx;have ea:=η cw;have sP:=η an;clear cx cw Sj eP an iI oD Kg
         go_wp2_with (at_builtin;(refine iT b0 i0 rfl (.tmp 50) (.tmp 54) rfl Hi.out dM.out cV.out dN.out rfl eD rfl aS Sg ξ ?_)
                      intro A4 d4 w4 aC ab bG;have dG:=(h5.cell.alloc (.cells #[.int .u8 K, .int .i64 0, .int .i64 0] 90)).grown ab (λe=>bl e.symm);have bB:=dG.cell (i:=12) ω;have bx:=dG.frozen' (i:=12) ω)
         have h6:=h5.UK (aF.mk K 0 0) ab aC bG;by_cases hz:t.rem=0
         · have hs3:Hid (t.step=({ t with x:=t.x.drop n,a8:=t.a8++[aF.mk K 0 0],all:=t.all++[K].take t.rem,rem:=t.rem - [K].length },6)):=f.out.trans (by rw[if_pos ξ]);have he:=η (eb.out hz _ { R1 with at_:=R1.at_+n,At:=A4,nt:=R1.nt+1,ct:=d4,a8:=R1.a8++[aF.mk K 0 0] } rfl rfl h6);have HZ:=η hz;clear hz;refine he.out.mono ?_;rintro e w7 ⟨rfl,h7⟩
           go_wp2_with fail
           go_ret
           exact cE.bad hs hs3.out δ δ (PY.out _ _ h7) ⟨by show R1.out=t.all++[K].take t.rem;rw[HZ.out,b.out];simp,b.kinds,b.stops,by show R1.a8++_=t.a8++_;rw[b.a8],rfl⟩
         · have hs3:Hid (t.step=({ t with x:=t.x.drop n,a8:=t.a8++[aF.mk K 0 0],all:=t.all++[K].take t.rem,rem:=t.rem - [K].length },0)):=f.out.trans (by rw[if_neg ξ]);have he:=η (ea.out hz _ { R1 with at_:=R1.at_+n,At:=A4,nt:=R1.nt+1,ct:=d4,a8:=R1.a8++[aF.mk K 0 0] } rfl rfl h6);have bd:Hid ([K].take t.rem=[K]):=List.take_of_length_le ξ;have HZ:=η hz;clear hz;refine he.out.mono ?_;rintro e w7 ⟨A8,n8,c8,rfl,h7⟩;have qm:Hid (t.step.1.mu<t.mu):=IS.ek (by rw[hs3.out])
           go_wp2_with fail
           go_roundg t.step.1.mu
           case measure=>have:=hk.out;have:=qm.out;omega
           case rel=>
            have rr:=hO.step (.inl (by rw[hs3.out]));have kI:=IS.Steps.tail hs (by rw[hs3.out]);rw[hs3.out]at rr kI⊢;refine⟨_,_,h7,kI, ⟨wE.out,Wk.out, ?_,b.kinds,b.stops,by show R1.a8++_=t.a8++_;rw[b.a8], ?_,b.E,b.bit,b.len,b.even, ?_, ?_⟩,rr,LU.out, ⟨G.Al,G.Ad,G.vZ,G.xk, ⟨G.keep.X,G.keep.kinds,G.keep.stops,Nat.le_trans G.keep.le (by show R1.at_<=R1.at_+n;omega)⟩⟩,rfl,bi.out,YO.out⟩
            · show R1.out++[K]=t.all++[K].take t.rem
              rw[bd.out,b.out]
            · show R1.most=(((t.all++[K].take t.rem).length+(t.rem - [K].length):Nat):Int)
              rw[b.most,bd.out,List.length_append];have:=HZ.out;simp;omega
            · show(t.all++[K].take t.rem).length+(t.rem - [K].length)<=_
              rw[bd.out,List.length_append];have:=HZ.out;have:=sP.out;simp;omega
            · show(R1.a8++[_]).length<=R1.at_+n
              rw[List.length_append];have:=b.tk;have:=Ve.out;simp;omega
       · have fX:=η (Kg.out.trans ((if_neg TV).trans (if_neg oD)));clear Kg;by_cases bs:285<K
         · have f:=η (fX.out.trans (if_pos bs));have gY:=η (SG K (.inr bs) wc);have k1:=h5.cell.cell (i:=1) ω;have z1:=h5.cell.frozen' (i:=1) ω;have h6:=h5.put (i:=1) ω (.int .i64 3) { R1 with at_:=R1.at_+n,E:=3 } (cu rfl rfl rfl rfl rfl rfl rfl rfl rfl rfl rfl rfl rfl) rfl;clear fX oD
           go_wp2_with fail
           refine gY.out.mono ?_;rintro e w6 ⟨rfl,rfl⟩
           go_wp2_with fail
           go_ret
           exact cE.bad hs f.out δ δ (PY.out _ _ h6) ⟨b.out,b.kinds,b.stops,b.a8,rfl⟩
         · have fe:=η (fX.out.trans (if_neg bs));obtain⟨j,hj⟩ :=ν ((K-257).toNat);have rA:j<29:=ω;have gY:=SH K j rA ω wc;rw[hj]at fe;have fH:=CW j rA;have Iu:=λv=> @Oy j v rA
           obtain⟨LB,TW⟩ :=ν (lB j);obtain⟨LE,TX⟩ :=ν (lE j);rw[TW,TX]at gY fe fH Iu;have tW:=η gY;have Kj:(t.x.drop n).length=R1.X.length-(R1.at_+n):=by rw[<-wE.out,List.length_drop]
           have dk:=b.len;have fW:=Wk.out;have eE:(0:Int)<=LB/\(LB:Int)<=258/\(0:Int)<=LE/\(LE:Int)<=5:=ω;clear fX hj rA TW TX gY oD;by_cases C:(t.x.drop n).length<LE
           · have f:=η (fe.out.trans (if_pos C));have ht:=η (jm h5 LE ω (by show R1.X.length<=_;omega) fW (by show R1.X.length<R1.at_+n+LE;omega));clear C Kj fe Iu fH
             go_wp2_with fail
             refine tW.out.mono ?_;rintro e w6 ⟨rfl,rfl⟩
             go_wp2_with fail
             refine ht.out.mono ?_;rintro e w7 ⟨rfl,h7⟩
             go_wp2_with fail
             go_ret
             exact cE.bad hs f.out δ δ (PY.out _ _ h7) ⟨b.out,b.kinds,b.stops,b.a8,rfl⟩
           · have f:=η (fe.out.trans (if_neg C));have xd:=cO (hO.bit.bu n) LE;have bp:=Iu _ xd;obtain⟨V,hV⟩ :=ν (num (t.x.drop n) LE);have ht:=η (fg h5 LE ω (by show R1.X.length<=_;omega) b.bit (by show R1.at_+n+LE<=R1.X.length;omega) (V:Int) (by show _=((num (R1.X.drop (R1.at_+n)) LE:Nat):Int);rw[wE.out,hV]));rw[hV]at f bp xd;obtain⟨L,mG⟩ :=ν (LB+V);rw[mG]at f bp;have ey:(LB:Int)+(V:Int)=(L:Int):=ω;have ex:IntKind.i64.wrap ((LB:Int)+(V:Int))=(L:Int):=by rw[IntWalk.i64_in _ ω];omega
             have ev:(0:Int)<=V/\(V:Int)<=258/\(3:Int)<=L/\(L:Int)<=258:=ω;have aI:Hid (R1.X.drop (R1.at_+n+LE)=(t.x.drop n).drop LE):=by show _=_;rw[<-wE.out,List.drop_drop]
             have mz:Hid (R1.at_+n+LE<=R1.X.length):=by show _<=_;omega
             have qd:=hO.step (.inl (by rw[f.out]));have J:=IS.Steps.tail hs (by rw[f.out]);rw[f.out]at qd J;have mI:Hid (t.step.1.mu<t.mu):=IS.ek (by rw[f.out]);obtain⟨a,pO⟩ :∃a:IS,({ t with x:=(t.x.drop n).drop LE,len:=L,st:=7 }:IS)=a:= ⟨_,rfl⟩;have ce:a.x=(t.x.drop n).drop LE/\a.ds=t.ds/\a.lt=t.lt/\a.len=L/\a.st=7/\a.all=t.all/\a.rem=t.rem/\a.a8=t.a8/\a.kinds=t.kinds/\a.stops=t.stops:=by rw[<-pO];exact⟨rfl,rfl,rfl,rfl,rfl,rfl,rfl,rfl,rfl,rfl⟩
             have kL:Hid (a.mu<t.mu):=by have:=mI.out;rw[f.out]at this;rw[<-pO];exact this
             rw[pO]at qd J;have qd:a.Ok:=qd;have J:IS.Steps s a:=J;have z:=η ce;clear f C Kj fe Iu fH hV xd mG mI ce pO bp dk fW;have RV:Hid (a.step=a.ak):=xv z.out.2.2.2.2.1;unfold IS.ak at RV;obtain⟨K2,ah⟩ :=ν ((ae a.ds a.x).1);obtain⟨y,jh⟩ :=ν ((ae a.ds a.x).2.1);obtain⟨E2,sX⟩ :=ν ((ae a.ds a.x).2.2);have NB:Hid (E2=0\/E2=3\/E2=5):=by have:=bK a.ds a.x;rw[sX]at this;exact this
             have Oe:Hid (E2=0->0<=K2/\K2<288/\y<=a.x.length):=λh=>by
              obtain⟨k2,n3,e1,B,e3,e4,e5⟩ :=ie (l:=a.ds) (x:=a.x) qd.bit (by rw[sX,h];simp);have h6:=(pY (qd.h6 (.inr z.out.2.2.2.2.1)).2).1;rw[e1]at ah jh;simp at ah jh;omega
             have tj:ae a.ds a.x=(K2,y,E2):=by rw[<-ah,<-jh,<-sX]
             rw[ah,jh,sX]at RV
             have ch:∀W,az u c W b0 g { R1 with at_:=R1.at_+n+LE }->Calls Tryz.prog 57 #[.pointer (some ⟨g,0,none⟩), .slice Ad d cd, .slice (some ⟨N,0,none⟩) d d] W (yO u c b0 g { R1 with at_:=R1.at_+n+LE } K2 y E2):=λW H=>by
              obtain⟨o,a2,a3,a4⟩ :=df.out W _ H;exact vC H Ad (some ⟨N,0,none⟩) d cd d s.ds a2 a4 wC Ym.out (by show R1.X.length<=_;omega) b.bit mz.out K2 y E2 (by show ae s.ds (R1.X.drop (R1.at_+n+LE))=_;rw[aI.out,<-YO.out,<-z.out.2.1,<-z.out.1];exact tj)
             have QO:=η ch;clear ah jh sX tj ch
             go_wp2_with fail
             refine tW.out.mono ?_;rintro e w6 ⟨rfl,rfl⟩
             go_wp2_with fail
             refine ht.out.mono ?_;rintro e w7 ⟨rfl,h7⟩;have k9:=h7.cell.cell (i:=9) ω;rw[show sF { R1 with at_:=R1.at_+n+LE } 9= .slice Ad d cd from G.Ad.trans Tw.out.2.1]at k9;have LF:=h7.cell.cell (i:=11) ω;rw[show sF { R1 with at_:=R1.at_+n+LE } 11= .slice (some ⟨N,0,none⟩) d d from G.xk.trans Tw.out.2.2.2.1]at LF;clear h5 ht tW;by_cases lr:E2=0
             · subst lr;obtain⟨fa,eW,es⟩ :=Oe.out rfl;have RX:=η (RV.out.trans (if_neg δ))
               have nj:∀W,az u c W b0 g { R1 with at_:=R1.at_+n+LE }->Calls Tryz.prog 57 #[.pointer (some ⟨g,0,none⟩), .slice Ad d cd, .slice (some ⟨N,0,none⟩) d d] W λe w'=>e= .returned (.tuple #[.int .i64 K2, .bool true])/\az u c w' b0 g { R1 with at_:=R1.at_+n+LE+y }:=λW H=>by
                refine(QO.out W H).mono ?_;rintro e w' (⟨-,F,Y⟩ | ⟨F, -⟩)
                · exact⟨F,Y⟩
                · exact absurd rfl F
               have Vk:=η nj;have SB:a.x.length=R1.X.length-(R1.at_+n+LE):=by rw[z.out.1,<-aI.out,List.length_drop]
               have aE:Hid (R1.X.drop (R1.at_+n+LE+y)=a.x.drop y):=by show _=_;rw[z.out.1,<-aI.out,List.drop_drop]
               have bG:Hid (R1.at_+n+LE+y<=R1.X.length):=by show _<=_;have:=mz.out;omega
               have U4:∀(R':RM) (v:Int),R'.out=R1.out->R'.kinds=R1.kinds->R'.stops=R1.stops->R'.a8=R1.a8->R'.E=v->EI R' a v:=λR' v o a2 a3 a4 a5=> ⟨by rw[z.out.2.2.2.2.2.1,o];exact b.out,by rw[z.out.2.2.2.2.2.2.2.2.1,a2];exact b.kinds,by rw[z.out.2.2.2.2.2.2.2.2.2,a3];exact b.stops,by rw[z.out.2.2.2.2.2.2.2.1,a4];exact b.a8,a5⟩
               have LS:=η U4;clear RV Oe NB QO nj SB U4
               go_wp2_with fail
               go_cut [3,4] (λs3 s4 wx=>s3= .int .i64 K2/\s4= .bool true/\az u c wx b0 g { R1 with at_:=R1.at_+n+LE+y })
               case first=>
                go_region_law
                 ((go_simp;go_at_call 57;(refine(Vk.out _ (by first | exact h7 | exact h7.drew | exact h7.drewN _)).mono ?_))
                  rintro e w5 ⟨rfl,P⟩)
                all_goals
                 go_wp2_with fail
                 go_meet
                 exact⟨rfl,rfl,P⟩
               case rest=>
                rename World=>wd
                obtain⟨rfl,rfl,P⟩ :=hcut;clear k9 LF h7;by_cases W4:29<K2
                · have hs3:=η (RX.out.trans (if_pos W4));have WD:=η (MB K2 (.inr W4) wd);have k1:=P.cell.cell (i:=1) ω;have z1:=P.cell.frozen' (i:=1) ω;have M:=P.put (i:=1) ω (.int .i64 3) { R1 with at_:=R1.at_+n+LE+y,E:=3 } (cu rfl rfl rfl rfl rfl rfl rfl rfl rfl rfl rfl rfl rfl) rfl;clear RX
                  go_wp2_with fail
                  refine WD.out.mono ?_;rintro e w6 ⟨rfl,rfl⟩
                  go_wp2_with fail
                  go_ret
                  exact cE.bad J hs3.out δ δ (PY.out _ _ M) (LS.out _ _ rfl rfl rfl rfl rfl)
                · have JX:=η (RX.out.trans (if_neg W4));obtain⟨j2,cq⟩ :=ν (K2.toNat);have S4:j2<30:=ω;have WD:=MC K2 j2 S4 ω wd;rw[cq]at JX
                  have Wq:dB j2<=32768/\dE j2<=13:=by
                   have:∀j,j<30->dB j<=32768/\dE j<=13:=by decide+kernel
                   exact this j2 S4
                  have qs:=λv=> @My j2 v S4
                  obtain⟨DB,da⟩ :=ν (dB j2);obtain⟨I,JM⟩ :=ν (dE j2);rw[da,JM]at WD JX Wq qs;have bv:=η WD;have cc:(a.x.drop y).length=R1.X.length-(R1.at_+n+LE+y):=by rw[<-aE.out,List.length_drop]
                  have eJ:=bG.out;have fi:(0:Int)<=DB/\(DB:Int)<=32768/\(0:Int)<=I/\(I:Int)<=13:=ω;clear RX cq S4 da JM WD;by_cases C:(a.x.drop y).length<I
                  · have hs3:=η (JX.out.trans (if_pos C));have ht:=η (jm P I ω (by show R1.X.length<=_;omega) eJ (by show R1.X.length<R1.at_+n+LE+y+I;omega));clear C cc JX qs Wq eJ
                    go_wp2_with fail
                    refine bv.out.mono ?_;rintro e w6 ⟨rfl,rfl⟩
                    go_wp2_with fail
                    refine ht.out.mono ?_;rintro e w7 ⟨rfl,M⟩
                    go_wp2_with fail
                    go_ret
                    exact cE.bad J hs3.out δ δ (PY.out _ _ M) (LS.out _ _ rfl rfl rfl rfl rfl)
                  · have CC:=η (JX.out.trans (if_neg C));unfold IS.text at CC;have xd:=cO (qd.bit.bu y) I;have N5:=qs _ xd;obtain⟨V2,bn⟩ :=ν (num (a.x.drop y) I);have ht:=η (fg P I ω (by show R1.X.length<=_;omega) b.bit (by show R1.at_+n+LE+y+I<=R1.X.length;omega) (V2:Int) (by show _=((num (R1.X.drop (R1.at_+n+LE+y)) I:Nat):Int);rw[aE.out,bn]));rw[bn]at CC N5 xd;obtain⟨D,cZ⟩ :=ν (DB+V2);rw[cZ]at CC N5;have fc:(DB:Int)+(V2:Int)=(D:Int):=ω;have fb:IntKind.i64.wrap ((DB:Int)+(V2:Int))=(D:Int):=by rw[IntWalk.i64_in _ ω];omega
                    have fd:(1:Int)<=D/\(D:Int)<=32768/\(0:Int)<=V2/\(V2:Int)<=32768:=ω;have Ez:Hid (R1.X.drop (R1.at_+n+LE+y+I)=(a.x.drop y).drop I):=by show _=_;rw[<-aE.out,List.drop_drop]
                    have dc:Hid (R1.at_+n+LE+y+I<=R1.X.length):=by show _<=_;omega
                    have cj:R1.no=R1.out.length:=P.out.1;have Sj:R1.out.length=a.all.length:=by rw[z.out.2.2.2.2.2.1,b.out]
                    clear C cc JX qs Wq eJ bn xd cZ;rw[z.out.2.2.2.1]at CC;by_cases zK:(R1.no:Int)<(D:Int)
                    · have hs3:=η (CC.out.trans (if_pos ω));clear CC cj Sj
                      go_wp2_with fail
                      refine bv.out.mono ?_;rintro e w6 ⟨rfl,rfl⟩
                      go_wp2_with fail
                      refine ht.out.mono ?_;rintro e w7 ⟨rfl,M⟩;have k0:=M.cell.cell (i:=0) ω;rw[show sF { R1 with at_:=R1.at_+n+LE+y+I } 0= .slice R1.Ao R1.no R1.co from rfl]at k0;have k1:=M.cell.cell (i:=1) ω;have z1:=M.cell.frozen' (i:=1) ω;have al:=M.put (i:=1) ω (.int .i64 3) { R1 with at_:=R1.at_+n+LE+y+I,E:=3 } (cu rfl rfl rfl rfl rfl rfl rfl rfl rfl rfl rfl rfl rfl) rfl
                      go_wp2_with fail
                      go_ret
                      exact cE.bad J hs3.out δ δ (PY.out _ _ al) (LS.out _ _ rfl rfl rfl rfl rfl)
                    · have hs3:=η (CC.out.trans (if_neg ω));unfold IS.emit at hs3;have dz:D<=a.all.length:=ω;have iI:R1.nt=R1.a8.length:=P.a8.1;have Sg:R1.nt+1<=1000000000000:=by have:=b.tk;omega
                      have fm:=η Sj;have a5T:=η zK;have eP:=b.most;rw[<-z.out.2.2.2.2.2.1,<-z.out.2.2.2.2.2.2.1]at eP;have Xx:=an;rw[<-z.out.2.2.2.2.2.1,<-z.out.2.2.2.2.2.2.1]at Xx;have Vd:=η eP;have sP:=η Xx;have et:(D:Int)<=(R1.no:Int)/\(R1.no:Int)<=1000000000:=ω;have eK:3<=L/\L<=258:=ω;clear CC cj Sj eP Xx an iI
                      go_wp2_with fail
                      refine bv.out.mono ?_;rintro e w6 ⟨rfl,rfl⟩
                      go_wp2_with fail
                      refine ht.out.mono ?_;rintro e w7 ⟨rfl,M⟩;have k0:=M.cell.cell (i:=0) ω;rw[show sF { R1 with at_:=R1.at_+n+LE+y+I } 0= .slice R1.Ao R1.no R1.co from rfl]at k0;have Ox:=M.cell.cell (i:=12) ω;rw[show sF { R1 with at_:=R1.at_+n+LE+y+I } 12= .slice R1.At R1.nt R1.ct from rfl]at Ox;have bl:=M.apart.2.2.2;have dp:=M.cell.lt;have X4:=M.lo;have eD:fl (w7.alloc (.cells #[.int .u8 0, .int .i64 L, .int .i64 D] 90)) b0 R1.At R1.nt R1.ct R1.a8:= ⟨M.a8.1,M.a8.2.alloc _⟩;have aS:=ig.SK w7 (aF.mk 0 L D)
                      go_wp2_with (at_builtin;(refine iT b0 i0 rfl (.tmp 136) (.tmp 140) rfl Hi.out dM.out cV.out dN.out rfl eD rfl aS Sg ξ ?_)
                                   intro A4 d4 w4 aC ab bG;have dG:=(M.cell.alloc (.cells #[.int .u8 0, .int .i64 L, .int .i64 D] 90)).grown ab (λe=>bl e.symm);have bB:=dG.cell (i:=12) ω;have bx:=dG.frozen' (i:=12) ω)
                      have al:=M.UK (aF.mk 0 L D) ab aC bG;obtain⟨m,YJ⟩ :∃m:RM,({ R1 with at_:=R1.at_+n+LE+y+I,At:=A4,nt:=R1.nt+1,ct:=d4,a8:=R1.a8++[aF.mk 0 L D] }:RM)=m:= ⟨_,rfl⟩;have cH:m.out=R1.out/\m.most=R1.most/\m.kinds=R1.kinds/\m.stops=R1.stops/\m.a8=R1.a8++[aF.mk 0 L D]/\m.at_=R1.at_+n+LE+y+I/\m.X=R1.X/\m.E=R1.E/\m.Al=R1.Al/\m.Ad=R1.Ad/\m.vZ=R1.vZ/\m.xk=R1.xk:=by rw[<-YJ];exact⟨rfl,rfl,rfl,rfl,rfl,rfl,rfl,rfl,rfl,rfl,rfl,rfl⟩
                      rw[YJ]at al;have Vj:=η cH;clear YJ cH M P k0 Ox aC ab bG dG bB bx eD aS
                      go_loopg [10] L (EmR u c b0 g m a D L)
                      case atStart=>exact⟨0,m.Ao,m.no,m.co,Nat.zero_le _,Nat.zero_le _,rfl,rfl,by rw[ES,List.append_nil,z.out.2.2.2.2.2.1,<-b.out,<-Vj.out.1];exact al⟩
                      case round=>
                       clear al;obtain⟨j,Ao,no,co,hj,WU,cm,rfl,h⟩ :=hrel;by_cases eu:(j:Int)<(L:Int)
                       · have k0:=h.cell.cell (i:=0) ω;rw[show sF { m with Ao:=Ao,no:=no,co:=co,out:=a.all++again a.all D j } 0= .slice Ao no co from rfl]at k0;have tj:no=(a.all++again a.all D j).length:=h.out.1;rw[List.length_append,aJ]at tj;have U7:=EP a.all D j ω dz;obtain⟨Q,hQ⟩ :=ν (a.all.length+j-D);have bo:Q<no:=ω;obtain⟨r,rfl,cB,de⟩ :=h.out.rd.at_ (i:=Q) bo;obtain⟨v,hv⟩ :=ν (ix (a.all++again a.all D j) Q:Int);have c1:wr.cell? (r.add Q)=some (.int .u8 v):=by rw[<-hv];exact de
                         clear de;rw[hQ,hv]at U7;have dx:Hid (again a.all D (j+1)=again a.all D j++[v]):=U7;have er:IntKind.i64.wrap ((no:Int)-(D:Int))=(Q:Int):=by rw[IntWalk.i64_in _ (by have:=sP.out;have:=WU.out;omega)];omega
                         have ew:(0:Int)<=Q/\(Q:Int)<(no:Int):=ω;have ci:=sP.out;have cp:=WU.out;by_cases hz:a.rem=j
                         · have jR:∀W,az u c W b0 g { m with Ao:=some r,no:=no,co:=co,out:=a.all++again a.all D j }->Calls Tryz.prog 55 #[.pointer (some ⟨g,0,none⟩), .int .u8 v] W λe w'=>e= .returned (.bool false)/\az u c w' b0 g { m with Ao:=some r,no:=no,co:=co,out:=a.all++again a.all D j,E:=6 }:=λW H=>rR H v (by show m.most<=(((a.all++again a.all D j).length:Nat):Int);rw[Vj.out.2.1,Vd.out,List.length_append,aJ];omega)
                           have EE:=η jR;have gZ:Hid (∃t':IS,a.step=(t',6)/\t'.all=a.all++(again a.all D L).take a.rem/\t'.kinds=a.kinds/\t'.stops=a.stops/\t'.a8=a.a8++[aF.mk 0 L D]):= ⟨{ a with x:=(a.x.drop y).drop I,st:=6,len:=L,a8:=a.a8++[aF.mk 0 L D],all:=a.all++(again a.all D L).take a.rem,rem:=a.rem-(again a.all D L).length },hs3.out.trans (by rw[if_pos (by rw[aJ];omega)]),rfl,rfl,rfl,rfl⟩;have HZ:=η hz;clear hz hQ hv U7 jR tj ci cp cB bo
                           go_wp2_with fail
                           go_region_law
                            ((go_simp;go_at_call 55;(refine(EE.out _ (by first | exact h | exact h.drew | exact h.drewN _)).mono ?_))
                             rintro e w5 ⟨rfl,bt⟩)
                           all_goals
                            go_wp2_with fail
                            go_ret
                            obtain⟨t',e1,B,e3,e4,e5⟩ :=gZ.out;refine cE.bad J e1 δ δ (PY.out _ _ bt) ⟨?_, ?_, ?_, ?_,rfl⟩
                            · show a.all++again a.all D j=t'.all
                              rw[B,HZ.out,ER _ _ hj]
                            · show m.kinds=t'.kinds
                              rw[e3,Vj.out.2.2.1,z.out.2.2.2.2.2.2.2.2.1,b.kinds]
                            · show m.stops=t'.stops
                              rw[e4,Vj.out.2.2.2.1,z.out.2.2.2.2.2.2.2.2.2,b.stops]
                            · show m.a8=t'.a8
                              rw[e5,Vj.out.2.2.2.2.1,z.out.2.2.2.2.2.2.2.1,b.a8]
                         · have jR:∀W,az u c W b0 g { m with Ao:=some r,no:=no,co:=co,out:=a.all++again a.all D j }->Calls Tryz.prog 55 #[.pointer (some ⟨g,0,none⟩), .int .u8 v] W (yH u c b0 g { m with Ao:=some r,no:=no,co:=co,out:=a.all++again a.all D j } v):=λW H=>vu H v (by show(((a.all++again a.all D j).length:Nat):Int)<m.most;rw[Vj.out.2.1,Vd.out,List.length_append,aJ];omega) (by show(a.all++again a.all D j).length<=_;rw[List.length_append,aJ];omega)
                           have EE:=η jR;have HZ:=η hz;clear hz hQ hv U7 jR tj ci cp cB bo
                           go_wp2_with fail
                           go_region_law
                            ((go_simp;go_at_call 55;(refine(EE.out _ (by first | exact h | exact h.drew | exact h.drewN _)).mono ?_))
                             rintro e w5 ⟨A8,n8,c8,rfl,bt⟩)
                           all_goals
                            go_wp2_with fail
                            go_roundg (gk-1)
                            case measure=>have:=cm.out;omega
                            case rel=>exact⟨j+1,A8,n8,c8,ω,by show _<=_;have:=WU.out;have:=HZ.out;omega,by show gk-1=_;have:=cm.out;omega,by go_num,by rw[dx.out,<-List.append_assoc];exact bt⟩
                       · obtain rfl:j=L:=ω;have gZ:Hid (∃t':IS,a.step=(t',0)/\t'.x=(a.x.drop y).drop I/\t'.all=a.all++again a.all D j/\t'.rem=a.rem-j/\t'.kinds=a.kinds/\t'.stops=a.stops/\t'.a8=a.a8++[aF.mk 0 j D]/\t'.st=6/\t'.lt=a.lt/\t'.ds=a.ds):= ⟨{ a with x:=(a.x.drop y).drop I,st:=6,len:=j,a8:=a.a8++[aF.mk 0 j D],all:=a.all++(again a.all D j).take a.rem,rem:=a.rem-(again a.all D j).length },hs3.out.trans (by rw[if_neg (by rw[aJ];have:=WU.out;show¬a.rem<j;omega)]),rfl,by show a.all++(again a.all D j).take a.rem=_;rw[List.take_of_length_le (by rw[aJ];exact WU.out)],by show a.rem-(again a.all D j).length=_;rw[aJ],rfl,rfl,rfl,rfl,rfl,rfl⟩;obtain⟨t',e1,B,e3,e4,e5,e6,e7,e8,e9,dd⟩ :=gZ.out;have rr:=qd.step (.inl (by rw[e1]));have kI:=IS.Steps.tail J (by rw[e1]);have be:=IS.ek (s:=a) (by rw[e1]);rw[e1]at rr kI be;have dj:Hid (t'.mu<t.mu):=by have o:=kL.out;have a2:t'.mu<a.mu:=be;show _<_;omega
                         have aA:Hid (∀W,az u c W b0 g { m with Ao:=Ao,no:=no,co:=co,out:=a.all++again a.all D j }->Vx u c b0 g R0 s t'.mu W):=λW H=>by
                          have o:=Vj.out;refine⟨_,t',H,kI, ⟨?_, ?_,e3.symm, ?_, ?_, ?_, ?_, ?_, ?_, ?_, ?_, ?_, ?_⟩,rr,e8, ⟨?_, ?_, ?_, ?_, ⟨?_, ?_, ?_, ?_⟩⟩,rfl, ?_, ?_⟩
                          · show m.X.drop m.at_=t'.x
                            rw[o.2.2.2.2.2.2.1,o.2.2.2.2.2.1,B];exact Ez.out
                          · show m.at_<=m.X.length
                            rw[o.2.2.2.2.2.2.1,o.2.2.2.2.2.1];exact dc.out
                          · show m.kinds=t'.kinds
                            rw[e5,o.2.2.1,z.out.2.2.2.2.2.2.2.2.1,b.kinds]
                          · show m.stops=t'.stops
                            rw[e6,o.2.2.2.1,z.out.2.2.2.2.2.2.2.2.2,b.stops]
                          · show m.a8=t'.a8
                            rw[e7,o.2.2.2.2.1,z.out.2.2.2.2.2.2.2.1,b.a8]
                          · show m.most=_
                            rw[o.2.1,Vd.out,e3,e4,List.length_append,aJ];have:=WU.out;omega
                          · show m.E=0
                            rw[o.2.2.2.2.2.2.2.1];exact b.E
                          · show bc m.X
                            rw[o.2.2.2.2.2.2.1];exact b.bit
                          · show m.X.length<=_
                            rw[o.2.2.2.2.2.2.1];exact b.len
                          · show m.X.length%8=0
                            rw[o.2.2.2.2.2.2.1];exact b.even
                          · rw[e3,e4,List.length_append,aJ];have:=WU.out;have:=sP.out;omega
                          · show m.a8.length<=m.at_
                            rw[o.2.2.2.2.1,o.2.2.2.2.2.1,List.length_append];have:=b.tk;have:=Ve.out;simp;omega
                          · exact o.2.2.2.2.2.2.2.2.1.trans G.Al
                          · exact o.2.2.2.2.2.2.2.2.2.1.trans G.Ad
                          · exact o.2.2.2.2.2.2.2.2.2.2.1.trans G.vZ
                          · exact o.2.2.2.2.2.2.2.2.2.2.2.trans G.xk
                          · exact o.2.2.2.2.2.2.1.trans G.keep.X
                          · exact o.2.2.1.trans G.keep.kinds
                          · exact o.2.2.2.1.trans G.keep.stops
                          · show R0.at_<=m.at_
                            rw[o.2.2.2.2.2.1];have:=G.keep.le;omega
                          · show t'.lt=s.lt
                            rw[e9,z.out.2.2.1];exact bi.out
                          · show t'.ds=s.ds
                            rw[dd,z.out.2.1];exact YO.out
                         clear e1 B e3 e4 e5 e6 e7 e8 e9 dd rr kI be
                         go_wp2_with fail
                         go_roundg t'.mu
                         case measure=>have:=hk.out;have:=dj.out;omega
                         case rel=>exact aA.out _ h
             · have nj:∀W,az u c W b0 g { R1 with at_:=R1.at_+n+LE }->Calls Tryz.prog 57 #[.pointer (some ⟨g,0,none⟩), .slice Ad d cd, .slice (some ⟨N,0,none⟩) d d] W λe w'=>e= .returned (.tuple #[.int .i64 0, .bool false])/\az u c w' b0 g { R1 with at_:=R1.at_+n+LE,E:=E2 }:=λW H=>by
                refine(QO.out W H).mono ?_;rintro e w' (⟨F, -⟩ | ⟨-,F,Y⟩)
                · exact absurd F lr
                · exact⟨F,Y⟩
               have Vk:=η nj;have hs3:=η (RV.out.trans (if_pos lr));have P:E2≠8:=by rcases NB.out with e | e | e <;> omega
               have Bn:=η lr;have Zm:=η P;clear RV Oe NB QO nj lr P
               go_wp2_with fail
               go_region_law
                ((go_simp;go_at_call 57;(refine(Vk.out _ (by first | exact h7 | exact h7.drew | exact h7.drewN _)).mono ?_))
                 rintro e w5 ⟨rfl,M⟩)
               all_goals
                go_wp2_with fail
                go_ret
                exact cE.bad J hs3.out Bn.out Zm.out (PY.out _ _ M) ⟨by rw[z.out.2.2.2.2.2.1];exact b.out,by rw[z.out.2.2.2.2.2.2.2.2.1];exact b.kinds,by rw[z.out.2.2.2.2.2.2.2.2.2];exact b.stops,by rw[z.out.2.2.2.2.2.2.2.1];exact b.a8,rfl⟩
  · have nj:∀W,az u c W b0 g R1->Calls Tryz.prog 57 #[.pointer (some ⟨g,0,none⟩), .slice Al nl cl, .slice (some ⟨T,0,none⟩) nl nl] W λe w'=>e= .returned (.tuple #[.int .i64 0, .bool false])/\az u c w' b0 g { R1 with E:=E }:=λW H=>by
     refine(Ja.out W H).mono ?_;rintro e w' (⟨F, -⟩ | ⟨-,F,Y⟩)
     · exact absurd F lr
     · exact⟨F,Y⟩
    have EF:=η nj;have f:=η (eG.out.trans (if_pos lr));have P:E≠8:=by rcases eZ.out with e | e | e <;> omega
    have Bn:=η lr;have Zm:=η P;clear eG jL eZ Ja nj lr P NR
    go_wp2_with fail
    go_region_law
     ((go_simp;go_at_call 57;(refine(EF.out _ (by first | exact h | exact h.drew | exact h.drewN _)).mono ?_))
      rintro e w5 ⟨rfl,h5⟩)
    all_goals
     go_wp2_with fail
     go_ret
     exact cE.bad hs f.out Bn.out Zm.out (PY.out _ _ h5) ⟨b.out,b.kinds,b.stops,b.a8,rfl⟩
end
end Go.Proofs.YtddhegejmkgmjaaGreat
