/-
  part
-/
import Derived.Test.YtgiimmkmjpbecaaGreatInfA
import Derived.Deep.CutBlock
set_option linter.unusedVariables false
set_option maxRecDepth 100000
set_option maxHeartbeats 8000000
namespace Go.Proofs.YtgiimmkmjpbecaaGreat
open Go.RowKit
structure Live (M:DM) (S:DS) (s:IS):Prop where
 x:rb M.B M.a=s.x
 st:S.st=s.st
 last:S.last=s.last
 left:S.left=s.left
 c0:S.c0=s.c0
 c1:S.c1=s.c1
 c2:S.c2=s.c2
 lens:M.lens=s.lens
 hd:s.st=5->M.hd=some s.hd
 lt:s.st=6\/s.st=7->M.lt=some s.lt
 ds:s.st=6\/s.st=7->M.ds=some s.ds
 len:s.st=7->S.len=s.len
 tail:uU s.all M.l
 rem:S.most=s.rem
 err:S.err=0
def bh (w0:World) (c0:Nat->Nat) (b0 g:Nat) (M:DM) (s:IS) (e:Ending) (w':World):Prop:=
 ∃M' S' s' v b,e= .returned (.int .i64 v)/\bA w0 c0 w' b0 g M' S'/\S'.err=0/\M'.out=M.out++b/\s'.all=s.all++b/\b.length<=70000/\
  ((v=0/\IS.Steps s s'/\s'.mu<s.mu/\Live M' S' s')\/(v=5/\IS.Steps s s'/\s'.step.2=5/\Live M' S' s')\/(v≠0/\v≠5/\s.fin=(s',v)/\(v=8->Live M' S' s')))
section
variable {w w' w0:World} {b0 g:Nat} {c0:Nat->Nat} {M M':DM} {S S':DS} {s t:IS} {b:ag} {v:Int}
theorem bh.go (c:s.step=(t,0)) (i:t.all=s.all++b) (a:b.length<=70000) (h:bA w0 c0 w' b0 g M' S') (d:Live M' S' t) (f:M'.out=M.out++b):bh w0 c0 b0 g M s (.returned (.int .i64 0)) w':=by
 have e:s.step.2=0:=by rw[c]
 have j:s.step.1=t:=by rw[c]
 subst j;exact⟨M',S',s.step.1,0,b,rfl,h,d.err,f,i,a, .inl ⟨rfl,IS.Steps.one e,IS.jr e,d⟩⟩
theorem bh.Us (a:s.step=(t,0)) (d:t.all=s.all) (h:bA w0 c0 w' b0 g M' S') (e:Live M' S' t) (c:M'.out=M.out):bh w0 c0 b0 g M s (.returned (.int .i64 0)) w':=
 bh.go (b:=[]) a (by rw[d,ak]) σ h e (by rw[c,ak])
theorem bh.lack (b:s.step.2=5) (h:bA w0 c0 w' b0 g M' S') (a:Live M' S' s) (c:M'.out=M.out):bh w0 c0 b0 g M s (.returned (.int .i64 5)) w':=
 ⟨M',S',s,5,[],rfl,h,a.err,by rw[c,ak],by rw[ak],σ, .inr (.inl ⟨rfl, .refl s,b,a⟩)⟩
theorem bh.bad (c:s.step=(t,v)) (d:v≠0) (h5:v≠5) (k:v≠8) (j:t.all=s.all++b) (a:b.length<=70000) (h:bA w0 c0 w' b0 g M' S') (i:S'.err=0) (f:M'.out=M.out++b):bh w0 c0 b0 g M s (.returned (.int .i64 v)) w':=
 ⟨M',S',t,v,b,rfl,h,i,f,j,a, .inr (.inr ⟨d,h5,by rw[IS.gZ (by rw[c];exact d),c],λe=>absurd e k⟩)⟩
theorem bh.uX (a:s.step=(t,v)) (i:v≠0) (h5:v≠5) (f:v≠8) (e:t.all=s.all) (h:bA w0 c0 w' b0 g M' S') (d:S'.err=0) (c:M'.out=M.out):bh w0 c0 b0 g M s (.returned (.int .i64 v)) w':=
 bh.bad (b:=[]) a i h5 f (by rw[e,ak]) σ h d (by rw[c,ak])
theorem a4o (V:Nat) (h:V<4294967296):bits .and .u32 (V:Int) 65535=((V%65536:Nat):Int):=by
 have:=u32_and_nat V 65535 h ω
 rwa [eZ V 16]at this
theorem a0B (V:Nat) (h:V<4294967296):bits .xor .u32 IntKind.u32.max (V:Int)=((4294967295-V:Nat):Int):=by
 show IntKind.u32.wrap ((BitVec.ofInt 32 IntKind.u32.max ^^^ BitVec.ofInt 32 (V:Int)).toNat:Int)=_;have e:BitVec.ofInt 32 IntKind.u32.max=BitVec.allOnes 32:=δ;rw[e,BitVec.allOnes_xor,BitVec.toNat_not,ofInt_u32 V h,IntKind.wrap_u32'];omega
theorem Qu (h:bA w0 c0 w b0 g M S) (c:Live M S s) (hO:s.Ok) (p:s.st=1):
  Calls Tryz.prog 193 #[.pointer (some ⟨g,0,none⟩)] w (bh w0 c0 b0 g M s):=by
 obtain⟨U, -⟩ :=h.cells;have J:=h.big;have f:=c.x;have b:Hid (s.step=s.size):=by show _=_;unfold IS.step;rw[a8 ω,aa p]
 unfold IS.size at b;by_cases m:s.x.length<32
 · have I:Hid (s.step.2=5):=by show _=_;rw[b.out,aa m]
   have o:((rb M.B M.a).length:Int)<32:=by rw[f];omega
   clear f m b
   go_in
   go_wp2_with fail;refine(OH _ _ _ _ _ _ _ _ h.lX ω 32 (.inr (.inr o))).mono ?_;rintro e w1 ⟨rfl,q,rfl⟩;go_wp2;go_ret;exact bh.lack I.out (h.drewN q) c rfl
 have u:=qI hO.bit 32;have k:=gF hO.bit 32;have o:32<=(rb M.B M.a).length:=by rw[f];omega
 rw[a8 m]at b;obtain⟨V,C⟩ :=ν (num s.x 32);rw[C]at u k b;have GZ:(0:Int)<=V/\(V:Int)<4294967296:=ω;have hA:=a4o V ω;have A:=a0B V ω;obtain⟨L,y⟩ :=ν (V%65536);obtain⟨X,l⟩ :=ν (4294967295-V);obtain⟨H,z⟩ :=ν (65535-V/65536);rw[y]at hA;rw[l]at A;have N:bits .xor .u32 (if IntKind.u32.signed=true then -1 else IntKind.u32.max) (V:Int)=(X:Int):=A;have K:(X:Int)/65536=(H:Int):=ω;have O:(0:Int)<=(L:Int)/\(L:Int)<65536/\(0:Int)<=(X:Int)/\(0:Int)<=(H:Int):=ω;have n:Hid (V%65536+V/65536=65535↔L=H):=by show _↔_;omega
 have D:=η u;have E:=η f;have Q:=η y;have F:Hid (∀W:World,rb M.B (M.a+32)=s.x.drop 32):=λ_=>by rw[<-kJ,f]
 clear C k m u f y l z;by_cases d:L=H
 · have r:=η (b.trans (aa (n.2 d)));clear b n;subst d
   go_in
   go_wp2_with fail;refine(Fq _ _ _ _ _ _ _ _ h.lX ω 32 ω o).mono ?_;rintro e w1 ⟨rfl,t,v⟩;rw[E.out,<-D.out];have j:=h.moved v t;obtain⟨-, -, -, -, -,Z, -,Y, -⟩ :=j.cells;have R:=j.cell.aH 7;have T:=j.cell.aH 5;have P:=(j.put (i:=7) ω (.int .i64 L) { S with left:=L } (fc rfl rfl rfl rfl rfl rfl rfl rfl rfl rfl rfl rfl rfl rfl rfl rfl)).put (i:=5) ω (.int .i64 2) { S with left:=L,st:=2 } (fc rfl rfl rfl rfl rfl rfl rfl rfl rfl rfl rfl rfl rfl rfl rfl rfl)
   go_wp2_with fail;go_ret;exact bh.Us r.out rfl P ⟨F w,rfl,c.last,Q.symm,c.c0,c.c1,c.c2,c.lens,λe=>by simp at e,λe=>by simp at e,λe=>by simp at e,λe=>by simp at e,c.tail,c.rem,c.err⟩ rfl
 have G:((L:Int)==(H:Int))=false:=ξ;have r:=η (b.trans (a8 (λe=>d (n.1 e))));clear b n d
 go_in
 go_wp2_with fail;refine(Fq _ _ _ _ _ _ _ _ h.lX ω 32 ω o).mono ?_;rintro e w1 ⟨rfl,t,v⟩;rw[E.out,<-D.out];have j:=h.moved v t
 go_wp2_with fail;go_ret;exact bh.uX r.out δ δ δ rfl j c.err rfl
theorem a9r:∀V:Nat,V<8->bits .and .i64 (V:Int) 1=(if decide (V%2=1)then 1 else 0):=by decide+kernel
theorem LG (h:bA w0 c0 w b0 g M S) (c:Live M S s) (hO:s.Ok) (I:s.st=0):
  Calls Tryz.prog 192 #[.pointer (some ⟨g,0,none⟩)] w (bh w0 c0 b0 g M s):=by
 have o:=c.x;have b:Hid (s.step=s.block):=by show _=_;unfold IS.step;rw[aa I]
 unfold IS.block at b;by_cases A:s.x.length<3
 · have AU:Hid (s.step.2=5):=by show _=_;rw[b.out,aa A]
   have t:((rb M.B M.a).length:Int)<3:=by rw[o];omega
   clear o A b
   go_in
   go_wp2_with fail;refine(o9 h 3 (.inr (.inr t))).mono ?_;rintro e w1 ⟨rfl,d⟩;go_wp2;go_ret;exact bh.lack AU.out d c rfl
 have r:=gF hO.bit 3;have t:3<=(rb M.B M.a).length:=by rw[o];omega
 rw[a8 A]at b
 have y:Hid (∀w2:World,bA w0 c0 w2 b0 g M S->Calls Tryz.prog 201 #[.pointer (some ⟨g,0,none⟩), .int .i64 3] w2 λe w'=>e= .returned (.tuple #[.int .i64 ((num s.x 3:Nat):Int), .bool true])/\bA w0 c0 w' b0 g { M with a:=M.a+3 } S):=λw2 f=>by
  have:=vp f 3 ω t
  rwa [o]at this
 have C:Hid (rb M.B (M.a+3)=s.x.drop 3):=by show _=_;rw[<-kJ,o]
 have K:M.a+3<=8*M.B.length:=by have:=t;rw[gW]at this;omega
 have hA:=a9r _ r;obtain⟨v,hv⟩ :=ν (((num s.x 3:Nat):Int):Int);rw[hv]at hA y;obtain⟨bl,u⟩ :=ν (decide (num s.x 3%2=1));rw[u]at hA b;have O:(v/2=0/\num s.x 3/2=0)\/(v/2=1/\num s.x 3/2=1)\/(v/2=2/\num s.x 3/2=2)\/(v/2=3/\num s.x 3/2=3):=ω;have W:0<=v/\v<8:=ω;clear o A t hv u r;rcases O with ⟨L,j⟩ | ⟨L,j⟩ | ⟨L,j⟩ | ⟨L,j⟩
 · have k:=η (b.trans (aa j));clear b j;cases bl
   all_goals
    simp only [Bool.false_eq_true,if_true,if_false]at hA
    go_in
    go_wp2_with fail;refine(y _ h).mono ?_;rintro e w1 ⟨rfl,d⟩;obtain⟨G, -, -, -, -,F,E, -⟩ :=d.cells;have Q:=d.cell.aH 5;have D:=d.cell.aH 6
    go_wp2_with fail
    first
     | have f:=d.put (i:=6) ω (.bool false) { S with last:=false } (fc rfl rfl rfl rfl rfl rfl rfl rfl rfl rfl rfl rfl rfl rfl rfl rfl);refine(jt _ _ _ _ _ _ _ _ f.lX (aq f.big ω)).mono ?_
     | have f:=d.put (i:=6) ω (.bool true) { S with last:=true } (fc rfl rfl rfl rfl rfl rfl rfl rfl rfl rfl rfl rfl rfl rfl rfl rfl);refine(jt _ _ _ _ _ _ _ _ f.lX (aq f.big ω)).mono ?_
    rintro e w2 ⟨rfl,Y,hc⟩;have n:=f.moved hc Y;obtain⟨-, -, -, -, -,i5, -⟩ :=n.cells;have y5:=n.cell.aH 5
    first
     | have h4:=n.put (i:=5) ω (.int .i64 1) { S with last:=false,st:=1 } (fc rfl rfl rfl rfl rfl rfl rfl rfl rfl rfl rfl rfl rfl rfl rfl rfl)
     | have h4:=n.put (i:=5) ω (.int .i64 1) { S with last:=true,st:=1 } (fc rfl rfl rfl rfl rfl rfl rfl rfl rfl rfl rfl rfl rfl rfl rfl rfl)
    go_wp2_with fail;go_ret;exact bh.Us k.out rfl h4 ⟨by rw[<-C.out];exact Gg K,rfl,rfl,c.left,c.c0,c.c1,c.c2,c.lens,λe=>by simp at e,λe=>by simp at e,λe=>by simp at e,λe=>by simp at e,c.tail,c.rem,c.err⟩ rfl
 · have k:=η (b.trans ((a8 ω).trans (aa j)));have SU:=η mn.1;have N:=η mn.2;clear b j;cases bl
   all_goals
    simp only [Bool.false_eq_true,if_true,if_false]at hA
    go_in
    go_wp2_with fail;refine(y _ h).mono ?_;rintro e w1 ⟨rfl,d⟩;obtain⟨G, -, -, -, -,F,E, -⟩ :=d.cells;have Q:=d.cell.aH 5;have D:=d.cell.aH 6
    go_wp2_with fail
    first
     | have f:bA w0 c0 (w1.setCell ⟨g,6,none⟩ (.bool false)) b0 g { M with a:=M.a+3 } { S with last:=false }:=d.put (i:=6) ω (.bool false) { S with last:=false } (fc rfl rfl rfl rfl rfl rfl rfl rfl rfl rfl rfl rfl rfl rfl rfl rfl);refine(pI (w1.setCell ⟨g,6,none⟩ (.bool false))).mono ?_
     | have f:bA w0 c0 (w1.setCell ⟨g,6,none⟩ (.bool true)) b0 g { M with a:=M.a+3 } { S with last:=true }:=d.put (i:=6) ω (.bool true) { S with last:=true } (fc rfl rfl rfl rfl rfl rfl rfl rfl rfl rfl rfl rfl rfl rfl rfl rfl);refine(pI (w1.setCell ⟨g,6,none⟩ (.bool true))).mono ?_
    rintro e w2 ⟨A1,d1,A2,d2,rfl,Z,q,P⟩;have n:=f.keeps P
    go_wp2_with fail;refine(nY _ _ _ _ _ _ 15 Z.rd (af _) (af _) SU.out).mono ?_;rintro e w3 ⟨g3,rfl,X,l⟩;have h4:=(n.a0K l X (by rw[pG];omega)).2.1;have R:=n.keeps l;obtain⟨-, -, -, -, -, -, -, -, -, -, -, -, -,V, -, -⟩ :=R.cells;have T:=R.cell.aH 13;have J:=(q.keeps l).far (p:= ⟨g,13,none⟩) (λ(e:ai A2=some g)=>by have:=(q.2.lt e).1;have:=f.cell.lt;omega) (.pointer (some ⟨g3,0,none⟩))
    go_wp2_with fail;refine(nY _ _ _ _ _ _ 15 J.rd (af _) ω N.out).mono ?_;rintro e w4 ⟨g4,rfl,H,z⟩;have h5:=(h4.a0K z H (by rw[zZ];omega)).2.2;have m:=h4.keeps z;obtain⟨-, -, -, -, -,x5, -, -, -, -, -, -, -, -,U, -⟩ :=m.cells;have u14:=m.cell.aH 14;have u5:=m.cell.aH 5
    first
     | have h6:=h5.put (i:=5) ω (.int .i64 6) { S with last:=false,st:=6 } (fc rfl rfl rfl rfl rfl rfl rfl rfl rfl rfl rfl rfl rfl rfl rfl rfl)
     | have h6:=h5.put (i:=5) ω (.int .i64 6) { S with last:=true,st:=6 } (fc rfl rfl rfl rfl rfl rfl rfl rfl rfl rfl rfl rfl rfl rfl rfl rfl)
    go_wp2_with fail;go_ret;exact bh.Us k.out rfl h6 ⟨C.out,rfl,rfl,c.left,c.c0,c.c1,c.c2,c.lens,λe=>by simp at e,λ_=>rfl,λ_=>rfl,λe=>by simp at e,c.tail,c.rem,c.err⟩ rfl
 · have k:=η (b.trans ((a8 ω).trans ((a8 ω).trans (aa j))));clear b j;cases bl
   all_goals
    simp only [Bool.false_eq_true,if_true,if_false]at hA
    go_in
    go_wp2_with fail;refine(y _ h).mono ?_;rintro e w1 ⟨rfl,d⟩;obtain⟨G, -, -, -, -,F,E, -⟩ :=d.cells;have Q:=d.cell.aH 5;have D:=d.cell.aH 6
    first
     | have h4:=(d.put (i:=6) ω (.bool false) { S with last:=false } (fc rfl rfl rfl rfl rfl rfl rfl rfl rfl rfl rfl rfl rfl rfl rfl rfl)).put (i:=5) ω (.int .i64 3) { S with last:=false,st:=3 } (fc rfl rfl rfl rfl rfl rfl rfl rfl rfl rfl rfl rfl rfl rfl rfl rfl)
     | skip
    have h5:=(d.put (i:=6) ω (.bool true) { S with last:=true } (fc rfl rfl rfl rfl rfl rfl rfl rfl rfl rfl rfl rfl rfl rfl rfl rfl)).put (i:=5) ω (.int .i64 3) { S with last:=true,st:=3 } (fc rfl rfl rfl rfl rfl rfl rfl rfl rfl rfl rfl rfl rfl rfl rfl rfl)
    go_wp2_with fail;go_ret
    first
     | exact bh.Us k.out rfl h4 ⟨C.out,rfl,rfl,c.left,c.c0,c.c1,c.c2,c.lens,λe=>by simp at e,λe=>by simp at e,λe=>by simp at e,λe=>by simp at e,c.tail,c.rem,c.err⟩ rfl
     | exact bh.Us k.out rfl h5 ⟨C.out,rfl,rfl,c.left,c.c0,c.c1,c.c2,c.lens,λe=>by simp at e,λe=>by simp at e,λe=>by simp at e,λe=>by simp at e,c.tail,c.rem,c.err⟩ rfl
 have k:=η (b.trans ((a8 ω).trans ((a8 ω).trans (a8 ω))));clear b j;cases bl
 all_goals
  simp only [Bool.false_eq_true,if_true,if_false]at hA
  go_in
  go_wp2_with fail;refine(y _ h).mono ?_;rintro e w1 ⟨rfl,d⟩;obtain⟨G, -, -, -, -,F,E, -⟩ :=d.cells;have D:=d.cell.aH 6;have h4:=(d.put (i:=6) ω (.bool false) { S with last:=false } (fc rfl rfl rfl rfl rfl rfl rfl rfl rfl rfl rfl rfl rfl rfl rfl rfl));have h5:=(d.put (i:=6) ω (.bool true) { S with last:=true } (fc rfl rfl rfl rfl rfl rfl rfl rfl rfl rfl rfl rfl rfl rfl rfl rfl))
  go_wp2_with fail;go_ret
  first
   | exact bh.uX k.out δ δ δ rfl h4 c.err rfl
   | exact bh.uX k.out δ δ δ rfl h5 c.err rfl
end
section
variable {w w' w0:World} {b0 g:Nat} {c0:Nat->Nat} {M M':DM} {S S':DS} {s t:IS} {b:ag} {v:Int}
theorem Ir (h:bA w0 c0 w b0 g M S) (b:Live M S s) (hO:s.Ok) (d:s.st=2) (want:Int) (hw:1<=want) (am:want<=4611686018427387904) (mg:M.out.length<=10000000000) (jL:(s.rem:Int)<=4611686018427387904):
  Calls Tryz.prog 194 #[.pointer (some ⟨g,0,none⟩), .int .i64 want] w (bh w0 c0 b0 g M s):=by
 have J:=b.x;have c:Hid (s.step=s.stored):=by show _=_;unfold IS.step;rw[a8 ω,a8 ω,aa d]
 unfold IS.stored at c;have mK:=h.cells;obtain⟨k0,k1, -, -, -, -, -,k7, -⟩ :=mK;by_cases m:S.left=0
 · have hs:=η (c.trans (aa (by rw[<-b.left];exact m)));rw[m]at k7;clear c
   go_in
   go_wp2_with fail;refine(Dx h).mono ?_;rintro e w1 ⟨rfl,q⟩
   go_wp2_with fail;go_ret;have Ja:s.over.all=s.all:=by unfold IS.over;split <;> rfl
   refine bh.Us hs.out Ja q ?_ (by split <;> rfl);cases DT:S.last with
   | true=>
     have y:s.last=true:=by rw[<-b.last];exact DT
     unfold IS.over;rw[aa y,aa rfl,aa rfl];exact⟨by show rb M.B ((M.a+7)/8*8)=ly s.x;rw[Gg h.lX.le,J],rfl,by show true=s.last;rw[y],b.left,b.c0,b.c1,b.c2,b.lens,λe=>by simp at e,λe=>by simp at e,λe=>by simp at e,λe=>by simp at e,b.tail,b.rem,b.err⟩
   | false=>
     have y:s.last=false:=by rw[<-b.last];exact DT
     unfold IS.over;rw[a8 (show¬s.last=true by rw[y];decide),a8 δ,a8 δ];exact⟨b.x,rfl,by show false=s.last;rw[y],b.left,b.c0,b.c1,b.c2,b.lens,λe=>by simp at e,λe=>by simp at e,λe=>by simp at e,λe=>by simp at e,b.tail,b.rem,b.err⟩
 have hn:=h.lX.mW;have U:=h.lX.le;have ab:=h.big;have tI:=hO.even (.inr (.inl d));rw[<-J,gW]at tI;obtain⟨j,X⟩ :∃j,M.a=8*j:= ⟨M.a/8,ω⟩;obtain⟨f,I⟩ :=ν (S.left);have z:s.left=f:=by rw[<-b.left];exact I
 have V:=hO.left;rw[I]at k7 m;obtain⟨K,hK⟩ :∃K,K=min (min f want.toNat) (M.B.length-j):= ⟨_,rfl⟩;have W:j<=M.B.length:=ω;have ad:K<=f/\j+K<=M.B.length:=ω;have hR:Hid (∀N:Int,N=min (f:Int) want->(K:Int)=max 0 (min N ((M.ni-(M.a+7)/8:Nat):Int))):=λN hN=>ω;have F:Hid ((M.a+7)/8=j/\(M.a+7)/8*8+8*K=8*(j+K)):=by show _/\_;omega
 have u:=h.lX.jc;have l:s.x=rb M.B (8*j):=by rw[<-J,X]
 have A:s.left≠0:=ω;have D:Hid (K=0->s.step.2=5/\8*(j+K)=M.a):=λh0=> ⟨by rw[c.out,a8 A,aa (by rw[l,gW];omega)],ω⟩;have v:Hid (0<K->K<=s.rem->IS.Steps s { s with x:=rb M.B (8*(j+K)),left:=s.left-K,all:=s.all++(M.B.drop j).take K,rem:=s.rem-K }):=λ_ q=>qR u d l K ω ω q;have eY:Hid (s.rem<K->s.fin.2=6/\s.fin.1.all=s.all++(M.B.drop j).take s.rem):=λq=>NG u d l K ω ω q;have aE:(K:Int)<=(f:Int)/\(f:Int)<=65535/\(0:Int)<=K:=ω;have bd:K<=65535:=ω;have n:Hid (((M.B.drop j).take K).length=K):=by show _=_;rw[aD,ay];omega
 have ah:IntKind.i64.wrap ((f:Int)-(K:Int))=((f-K:Nat):Int):=by rw[aM _ ω];omega
 have ao:Hid ((f:Int)-(K:Int)=((f-K:Nat):Int)):=by show _=_;omega
 have gV:=η I;have ac:=η z;have hJ:=η X;have an:((f:Int)==0)=false:=ξ
 have T:Hid (0<K->∀t:IS,t.st=2->t.x=rb M.B (8*(j+K))->t.mu<s.mu):=λh0 t q h2=>by
  have e1:t.mu=3*t.x.length+1:=by unfold IS.mu;rw[a8 ω,aa ω]
  have e2:s.mu=3*s.x.length+1:=by unfold IS.mu;rw[a8 ω,aa ω]
  rw[e1,e2,h2,l,gW,gW];omega
 have al:¬want<1:=ω;have Y:want<(f:Int)\/¬want<(f:Int):=ω;clear I z V hK hn U tI X u l A m c J W ad;rcases Y with q | q
 all_goals
  go_in
  go_wp2_with fail
  go_region_law
   ((go_simp;go_at_call 191;(refine(ya w.drew b0 _ _ _ _ _ _ h.drew.lX (aq ab ω) _ K (hR _ (by(repeat' split) <;> omega))).mono ?_))
    rintro e w5 ⟨A5,c5,rfl,H,ox,nN⟩;rw[F.1]at H;rw[F.2]at ox;have h5:=h.drew.moved nN ox;obtain⟨-,j1, -, -, -, -, -,j7, -⟩ :=h5.cells;have z7:=h5.cell.aH 7;rw[gV.out]at j7)
  all_goals
   by_cases IK:K=0
   · have hE:=D.out IK;rw[hE.2]at h5;subst IK
     go_wp2_with fail;go_ret;exact bh.lack hE.1 h5 b rfl
   have G:0<K:=ω;have ap:((K:Int)==0)=false:=ξ;have h6:=h5.put (i:=7) ω (.int .i64 ((f-K:Nat):Int)) { S with left:=f-K } (fc rfl rfl rfl rfl rfl rfl rfl rfl rfl rfl rfl rfl rfl rfl rfl rfl);have R:ai A5≠some g:=λ(e:ai A5=some g)=>by have:=(H.2.lt e).1;have:=h.drew.cell.lt;omega
   have Q:∀k,ai A5=some k->¬foot M.Aw M.gw k:=λk e e2=>by have:=(H.2.lt e).1;have:=(h.drew.GI.eG e2).2;omega
   have il:=H.far (p:= ⟨g,7,none⟩) R (.int .i64 ((f-K:Nat):Int));obtain⟨-,i1, -⟩ :=h6.cells
   go_wp2_with fail;refine(uM _ _ _ _ _ _ _ _ _ _ _ _ h6.GI il.rd (af _) ω).mono ?_;rintro e w7 ⟨A7,n7,c7,rfl,P,H9,MA⟩
   have h7:=h6.C6 H9 P (λk C=>by
    rcases C with C | C
    · exact .inl (.inl C)
    exact(MA k C).imp (λe=> .inr e) id)
   have vG:=H9.dJ il Q;have Z:=vG.2.iT;have o:=wW h7 _ _ c5 _ _ vG.rd (af _) Z ω mg (by rw[b.rem];exact jL);have ZO:=n.out;unfold mO at o;rw[ZO]at o;by_cases E:K<=s.rem
   · rw[a8 (show¬S.most<K by rw[b.rem];omega)]at o;have O:=η E;have L3:=η o;clear E ZO o
     go_wp2_with fail;refine L3.mono ?_;rintro e w8 ⟨A8,n8,c8,rfl,L⟩
     go_wp2_with fail;go_ret;have r:=v.out G O.out;have DN:((M.B.drop j).take K).take S.most=(M.B.drop j).take K:=aA (by rw[n.out,b.rem];exact O);rw[DN]at L;refine⟨_,_,_,0,_,rfl,L,b.err,rfl,rfl,by rw[n.out];omega, .inl ⟨rfl,r,T.out G _ d rfl, ⟨rfl,b.st,b.last,by show f-K=s.left-K;rw[ac.out],b.c0,b.c1,b.c2,b.lens,λe=>by simp [d]at e,λe=>by simp [d]at e,λe=>by simp [d]at e,λe=>by simp [d]at e,b.tail.add _,by show S.most-K=s.rem-K;rw[b.rem],b.err⟩⟩⟩
   rw[aa (show S.most<K by rw[b.rem];omega)]at o;have O:=η E;have L3:=η o;clear E ZO o
   go_wp2_with fail;refine L3.mono ?_;rintro e w8 ⟨A8,n8,c8,rfl,L⟩
   go_wp2_with fail;go_ret;have E:=O.out;obtain⟨f1,f2⟩ :=eY.out ω;refine⟨_,_,s.fin.1,6,(List.take K (List.drop j M.B)).take S.most,rfl,L,b.err,rfl, ?_, ?_, .inr (.inr ⟨δ,δ,by rw[<-f1],λe=>by simp at e⟩)⟩
   · rw[f2,iC,b.rem,bF ω]
   rw[aD,n.out];omega
end
section
variable {w w' w0:World} {b0 g:Nat} {c0:Nat->Nat} {M M':DM} {S S':DS} {s t:IS} {b:ag} {v:Int}
theorem Hz (a b:Nat) (g:a<4611686018427387904) (f:b<4611686018427387904):bits .and .i64 (a:Int) (b:Int)=((a&&& b:Nat):Int):=by
 have e:a&&& b<2 ^ 62:=Nat.and_lt_two_pow _ ω
 have d:(BitVec.ofInt 64 (a:Int)).toNat=a:=by
  rw[gv,ic];exact dO ω
 have c:(BitVec.ofInt 64 (b:Int)).toNat=b:=by
  rw[gv,ic];exact dO ω
 show IntKind.i64.wrap ((BitVec.ofInt 64 (a:Int)&&& BitVec.ofInt 64 (b:Int)).toNat:Int)=_;rw[BitVec.toNat_and,d,c,IntKind.wrap_i64];omega
theorem a1e (V:Nat) (h:V<1000000):bits .and .i64 (V:Int) 31=((V%32:Nat):Int):=by
 have:=Hz V 31 ω ω
 rwa [nat_mask5]at this
theorem bA.Ww (h:bA w0 c0 w b0 g M S):bA w0 c0 (w.setCell ⟨g,11,none⟩ (.slice none 0 0)) b0 g { M with Al:=none,nl:=0,cl:=0,lens:=[] } S:=
 h.FY ((bb.refl w _).setCell (p:= ⟨g,11,none⟩) (.inl (.inl rfl)) _) ((h.cell.cE 11 _).congr (fc rfl rfl rfl rfl rfl rfl rfl rfl rfl rfl rfl rfl rfl rfl rfl rfl)) aT.di (λk a=>by simp [ai]at a)
theorem LM (h:bA w0 c0 w b0 g M S) (d:Live M S s) (hO:s.Ok) (u:s.st=3):
  Calls Tryz.prog 195 #[.pointer (some ⟨g,0,none⟩)] w (bh w0 c0 b0 g M s):=by
 have m:=d.x;have b:Hid (s.step=s.sizes):=by show _=_;unfold IS.step;rw[a8 ω,a8 ω,a8 ω,aa u]
 unfold IS.sizes at b;by_cases q:s.x.length<14
 · have P:Hid (s.step.2=5):=by show _=_;rw[b.out,aa q]
   have r:((rb M.B M.a).length:Int)<14:=by rw[m];omega
   clear m q b
   go_in
   go_wp2_with fail;refine(o9 h 14 (.inr (.inr r))).mono ?_;rintro e w1 ⟨rfl,c⟩;go_wp2;go_ret;exact bh.lack P.out c d rfl
 have n:=gF hO.bit 14;have r:14<=(rb M.B M.a).length:=by rw[m];omega
 rw[a8 q]at b
 have z:Hid (∀w2:World,bA w0 c0 w2 b0 g M S->Calls Tryz.prog 201 #[.pointer (some ⟨g,0,none⟩), .int .i64 14] w2 λe w'=>e= .returned (.tuple #[.int .i64 ((num s.x 14:Nat):Int), .bool true])/\bA w0 c0 w' b0 g { M with a:=M.a+14 } S):=λw2 y=>by
  have:=vp y 14 ω r
  rwa [m]at this
 have O:Hid (rb M.B (M.a+14)=s.x.drop 14):=by show _=_;rw[<-kJ,m]
 obtain⟨V,C⟩ :=ν (num s.x 14);rw[C]at n b z;have hA:=a1e V ω;have hD:=a1e (V/32) ω;obtain⟨A,k⟩ :=ν (V%32);obtain⟨D,H⟩ :=ν (V/32);obtain⟨E,j⟩ :=ν (V/32%32);obtain⟨F,G⟩ :=ν (V/1024);obtain⟨f,p⟩ :=ν (A+257);obtain⟨l,I⟩ :=ν (E+1);obtain⟨t,o⟩ :=ν (F+4);rw[j,H]at hD;rw[k]at hA;have tQ:(V:Int)/32=(D:Int):=ω;have Q:(V:Int)/1024=(F:Int):=ω;have U:(A:Int)+257=(f:Int):=ω;have T:(E:Int)+1=(l:Int):=ω;have R:(F:Int)+4=(t:Int):=ω;have kA:(0:Int)<=V/\(0:Int)<=D/\(0:Int)<=A/\(A:Int)<32/\(0:Int)<=E/\(E:Int)<32/\(0:Int)<=F/\(F:Int)<16:=ω;rw[k,j,G,p,I,o]at b;clear C n q m r k H j G p I o;have v:((286:Int)<f)\/(¬(286:Int)<f/\(30:Int)<l)\/(¬(286:Int)<f/\¬(30:Int)<l):=ω;rcases v with c | ⟨c,y⟩ | ⟨c,y⟩
 all_goals
  go_in
  go_wp2_with fail;refine(z _ h).mono ?_;rintro e w1 ⟨rfl,c⟩;obtain⟨-, -, -, -, -,j5, -, -,j8,Z,N,L, -⟩ :=c.cells;have Y:=c.cell.aH 5;have X:=c.cell.aH 8;have W:=c.cell.aH 9;have K:=c.cell.aH 10;have J:=c.cell.aH 11;have h4:=((c.put (i:=8) ω (.int .i64 f) { S with c0:=f } (fc rfl rfl rfl rfl rfl rfl rfl rfl rfl rfl rfl rfl rfl rfl rfl rfl)).put (i:=9) ω (.int .i64 l) { S with c0:=f,c1:=l } (fc rfl rfl rfl rfl rfl rfl rfl rfl rfl rfl rfl rfl rfl rfl rfl rfl)).put (i:=10) ω (.int .i64 t) { S with c0:=f,c1:=l,c2:=t } (fc rfl rfl rfl rfl rfl rfl rfl rfl rfl rfl rfl rfl rfl rfl rfl rfl);have h5:=h4.Ww.put (i:=5) ω (.int .i64 4) { S with c0:=f,c1:=l,c2:=t,st:=4 } (fc rfl rfl rfl rfl rfl rfl rfl rfl rfl rfl rfl rfl rfl rfl rfl rfl)
  go_wp2_with fail
  all_goals
   go_ret
   first
    | exact bh.uX (b.trans (aa (.inl ω))) δ δ δ rfl h4 d.err rfl
    | exact bh.uX (b.trans (aa (.inr ω))) δ δ δ rfl h4 d.err rfl
    | exact bh.Us (b.trans (a8 ω)) rfl h5 ⟨O.out,rfl,d.last,d.left,rfl,rfl,rfl,rfl,λe=>by simp at e,λe=>by simp at e,λe=>by simp at e,λe=>by simp at e,d.tail,d.rem,d.err⟩ rfl
    | (exfalso;omega)
end
section
variable {w w' w0 w2:World} {b0 g:Nat} {c0:Nat->Nat} {M M':DM} {S S':DS} {s t:IS} {b:ag} {v:Int}
theorem Qt (h:bA w0 c0 w b0 g M S) (k:Int) (i:k=16\/k=17\/k=18) (c:(rb M.B M.a).length<IS.rW k):
  Calls Tryz.prog 211 #[.pointer (some ⟨g,0,none⟩), .int .i64 k] w λe w'=>e= .returned (.tuple #[.int .i64 0, .int .i64 0, .int .i64 5])/\bA w0 c0 w' b0 g M S:=by
 rcases i with rfl | rfl | rfl
 · have b:=o9 h 2 (.inr (.inr (by simp [IS.rW]at c;omega)));have f:=η b;clear b c
   go_in
   go_wp2_with fail;refine f.mono ?_;rintro e w1 ⟨rfl,d⟩
   go_wp2_with fail;go_returns;exact⟨rfl,d⟩
 · have b:=o9 h 3 (.inr (.inr (by simp [IS.rW]at c;omega)));have f:=η b;clear b c
   go_in
   go_wp2_with fail;refine f.mono ?_;rintro e w1 ⟨rfl,d⟩
   go_wp2_with fail;go_returns;exact⟨rfl,d⟩
 have b:=o9 h 7 (.inr (.inr (by simp [IS.rW]at c;omega)));have f:=η b;clear b c
 go_in
 go_wp2_with fail;refine f.mono ?_;rintro e w1 ⟨rfl,d⟩
 go_wp2_with fail;go_returns;exact⟨rfl,d⟩
theorem Zf (h:bA w0 c0 w b0 g M S) (k:Int) (o:k=16\/k=17\/k=18) (u:IS.rW k<=(rb M.B M.a).length) (b:k=16->0<M.nl) (s:M.nl<=1000) (N K:Int) (hN:N=((IS.rB k+num (rb M.B M.a) (IS.rW k):Nat):Int)) (x:K=if k=16 then ix M.lens (M.lens.length-1)else 0):
  Calls Tryz.prog 211 #[.pointer (some ⟨g,0,none⟩), .int .i64 k] w λe w'=>e= .returned (.tuple #[.int .i64 N, .int .i64 K, .int .i64 0])/\bA w0 c0 w' b0 g { M with a:=M.a+IS.rW k } S:=by
 have l:=gF (dH.rb M.B M.a) (IS.rW k);have hp:2 ^ IS.rW k<=2 ^ 7:=bw ω (by rcases o with rfl | rfl | rfl <;> decide);have p:=vp h (IS.rW k) (by rcases o with rfl | rfl | rfl <;> decide) u;obtain⟨V,v⟩ :=ν (num (rb M.B M.a) (IS.rW k));rw[v]at hN p l;have H:(0:Int)<=V/\(V:Int)<128:=ω;have r:=η p;have d:=η hN;have f:=η x;clear v l hp p hN x u;rcases o with rfl | rfl | rfl
 · have A:=b rfl;obtain⟨m,t⟩ :∃m,M.nl=m+1:= ⟨M.nl-1,ω⟩;have G:(0:Int)<=m/\(m:Int)<=1000:=ω;have F:IntKind.i64.wrap (((m+1:Nat):Int)-1)=(m:Int):=by rw[aM _ ω];omega
   have z:IntKind.i64.wrap ((m:Int)+1-1)=(m:Int):=by rw[aM _ ω];omega
   have y:=η t
   have D:Hid (ix M.lens m=K):=by
    show _=_;rw[f.out,aa rfl,show M.lens.length-1=m by have:=h.lens.1;omega]
   have n:Hid (Ending.returned (.tuple #[.int .i64 (3+(V:Int)), .int .i64 K, .int .i64 0])=Ending.returned (.tuple #[.int .i64 N, .int .i64 K, .int .i64 0])):=by show _=_;rw[d.out];rfl
   clear t b A d f
   go_in
   go_wp2_with fail;refine r.mono ?_;rintro e w1 ⟨rfl,c⟩;obtain⟨-, -, -, -, -, -, -, -, -, -, -,j, -⟩ :=c.cells;obtain⟨q,hA,C,cA⟩ :=c.lens.rd.at_ (i:=m) (by show m<M.nl;have:=y.out;omega);have pY:M.Al=some q:=hA;have E:w1.cell? (q.add m)=some (.int .i64 K):=by rw[<-D.out];exact cA
   have b1n:w1.cell? ⟨g,11,none⟩ =some (.slice (some q) (m+1) M.cl):=by rw[<-y.out,<-pY];exact j
   have I:=η pY;clear j hA pY cA
   go_wp2_with fail;go_region
   all_goals
    go_wp2_with fail;go_returns;exact⟨n.out,c.drew⟩
 · have n:Hid (Ending.returned (.tuple #[.int .i64 (3+(V:Int)), .int .i64 0, .int .i64 0])=Ending.returned (.tuple #[.int .i64 N, .int .i64 K, .int .i64 0])):=by show _=_;rw[d.out,f.out];rfl
   clear b s d f
   go_in
   go_wp2_with fail;refine r.mono ?_;rintro e w1 ⟨rfl,c⟩
   go_wp2_with fail;go_returns;exact⟨n.out,c⟩
 have n:Hid (Ending.returned (.tuple #[.int .i64 (11+(V:Int)), .int .i64 0, .int .i64 0])=Ending.returned (.tuple #[.int .i64 N, .int .i64 K, .int .i64 0])):=by show _=_;rw[d.out,f.out];rfl
 clear b s d f
 go_in
 go_wp2_with fail;refine r.mono ?_;rintro e w1 ⟨rfl,c⟩
 go_wp2_with fail;go_returns;exact⟨n.out,c⟩
end
section
variable {w w' w0 w2:World} {b0 g:Nat} {c c0:Nat->Nat} {M M':DM} {S S':DS} {s t t':IS} {b:ag} {v:Int}
structure py (F:IS×Int) (a:ag) (M:DM) (S:DS) (s:IS):Prop where
 live:Live M S s
 ok:s.Ok
 fin:s.fin=F
 all:s.all=a
 rem:s.rem<=4611686018427387904
structure qV (F:IS×Int) (a:ag) (M:DM) (S:DS):Prop where
 err:S.err=F.2
 ne:F.2≠0/\F.2≠5
 all:F.1.all=a
 at8:F.2=8->Live M { S with err:=0 } F.1/\F.1.Ok
def O8 (w:World) (m:Nat) (e:Ending) (w':World):Prop:=
 ∃g c M S,e= .returned (.pointer (some ⟨g,0,none⟩))/\iy w' w.heap.size g c M S/\Below w.heap.size w w'/\M.B=[]/\M.a=0/\M.out=[]/\Live M S (start [] m)
theorem Live.new (gi gw m:Nat):Live ⟨gi,none,0,0,[],0,gw,none,0,0,[],none,0,0,[],none,0,0,[],none,none,none,none,none,none⟩ ⟨m,0,0,false,0,0,0,0,0⟩ (start [] m):=
 ⟨rfl,rfl,rfl,rfl,rfl,rfl,rfl,rfl,λe=>by simp [start]at e,λe=>by simp [start]at e,λe=>by simp [start]at e,λe=>by simp [start]at e,uU.di,rfl,rfl⟩
theorem Il (w:World) (most:Int) (m:Nat) (s:(m:Int)=max most 0):
  Calls Tryz.prog 180 #[.int .i64 most] w (O8 w m):=by
 have y:Hid (∀gi gw w1 w2 (v:Int),v=(m:Int)->pW w1 w.heap.size gi none 0 0 [] 0->Below w.heap.size w w1->yP w2 w1.heap.size gw none 0 0 []->Below w1.heap.size w1 w2->
   O8 w m (.returned (.pointer (some ⟨w2.heap.size,0,none⟩))) (w2.alloc (.cells #[.pointer (some ⟨gi,0,none⟩), .pointer (some ⟨gw,0,none⟩), .int .i64 v, .slice none 0 0, .int .i64 0, .int .i64 0, .bool false, .int .i64 0, .int .i64 0, .int .i64 0, .int .i64 0, .slice none 0 0, .pointer none, .pointer none, .pointer none, .int .i64 0] 221))):=λgi gw w1 w2 v hv c g b d=>by
  subst hv;have x:=c.cell.lt;have u:=c.lo;have A:=b.cell.lt;have t:=b.lo;have h:=g.size;have o:=d.size;have i:Below w2.heap.size w2 (w2.alloc (.cells #[.pointer (some ⟨gi,0,none⟩), .pointer (some ⟨gw,0,none⟩), .int .i64 m, .slice none 0 0, .int .i64 0, .int .i64 0, .bool false, .int .i64 0, .int .i64 0, .int .i64 0, .int .i64 0, .slice none 0 0, .pointer none, .pointer none, .pointer none, .int .i64 0] 221)):=(aw _ w2).alloc (af _) _;refine⟨w2.heap.size,λk=>if k=w2.heap.size then 1 else if k=gi then 2 else if k=gw then 3 else 0, ⟨gi,none,0,0,[],0,gw,none,0,0,[],none,0,0,[],none,0,0,[],none,none,none,none,none,none⟩, ⟨m,0,0,false,0,0,0,0,0⟩,rfl, ?_,(g.trans (d.mono h)).trans (i.mono (aq h o)),rfl,rfl,rfl,Live.new gi gw m⟩;have p:=(c.keeps d).keeps i;have f:=b.keeps i;refine⟨Ar.new w2 _ _ rfl (fc rfl rfl rfl rfl rfl rfl rfl rfl rfl rfl rfl rfl rfl rfl rfl rfl),aa rfl,p, ?_, ⟨f.cell,by show w.heap.size<=gw;omega,f.own.more h,f.apart,f.len⟩, ?_,aT.di,λk a=>by simp [ai]at a,aT.di,λk a=>by simp [ai]at a,λl j=>by simp at j,λl j=>by simp at j,λl j=>by simp at j, ?_,σ⟩
  · intro k a;rcases a with rfl | a
    · show(if _ then _ else _)=2;rw[a8 ω,aa rfl]
    simp [ai]at a
  · intro k a;rcases a with rfl | a
    · show(if _ then _ else _)=3;rw[a8 ω,a8 ω,aa rfl]
    simp [ai]at a
  intro k a;rw[show(w2.alloc (.cells #[.pointer (some ⟨gi,0,none⟩), .pointer (some ⟨gw,0,none⟩), .int .i64 m, .slice none 0 0, .int .i64 0, .int .i64 0, .bool false, .int .i64 0, .int .i64 0, .int .i64 0, .int .i64 0, .slice none 0 0, .pointer none, .pointer none, .pointer none, .int .i64 0] 221)).heap.size=w2.heap.size+1 by simp];split at a
  · omega
  split at a
  · omega
  split at a
  · omega
  exact absurd rfl a
 have q:(most<0/\m=0)\/(0<most/\(m:Int)=most)\/(most=0/\m=0):=ω;clear s;rcases q with ⟨r,n⟩ | ⟨r,n⟩ | ⟨r,n⟩
 all_goals
  have z:=η n;clear n
  try subst r
  go_in
  go_wp2_with fail;refine(Ns _).mono ?_;rintro e w1 ⟨gi,rfl,c,g⟩
  go_wp2_with fail;refine(NR _).mono ?_;rintro e w2 ⟨gw,rfl,b,d⟩
  go_wp2_with fail;go_ret;exact y.out gi gw w1 w2 _ (τ z.out) c g b d
def PH (w0:World) (c0:Nat->Nat) (b0 g:Nat) (M:DM) (S:DS) (b:ag) (e:Ending) (w':World):Prop:=
 ∃A' n' c',e= .returned (.tuple #[])/\bA w0 c0 w' b0 g { M with Ai:=A',ni:=n',ci:=c',B:=M.B.drop (M.a/8)++b,a:=M.a%8 } S
theorem Du (h:bA w0 c0 w b0 g M S) (l m d:Nat) (C:ax) (b:ag) (n:bT .u8 w l C m b) (p:l<=w.heap.size) (i:∀x∈b,0<=x/\x<256) (j:M.B.length+b.length<=100000000000):
  Calls Tryz.prog 171 #[.pointer (some ⟨g,0,none⟩), .slice C m d] w (PH w0 c0 b0 g M S b):=by
 obtain⟨r, -⟩ :=h.cells
 go_in
 go_wp2_with fail;refine(JN _ _ _ _ _ _ _ _ _ _ _ _ _ h.lX n p i ω).mono ?_;rintro e w1 ⟨A',n',c',rfl,c,f,o⟩
 have q:=h.reader (f.more λk a=> .inl a) c (λk a=>by
  rcases a with a | a
  · exact .inl (.inl a)
  exact .inr (o k a)) (by rw[ae,ay];omega)
 go_wp2_with fail;go_end0;exact⟨A',n',c',rfl,q⟩
end
end Go.Proofs.YtgiimmkmjpbecaaGreat
