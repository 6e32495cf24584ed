/-
  part
-/
import Derived.Test.YtdhmnlpfhfmpfaaGreatInfA
import Derived.Deep.CutBlock
set_option linter.unusedVariables false
set_option maxRecDepth 100000
set_option maxHeartbeats 8000000
namespace Go.Proofs.YtdhmnlpfhfmpfaaGreat
open Go.RowKit
structure Live (M:DM) (S:DS) (s:IS):Prop where
 x:rb M.B M.a=s.x
 st:S.st=s.st
 last:S.last=s.last
 left:S.left=s.left
 c0:S.c0=s.c0
 c1:S.c1=s.c1
 c2:S.c2=s.c2
 lens:M.lens=s.lens
 hd:s.st=5->M.hd=some s.hd
 lt:s.st=6\/s.st=7->M.lt=some s.lt
 ds:s.st=6\/s.st=7->M.ds=some s.ds
 len:s.st=7->S.len=s.len
 tail:vB s.all M.l
 rem:S.most=s.rem
 err:S.err=0
def bh (w0:World) (c0:Nat->Nat) (b0 g:Nat) (M:DM) (s:IS) (e:Ending) (w':World):Prop:=
 ∃M' S' s' v b,e= .returned (.int .i64 v)/\bF w0 c0 w' b0 g M' S'/\S'.err=0/\M'.out=M.out++b/\s'.all=s.all++b/\b.length<=70000/\
  ((v=0/\IS.Steps s s'/\s'.mu<s.mu/\Live M' S' s')\/(v=5/\IS.Steps s s'/\s'.step.2=5/\Live M' S' s')\/(v≠0/\v≠5/\s.fin=(s',v)/\(v=8->Live M' S' s')))
section
variable {w w' w0:World} {b0 g:Nat} {c0:Nat->Nat} {M M':DM} {S S':DS} {s t:IS} {b:aj} {v:Int}
theorem bh.go (c:s.step=(t,0)) (i:t.all=s.all++b) (a:b.length<=70000) (h:bF w0 c0 w' b0 g M' S') (d:Live M' S' t) (f:M'.out=M.out++b):bh w0 c0 b0 g M s (.returned (.int .i64 0)) w':=by
 have e:s.step.2=0:=by rw[c]
 have j:s.step.1=t:=by rw[c]
 subst j;exact⟨M',S',s.step.1,0,b,rfl,h,d.err,f,i,a, .inl ⟨rfl,IS.Steps.one e,IS.jK e,d⟩⟩
theorem bh.Uc (a:s.step=(t,0)) (d:t.all=s.all) (h:bF w0 c0 w' b0 g M' S') (e:Live M' S' t) (c:M'.out=M.out):bh w0 c0 b0 g M s (.returned (.int .i64 0)) w':=
 bh.go (b:=[]) a (by rw[d,aA]) σ h e (by rw[c,aA])
theorem bh.lack (b:s.step.2=5) (h:bF w0 c0 w' b0 g M' S') (a:Live M' S' s) (c:M'.out=M.out):bh w0 c0 b0 g M s (.returned (.int .i64 5)) w':=
 ⟨M',S',s,5,[],rfl,h,a.err,by rw[c,aA],by rw[aA],σ, .inr (.inl ⟨rfl, .refl s,b,a⟩)⟩
theorem bh.bad (c:s.step=(t,v)) (d:v≠0) (h5:v≠5) (k:v≠8) (j:t.all=s.all++b) (a:b.length<=70000) (h:bF w0 c0 w' b0 g M' S') (i:S'.err=0) (f:M'.out=M.out++b):bh w0 c0 b0 g M s (.returned (.int .i64 v)) w':=
 ⟨M',S',t,v,b,rfl,h,i,f,j,a, .inr (.inr ⟨d,h5,by rw[IS.iA (by rw[c];exact d),c],λe=>absurd e k⟩)⟩
theorem bh.vD (a:s.step=(t,v)) (i:v≠0) (h5:v≠5) (f:v≠8) (e:t.all=s.all) (h:bF w0 c0 w' b0 g M' S') (d:S'.err=0) (c:M'.out=M.out):bh w0 c0 b0 g M s (.returned (.int .i64 v)) w':=
 bh.bad (b:=[]) a i h5 f (by rw[e,aA]) σ h d (by rw[c,aA])
theorem a5q (V:Nat) (h:V<4294967296):bits .and .u32 (V:Int) 65535=((V%65536:Nat):Int):=by
 have:=u32_and_nat V 65535 h ω
 rwa [fe V 16]at this
theorem a0E (V:Nat) (h:V<4294967296):bits .xor .u32 IntKind.u32.max (V:Int)=((4294967295-V:Nat):Int):=by
 show IntKind.u32.wrap ((BitVec.ofInt 32 IntKind.u32.max ^^^ BitVec.ofInt 32 (V:Int)).toNat:Int)=_;have e:BitVec.ofInt 32 IntKind.u32.max=BitVec.allOnes 32:=δ;rw[e,BitVec.allOnes_xor,BitVec.toNat_not,ofInt_u32 V h,IntKind.wrap_u32'];omega
theorem PJ (h:bF w0 c0 w b0 g M S) (c:Live M S s) (hO:s.Ok) (p:s.st=1):
  Calls Tryz.prog 123 #[.pointer (some ⟨g,0,none⟩)] w (bh w0 c0 b0 g M s):=by
 obtain⟨U, -⟩ :=h.cells;have J:=h.big;have f:=c.x;have b:Hid (s.step=s.size):=by show _=_;unfold IS.step;rw[aa ω,af p]
 unfold IS.size at b;by_cases m:s.x.length<32
 · have I:Hid (s.step.2=5):=by show _=_;rw[b.out,af m]
   have o:((rb M.B M.a).length:Int)<32:=by rw[f];omega
   clear f m b;go_enter Tryz.func123,Tryz.ntmps123
   go_wp2_with fail;refine(NJ _ _ _ _ _ _ _ _ h.mC ω 32 (.inr (.inr o))).mono ?_;rintro e w1 ⟨rfl,q,rfl⟩;go_wp2;go_ret;exact bh.lack I.out (h.drewN q) c rfl
 have u:=qW hO.bit 32;have k:=gI hO.bit 32;have o:32<=(rb M.B M.a).length:=by rw[f];omega
 rw[aa m]at b;obtain⟨V,C⟩ :=ν (num s.x 32);rw[C]at u k b;have Lq:(0:Int)<=V/\(V:Int)<4294967296:=ω;have hA:=a5q V ω;have A:=a0E V ω;obtain⟨L,y⟩ :=ν (V%65536);obtain⟨X,l⟩ :=ν (4294967295-V);obtain⟨H,z⟩ :=ν (65535-V/65536);rw[y]at hA;rw[l]at A;have N:bits .xor .u32 (if IntKind.u32.signed=true then -1 else IntKind.u32.max) (V:Int)=(X:Int):=A;have K:(X:Int)/65536=(H:Int):=ω;have O:(0:Int)<=(L:Int)/\(L:Int)<65536/\(0:Int)<=(X:Int)/\(0:Int)<=(H:Int):=ω;have n:Hid (V%65536+V/65536=65535↔L=H):=by show _↔_;omega
 have D:=η u;have E:=η f;have Q:=η y;have F:Hid (∀W:World,rb M.B (M.a+32)=s.x.drop 32):=λ_=>by rw[<-kU,f]
 clear C k m u f y l z;by_cases d:L=H
 · have r:=η (b.out.trans (af (n.out.2 d)));clear b n;subst d;go_enter Tryz.func123,Tryz.ntmps123
   go_wp2_with fail;refine(EW _ _ _ _ _ _ _ _ h.mC ω 32 ω o).mono ?_;rintro e w1 ⟨rfl,t,v⟩;rw[E.out,<-D.out];have j:=h.moved v t;obtain⟨-, -, -, -, -,Z, -,Y, -⟩ :=j.cells;have R:=j.cell.frozen' (i:=7) ω;have T:=j.cell.frozen' (i:=5) ω;have P:=(j.put (i:=7) ω (.int .i64 L) { S with left:=L } (fg rfl rfl rfl rfl rfl rfl rfl rfl rfl rfl rfl rfl rfl rfl rfl rfl)).put (i:=5) ω (.int .i64 2) { S with left:=L,st:=2 } (fg rfl rfl rfl rfl rfl rfl rfl rfl rfl rfl rfl rfl rfl rfl rfl rfl)
   go_wp2_with fail;go_ret;exact bh.Uc r.out rfl P ⟨F.out w,rfl,c.last,Q.out.symm,c.c0,c.c1,c.c2,c.lens,λe=>by simp at e,λe=>by simp at e,λe=>by simp at e,λe=>by simp at e,c.tail,c.rem,c.err⟩ rfl
 have G:((L:Int)==(H:Int))=false:=ξ;have r:=η (b.out.trans (aa (λe=>d (n.out.1 e))));clear b n d;go_enter Tryz.func123,Tryz.ntmps123
 go_wp2_with fail;refine(EW _ _ _ _ _ _ _ _ h.mC ω 32 ω o).mono ?_;rintro e w1 ⟨rfl,t,v⟩;rw[E.out,<-D.out];have j:=h.moved v t
 go_wp2_with fail;go_ret;exact bh.vD r.out δ δ δ rfl j c.err rfl
theorem b15:∀V:Nat,V<8->bits .and .i64 (V:Int) 1=(if decide (V%2=1)then 1 else 0):=by decide+kernel
theorem KV (h:bF w0 c0 w b0 g M S) (c:Live M S s) (hO:s.Ok) (I:s.st=0):
  Calls Tryz.prog 122 #[.pointer (some ⟨g,0,none⟩)] w (bh w0 c0 b0 g M s):=by
 have o:=c.x;have b:Hid (s.step=s.block):=by show _=_;unfold IS.step;rw[af I]
 unfold IS.block at b;by_cases A:s.x.length<3
 · have B3:Hid (s.step.2=5):=by show _=_;rw[b.out,af A]
   have t:((rb M.B M.a).length:Int)<3:=by rw[o];omega
   clear o A b;go_enter Tryz.func122,Tryz.ntmps122
   go_wp2_with fail;refine(ov h 3 (.inr (.inr t))).mono ?_;rintro e w1 ⟨rfl,d⟩;go_wp2;go_ret;exact bh.lack B3.out d c rfl
 have r:=gI hO.bit 3;have t:3<=(rb M.B M.a).length:=by rw[o];omega
 rw[aa A]at b
 have y:Hid (∀w2:World,bF w0 c0 w2 b0 g M S->Calls Tryz.prog 141 #[.pointer (some ⟨g,0,none⟩), .int .i64 3] w2 λe w'=>e= .returned (.tuple #[.int .i64 ((num s.x 3:Nat):Int), .bool true])/\bF w0 c0 w' b0 g { M with a:=M.a+3 } S):=λw2 f=>by
  have:=vN f 3 ω t
  rwa [o]at this
 have C:Hid (rb M.B (M.a+3)=s.x.drop 3):=by show _=_;rw[<-kU,o]
 have K:M.a+3<=8*M.B.length:=by have:=t;rw[iw]at this;omega
 have hA:=b15 _ r;obtain⟨v,hv⟩ :=ν (((num s.x 3:Nat):Int):Int);rw[hv]at hA y;obtain⟨bl,u⟩ :=ν (decide (num s.x 3%2=1));rw[u]at hA b;have O:(v/2=0/\num s.x 3/2=0)\/(v/2=1/\num s.x 3/2=1)\/(v/2=2/\num s.x 3/2=2)\/(v/2=3/\num s.x 3/2=3):=ω;have W:0<=v/\v<8:=ω;clear o A t hv u r;rcases O with ⟨L,j⟩ | ⟨L,j⟩ | ⟨L,j⟩ | ⟨L,j⟩
 · have k:=η (b.out.trans (af j));clear b j;cases bl
   all_goals
    simp only [Bool.false_eq_true,if_true,if_false]at hA;go_enter Tryz.func122,Tryz.ntmps122
    go_wp2_with fail;refine(y.out _ h).mono ?_;rintro e w1 ⟨rfl,d⟩;obtain⟨G, -, -, -, -,F,E, -⟩ :=d.cells;have Q:=d.cell.frozen' (i:=5) ω;have D:=d.cell.frozen' (i:=6) ω
    go_wp2_with fail
    first
     | have f:=d.put (i:=6) ω (.bool false) { S with last:=false } (fg rfl rfl rfl rfl rfl rfl rfl rfl rfl rfl rfl rfl rfl rfl rfl rfl);refine(jo _ _ _ _ _ _ _ _ f.mC (aw f.big ω)).mono ?_
     | have f:=d.put (i:=6) ω (.bool true) { S with last:=true } (fg rfl rfl rfl rfl rfl rfl rfl rfl rfl rfl rfl rfl rfl rfl rfl rfl);refine(jo _ _ _ _ _ _ _ _ f.mC (aw f.big ω)).mono ?_
    rintro e w2 ⟨rfl,Y,hc⟩;have n:=f.moved hc Y;obtain⟨-, -, -, -, -,i5, -⟩ :=n.cells;have y5:=n.cell.frozen' (i:=5) ω
    first
     | have h4:=n.put (i:=5) ω (.int .i64 1) { S with last:=false,st:=1 } (fg rfl rfl rfl rfl rfl rfl rfl rfl rfl rfl rfl rfl rfl rfl rfl rfl)
     | have h4:=n.put (i:=5) ω (.int .i64 1) { S with last:=true,st:=1 } (fg rfl rfl rfl rfl rfl rfl rfl rfl rfl rfl rfl rfl rfl rfl rfl rfl)
    go_wp2_with fail;go_ret;exact bh.Uc k.out rfl h4 ⟨by rw[<-C.out];exact FR K,rfl,rfl,c.left,c.c0,c.c1,c.c2,c.lens,λe=>by simp at e,λe=>by simp at e,λe=>by simp at e,λe=>by simp at e,c.tail,c.rem,c.err⟩ rfl
 · have k:=η (b.out.trans ((aa ω).trans (af j)));have Si:=η mI.1;have N:=η mI.2;clear b j;cases bl
   all_goals
    simp only [Bool.false_eq_true,if_true,if_false]at hA;go_enter Tryz.func122,Tryz.ntmps122
    go_wp2_with fail;refine(y.out _ h).mono ?_;rintro e w1 ⟨rfl,d⟩;obtain⟨G, -, -, -, -,F,E, -⟩ :=d.cells;have Q:=d.cell.frozen' (i:=5) ω;have D:=d.cell.frozen' (i:=6) ω
    go_wp2_with fail
    first
     | have f:bF w0 c0 (w1.setCell ⟨g,6,none⟩ (.bool false)) b0 g { M with a:=M.a+3 } { S with last:=false }:=d.put (i:=6) ω (.bool false) { S with last:=false } (fg rfl rfl rfl rfl rfl rfl rfl rfl rfl rfl rfl rfl rfl rfl rfl rfl);refine(pV (w1.setCell ⟨g,6,none⟩ (.bool false))).mono ?_
     | have f:bF w0 c0 (w1.setCell ⟨g,6,none⟩ (.bool true)) b0 g { M with a:=M.a+3 } { S with last:=true }:=d.put (i:=6) ω (.bool true) { S with last:=true } (fg rfl rfl rfl rfl rfl rfl rfl rfl rfl rfl rfl rfl rfl rfl rfl rfl);refine(pV (w1.setCell ⟨g,6,none⟩ (.bool true))).mono ?_
    rintro e w2 ⟨A1,d1,A2,d2,rfl,Z,q,P⟩;have n:=f.keeps P
    go_wp2_with fail;refine(oo _ _ _ _ _ _ 15 Z.rd (ai _) (ai _) Si.out).mono ?_;rintro e w3 ⟨g3,rfl,X,l⟩;have h4:=(n.a0O l X (by rw[pT];omega)).2.1;have R:=n.keeps l;obtain⟨-, -, -, -, -, -, -, -, -, -, -, -, -,V, -, -⟩ :=R.cells;have T:=R.cell.frozen' (i:=13) ω;have J:=(q.keeps l).far (p:= ⟨g,13,none⟩) (λ(e:ak A2=some g)=>by have:=(q.2.lt e).1;have:=f.cell.lt;omega) (.pointer (some ⟨g3,0,none⟩))
    go_wp2_with fail;refine(oo _ _ _ _ _ _ 15 J.rd (ai _) ω N.out).mono ?_;rintro e w4 ⟨g4,rfl,H,z⟩;have h5:=(h4.a0O z H (by rw[AG];omega)).2.2;have m:=h4.keeps z;obtain⟨-, -, -, -, -,x5, -, -, -, -, -, -, -, -,U, -⟩ :=m.cells;have u14:=m.cell.frozen' (i:=14) ω;have u5:=m.cell.frozen' (i:=5) ω
    first
     | have h6:=h5.put (i:=5) ω (.int .i64 6) { S with last:=false,st:=6 } (fg rfl rfl rfl rfl rfl rfl rfl rfl rfl rfl rfl rfl rfl rfl rfl rfl)
     | have h6:=h5.put (i:=5) ω (.int .i64 6) { S with last:=true,st:=6 } (fg rfl rfl rfl rfl rfl rfl rfl rfl rfl rfl rfl rfl rfl rfl rfl rfl)
    go_wp2_with fail;go_ret;exact bh.Uc k.out rfl h6 ⟨C.out,rfl,rfl,c.left,c.c0,c.c1,c.c2,c.lens,λe=>by simp at e,λ_=>rfl,λ_=>rfl,λe=>by simp at e,c.tail,c.rem,c.err⟩ rfl
 · have k:=η (b.out.trans ((aa ω).trans ((aa ω).trans (af j))));clear b j;cases bl
   all_goals
    simp only [Bool.false_eq_true,if_true,if_false]at hA;go_enter Tryz.func122,Tryz.ntmps122
    go_wp2_with fail;refine(y.out _ h).mono ?_;rintro e w1 ⟨rfl,d⟩;obtain⟨G, -, -, -, -,F,E, -⟩ :=d.cells;have Q:=d.cell.frozen' (i:=5) ω;have D:=d.cell.frozen' (i:=6) ω
    first
     | have h4:=(d.put (i:=6) ω (.bool false) { S with last:=false } (fg rfl rfl rfl rfl rfl rfl rfl rfl rfl rfl rfl rfl rfl rfl rfl rfl)).put (i:=5) ω (.int .i64 3) { S with last:=false,st:=3 } (fg rfl rfl rfl rfl rfl rfl rfl rfl rfl rfl rfl rfl rfl rfl rfl rfl)
     | skip
    have h5:=(d.put (i:=6) ω (.bool true) { S with last:=true } (fg rfl rfl rfl rfl rfl rfl rfl rfl rfl rfl rfl rfl rfl rfl rfl rfl)).put (i:=5) ω (.int .i64 3) { S with last:=true,st:=3 } (fg rfl rfl rfl rfl rfl rfl rfl rfl rfl rfl rfl rfl rfl rfl rfl rfl)
    go_wp2_with fail;go_ret
    first
     | exact bh.Uc k.out rfl h4 ⟨C.out,rfl,rfl,c.left,c.c0,c.c1,c.c2,c.lens,λe=>by simp at e,λe=>by simp at e,λe=>by simp at e,λe=>by simp at e,c.tail,c.rem,c.err⟩ rfl
     | exact bh.Uc k.out rfl h5 ⟨C.out,rfl,rfl,c.left,c.c0,c.c1,c.c2,c.lens,λe=>by simp at e,λe=>by simp at e,λe=>by simp at e,λe=>by simp at e,c.tail,c.rem,c.err⟩ rfl
 have k:=η (b.out.trans ((aa ω).trans ((aa ω).trans (aa ω))));clear b j;cases bl
 all_goals
  simp only [Bool.false_eq_true,if_true,if_false]at hA;go_enter Tryz.func122,Tryz.ntmps122
  go_wp2_with fail;refine(y.out _ h).mono ?_;rintro e w1 ⟨rfl,d⟩;obtain⟨G, -, -, -, -,F,E, -⟩ :=d.cells;have D:=d.cell.frozen' (i:=6) ω;have h4:=(d.put (i:=6) ω (.bool false) { S with last:=false } (fg rfl rfl rfl rfl rfl rfl rfl rfl rfl rfl rfl rfl rfl rfl rfl rfl));have h5:=(d.put (i:=6) ω (.bool true) { S with last:=true } (fg rfl rfl rfl rfl rfl rfl rfl rfl rfl rfl rfl rfl rfl rfl rfl rfl))
  go_wp2_with fail;go_ret
  first
   | exact bh.vD k.out δ δ δ rfl h4 c.err rfl
   | exact bh.vD k.out δ δ δ rfl h5 c.err rfl
end
section
variable {w w' w0:World} {b0 g:Nat} {c0:Nat->Nat} {M M':DM} {S S':DS} {s t:IS} {b:aj} {v:Int}
theorem Hz (h:bF w0 c0 w b0 g M S) (b:Live M S s) (hO:s.Ok) (d:s.st=2) (want:Int) (hw:1<=want) (al:want<=4611686018427387904) (kO:M.out.length<=10000000000) (jI:(s.rem:Int)<=4611686018427387904):
  Calls Tryz.prog 124 #[.pointer (some ⟨g,0,none⟩), .int .i64 want] w (bh w0 c0 b0 g M s):=by
 have J:=b.x;have c:Hid (s.step=s.stored):=by show _=_;unfold IS.step;rw[aa ω,aa ω,af d]
 unfold IS.stored at c;have jP:=h.cells;obtain⟨k0,k1, -, -, -, -, -,k7, -⟩ :=jP;by_cases m:S.left=0
 · have hs:=η (c.out.trans (af (by rw[<-b.left];exact m)));rw[m]at k7;clear c;go_enter Tryz.func124,Tryz.ntmps124
   go_wp2_with fail;refine(De h).mono ?_;rintro e w1 ⟨rfl,q⟩
   go_wp2_with fail;go_ret;have Qy:s.over.all=s.all:=by unfold IS.over;split <;> rfl
   refine bh.Uc hs.out Qy q ?_ (by split <;> rfl);cases Kh:S.last with
   | true=>
     have y:s.last=true:=by rw[<-b.last];exact Kh
     unfold IS.over;rw[af y,af rfl,af rfl];exact⟨by show rb M.B ((M.a+7)/8*8)=lN s.x;rw[FR h.mC.le,J],rfl,by show true=s.last;rw[y],b.left,b.c0,b.c1,b.c2,b.lens,λe=>by simp at e,λe=>by simp at e,λe=>by simp at e,λe=>by simp at e,b.tail,b.rem,b.err⟩
   | false=>
     have y:s.last=false:=by rw[<-b.last];exact Kh
     unfold IS.over;rw[aa (show¬s.last=true by rw[y];decide),aa δ,aa δ];exact⟨b.x,rfl,by show false=s.last;rw[y],b.left,b.c0,b.c1,b.c2,b.lens,λe=>by simp at e,λe=>by simp at e,λe=>by simp at e,λe=>by simp at e,b.tail,b.rem,b.err⟩
 have hn:=h.mC.nB;have T:=h.mC.le;have ab:=h.big;have vp:=hO.even (.inr (.inl d));rw[<-J,iw]at vp;obtain⟨j,W⟩ :∃j,M.a=8*j:= ⟨M.a/8,ω⟩;obtain⟨f,I⟩ :=ν (S.left);have z:s.left=f:=by rw[<-b.left];exact I
 have U:=hO.left;rw[I]at k7 m;obtain⟨K,hK⟩ :∃K,K=min (min f want.toNat) (M.B.length-j):= ⟨_,rfl⟩;have V:j<=M.B.length:=ω;have ad:K<=f/\j+K<=M.B.length:=ω;have hR:Hid (∀N:Int,N=min (f:Int) want->(K:Int)=max 0 (min N ((M.ni-(M.a+7)/8:Nat):Int))):=λN hN=>ω;have F:Hid ((M.a+7)/8=j/\(M.a+7)/8*8+8*K=8*(j+K)):=by show _/\_;omega
 have u:=h.mC.jR;have l:s.x=rb M.B (8*j):=by rw[<-J,W]
 have A:s.left≠0:=ω;have D:Hid (K=0->s.step.2=5/\8*(j+K)=M.a):=λh0=> ⟨by rw[c.out,aa A,af (by rw[l,iw];omega)],ω⟩;have v:Hid (0<K->K<=s.rem->IS.Steps s { s with x:=rb M.B (8*(j+K)),left:=s.left-K,all:=s.all++(M.B.drop j).take K,rem:=s.rem-K }):=λ_ q=>ru u d l K ω ω q;have fI:Hid (s.rem<K->s.fin.2=6/\s.fin.1.all=s.all++(M.B.drop j).take s.rem):=λq=>MO u d l K ω ω q;have ap:(K:Int)<=(f:Int)/\(f:Int)<=65535/\(0:Int)<=K:=ω;have aE:K<=65535:=ω;have n:Hid (((M.B.drop j).take K).length=K):=by show _=_;rw[aD,az];omega
 have ae:IntKind.i64.wrap ((f:Int)-(K:Int))=((f-K:Nat):Int):=by rw[aM _ ω];omega
 have an:Hid ((f:Int)-(K:Int)=((f-K:Nat):Int)):=by show _=_;omega
 have gV:=η I;have ac:=η z;have hJ:=η W;have am:((f:Int)==0)=false:=ξ
 have R:Hid (0<K->∀t:IS,t.st=2->t.x=rb M.B (8*(j+K))->t.mu<s.mu):=λh0 t q h2=>by
  have e1:t.mu=3*t.x.length+1:=by unfold IS.mu;rw[aa ω,af ω]
  have e2:s.mu=3*s.x.length+1:=by unfold IS.mu;rw[aa ω,af ω]
  rw[e1,e2,h2,l,iw,iw];omega
 have ah:¬want<1:=ω;have X:want<(f:Int)\/¬want<(f:Int):=ω;clear I z U hK hn T vp W u l A m c J V ad;rcases X with q | q
 all_goals
  go_enter Tryz.func124,Tryz.ntmps124
  go_wp2_with fail
  go_region_law
   ((go_simp;go_at_call 103;(refine(yG w.drew b0 _ _ _ _ _ _ h.drew.mC (aw ab ω) _ K (hR.out _ (by(repeat' split) <;> omega))).mono ?_))
    rintro e w5 ⟨A5,c5,rfl,H,rL,nT⟩;rw[F.out.1]at H;rw[F.out.2]at rL;have h5:=h.drew.moved nT rL;obtain⟨-,j1, -, -, -, -, -,j7, -⟩ :=h5.cells;have z7:=h5.cell.frozen' (i:=7) ω;rw[gV.out]at j7)
  all_goals
   by_cases Ih:K=0
   · have hE:=D.out Ih;rw[hE.2]at h5;subst Ih
     go_wp2_with fail;go_ret;exact bh.lack hE.1 h5 b rfl
   have G:0<K:=ω;have ao:((K:Int)==0)=false:=ξ;have h6:=h5.put (i:=7) ω (.int .i64 ((f-K:Nat):Int)) { S with left:=f-K } (fg rfl rfl rfl rfl rfl rfl rfl rfl rfl rfl rfl rfl rfl rfl rfl rfl);have Q:ak A5≠some g:=λ(e:ak A5=some g)=>by have:=(H.2.lt e).1;have:=h.drew.cell.lt;omega
   have P:∀k,ak A5=some k->¬foot M.Aw M.gw k:=λk e e2=>by have:=(H.2.lt e).1;have:=(h.drew.Gj.eK e2).2;omega
   have kP:=H.far (p:= ⟨g,7,none⟩) Q (.int .i64 ((f-K:Nat):Int));obtain⟨-,i1, -⟩ :=h6.cells
   go_wp2_with fail;refine(vd _ _ _ _ _ _ _ _ _ _ _ _ h6.Gj kP.rd (ai _) ω).mono ?_;rintro e w7 ⟨A7,n7,c7,rfl,GC,Gy,LF⟩
   have h7:=h6.Ca Gy GC (λk C=>by
    rcases C with C | C
    · exact .inl (.inl C)
    exact(LF k C).imp (λe=> .inr e) id)
   have yY:=Gy.dX kP P;have Y:=yY.2.jT;have o:=xr h7 _ _ c5 _ _ yY.rd (ai _) Y ω kO (by rw[b.rem];exact jI);have Z:=n.out;unfold mW at o;rw[Z]at o;by_cases E:K<=s.rem
   · rw[aa (show¬S.most<K by rw[b.rem];omega)]at o;have O:=η E;have Kr:=η o;clear E Z o
     go_wp2_with fail;refine Kr.out.mono ?_;rintro e w8 ⟨A8,n8,c8,rfl,L⟩
     go_wp2_with fail;go_ret;have r:=v.out G O.out;have vR:((M.B.drop j).take K).take S.most=(M.B.drop j).take K:=aC (by rw[n.out,b.rem];exact O.out);rw[vR]at L;refine⟨_,_,_,0,_,rfl,L,b.err,rfl,rfl,by rw[n.out];omega, .inl ⟨rfl,r,R.out G _ d rfl, ⟨rfl,b.st,b.last,by show f-K=s.left-K;rw[ac.out],b.c0,b.c1,b.c2,b.lens,λe=>by simp [d]at e,λe=>by simp [d]at e,λe=>by simp [d]at e,λe=>by simp [d]at e,b.tail.add _,by show S.most-K=s.rem-K;rw[b.rem],b.err⟩⟩⟩
   rw[af (show S.most<K by rw[b.rem];omega)]at o;have O:=η E;have Kr:=η o;clear E Z o
   go_wp2_with fail;refine Kr.out.mono ?_;rintro e w8 ⟨A8,n8,c8,rfl,L⟩
   go_wp2_with fail;go_ret;have E:=O.out;obtain⟨f1,f2⟩ :=fI.out ω;refine⟨_,_,s.fin.1,6,(List.take K (List.drop j M.B)).take S.most,rfl,L,b.err,rfl, ?_, ?_, .inr (.inr ⟨δ,δ,by rw[<-f1],λe=>by simp at e⟩)⟩
   · rw[f2,iD,b.rem,bH ω]
   rw[aD,n.out];omega
end
section
variable {w w' w0:World} {b0 g:Nat} {c0:Nat->Nat} {M M':DM} {S S':DS} {s t:IS} {b:aj} {v:Int}
theorem Hb (a b:Nat) (g:a<4611686018427387904) (f:b<4611686018427387904):bits .and .i64 (a:Int) (b:Int)=((a&&& b:Nat):Int):=by
 have e:a&&& b<2 ^ 62:=Nat.and_lt_two_pow _ ω
 have d:(BitVec.ofInt 64 (a:Int)).toNat=a:=by
  rw[gB,ij];exact dW ω
 have c:(BitVec.ofInt 64 (b:Int)).toNat=b:=by
  rw[gB,ij];exact dW ω
 show IntKind.i64.wrap ((BitVec.ofInt 64 (a:Int)&&& BitVec.ofInt 64 (b:Int)).toNat:Int)=_;rw[BitVec.toNat_and,d,c,IntKind.wrap_i64];omega
theorem a1k (V:Nat) (h:V<1000000):bits .and .i64 (V:Int) 31=((V%32:Nat):Int):=by
 have:=Hb V 31 ω ω
 rwa [nat_mask5]at this
theorem bF.Wi (h:bF w0 c0 w b0 g M S):bF w0 c0 (w.setCell ⟨g,11,none⟩ (.slice none 0 0)) b0 g { M with Al:=none,nl:=0,cl:=0,lens:=[] } S:=
 h.FD ((bk.refl w _).setCell (p:= ⟨g,11,none⟩) (.inl (.inl rfl)) _) ((h.cell.bK (i:=11) ω _).congr (fg rfl rfl rfl rfl rfl rfl rfl rfl rfl rfl rfl rfl rfl rfl rfl rfl)) ba.dN (λk a=>by simp [ak]at a)
theorem L4 (h:bF w0 c0 w b0 g M S) (d:Live M S s) (hO:s.Ok) (u:s.st=3):
  Calls Tryz.prog 125 #[.pointer (some ⟨g,0,none⟩)] w (bh w0 c0 b0 g M s):=by
 have m:=d.x;have b:Hid (s.step=s.sizes):=by show _=_;unfold IS.step;rw[aa ω,aa ω,aa ω,af u]
 unfold IS.sizes at b;by_cases q:s.x.length<14
 · have P:Hid (s.step.2=5):=by show _=_;rw[b.out,af q]
   have r:((rb M.B M.a).length:Int)<14:=by rw[m];omega
   clear m q b;go_enter Tryz.func125,Tryz.ntmps125
   go_wp2_with fail;refine(ov h 14 (.inr (.inr r))).mono ?_;rintro e w1 ⟨rfl,c⟩;go_wp2;go_ret;exact bh.lack P.out c d rfl
 have n:=gI hO.bit 14;have r:14<=(rb M.B M.a).length:=by rw[m];omega
 rw[aa q]at b
 have z:Hid (∀w2:World,bF w0 c0 w2 b0 g M S->Calls Tryz.prog 141 #[.pointer (some ⟨g,0,none⟩), .int .i64 14] w2 λe w'=>e= .returned (.tuple #[.int .i64 ((num s.x 14:Nat):Int), .bool true])/\bF w0 c0 w' b0 g { M with a:=M.a+14 } S):=λw2 y=>by
  have:=vN y 14 ω r
  rwa [m]at this
 have O:Hid (rb M.B (M.a+14)=s.x.drop 14):=by show _=_;rw[<-kU,m]
 obtain⟨V,C⟩ :=ν (num s.x 14);rw[C]at n b z;have hA:=a1k V ω;have hD:=a1k (V/32) ω;obtain⟨A,k⟩ :=ν (V%32);obtain⟨D,H⟩ :=ν (V/32);obtain⟨E,j⟩ :=ν (V/32%32);obtain⟨F,G⟩ :=ν (V/1024);obtain⟨f,p⟩ :=ν (A+257);obtain⟨l,I⟩ :=ν (E+1);obtain⟨t,o⟩ :=ν (F+4);rw[j,H]at hD;rw[k]at hA;have uf:(V:Int)/32=(D:Int):=ω;have Q:(V:Int)/1024=(F:Int):=ω;have U:(A:Int)+257=(f:Int):=ω;have T:(E:Int)+1=(l:Int):=ω;have R:(F:Int)+4=(t:Int):=ω;have jW:(0:Int)<=V/\(0:Int)<=D/\(0:Int)<=A/\(A:Int)<32/\(0:Int)<=E/\(E:Int)<32/\(0:Int)<=F/\(F:Int)<16:=ω;rw[k,j,G,p,I,o]at b;clear C n q m r k H j G p I o;have v:((286:Int)<f)\/(¬(286:Int)<f/\(30:Int)<l)\/(¬(286:Int)<f/\¬(30:Int)<l):=ω;rcases v with c | ⟨c,y⟩ | ⟨c,y⟩
 all_goals
  go_enter Tryz.func125,Tryz.ntmps125
  go_wp2_with fail;refine(z.out _ h).mono ?_;rintro e w1 ⟨rfl,c⟩;obtain⟨-, -, -, -, -,j5, -, -,j8,Z,N,L, -⟩ :=c.cells;have Y:=c.cell.frozen' (i:=5) ω;have X:=c.cell.frozen' (i:=8) ω;have W:=c.cell.frozen' (i:=9) ω;have K:=c.cell.frozen' (i:=10) ω;have J:=c.cell.frozen' (i:=11) ω;have h4:=((c.put (i:=8) ω (.int .i64 f) { S with c0:=f } (fg rfl rfl rfl rfl rfl rfl rfl rfl rfl rfl rfl rfl rfl rfl rfl rfl)).put (i:=9) ω (.int .i64 l) { S with c0:=f,c1:=l } (fg rfl rfl rfl rfl rfl rfl rfl rfl rfl rfl rfl rfl rfl rfl rfl rfl)).put (i:=10) ω (.int .i64 t) { S with c0:=f,c1:=l,c2:=t } (fg rfl rfl rfl rfl rfl rfl rfl rfl rfl rfl rfl rfl rfl rfl rfl rfl);have h5:=h4.Wi.put (i:=5) ω (.int .i64 4) { S with c0:=f,c1:=l,c2:=t,st:=4 } (fg rfl rfl rfl rfl rfl rfl rfl rfl rfl rfl rfl rfl rfl rfl rfl rfl)
  go_wp2_with fail
  all_goals
   go_ret
   first
    | exact bh.vD (b.out.trans (af (.inl ω))) δ δ δ rfl h4 d.err rfl
    | exact bh.vD (b.out.trans (af (.inr ω))) δ δ δ rfl h4 d.err rfl
    | exact bh.Uc (b.out.trans (aa ω)) rfl h5 ⟨O.out,rfl,d.last,d.left,rfl,rfl,rfl,rfl,λe=>by simp at e,λe=>by simp at e,λe=>by simp at e,λe=>by simp at e,d.tail,d.rem,d.err⟩ rfl
    | (exfalso;omega)
end
section
variable {w w' w0 w2:World} {b0 g:Nat} {c0:Nat->Nat} {M M':DM} {S S':DS} {s t:IS} {b:aj} {v:Int}
theorem PI (h:bF w0 c0 w b0 g M S) (k:Int) (i:k=16\/k=17\/k=18) (c:(rb M.B M.a).length<IS.rW k):
  Calls Tryz.prog 157 #[.pointer (some ⟨g,0,none⟩), .int .i64 k] w λe w'=>e= .returned (.tuple #[.int .i64 0, .int .i64 0, .int .i64 5])/\bF w0 c0 w' b0 g M S:=by
 rcases i with rfl | rfl | rfl
 · have b:=ov h 2 (.inr (.inr (by simp [IS.rW]at c;omega)));have f:=η b;clear b c;go_enter Tryz.func157,Tryz.ntmps157
   go_wp2_with fail;refine f.out.mono ?_;rintro e w1 ⟨rfl,d⟩
   go_wp2_with fail;go_returns;exact⟨rfl,d⟩
 · have b:=ov h 3 (.inr (.inr (by simp [IS.rW]at c;omega)));have f:=η b;clear b c;go_enter Tryz.func157,Tryz.ntmps157
   go_wp2_with fail;refine f.out.mono ?_;rintro e w1 ⟨rfl,d⟩
   go_wp2_with fail;go_returns;exact⟨rfl,d⟩
 have b:=ov h 7 (.inr (.inr (by simp [IS.rW]at c;omega)));have f:=η b;clear b c;go_enter Tryz.func157,Tryz.ntmps157
 go_wp2_with fail;refine f.out.mono ?_;rintro e w1 ⟨rfl,d⟩
 go_wp2_with fail;go_returns;exact⟨rfl,d⟩
theorem Z3 (h:bF w0 c0 w b0 g M S) (k:Int) (o:k=16\/k=17\/k=18) (u:IS.rW k<=(rb M.B M.a).length) (b:k=16->0<M.nl) (s:M.nl<=1000) (N K:Int) (hN:N=((IS.rB k+num (rb M.B M.a) (IS.rW k):Nat):Int)) (x:K=if k=16 then ix M.lens (M.lens.length-1)else 0):
  Calls Tryz.prog 157 #[.pointer (some ⟨g,0,none⟩), .int .i64 k] w λe w'=>e= .returned (.tuple #[.int .i64 N, .int .i64 K, .int .i64 0])/\bF w0 c0 w' b0 g { M with a:=M.a+IS.rW k } S:=by
 have l:=gI (dO.rb M.B M.a) (IS.rW k);have hp:2 ^ IS.rW k<=2 ^ 7:=bC ω (by rcases o with rfl | rfl | rfl <;> decide);have p:=vN h (IS.rW k) (by rcases o with rfl | rfl | rfl <;> decide) u;obtain⟨V,v⟩ :=ν (num (rb M.B M.a) (IS.rW k));rw[v]at hN p l;have H:(0:Int)<=V/\(V:Int)<128:=ω;have r:=η p;have d:=η hN;have f:=η x;clear v l hp p hN x u;rcases o with rfl | rfl | rfl
 · have A:=b rfl;obtain⟨m,t⟩ :∃m,M.nl=m+1:= ⟨M.nl-1,ω⟩;have G:(0:Int)<=m/\(m:Int)<=1000:=ω;have F:IntKind.i64.wrap (((m+1:Nat):Int)-1)=(m:Int):=by rw[aM _ ω];omega
   have z:IntKind.i64.wrap ((m:Int)+1-1)=(m:Int):=by rw[aM _ ω];omega
   have y:=η t
   have D:Hid (ix M.lens m=K):=by
    show _=_;rw[f.out,af rfl,show M.lens.length-1=m by have:=h.lens.1;omega]
   have n:Hid (Ending.returned (.tuple #[.int .i64 (3+(V:Int)), .int .i64 K, .int .i64 0])=Ending.returned (.tuple #[.int .i64 N, .int .i64 K, .int .i64 0])):=by show _=_;rw[d.out];rfl
   clear t b A d f;go_enter Tryz.func157,Tryz.ntmps157
   go_wp2_with fail;refine r.out.mono ?_;rintro e w1 ⟨rfl,c⟩;obtain⟨-, -, -, -, -, -, -, -, -, -, -,j, -⟩ :=c.cells;obtain⟨q,hA,C,cA⟩ :=c.lens.rd.at_ (i:=m) (by show m<M.nl;have:=y.out;omega);have rS:M.Al=some q:=hA;have E:w1.cell? (q.add m)=some (.int .i64 K):=by rw[<-D.out];exact cA
   have b2X:w1.cell? ⟨g,11,none⟩ =some (.slice (some q) (m+1) M.cl):=by rw[<-y.out,<-rS];exact j
   have I:=η rS;clear j hA rS cA
   go_wp2_with fail;go_region
   all_goals
    go_wp2_with fail;go_returns;exact⟨n.out,c.drew⟩
 · have n:Hid (Ending.returned (.tuple #[.int .i64 (3+(V:Int)), .int .i64 0, .int .i64 0])=Ending.returned (.tuple #[.int .i64 N, .int .i64 K, .int .i64 0])):=by show _=_;rw[d.out,f.out];rfl
   clear b s d f;go_enter Tryz.func157,Tryz.ntmps157
   go_wp2_with fail;refine r.out.mono ?_;rintro e w1 ⟨rfl,c⟩
   go_wp2_with fail;go_returns;exact⟨n.out,c⟩
 have n:Hid (Ending.returned (.tuple #[.int .i64 (11+(V:Int)), .int .i64 0, .int .i64 0])=Ending.returned (.tuple #[.int .i64 N, .int .i64 K, .int .i64 0])):=by show _=_;rw[d.out,f.out];rfl
 clear b s d f;go_enter Tryz.func157,Tryz.ntmps157
 go_wp2_with fail;refine r.out.mono ?_;rintro e w1 ⟨rfl,c⟩
 go_wp2_with fail;go_returns;exact⟨n.out,c⟩
end
section
variable {w w' w0 w2:World} {b0 g:Nat} {c c0:Nat->Nat} {M M':DM} {S S':DS} {s t t':IS} {b:aj} {v:Int}
structure pO (F:IS×Int) (a:aj) (M:DM) (S:DS) (s:IS):Prop where
 live:Live M S s
 ok:s.Ok
 fin:s.fin=F
 all:s.all=a
 rem:s.rem<=4611686018427387904
structure rE (F:IS×Int) (a:aj) (M:DM) (S:DS):Prop where
 err:S.err=F.2
 ne:F.2≠0/\F.2≠5
 all:F.1.all=a
 at8:F.2=8->Live M { S with err:=0 } F.1/\F.1.Ok
def Nc (w:World) (m:Nat) (e:Ending) (w':World):Prop:=
 ∃g c M S,e= .returned (.pointer (some ⟨g,0,none⟩))/\jg w' w.heap.size g c M S/\Below w.heap.size w w'/\M.B=[]/\M.a=0/\M.out=[]/\Live M S (start [] m)
theorem Live.new (gi gw m:Nat):Live ⟨gi,none,0,0,[],0,gw,none,0,0,[],none,0,0,[],none,0,0,[],none,none,none,none,none,none⟩ ⟨m,0,0,false,0,0,0,0,0⟩ (start [] m):=
 ⟨rfl,rfl,rfl,rfl,rfl,rfl,rfl,rfl,λe=>by simp [start]at e,λe=>by simp [start]at e,λe=>by simp [start]at e,λe=>by simp [start]at e,vB.dN,rfl,rfl⟩
theorem TI (w:World) (most:Int) (m:Nat) (s:(m:Int)=max most 0):
  Calls Tryz.prog 77 #[.int .i64 most] w (Nc w m):=by
 have y:Hid (∀gi gw w1 w2 (v:Int),v=(m:Int)->qu w1 w.heap.size gi none 0 0 [] 0->Below w.heap.size w w1->zn w2 w1.heap.size gw none 0 0 []->Below w1.heap.size w1 w2->
   Nc w m (.returned (.pointer (some ⟨w2.heap.size,0,none⟩))) (w2.alloc (.cells #[.pointer (some ⟨gi,0,none⟩), .pointer (some ⟨gw,0,none⟩), .int .i64 v, .slice none 0 0, .int .i64 0, .int .i64 0, .bool false, .int .i64 0, .int .i64 0, .int .i64 0, .int .i64 0, .slice none 0 0, .pointer none, .pointer none, .pointer none, .int .i64 0] 97))):=λgi gw w1 w2 v hv c g b d=>by
  subst hv;have x:=c.cell.lt;have u:=c.lo;have A:=b.cell.lt;have t:=b.lo;have h:=g.size;have o:=d.size;have i:Below w2.heap.size w2 (w2.alloc (.cells #[.pointer (some ⟨gi,0,none⟩), .pointer (some ⟨gw,0,none⟩), .int .i64 m, .slice none 0 0, .int .i64 0, .int .i64 0, .bool false, .int .i64 0, .int .i64 0, .int .i64 0, .int .i64 0, .slice none 0 0, .pointer none, .pointer none, .pointer none, .int .i64 0] 97)):=(ax _ w2).alloc (ai _) _;refine⟨w2.heap.size,λk=>if k=w2.heap.size then 1 else if k=gi then 2 else if k=gw then 3 else 0, ⟨gi,none,0,0,[],0,gw,none,0,0,[],none,0,0,[],none,0,0,[],none,none,none,none,none,none⟩, ⟨m,0,0,false,0,0,0,0,0⟩,rfl, ?_,(g.trans (d.mono h)).trans (i.mono (aw h o)),rfl,rfl,rfl,Live.new gi gw m⟩;have p:=(c.keeps d).keeps i;have f:=b.keeps i;refine⟨Ar.new w2 _ _ rfl (fg rfl rfl rfl rfl rfl rfl rfl rfl rfl rfl rfl rfl rfl rfl rfl rfl),af rfl,p, ?_, ⟨f.cell,by show w.heap.size<=gw;omega,f.own.more h,f.apart,f.len⟩, ?_,ba.dN,λk a=>by simp [ak]at a,ba.dN,λk a=>by simp [ak]at a,λl j=>by simp at j,λl j=>by simp at j,λl j=>by simp at j, ?_,σ⟩
  · intro k a;rcases a with rfl | a
    · show(if _ then _ else _)=2;rw[aa ω,af rfl]
    simp [ak]at a
  · intro k a;rcases a with rfl | a
    · show(if _ then _ else _)=3;rw[aa ω,aa ω,af rfl]
    simp [ak]at a
  intro k a;rw[show(w2.alloc (.cells #[.pointer (some ⟨gi,0,none⟩), .pointer (some ⟨gw,0,none⟩), .int .i64 m, .slice none 0 0, .int .i64 0, .int .i64 0, .bool false, .int .i64 0, .int .i64 0, .int .i64 0, .int .i64 0, .slice none 0 0, .pointer none, .pointer none, .pointer none, .int .i64 0] 97)).heap.size=w2.heap.size+1 by simp];split at a
  · omega
  split at a
  · omega
  split at a
  · omega
  exact absurd rfl a
 have q:(most<0/\m=0)\/(0<most/\(m:Int)=most)\/(most=0/\m=0):=ω;clear s;rcases q with ⟨r,n⟩ | ⟨r,n⟩ | ⟨r,n⟩
 all_goals
  have z:=η n;clear n
  try subst r
  go_enter Tryz.func77,Tryz.ntmps77
  go_wp2_with fail;refine(MC _).mono ?_;rintro e w1 ⟨gi,rfl,c,g⟩
  go_wp2_with fail;refine(MX _).mono ?_;rintro e w2 ⟨gw,rfl,b,d⟩
  go_wp2_with fail;go_ret;exact y.out gi gw w1 w2 _ (τ z.out) c g b d
def OX (w0:World) (c0:Nat->Nat) (b0 g:Nat) (M:DM) (S:DS) (b:aj) (e:Ending) (w':World):Prop:=
 ∃A' n' c',e= .returned (.tuple #[])/\bF w0 c0 w' b0 g { M with Ai:=A',ni:=n',ci:=c',B:=M.B.drop (M.a/8)++b,a:=M.a%8 } S
theorem PB (h:bF w0 c0 w b0 g M S) (Bd m d:Nat) (C:ay) (b:aj) (l:bT .u8 w Bd C m b) (o:Bd<=w.heap.size) (i:∀x∈b,0<=x/\x<256) (j:M.B.length+b.length<=100000000000):
  Calls Tryz.prog 34 #[.pointer (some ⟨g,0,none⟩), .slice C m d] w (OX w0 c0 b0 g M S b):=by
 obtain⟨q, -⟩ :=h.cells;go_enter Tryz.func34,Tryz.ntmps34
 go_wp2_with fail;refine(Jm _ _ _ _ _ _ _ _ _ _ _ _ _ h.mC l o i ω).mono ?_;rintro e w1 ⟨A',n',c',rfl,c,f,n⟩
 have p:=h.reader (f.more λk a=> .inl a) c (λk a=>by
  rcases a with a | a
  · exact .inl (.inl a)
  exact .inr (n k a)) (by rw[ag,az];omega)
 go_wp2_with fail;go_end0;exact⟨A',n',c',rfl,p⟩
end
end Go.Proofs.YtdhmnlpfhfmpfaaGreat
