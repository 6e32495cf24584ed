/-
  part
-/
import Derived.Test.YtgiimmkmjpbecaaGreatPk17
import Derived.Handy
namespace Go.Proofs.YtgiimmkmjpbecaaGreat
open Go.RowKit
set_option linter.unusedVariables false
set_option maxRecDepth 100000
set_option maxHeartbeats 4000000
section
variable {w w' w0:World} {b0 g:Nat} {c0:Nat->Nat} {M:DM} {S:DS}
theorem bA.cells (h:bA w0 c0 w b0 g M S):w.cell? ⟨g,0,none⟩ =some (.pointer (some ⟨M.gi,0,none⟩))/\w.cell? ⟨g,1,none⟩ =some (.pointer (some ⟨M.gw,0,none⟩))/\w.cell? ⟨g,2,none⟩ =some (.int .i64 S.most)/\w.cell? ⟨g,3,none⟩ =some (.slice M.Ao M.no M.co)/\
  w.cell? ⟨g,4,none⟩ =some (.int .i64 S.err)/\w.cell? ⟨g,5,none⟩ =some (.int .i64 S.st)/\w.cell? ⟨g,6,none⟩ =some (.bool S.last)/\w.cell? ⟨g,7,none⟩ =some (.int .i64 S.left)/\w.cell? ⟨g,8,none⟩ =some (.int .i64 S.c0)/\w.cell? ⟨g,9,none⟩ =some (.int .i64 S.c1)/\
  w.cell? ⟨g,10,none⟩ =some (.int .i64 S.c2)/\w.cell? ⟨g,11,none⟩ =some (.slice M.Al M.nl M.cl)/\w.cell? ⟨g,12,none⟩ =some (.pointer M.hp)/\w.cell? ⟨g,13,none⟩ =some (.pointer M.lp)/\w.cell? ⟨g,14,none⟩ =some (.pointer M.dp)/\w.cell? ⟨g,15,none⟩ =some (.int .i64 S.len):=by
 have k:=h.cell
 exact⟨k.az 0,k.az 1,k.az 2,k.az 3,k.az 4,k.az 5,k.az 6,k.az 7,
  k.az 8,k.az 9,k.az 10,k.az 11,k.az 12,k.az 13,k.az 14,k.az 15⟩
def mO (w0:World) (c0:Nat->Nat) (b0 g:Nat) (M:DM) (S:DS) (b:ag) (e:Ending) (w':World):Prop:=
 ∃A' n' c',e= .returned (.int .i64 (if S.most<b.length then 6 else 0))/\bA w0 c0 w' b0 g { M with Ao:=A',no:=n',co:=c',out:=M.out++b.take S.most } { S with most:=S.most-b.length }
theorem wW (h:bA w0 c0 w b0 g M S) (Bd m d:Nat) (C:ax) (b:ag) (hr:bT .u8 w Bd C m b) (hB:Bd<=w.heap.size) (ab:m<=d) (hm:m<=100000) (mg:M.out.length<=10000000000) (jL:(S.most:Int)<=4611686018427387904):
  Calls Tryz.prog 205 #[.pointer (some ⟨g,0,none⟩), .slice C m d] w (mO w0 c0 b0 g M S b):=by
 obtain⟨-, -,k2,k3, -⟩ :=h.cells;have z2:=h.cell.aH 2;have z3:=h.cell.aH 3;have og:=h.cell.lt;have c:=h.out;have n:=h.apart.1;have y:=h.lo;obtain⟨Q,hi,H,t,G⟩ :=aL gG;obtain⟨i,o⟩ :=ν (S.most);rw[o]at jL k2;have x:=hr.1;obtain⟨k,hk⟩ :∃k,k=min m i:= ⟨_,rfl⟩
 have DN:Hid (b.take i=b.take k):=by
  show _=_;by_cases h1:m<=i
  · rw[aA ω,aA ω]
  rw[show k=i by omega]
 have oh:=dR (P:=Tryz.prog) 22 5 Tryz.underlying22 hi t C m d (j:=k) ω;have R:=hr.pre (j:=k) ω;have T:=c.1;have u:M.no+k<=1000000000000:=ω;have Hi:=η hi;have gL:=η H;have Z:=η t;have Y:=η G;have z:=η o;have ac:=η x
 have V:Hid (∀A2 E c2 w2 (v:Int),v=((i-m:Nat):Int)->E=M.no+k->aT .u8 w2 b0 5 A2 E c2 (M.out++b.take k)->w.drew.grownBy w2 (ai M.Ao)->(ai A2=ai M.Ao\/ai A2=some w.heap.size)->bA w0 c0 ((w2.setCell ⟨g,3,none⟩ (.slice A2 E c2)).setCell ⟨g,2,none⟩ (.int .i64 v)) b0 g { M with Ao:=A2,no:=E,co:=c2,out:=M.out++b.take S.most } { S with most:=S.most-b.length }):=λA2 E c2 w2 v hv ow ib J iq=>by
  subst hv;have eT:=(h.cell.drew.grown J (λe=>n e.symm))
  have pY:ai A2≠some g:=by
   rcases iq with e | e
   · rw[e];exact n
   rw[e];intro e2;injection e2 with e2;omega
  rw[o,DN.out,<-x];refine h.outs ?_ ?_ ?_ ?_
  · exact(((((bb.refl w _).drew).grown J (λq A=> .inl (.inr A))).setCell (p:= ⟨g,3,none⟩) (.inl (.inl rfl)) _).setCell (p:= ⟨g,2,none⟩) (.inl (.inl rfl)) _)
  · exact((eT.cE 3 _).cE 2 _).congr (fc rfl rfl rfl rfl rfl rfl rfl rfl rfl rfl rfl rfl rfl rfl rfl rfl)
  · exact(ib.far (p:= ⟨g,3,none⟩) pY _).far (p:= ⟨g,2,none⟩) pY _
  intro q A;rcases iq with e | e
  · exact .inl (e▸A)
  rw[e]at A;injection A with A;exact .inr ω
 have a:Hid ((m:Int)<=i->mO w0 c0 b0 g M S b=λe w'=>∃A' n' c',e= .returned (.int .i64 0)/\bA w0 c0 w' b0 g { M with Ao:=A',no:=n',co:=c',out:=M.out++b.take S.most } { S with most:=S.most-b.length }):=λU=>by
  unfold mO;rw[a8 ω]
 have O:Hid ((i:Int)<m->mO w0 c0 b0 g M S b=λe w'=>∃A' n' c',e= .returned (.int .i64 6)/\bA w0 c0 w' b0 g { M with Ao:=A',no:=n',co:=c',out:=M.out++b.take S.most } { S with most:=S.most-b.length }):=λU=>by
  unfold mO;rw[aa ω]
 have W:((m:Int)<(i:Int)/\k=m)\/((i:Int)<(m:Int)/\k=i)\/(i=m/\k=m):=ω;have J7:(0:Int)<=m/\(m:Int)<=100000/\(0:Int)<=i:=ω;have X:=h.cell;clear hi H t G o x hk T DN h;rcases W with ⟨h1,rfl⟩ | ⟨h1,rfl⟩ | ⟨rfl,rfl⟩
 · rw[a.out ω];clear a O
   go_in
   go_wp2_with fail
   go_region_law
    ((refine eK .u8 b0 5 Q 1 rfl (.tmp 17) (.tmp 20) _ rfl Tryz.underlying22 Hi.out gL.out Z.out Y.out rfl c rfl R u ω y ?_)
     intro N L r I s K;have f:=X.drew.grown s (λe=>n e.symm);have l:r.cell? ⟨g,2,none⟩ =some (.int .i64 S.most):=f.az 2;rw[z.out]at l;have F:r.cell? ⟨g,3,none⟩ =some (.slice M.Ao M.no M.co):=f.az 3;have D:=f.aH 2;have B:=f.aH 3)
   all_goals
    go_wp2;go_ret;exact⟨N,_,L,rfl,V.out _ _ _ _ _ ω rfl I s K⟩
 · rw[O.out ω];clear a O
   go_in
   go_wp2_with fail
   go_region_law
    ((refine eK .u8 b0 5 Q 1 rfl (.tmp 17) (.tmp 20) _ rfl Tryz.underlying22 Hi.out gL.out Z.out Y.out rfl c rfl R u ω y ?_)
     intro N L r I s K;have f:=X.drew.grown s (λe=>n e.symm);have l:r.cell? ⟨g,2,none⟩ =some (.int .i64 S.most):=f.az 2;rw[z.out]at l;have F:r.cell? ⟨g,3,none⟩ =some (.slice M.Ao M.no M.co):=f.az 3;have D:=f.aH 2;have B:=f.aH 3)
   all_goals
    go_wp2;go_ret;exact⟨N,_,L,rfl,V.out _ _ _ _ _ ω rfl I s K⟩
 rw[a.out ω];clear a O
 go_in
 go_wp2_with fail
 go_region_law
  ((refine eK .u8 b0 5 Q 1 rfl (.tmp 17) (.tmp 20) _ rfl Tryz.underlying22 Hi.out gL.out Z.out Y.out rfl c rfl R u ω y ?_)
   intro N L r I s K;have f:=X.drew.grown s (λe=>n e.symm);have l:r.cell? ⟨g,2,none⟩ =some (.int .i64 S.most):=f.az 2;rw[z.out]at l;have F:r.cell? ⟨g,3,none⟩ =some (.slice M.Ao M.no M.co):=f.az 3;have D:=f.aH 2;have B:=f.aH 3)
 all_goals
  go_wp2;go_ret;exact⟨N,_,L,rfl,V.out _ _ _ _ _ ω rfl I s K⟩
theorem Gg {B:ag} {a:Nat} (h:a<=8*B.length):rb B ((a+7)/8*8)=ly (rb B a):=by
 unfold ly;rw[kJ,gW];congr 1;omega
theorem o9 (h:bA w0 c0 w b0 g M S) (N:Int) (hN:N<0\/32<N\/((rb M.B M.a).length:Int)<N):
  Calls Tryz.prog 201 #[.pointer (some ⟨g,0,none⟩), .int .i64 N] w λe w'=>e= .returned (.tuple #[.int .i64 0, .bool false])/\bA w0 c0 w' b0 g M S:=by
 obtain⟨b, -⟩ :=h.cells;have c:=h.big
 go_in
 go_wp2_with fail;refine(OH _ _ _ _ _ _ _ _ h.lX ω N hN).mono ?_;rintro e w1 ⟨rfl,q,rfl⟩;go_wp2
 go_ret2
 exact⟨rfl,h.drewN q⟩
theorem vp (h:bA w0 c0 w b0 g M S) (N:Nat) (hN:(N:Int)<=31) (i:N<=(rb M.B M.a).length):
  Calls Tryz.prog 201 #[.pointer (some ⟨g,0,none⟩), .int .i64 N] w λe w'=>e= .returned (.tuple #[.int .i64 ((num (rb M.B M.a) N:Nat):Int), .bool true])/\bA w0 c0 w' b0 g { M with a:=M.a+N } S:=by
 obtain⟨l, -⟩ :=h.cells;have m:=h.big;have c:=qI (dH.rb M.B M.a) N;have b:=gF (dH.rb M.B M.a) N;have hp:2 ^ N<=2 ^ 31:=bw ω ω;obtain⟨V,d⟩ :=ν (num (rb M.B M.a) N);rw[d]at c b⊢;have n:(0:Int)<=V/\(V:Int)<2147483648:=ω;have k:=η c;clear c b hp d
 go_in
 go_wp2_with fail;refine(Fq _ _ _ _ _ _ _ _ h.lX ω N ω i).mono ?_;rintro e w1 ⟨rfl,f,j⟩;rw[<-k.out];go_wp2
 go_ret2
 exact⟨rfl,h.moved j f⟩
theorem Dx (h:bA w0 c0 w b0 g M S):
  Calls Tryz.prog 203 #[.pointer (some ⟨g,0,none⟩)] w λe w'=>e= .returned (.tuple #[])/\bA w0 c0 w' b0 g (if S.last then { M with a:=(M.a+7)/8*8 } else M) { S with st:=if S.last then 8 else 0 }:=by
 obtain⟨q, -, -, -, -,p,f, -⟩ :=h.cells;have n:=h.cell.aH 5;have s:=h.big;have b:=h.put (i:=5) ω (.int .i64 0) { S with st:=0 } (fc rfl rfl rfl rfl rfl rfl rfl rfl rfl rfl rfl rfl rfl rfl rfl rfl);have l:=h.apart.2.2.1;cases c:S.last with
 | false=>
   rw[c]at f
   go_in
   go_wp2_with fail;go_end0;rw[c]at b;exact⟨rfl,b⟩
 | true=>
   rw[c]at f;obtain⟨r, -⟩ :=b.cells;clear h
   go_in
   go_wp2_with fail;refine(jt _ _ _ _ _ _ _ _ b.lX ω).mono ?_;rintro e w1 ⟨rfl,k,m⟩;have d:=b.moved m k;have o:=d.cell.aH 5;obtain⟨-, -, -, -, -,q5, -⟩ :=d.cells;have j:=d.put (i:=5) ω (.int .i64 8) { S with st:=8 } (fc rfl rfl rfl rfl rfl rfl rfl rfl rfl rfl rfl rfl rfl rfl rfl rfl)
   go_wp2_with fail;go_end0;rw[c]at j;exact⟨rfl,j⟩
end
end Go.Proofs.YtgiimmkmjpbecaaGreat
