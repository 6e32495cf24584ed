/-
  part
-/
import Derived.Test.YtdhmnlpfhfmpfaaGreatPk17
import Derived.Handy
namespace Go.Proofs.YtdhmnlpfhfmpfaaGreat
open Go.RowKit
set_option linter.unusedVariables false
set_option maxRecDepth 100000
set_option maxHeartbeats 4000000
section
variable {w w' w0:World} {b0 g:Nat} {c0:Nat->Nat} {M:DM} {S:DS}
theorem bF.cells (h:bF w0 c0 w b0 g M S):w.cell? ⟨g,0,none⟩ =some (.pointer (some ⟨M.gi,0,none⟩))/\w.cell? ⟨g,1,none⟩ =some (.pointer (some ⟨M.gw,0,none⟩))/\w.cell? ⟨g,2,none⟩ =some (.int .i64 S.most)/\w.cell? ⟨g,3,none⟩ =some (.slice M.Ao M.no M.co)/\
  w.cell? ⟨g,4,none⟩ =some (.int .i64 S.err)/\w.cell? ⟨g,5,none⟩ =some (.int .i64 S.st)/\w.cell? ⟨g,6,none⟩ =some (.bool S.last)/\w.cell? ⟨g,7,none⟩ =some (.int .i64 S.left)/\w.cell? ⟨g,8,none⟩ =some (.int .i64 S.c0)/\w.cell? ⟨g,9,none⟩ =some (.int .i64 S.c1)/\
  w.cell? ⟨g,10,none⟩ =some (.int .i64 S.c2)/\w.cell? ⟨g,11,none⟩ =some (.slice M.Al M.nl M.cl)/\w.cell? ⟨g,12,none⟩ =some (.pointer M.hp)/\w.cell? ⟨g,13,none⟩ =some (.pointer M.lp)/\w.cell? ⟨g,14,none⟩ =some (.pointer M.dp)/\w.cell? ⟨g,15,none⟩ =some (.int .i64 S.len):=by
 have k:=h.cell
 exact⟨k.cell (i:=0) ω,k.cell (i:=1) ω,k.cell (i:=2) ω,k.cell (i:=3) ω,k.cell (i:=4) ω,k.cell (i:=5) ω,k.cell (i:=6) ω,k.cell (i:=7) ω,
  k.cell (i:=8) ω,k.cell (i:=9) ω,k.cell (i:=10) ω,k.cell (i:=11) ω,k.cell (i:=12) ω,k.cell (i:=13) ω,k.cell (i:=14) ω,k.cell (i:=15) ω⟩
def mW (w0:World) (c0:Nat->Nat) (b0 g:Nat) (M:DM) (S:DS) (b:aj) (e:Ending) (w':World):Prop:=
 ∃A' n' c',e= .returned (.int .i64 (if S.most<b.length then 6 else 0))/\bF w0 c0 w' b0 g { M with Ao:=A',no:=n',co:=c',out:=M.out++b.take S.most } { S with most:=S.most-b.length }
theorem xr (h:bF w0 c0 w b0 g M S) (Bd m d:Nat) (C:ay) (b:aj) (hr:bT .u8 w Bd C m b) (hB:Bd<=w.heap.size) (ab:m<=d) (hm:m<=100000) (kO:M.out.length<=10000000000) (jI:(S.most:Int)<=4611686018427387904):
  Calls Tryz.prog 145 #[.pointer (some ⟨g,0,none⟩), .slice C m d] w (mW w0 c0 b0 g M S b):=by
 obtain⟨-, -,k2,k3, -⟩ :=h.cells;have z2:=h.cell.frozen' (i:=2) ω;have z3:=h.cell.frozen' (i:=3) ω;have oX:=h.cell.lt;have c:=h.out;have o:=h.apart.1;have A:=h.lo;obtain⟨T,hi,J,u,I⟩ :=aL jY;obtain⟨l,r⟩ :=ν (S.most);rw[r]at jI k2;have z:=hr.1;obtain⟨k,hk⟩ :∃k,k=min m l:= ⟨_,rfl⟩
 have vR:Hid (b.take l=b.take k):=by
  show _=_;by_cases h1:m<=l
  · rw[aC ω,aC ω]
  rw[show k=l by omega]
 have oJ:=dQ (P:=Tryz.prog) 22 5 Tryz.underlying22 hi u C m d (j:=k) ω;have x:=hr.pre (j:=k) ω;have U:=c.1;have y:M.no+k<=1000000000000:=ω;have Hi:=η hi;have i7:=η J;have gp:=η u;have Z:=η I;have B:=η r;have ac:=η z
 have W:Hid (∀A2 G c2 w2 (v:Int),v=((l-m:Nat):Int)->G=M.no+k->ba .u8 w2 b0 5 A2 G c2 (M.out++b.take k)->w.drew.grownBy w2 (ak M.Ao)->(ak A2=ak M.Ao\/ak A2=some w.heap.size)->bF w0 c0 ((w2.setCell ⟨g,3,none⟩ (.slice A2 G c2)).setCell ⟨g,2,none⟩ (.int .i64 v)) b0 g { M with Ao:=A2,no:=G,co:=c2,out:=M.out++b.take S.most } { S with most:=S.most-b.length }):=λA2 G c2 w2 v hv oA jB L kK=>by
  subst hv;have gu:=(h.cell.drew.grown L (λe=>o e.symm))
  have rS:ak A2≠some g:=by
   rcases kK with e | e
   · rw[e];exact o
   rw[e];intro e2;injection e2 with e2;omega
  rw[r,vR.out,<-z];refine h.outs ?_ ?_ ?_ ?_
  · exact(((((bk.refl w _).drew).grown L (λq D=> .inl (.inr D))).setCell (p:= ⟨g,3,none⟩) (.inl (.inl rfl)) _).setCell (p:= ⟨g,2,none⟩) (.inl (.inl rfl)) _)
  · exact((gu.bK (i:=3) ω _).bK (i:=2) ω _).congr (fg rfl rfl rfl rfl rfl rfl rfl rfl rfl rfl rfl rfl rfl rfl rfl rfl)
  · exact(jB.far (p:= ⟨g,3,none⟩) rS _).far (p:= ⟨g,2,none⟩) rS _
  intro q D;rcases kK with e | e
  · exact .inl (e▸D)
  rw[e]at D;injection D with D;exact .inr ω
 have a:Hid ((m:Int)<=l->mW w0 c0 b0 g M S b=λe w'=>∃A' n' c',e= .returned (.int .i64 0)/\bF w0 c0 w' b0 g { M with Ao:=A',no:=n',co:=c',out:=M.out++b.take S.most } { S with most:=S.most-b.length }):=λV=>by
  unfold mW;rw[aa ω]
 have R:Hid ((l:Int)<m->mW w0 c0 b0 g M S b=λe w'=>∃A' n' c',e= .returned (.int .i64 6)/\bF w0 c0 w' b0 g { M with Ao:=A',no:=n',co:=c',out:=M.out++b.take S.most } { S with most:=S.most-b.length }):=λV=>by
  unfold mW;rw[af ω]
 have X:((m:Int)<(l:Int)/\k=m)\/((l:Int)<(m:Int)/\k=l)\/(l=m/\k=m):=ω;have Fj:(0:Int)<=m/\(m:Int)<=100000/\(0:Int)<=l:=ω;have Y:=h.cell;clear hi J u I r z hk U vR h;rcases X with ⟨h1,rfl⟩ | ⟨h1,rfl⟩ | ⟨rfl,rfl⟩
 · rw[a.out ω];clear a R;go_enter Tryz.func145,Tryz.ntmps145
   go_wp2_with fail
   go_region_law
    ((refine eN .u8 b0 5 T 1 rfl (.tmp 17) (.tmp 20) _ rfl Tryz.underlying22 Hi.out i7.out gp.out Z.out rfl c rfl x y ω A ?_)
     intro Q O s K t N;have f:=Y.drew.grown t (λe=>o e.symm);have n:s.cell? ⟨g,2,none⟩ =some (.int .i64 S.most):=f.cell (i:=2) ω;rw[B.out]at n;have H:s.cell? ⟨g,3,none⟩ =some (.slice M.Ao M.no M.co):=f.cell (i:=3) ω;have F:=f.frozen' (i:=2) ω;have E:=f.frozen' (i:=3) ω)
   all_goals
    go_wp2;go_ret;exact⟨Q,_,O,rfl,W.out _ _ _ _ _ ω rfl K t N⟩
 · rw[R.out ω];clear a R;go_enter Tryz.func145,Tryz.ntmps145
   go_wp2_with fail
   go_region_law
    ((refine eN .u8 b0 5 T 1 rfl (.tmp 17) (.tmp 20) _ rfl Tryz.underlying22 Hi.out i7.out gp.out Z.out rfl c rfl x y ω A ?_)
     intro Q O s K t N;have f:=Y.drew.grown t (λe=>o e.symm);have n:s.cell? ⟨g,2,none⟩ =some (.int .i64 S.most):=f.cell (i:=2) ω;rw[B.out]at n;have H:s.cell? ⟨g,3,none⟩ =some (.slice M.Ao M.no M.co):=f.cell (i:=3) ω;have F:=f.frozen' (i:=2) ω;have E:=f.frozen' (i:=3) ω)
   all_goals
    go_wp2;go_ret;exact⟨Q,_,O,rfl,W.out _ _ _ _ _ ω rfl K t N⟩
 rw[a.out ω];clear a R;go_enter Tryz.func145,Tryz.ntmps145
 go_wp2_with fail
 go_region_law
  ((refine eN .u8 b0 5 T 1 rfl (.tmp 17) (.tmp 20) _ rfl Tryz.underlying22 Hi.out i7.out gp.out Z.out rfl c rfl x y ω A ?_)
   intro Q O s K t N;have f:=Y.drew.grown t (λe=>o e.symm);have n:s.cell? ⟨g,2,none⟩ =some (.int .i64 S.most):=f.cell (i:=2) ω;rw[B.out]at n;have H:s.cell? ⟨g,3,none⟩ =some (.slice M.Ao M.no M.co):=f.cell (i:=3) ω;have F:=f.frozen' (i:=2) ω;have E:=f.frozen' (i:=3) ω)
 all_goals
  go_wp2;go_ret;exact⟨Q,_,O,rfl,W.out _ _ _ _ _ ω rfl K t N⟩
theorem FR {B:aj} {a:Nat} (h:a<=8*B.length):rb B ((a+7)/8*8)=lN (rb B a):=by
 unfold lN;rw[kU,iw];congr 1;omega
theorem ov (h:bF w0 c0 w b0 g M S) (N:Int) (hN:N<0\/32<N\/((rb M.B M.a).length:Int)<N):
  Calls Tryz.prog 141 #[.pointer (some ⟨g,0,none⟩), .int .i64 N] w λe w'=>e= .returned (.tuple #[.int .i64 0, .bool false])/\bF w0 c0 w' b0 g M S:=by
 obtain⟨b, -⟩ :=h.cells;have c:=h.big;go_enter Tryz.func141,Tryz.ntmps141
 go_wp2_with fail;refine(NJ _ _ _ _ _ _ _ _ h.mC ω N hN).mono ?_;rintro e w1 ⟨rfl,q,rfl⟩;go_wp2
 go_ret2
 exact⟨rfl,h.drewN q⟩
theorem vN (h:bF w0 c0 w b0 g M S) (N:Nat) (hN:(N:Int)<=31) (i:N<=(rb M.B M.a).length):
  Calls Tryz.prog 141 #[.pointer (some ⟨g,0,none⟩), .int .i64 N] w λe w'=>e= .returned (.tuple #[.int .i64 ((num (rb M.B M.a) N:Nat):Int), .bool true])/\bF w0 c0 w' b0 g { M with a:=M.a+N } S:=by
 obtain⟨l, -⟩ :=h.cells;have m:=h.big;have c:=qW (dO.rb M.B M.a) N;have b:=gI (dO.rb M.B M.a) N;have hp:2 ^ N<=2 ^ 31:=bC ω ω;obtain⟨V,d⟩ :=ν (num (rb M.B M.a) N);rw[d]at c b⊢;have n:(0:Int)<=V/\(V:Int)<2147483648:=ω;have k:=η c;clear c b hp d;go_enter Tryz.func141,Tryz.ntmps141
 go_wp2_with fail;refine(EW _ _ _ _ _ _ _ _ h.mC ω N ω i).mono ?_;rintro e w1 ⟨rfl,f,j⟩;rw[<-k.out];go_wp2
 go_ret2
 exact⟨rfl,h.moved j f⟩
theorem De (h:bF w0 c0 w b0 g M S):
  Calls Tryz.prog 143 #[.pointer (some ⟨g,0,none⟩)] w λe w'=>e= .returned (.tuple #[])/\bF w0 c0 w' b0 g (if S.last then { M with a:=(M.a+7)/8*8 } else M) { S with st:=if S.last then 8 else 0 }:=by
 obtain⟨q, -, -, -, -,p,f, -⟩ :=h.cells;have n:=h.cell.frozen' (i:=5) ω;have s:=h.big;have b:=h.put (i:=5) ω (.int .i64 0) { S with st:=0 } (fg rfl rfl rfl rfl rfl rfl rfl rfl rfl rfl rfl rfl rfl rfl rfl rfl);have l:=h.apart.2.2.1;cases c:S.last with
 | false=>
   rw[c]at f;go_enter Tryz.func143,Tryz.ntmps143
   go_wp2_with fail;go_end0;rw[c]at b;exact⟨rfl,b⟩
 | true=>
   rw[c]at f;obtain⟨r, -⟩ :=b.cells;clear h;go_enter Tryz.func143,Tryz.ntmps143
   go_wp2_with fail;refine(jo _ _ _ _ _ _ _ _ b.mC ω).mono ?_;rintro e w1 ⟨rfl,k,m⟩;have d:=b.moved m k;have o:=d.cell.frozen' (i:=5) ω;obtain⟨-, -, -, -, -,q5, -⟩ :=d.cells;have j:=d.put (i:=5) ω (.int .i64 8) { S with st:=8 } (fg rfl rfl rfl rfl rfl rfl rfl rfl rfl rfl rfl rfl rfl rfl rfl rfl)
   go_wp2_with fail;go_end0;rw[c]at j;exact⟨rfl,j⟩
end
end Go.Proofs.YtdhmnlpfhfmpfaaGreat
