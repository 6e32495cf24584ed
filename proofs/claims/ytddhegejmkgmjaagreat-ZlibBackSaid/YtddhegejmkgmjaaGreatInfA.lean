/-
  part
-/
import Derived.Test.YtddhegejmkgmjaaGreatPk16
import Derived.Handy
namespace Go.Proofs.YtddhegejmkgmjaaGreat
open Go.RowKit
set_option linter.unusedVariables false
set_option maxRecDepth 100000
set_option maxHeartbeats 4000000
section
variable {w w' w0:World} {b0 g:Nat} {c0:Nat->Nat} {M:DM} {S:DS}
theorem av.cells (h:av w0 c0 w b0 g M S):w.cell? ⟨g,0,none⟩ =some (.pointer (some ⟨M.gi,0,none⟩))/\w.cell? ⟨g,1,none⟩ =some (.pointer (some ⟨M.gw,0,none⟩))/\w.cell? ⟨g,2,none⟩ =some (.int .i64 S.most)/\w.cell? ⟨g,3,none⟩ =some (.slice M.Ao M.no M.co)/\
  w.cell? ⟨g,4,none⟩ =some (.int .i64 S.err)/\w.cell? ⟨g,5,none⟩ =some (.int .i64 S.st)/\w.cell? ⟨g,6,none⟩ =some (.bool S.last)/\w.cell? ⟨g,7,none⟩ =some (.int .i64 S.left)/\w.cell? ⟨g,8,none⟩ =some (.int .i64 S.c0)/\w.cell? ⟨g,9,none⟩ =some (.int .i64 S.c1)/\
  w.cell? ⟨g,10,none⟩ =some (.int .i64 S.c2)/\w.cell? ⟨g,11,none⟩ =some (.slice M.Al M.nl M.cl)/\w.cell? ⟨g,12,none⟩ =some (.pointer M.hp)/\w.cell? ⟨g,13,none⟩ =some (.pointer M.lp)/\w.cell? ⟨g,14,none⟩ =some (.pointer M.dp)/\w.cell? ⟨g,15,none⟩ =some (.int .i64 S.len):=by
 have k:=h.cell
 exact⟨k.cell (i:=0) ω,k.cell (i:=1) ω,k.cell (i:=2) ω,k.cell (i:=3) ω,k.cell (i:=4) ω,k.cell (i:=5) ω,k.cell (i:=6) ω,k.cell (i:=7) ω,
  k.cell (i:=8) ω,k.cell (i:=9) ω,k.cell (i:=10) ω,k.cell (i:=11) ω,k.cell (i:=12) ω,k.cell (i:=13) ω,k.cell (i:=14) ω,k.cell (i:=15) ω⟩
def iK (w0:World) (c0:Nat->Nat) (b0 g:Nat) (M:DM) (S:DS) (b:List Int) (e:Ending) (w':World):Prop:=
 ∃A' n' c',e= .returned (.int .i64 (if S.most<b.length then 6 else 0))/\av w0 c0 w' b0 g { M with Ao:=A',no:=n',co:=c',out:=M.out++b.take S.most } { S with most:=S.most-b.length }
theorem ri (h:av w0 c0 w b0 g M S) (Bd m d:Nat) (C:Option Addr) (b:List Int) (hr:aT .u8 w Bd C m b) (hB:Bd<=w.heap.size) (ab:m<=d) (hm:m<=100000) (jI:M.out.length<=10000000000) (eP:(S.most:Int)<=4611686018427387904):
  Calls Tryz.prog 122 #[.pointer (some ⟨g,0,none⟩), .slice C m d] w (iK w0 c0 b0 g M S b):=by
 obtain⟨-, -,k2,k3, -⟩ :=h.cells;have z2:=h.cell.frozen' (i:=2) ω;have z3:=h.cell.frozen' (i:=3) ω;have kJ:=h.cell.lt;have c:=h.out;have o:=h.apart.1;have y:=h.lo;obtain⟨Q,hi,H,u,G⟩ :=info_parts ez;obtain⟨l,r⟩ :=ν (S.most);rw[r]at eP k2;have x:=hr.1;obtain⟨k,hk⟩ :∃k,k=min m l:= ⟨_,rfl⟩
 have xH:Hid (b.take l=b.take k):=by
  show _=_
  by_cases h1:m<=l
  · rw[List.take_of_length_le ω,List.take_of_length_le ω]
  · rw[show k=l by omega]
 have lG:=dr (P:=Tryz.prog) 26 5 Tryz.underlying26 hi u C m d (j:=k) ω;have R:=hr.pre (j:=k) ω;have T:=c.1;have U:M.no+k<=1000000000000:=ω;have Hi:=η hi;have dM:=η H;have cV:=η u;have Z:=η G;have Vd:=η r;have ac:=η x
 have W:Hid (∀z E c2 w2 (v:Int),v=((l-m:Nat):Int)->E=M.no+k->ag .u8 w2 b0 5 z E c2 (M.out++b.take k)->w.drew.grownBy w2 (aa M.Ao)->(aa z=aa M.Ao\/aa z=some w.heap.size)->av w0 c0 ((w2.setCell ⟨g,3,none⟩ (.slice z E c2)).setCell ⟨g,2,none⟩ (.int .i64 v)) b0 g { M with Ao:=z,no:=E,co:=c2,out:=M.out++b.take S.most } { S with most:=S.most-b.length }):=λz E c2 w2 v hv jh fP J fW=>by
  subst hv;have cQ:=(h.cell.drew.grown J (λe=>o e.symm))
  have oT:aa z≠some g:=by
   rcases fW with e | e
   · rw[e];exact o
   · rw[e];intro e2;injection e2 with e2;omega
  rw[r,xH.out,<-x];refine h.outs ?_ ?_ ?_ ?_
  · exact(((((aq.refl w _).drew).grown J (λq A=> .inl (.inr A))).setCell (p:= ⟨g,3,none⟩) (.inl (.inl rfl)) _).setCell (p:= ⟨g,2,none⟩) (.inl (.inl rfl)) _)
  · exact((cQ.aQ (i:=3) ω _).aQ (i:=2) ω _).congr (bN rfl rfl rfl rfl rfl rfl rfl rfl rfl rfl rfl rfl rfl rfl rfl rfl)
  · exact(fP.far (p:= ⟨g,3,none⟩) oT _).far (p:= ⟨g,2,none⟩) oT _
  · intro q A;rcases fW with e | e
    · exact .inl (e▸A)
    · rw[e]at A;injection A with A;exact .inr ω
 have a:Hid ((m:Int)<=l->iK w0 c0 b0 g M S b=λe w'=>∃A' n' c',e= .returned (.int .i64 0)/\av w0 c0 w' b0 g { M with Ao:=A',no:=n',co:=c',out:=M.out++b.take S.most } { S with most:=S.most-b.length }):=λV=>by
  unfold iK;rw[if_neg ω]
 have O:Hid ((l:Int)<m->iK w0 c0 b0 g M S b=λe w'=>∃A' n' c',e= .returned (.int .i64 6)/\av w0 c0 w' b0 g { M with Ao:=A',no:=n',co:=c',out:=M.out++b.take S.most } { S with most:=S.most-b.length }):=λV=>by
  unfold iK;rw[if_pos ω]
 have X:((m:Int)<(l:Int)/\k=m)\/((l:Int)<(m:Int)/\k=l)\/(l=m/\k=m):=ω;have K4:(0:Int)<=m/\(m:Int)<=100000/\(0:Int)<=l:=ω;have Y:=h.cell;clear hi H u G r x hk T xH h;rcases X with ⟨h1,rfl⟩ | ⟨h1,rfl⟩ | ⟨rfl,rfl⟩
 · rw[a.out ω];clear a O;go_enter Tryz.func122,Tryz.ntmps122
   go_wp2_with fail
   go_region_law
    ((refine dv .u8 b0 5 Q 1 rfl (.tmp 17) (.tmp 20) _ rfl Tryz.underlying26 Hi.out dM.out cV.out Z.out rfl c rfl R U ω y ?_)
     intro N L s I t K;have f:=Y.drew.grown t (λe=>o e.symm);have n:s.cell? ⟨g,2,none⟩ =some (.int .i64 S.most):=f.cell (i:=2) ω;rw[Vd.out]at n;have F:s.cell? ⟨g,3,none⟩ =some (.slice M.Ao M.no M.co):=f.cell (i:=3) ω;have D:=f.frozen' (i:=2) ω;have B:=f.frozen' (i:=3) ω)
   all_goals
    go_wp2
    go_ret
    exact⟨N,_,L,rfl,W.out _ _ _ _ _ ω rfl I t K⟩
 · rw[O.out ω];clear a O;go_enter Tryz.func122,Tryz.ntmps122
   go_wp2_with fail
   go_region_law
    ((refine dv .u8 b0 5 Q 1 rfl (.tmp 17) (.tmp 20) _ rfl Tryz.underlying26 Hi.out dM.out cV.out Z.out rfl c rfl R U ω y ?_)
     intro N L s I t K;have f:=Y.drew.grown t (λe=>o e.symm);have n:s.cell? ⟨g,2,none⟩ =some (.int .i64 S.most):=f.cell (i:=2) ω;rw[Vd.out]at n;have F:s.cell? ⟨g,3,none⟩ =some (.slice M.Ao M.no M.co):=f.cell (i:=3) ω;have D:=f.frozen' (i:=2) ω;have B:=f.frozen' (i:=3) ω)
   all_goals
    go_wp2
    go_ret
    exact⟨N,_,L,rfl,W.out _ _ _ _ _ ω rfl I t K⟩
 · rw[a.out ω];clear a O;go_enter Tryz.func122,Tryz.ntmps122
   go_wp2_with fail
   go_region_law
    ((refine dv .u8 b0 5 Q 1 rfl (.tmp 17) (.tmp 20) _ rfl Tryz.underlying26 Hi.out dM.out cV.out Z.out rfl c rfl R U ω y ?_)
     intro N L s I t K;have f:=Y.drew.grown t (λe=>o e.symm);have n:s.cell? ⟨g,2,none⟩ =some (.int .i64 S.most):=f.cell (i:=2) ω;rw[Vd.out]at n;have F:s.cell? ⟨g,3,none⟩ =some (.slice M.Ao M.no M.co):=f.cell (i:=3) ω;have D:=f.frozen' (i:=2) ω;have B:=f.frozen' (i:=3) ω)
   all_goals
    go_wp2
    go_ret
    exact⟨N,_,L,rfl,W.out _ _ _ _ _ ω rfl I t K⟩
theorem AP {B:List Int} {a:Nat} (h:a<=8*B.length):rb B ((a+7)/8*8)=gO (rb B a):=by
 unfold gO;rw[fR,dm];congr 1;omega
theorem jx (h:av w0 c0 w b0 g M S) (N:Int) (b:N<0\/32<N\/((rb M.B M.a).length:Int)<N):
  Calls Tryz.prog 118 #[.pointer (some ⟨g,0,none⟩), .int .i64 N] w λe w'=>e= .returned (.tuple #[.int .i64 0, .bool false])/\av w0 c0 w' b0 g M S:=by
 obtain⟨c, -⟩ :=h.cells;have d:=h.big;go_enter Tryz.func118,Tryz.ntmps118
 go_wp2_with fail
 refine(I7 _ _ _ _ _ _ _ _ h.ir ω N b).mono ?_;rintro e w1 ⟨rfl,q,rfl⟩;go_wp2
 go_ret2
 exact⟨rfl,h.drewN q⟩
theorem qc (h:av w0 c0 w b0 g M S) (N:Nat) (o:(N:Int)<=31) (i:N<=(rb M.B M.a).length):
  Calls Tryz.prog 118 #[.pointer (some ⟨g,0,none⟩), .int .i64 N] w λe w'=>e= .returned (.tuple #[.int .i64 ((num (rb M.B M.a) N:Nat):Int), .bool true])/\av w0 c0 w' b0 g { M with a:=M.a+N } S:=by
 obtain⟨l, -⟩ :=h.cells;have m:=h.big;have c:=lO (bc.rb M.B M.a) N;have b:=cO (bc.rb M.B M.a) N;have hp:2 ^ N<=2 ^ 31:=Nat.pow_le_pow_right ω ω;obtain⟨V,d⟩ :=ν (num (rb M.B M.a) N);rw[d]at c b⊢;have n:(0:Int)<=V/\(V:Int)<2147483648:=ω;have k:=η c;clear c b hp d;go_enter Tryz.func118,Tryz.ntmps118
 go_wp2_with fail
 refine(zt _ _ _ _ _ _ _ _ h.ir ω N ω i).mono ?_;rintro e w1 ⟨rfl,f,j⟩;rw[<-k.out];go_wp2
 go_ret2
 exact⟨rfl,h.moved j f⟩
theorem xy (h:av w0 c0 w b0 g M S):
  Calls Tryz.prog 120 #[.pointer (some ⟨g,0,none⟩)] w λe w'=>e= .returned (.tuple #[])/\av w0 c0 w' b0 g (if S.last then { M with a:=(M.a+7)/8*8 } else M) { S with st:=if S.last then 8 else 0 }:=by
 obtain⟨r, -, -, -, -,q,f, -⟩ :=h.cells;have n:=h.cell.frozen' (i:=5) ω;have t:=h.big;have b:=h.put (i:=5) ω (.int .i64 0) { S with st:=0 } (bN rfl rfl rfl rfl rfl rfl rfl rfl rfl rfl rfl rfl rfl rfl rfl rfl);have l:=h.apart.2.2.1;cases c:S.last with
 | false=>
   rw[c]at f;go_enter Tryz.func120,Tryz.ntmps120
   go_wp2_with fail
   go_end0
   rw[c]at b;exact⟨rfl,b⟩
 | true=>
   rw[c]at f;obtain⟨s, -⟩ :=b.cells;clear h;go_enter Tryz.func120,Tryz.ntmps120
   go_wp2_with fail
   refine(eA _ _ _ _ _ _ _ _ b.ir ω).mono ?_;rintro e w1 ⟨rfl,k,m⟩;have d:=b.moved m k;have o:=d.cell.frozen' (i:=5) ω;obtain⟨-, -, -, -, -,p, -⟩ :=d.cells;have j:=d.put (i:=5) ω (.int .i64 8) { S with st:=8 } (bN rfl rfl rfl rfl rfl rfl rfl rfl rfl rfl rfl rfl rfl rfl rfl rfl)
   go_wp2_with fail
   go_end0
   rw[c]at j;exact⟨rfl,j⟩
end
end Go.Proofs.YtddhegejmkgmjaaGreat
