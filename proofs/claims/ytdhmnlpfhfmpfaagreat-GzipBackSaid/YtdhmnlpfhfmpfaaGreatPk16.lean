/-
  part
-/
import Derived.Test.YtdhmnlpfhfmpfaaGreatPk6
import Derived.Test.YtdhmnlpfhfmpfaaGreatStep
import Derived.Test.YtdhmnlpfhfmpfaaGreatProg
import Derived.Deep.RegionLaw
set_option linter.unusedVariables false
set_option maxRecDepth 100000
set_option maxHeartbeats 4000000
namespace Go.Proofs.YtdhmnlpfhfmpfaaGreat
open Go.RowKit
theorem zW:(Tryz.prog.info? 5).map (λi=>(i.zero,i.size,i.bytes))=some (some (.int .u8 0),1,1):=by kernel_rfl
def wf (A:ay) (n c:Nat) (t:aj):Nat->Value
 | 0=> .slice A n c
 | 1=> .int .u64 (fM t)
 | _=> .int .i64 t.length
structure qw (w:World) (b0 g:Nat) (A:ay) (n c:Nat) (L:aj):Prop where
 cell:Ar w g 3 (wf A n c (rest L))
 lo:b0<=g
 own:ba .u8 w b0 5 A n c (ke L)
 apart:ak A≠some g
 bit:dO L
theorem qw.nB {w:World} {b0 g n c:Nat} {A:ay} {L:aj} (h:qw w b0 g A n c L):n=L.length/8:=by rw[h.own.1,jS]
theorem qw.fC {w w':World} {b0 g n c:Nat} {A:ay} {L:aj} {S:Nat->Prop} (h:qw w b0 g A n c L) (a:bk w w' S) (b:∀k,foot A g k->¬S k):qw w' b0 g A n c L:=
 ⟨a.ar h.cell (b g (.inl rfl)),h.lo,a.dX h.own λq d=>b q (.inr d),h.apart,h.bit⟩
theorem qw.keeps {w w':World} {b0 g n c:Nat} {A:ay} {L:aj} (h:qw w b0 g A n c L) (a:Below w.heap.size w w'):qw w' b0 g A n c L:=
 h.fC (S:=λ_=>False) (bk.bJ a) λ_ _=>id
theorem qw.eK {w:World} {b0 g n c:Nat} {A:ay} {L:aj} (h:qw w b0 g A n c L) {k:Nat} (a:foot A g k):b0<=k/\k<w.heap.size:=by
 rcases a with rfl | a
 · exact⟨h.lo,h.cell.lt⟩
 exact h.own.2.lt a
theorem N4 (w:World):Calls Tryz.prog 39 #[] w λe w'=>∃g,e= .returned (.pointer (some ⟨g,0,none⟩))/\qw w' w.heap.size g none 0 0 []/\Below w.heap.size w w':=by
 go_enter Tryz.func39,Tryz.ntmps39;go_wp2;go_ret
 have hA:Ar (w.alloc (.cells #[.slice none 0 0, .int .u64 0, .int .i64 0] 107)) w.heap.size 3 (wf none 0 0 (rest [])):=
  Ar.new w _ _ rfl λi hi=>by
   obtain rfl | rfl | rfl:i=0\/i=1\/i=2:=ω;all_goals rfl
 exact⟨w.heap.size,rfl, ⟨hA,ai _,ba.dN,by simp [ak],dO.dN⟩,(ax _ _).alloc (ai _) _⟩
def vC (w:World) (b0 g:Nat) (A:ay) (L:aj) (e:Ending) (w':World):Prop:=
 ∃A' n' c',e= .returned (.tuple #[])/\qw w' b0 g A' n' c' L/\bk w w' (foot A g)/\(∀k,ak A'=some k->ak A=some k\/w.heap.size<=k)
def xi (w:World) (b0 g:Nat) (A:ay) (L s:aj) (k:Nat) (wr:World):Prop:=
 ∃(j m d:Nat) (A':ay),j+k=s.length/8/\Ar wr g 3 (wf A' m d (s.drop (8*j)))/\ba .u8 wr b0 5 A' m d (ke L++ke (s.take (8*j)))/\ak A'≠some g/\bk w wr (foot A g)/\(∀q,ak A'=some q->ak A=some q\/w.heap.size<=q)
theorem xi.next {w wr l f:World} {b0 g j k m d u K:Nat} {A A' a:ay} {L s:aj} {Z:Int} (o:dO s) (G:j+k=s.length/8) (F:0<k) (x:fM (s.drop (8*j))=Z) (E:(s.drop (8*j)).length=K)
  (t:ak A'≠some g) (H:g<wr.heap.size) (C:bk w wr (foot A g)) (r:bk w f (foot A g)) (y:wr.heap.size<=f.heap.size) (c:∀q,ak A'=some q->ak A=some q\/w.heap.size<=q)
  (z:ba .u8 l b0 5 a (m+1) u (ke L++ke (s.take (8*j))++[Z%256])) (B:f.grownBy l (ak A')) (v:ak a=ak A'\/ak a=some f.heap.size) (D:Ar l g 3 (wf A' m d (s.drop (8*j)))):
  xi w b0 g A L s (k-1) (((l.setCell ⟨g,0,none⟩ (.slice a (m+1) u)).setCell ⟨g,1,none⟩ (.int .u64 (Z/256))).setCell ⟨g,2,none⟩ (.int .i64 ((K:Int)-8))):=by
 have n:ak a≠some g:=by
  rcases v with e | e
  · rw[e];exact t
  rw[e];intro h;injection h;omega
 have rI:∀q,ak a=some q->ak A=some q\/w.heap.size<=q:=by
  intro q b;rcases v with e | e
  · exact c q (e▸b)
  rw[e]at b;injection b with b;have:=C.size;exact .inr ω
 have I:8*(j+1)<=s.length:=ω;refine⟨j+1,m+1,u,a,ω, ?_, ?_,n, ?_,rI⟩
 · refine(((D.bK (i:=0) ω _).bK (i:=1) ω _).bK (i:=2) ω _).congr λi hi=> ?_;obtain rfl | rfl | rfl:i=0\/i=1\/i=2:=ω
   · rfl
   · show Value.int .u64 (Z/256)=Value.int .u64 (fM (s.drop (8*(j+1))));rw[<-x,tM o,tM o,show 8*(j+1)=8*j+8 by omega,Int.pow_add,ep (Int.le_of_lt (two_pos _))];rfl
   show Value.int .i64 ((K:Int)-8)=Value.int .i64 ((s.drop (8*(j+1))).length:Int);rw[az]at E⊢;congr 1;omega
 · rw[Tp ω o,x,<-av];exact((z.far (p:= ⟨g,0,none⟩) n _).far (p:= ⟨g,1,none⟩) n _).far (p:= ⟨g,2,none⟩) n _
 exact(((r.grown B λq b=>(c q b).imp .inr id).setCell (p:= ⟨g,0,none⟩) (.inl (.inl rfl)) _).setCell (p:= ⟨g,1,none⟩) (.inl (.inl rfl)) _).setCell (p:= ⟨g,2,none⟩) (.inl (.inl rfl)) _
theorem xi.end_ {w wr:World} {b0 g j m d N:Nat} {A A':ay} {L:aj} {V:Int} (i:dO L) (e:b0<=g) (f:j=(rest L++dw V N).length/8) (c:Ar wr g 3 (wf A' m d ((rest L++dw V N).drop (8*j)))) (a:ba .u8 wr b0 5 A' m d (ke L++ke ((rest L++dw V N).take (8*j))))
  (b:ak A'≠some g) (h:bk w wr (foot A g)) (hA:∀q,ak A'=some q->ak A=some q\/w.heap.size<=q):vC w b0 g A (L++dw V N) (.returned (.tuple #[])) wr:=by
 subst f;rw[Hp,<-Nr]at a;rw[<-Ra,<-Jn]at c;exact⟨A',m,d,rfl, ⟨c,e,a,b,i.app (dO.dw V N)⟩,h,hA⟩
theorem FQ (w:World) (b0 g n c:Nat) (A:ay) (L:aj) (r:qw w b0 g A n c L) (V:Int) (N:Nat) (hV:0<=V/\V<4294967296) (hN:(N:Int)<=32) (an:L.length<=4000000000000):
  Calls Tryz.prog 68 #[.pointer (some ⟨g,0,none⟩), .int .u32 V, .int .i64 N] w (vC w b0 g A (L++dw V N)):=by
 obtain⟨t,ht⟩ :=ν (rest L);have a:=r.cell;rw[ht]at a;have c0:=a.cell (i:=0) ω;have c1:=a.cell (i:=1) ω;have c2:=a.cell (i:=2) ω;have z1:=a.frozen' (i:=1) ω;have z2:=a.frozen' (i:=2) ω;unfold wf at c0 c1 c2;obtain⟨X,W⟩ :=ν (fM t);obtain⟨T,B⟩ :=ν (t.length:Nat);have vR:dO t:=by rw[<-ht];exact r.bit.rest
 have U:=kC vR;obtain⟨s,u⟩ :=ν (t++dw V N);have oJ:s.length=T+N:=by rw[<-u,ag,aR,B]
 have uh:dO s:=by rw[<-u];exact vR.app (dO.dw V N)
 have Dx:fM s=X+V%2 ^ N*2 ^ T:=by rw[<-u,jc,W,B,gL,fF]
 rw[W,B]at U;rw[W]at c1;rw[B]at c2;have bp:(0:Int)<=N:=ω;have Dq:¬(N:Int)<0/\¬32<(N:Int):=ω;have Il:(T:Int)<8:=by have:=je L;rw[ht,B]at this;omega
 have ac:(2:Int) ^ N<=4294967296:=by have:=gy (show N<=32 by omega);simpa using this
 have O5:=two_pos N;have Yf:(2:Int) ^ T<=128:=by have:=gy (show T<=7 by omega);simpa using this
 have ab:=two_pos T;have e1:IntKind.u64.wrap (2 ^ N)=2 ^ N:=by rw[fu];exact bz ω ω
 have al:IntKind.u64.wrap (2 ^ N-1)=2 ^ N-1:=by rw[fu];exact bz ω ω
 have e2:bits .and .u64 V (2 ^ N-1)=V%2 ^ N:=Ni hV.1 ω ω;have o:=Int.emod_nonneg V (b:=2 ^ N) ω;have M:=Int.emod_lt_of_pos V O5;obtain⟨Y,hY⟩ :=ν (V%2 ^ N);rw[hY]at e2 o M Dx;have ah:0<=Y*2 ^ T/\Y*2 ^ T<=4294967295*128:= ⟨Int.mul_nonneg o ω,Int.mul_le_mul ω Yf ω ω⟩;have e3:IntKind.u64.wrap (Y*2 ^ T)=Y*2 ^ T:=by rw[fu];exact bz ω ω
 have e4:bits .or .u64 X (Y*2 ^ T)=fM s:=by rw[Dx];exact Ou U.1 U.2 o ω
 obtain⟨Z,k⟩ :=ν (fM s);rw[k]at e4
 have H:=((a.drew.bK (i:=1) ω (.int .u64 Z)).bK (i:=2) ω (.int .i64 ((T:Int)+(N:Int)))).congr (f':=wf A n c (s.drop (8*0))) (λi hi=>by
  obtain rfl | rfl | rfl:i=0\/i=1\/i=2:=ω
  · rfl
  · show Value.int .u64 Z=Value.int .u64 (fM (s.drop 0));rw[iC,k]
  show Value.int .i64 ((T:Int)+(N:Int))=Value.int .i64 ((s.drop 0).length:Int);rw[iC,oJ];simp)
 have pZ:ba .u8 ((w.drew.setCell ⟨g,1,none⟩ (.int .u64 Z)).setCell ⟨g,2,none⟩ (.int .i64 ((T:Int)+(N:Int)))) b0 5 A n c (ke L++ke (s.take (8*0))):=by
  have:ke (s.take (8*0))=[]:=by rw[Nat.mul_zero,iE];rfl
  rw[this,aA];exact(r.own.drew.far (p:= ⟨g,1,none⟩) r.apart _).far (p:= ⟨g,2,none⟩) r.apart _
 have G:bk w ((w.drew.setCell ⟨g,1,none⟩ (.int .u64 Z)).setCell ⟨g,2,none⟩ (.int .i64 ((T:Int)+(N:Int)))) (foot A g):=
  (((bk.refl w _).drew).setCell (p:= ⟨g,1,none⟩) (.inl (.inl rfl)) _).setCell (p:= ⟨g,2,none⟩) (.inl (.inl rfl)) _
 have R:=η r;obtain⟨i0,hi,E,D,C⟩ :=aL zW;have Hi:=η hi;have i7:=η E;have gp:=η D;have i9:=η C;have HS:=η u;have HT:=η ht;have CV:=η oJ;have I:=jS L;have HB:=η I;clear hi E D C u ht W B oJ Dx hY k a ac O5 Yf ab o M ah U r I;go_enter Tryz.func68,Tryz.ntmps68;go_wp2;go_region;go_wp2;clear e1 al e2 e3 e4 c0 c1 c2 z1 z2;go_loopg [] (s.length/8) (xi w b0 g A L s)
 case atStart=>exact⟨0,n,c,A,bS _,H,pZ,R.out.apart,G,λq hq=> .inl hq⟩
 clear H pZ G;obtain⟨j,m,d,A',hj,h,f,y,S,P⟩ :=hrel;have c0:=h.cell (i:=0) ω;have c1:=h.cell (i:=1) ω;have c2:=h.cell (i:=2) ω;have z0:=h.frozen' (i:=0) ω;have z1:=h.frozen' (i:=1) ω;have z2:=h.frozen' (i:=2) ω;unfold wf at c0 c1 c2;obtain⟨Z,k⟩ :=ν (fM (s.drop (8*j)));obtain⟨K,O⟩ :=ν ((s.drop (8*j)).length:Nat);have ae:=kC (uh.ed (8*j));rw[O,k]at ae;have z:=O;rw[az]at z;rw[k]at c1;rw[O]at c2;have bs:(K:Int)<=40/\(0:Int)<=K:=by have:=CV.out;omega
 have bo:Z<18446744073709551616:=by
  have:=gy (show K<=40 by omega);have h2:(2:Int) ^ 40=1099511627776:=rfl;omega
 by_cases ad:8<=(K:Int)
 rotate_left
 · have F:j=s.length/8:=ω;have am:=η F;clear F;go_wp2;go_end0;have u:=HS.out;have ht:=HT.out;subst u;subst ht;exact xi.end_ R.out.bit R.out.lo am.out h f y S P
 have bi:m<=600000000000:=by
  have h1:=f.1;rw[ag,jS,jS,aD]at h1;have:=CV.out;omega
 have bl:b0<=wr.heap.size+1:=by have:=S.size;have:=R.out.lo;have:=R.out.cell.lt;omega
 have v:=Tp (l:=s) (j:=j) ω uh;rw[k]at v;have bI:=η v;have HJ:=η hj;have Q:=η z;have HZ:=η k;have Ch:=η O;have pM:(8:Int)<=K:=ad;clear v hj z k O;have be:IntKind.u8.wrap Z=Z%256:=IntKind.wrap_u8 Z;have J:=(h.alloc (.cells #[.int .u8 (Z%256)] 5)).drew;have bx:(wr.alloc (.cells #[.int .u8 (Z%256)] 5)).drew.cell? ⟨g,0,none⟩ =some (.slice A' m d):=J.cell (i:=0) ω;go_wp2
 go_region_law
  (first | ((refine eN .u8 b0 5 i0 1 rfl _ _ _ rfl Tryz.underlying22 Hi.out i7.out gp.out i9.out rfl ((f.alloc _).drew) rfl (bT.lit .u8 wr [Z%256] 5) ω ω ξ ?_)
            intro A5 c5 w5 ir oz jD;have x:=J.grown oz (λe=>y e.symm);have bB:w5.cell? ⟨g,0,none⟩ =some (.slice A' m d):=x.cell (i:=0) ω;have bv:w5.cell? ⟨g,1,none⟩ =some (.int .u64 Z):=by rw[<-HZ.out];exact x.cell (i:=1) ω
            have bt:w5.cell? ⟨g,2,none⟩ =some (.int .i64 K):=by rw[<-Ch.out];exact x.cell (i:=2) ω
            have aE:=x.frozen' (i:=0) ω;have ap:=x.frozen' (i:=1) ω;have ao:=x.frozen' (i:=2) ω))
 all_goals
  go_wp2;go_roundg (gk-1)
  case measure=>have:=HJ.out;have:=Q.out;omega
  case rel=>exact xi.next uh HJ.out (ε HJ.out Q.out) HZ.out Ch.out y h.lt S ((S.alloc _).drew) σ P ir oz jD x
theorem Rc {L:aj} (h:L.length%8=0):rest L=[]:=aG (by rw[je,h])
theorem I2 {L:aj} (h:L.length%8=0):qI L=L:=by unfold qI;rw[h];simp
theorem Z7 {L:aj} (h:L.length%8≠0):qI L=L++dw 0 (8-L.length%8):=by unfold qI;rw[Wq,dW ω]
theorem rA (w:World) (b0 g n c:Nat) (A:ay) (L:aj) (b:qw w b0 g A n c L) (a:L.length<=4000000000000):
  Calls Tryz.prog 46 #[.pointer (some ⟨g,0,none⟩)] w (vC w b0 g A (qI L)):=by
 have c2:=b.cell.cell (i:=2) ω;unfold wf at c2;rw[je]at c2;by_cases h:L.length%8=0
 · rw[h]at c2
   have m:vC w b0 g A (qI L) (.returned (.tuple #[])) w:=by
    rw[I2 h];exact⟨A,n,c,rfl,b,bk.refl _ _,λk l=> .inl l⟩
   clear h;go_enter Tryz.func46,Tryz.ntmps46;go_wp2;go_end0;exact m
 have hp:=Z7 h;obtain⟨T,f⟩ :=ν (L.length%8:Nat);rw[f]at c2 hp h;have p:(T:Int)<8/\0<(T:Int):=ω;obtain⟨M,j⟩ :=ν (8-T:Nat);have o:(8:Int)-(T:Int)=(M:Int):=ω;rw[j]at hp;have HP:=η hp;have d:(M:Int)<=32:=ω;clear hp f j h;go_enter Tryz.func46,Tryz.ntmps46
 go_wp2_with fail;refine(FQ _ _ _ _ _ _ _ b 0 M ω d a).mono ?_;rintro e w' ⟨A',n',c',rfl,r⟩;go_wp2;go_end0;rw[HP.out];exact⟨A',n',c',rfl,r⟩
theorem K1 (w:World) (b0 g n c:Nat) (A:ay) (L:aj) (a:qw w b0 g A n c L):
  Calls Tryz.prog 47 #[.pointer (some ⟨g,0,none⟩)] w λe w'=>e= .returned (.slice A n c)/\ba .u8 w' b0 5 A n c (ke L)/\qw w' b0 g none 0 0 (rest L)/\bk w w' (λk=>k=g):=by
 have c0:=a.cell.cell (i:=0) ω;have d:=a.cell.frozen' (i:=0) ω;unfold wf at c0;go_enter Tryz.func47,Tryz.ntmps47;go_wp2;go_ret;have b:(rest L).length<8:=by rw[je];omega
 refine⟨rfl,a.own.far (p:= ⟨g,0,none⟩) a.apart _, ⟨(a.cell.bK (i:=0) ω _).congr λi hi=> ?_,a.lo, ?_,by simp [ak],a.bit.rest⟩,(bk.refl w (λk=>k=g)).setCell (p:= ⟨g,0,none⟩) (.inl rfl) _⟩
 · rw[rp b];obtain rfl | rfl | rfl:i=0\/i=1\/i=2:=ω;all_goals rfl
 rw[pR b];exact ba.dN
theorem Gm (w:World) (b0 g n c B m d:Nat) (A C:ay) (L b:aj) (H:qw w b0 g A n c L) (R:bT .u8 w B C m b) (S:B<=w.heap.size) (Q:0<m->∀K,C=some K->¬foot A g K.block) (D:∀x∈b,0<=x/\x<256) (t:L.length<=4000000000000) (Y:(m:Int)<=400000000000):
  Calls Tryz.prog 109 #[.pointer (some ⟨g,0,none⟩), .slice C m d] w (vC w b0 g A (qI L++gK b)):=by
 obtain⟨P,hi,r,q,o⟩ :=aL zW;have Hi:=η hi;have V:=η r;have U:=η q;have T:=η o;clear hi r q o;go_enter Tryz.func109,Tryz.ntmps109
 go_wp2_with fail;refine(rA _ _ _ _ _ _ _ H t).mono ?_;rintro e w1 ⟨A1,G,c1,rfl,f,j,wV⟩;have y:=j.ri R S Q;have a:=f.cell;have O:=a.cell (i:=0) ω;have W:=a.frozen' (i:=0) ω;unfold wf at O;have X:G<=500000000001:=by have:=f.nB;rw[mF]at this;omega
 have E:b0<=w1.heap.size:=by have:=f.lo;have:=f.cell.lt;omega
 go_wp2_with (at_builtin;(refine bq .u8 b0 5 P 1 rfl (.tmp 12) (.tmp 13) _ rfl Tryz.underlying22 Hi.out V.out U.out T.out rfl f.own rfl y ω ω E ?_)
              intro A2 c2 w2 s I u;have F:=a.grown I (λe=>f.apart e.symm);have N:=F.cell (i:=0) ω;have M:=F.frozen' (i:=0) ω)
 go_end0
 have J:ak A2≠some g:=by
  rcases u with e | e
  · rw[e];exact f.apart
  rw[e];intro h;injection h with h;have:=a.lt;omega
 have z:ke (qI L++gK b)=ke (qI L)++b:=by rw[vJ (pS L),vI D]
 have v:rest (qI L++gK b)=rest (qI L):=by rw[Rb (pS L),WR,Rc (pS L)]
 refine⟨A2,G+m,c2,rfl, ⟨(F.bK (i:=0) ω _).congr λi hi=> ?_,f.lo, ?_,J,H.bit.qI.app (dO.gK b)⟩, ?_, ?_⟩
 · rw[v];obtain rfl | rfl | rfl:i=0\/i=1\/i=2:=ω;all_goals rfl
 · rw[z];exact s.far (p:= ⟨g,0,none⟩) J _
 · exact(j.grown I λk l=>(wV k l).imp .inr id).setCell (p:= ⟨g,0,none⟩) (.inl (.inl rfl)) _
 intro k l;rcases u with e | e
 · exact wV k (e▸l)
 rw[e]at l;injection l with l;have:=j.size;exact .inr ω
theorem jY:(Tryz.prog.info? 5).map (λi=>(i.zero,i.size,i.bytes))=some (some (.int .u8 0),1,1):=by kernel_rfl
def rf (A:ay) (n c a:Nat):Nat->Value
 | 0=> .slice A n c
 | _=> .int .i64 a
structure qu (w:World) (b0 g:Nat) (A:ay) (n c:Nat) (B:aj) (a:Nat):Prop where
 cell:Ar w g 2 (rf A n c a)
 lo:b0<=g
 own:ba .u8 w b0 5 A n c B
 apart:ak A≠some g
 jR:∀x∈B,0<=x/\x<256
 le:a<=8*B.length
section
variable {w w':World} {b0 g n c a:Nat} {A:ay} {B:aj}
theorem qu.nB (h:qu w b0 g A n c B a):n=B.length:=h.own.1
theorem qu.fC {S:Nat->Prop} (h:qu w b0 g A n c B a) (b:bk w w' S) (d:∀k,foot A g k->¬S k):qu w' b0 g A n c B a:=
 ⟨b.ar h.cell (d g (.inl rfl)),h.lo,b.dX h.own λq e=>d q (.inr e),h.apart,h.jR,h.le⟩
theorem qu.keeps (h:qu w b0 g A n c B a) (b:Below w.heap.size w w'):qu w' b0 g A n c B a:=
 h.fC (S:=λ_=>False) (bk.bJ b) λ_ _=>id
theorem qu.drewN (h:qu w b0 g A n c B a) (q:Nat):qu (w.drewN q) b0 g A n c B a:= ⟨h.cell.drewN q,h.lo,h.own.drewN q,h.apart,h.jR,h.le⟩
theorem qu.eK (h:qu w b0 g A n c B a) {k:Nat} (b:foot A g k):b0<=k/\k<w.heap.size:=by
 rcases b with rfl | b
 · exact⟨h.lo,h.cell.lt⟩
 exact h.own.2.lt b
theorem qu.move (h:qu w b0 g A n c B a) {a':Nat} (b:a'<=8*B.length) {v:Value} (hv:v= .int .i64 a'):qu (w.setCell ⟨g,1,none⟩ v) b0 g A n c B a'/\bk w (w.setCell ⟨g,1,none⟩ v) (λk=>k=g):=
 ⟨⟨(h.cell.bK (i:=1) ω v).congr λi hi=>by
   obtain rfl | rfl:i=0\/i=1:=ω
   · rfl
   rw[hv];rfl,h.lo,h.own.far (p:= ⟨g,1,none⟩) h.apart _,h.apart,h.jR,b⟩,(bk.refl w (λk=>k=g)).setCell (p:= ⟨g,1,none⟩) (.inl rfl) _⟩
end
theorem MC (w:World):Calls Tryz.prog 100 #[] w λe w'=>∃g,e= .returned (.pointer (some ⟨g,0,none⟩))/\qu w' w.heap.size g none 0 0 [] 0/\Below w.heap.size w w':=by
 go_enter Tryz.func100,Tryz.ntmps100;go_wp2;go_ret
 have hA:Ar (w.alloc (.cells #[.slice none 0 0, .int .i64 0] 122)) w.heap.size 2 (rf none 0 0 0):=
  Ar.new w _ _ rfl λi hi=>by
   obtain rfl | rfl:i=0\/i=1:=ω;all_goals rfl
 exact⟨w.heap.size,rfl, ⟨hA,ai _,ba.dN,by simp [ak],σ,σ⟩,(ax _ _).alloc (ai _) _⟩
theorem jd (w:World) (b0 g n c a:Nat) (A:ay) (B:aj) (b:qu w b0 g A n c B a) (f:B.length<=1000000000000):
  Calls Tryz.prog 104 #[.pointer (some ⟨g,0,none⟩)] w λe w'=>e= .returned (.int .i64 ((8*n-a:Nat):Int))/\∃q,w'=w.drewN q:=by
 have c0:=b.cell.cell (i:=0) ω;have c1:=b.cell.cell (i:=1) ω;unfold rf at c0 c1;have k:=b.nB;have d:=b.le;have m:(n:Int)<=1000000000000/\(0:Int)<=n/\(a:Int)<=8*(n:Int)/\(0:Int)<=a:=ω;have j:Hid ((8*(n:Int)-(a:Int))=((8*n-a:Nat):Int)):=by show _=_;omega
 have l:IntKind.i64.wrap (8*(n:Int))=8*(n:Int):=by rw[aM _ ω]
 have h:IntKind.i64.wrap (8*(n:Int)-(a:Int))=8*(n:Int)-(a:Int):=by rw[aM _ ω]
 clear k d;go_enter Tryz.func104,Tryz.ntmps104;go_wp2;go_quiet (fail);go_wp2;go_ret;exact⟨bZ j.out,_,rfl⟩
def SK (w:World) (b0 g:Nat) (B:aj) (a:Nat) (e:Ending) (w':World):Prop:=
 ∃A' n' c',e= .returned (.tuple #[])/\qu w' b0 g A' n' c' B a/\bk w w' (λk=>k=g)/\(∀k,ak A'=some k->w.heap.size<=k)
theorem Jm (w:World) (b0 g n c a Bd m d:Nat) (A C:ay) (B b:aj) (f:qu w b0 g A n c B a) (T:bT .u8 w Bd C m b) (hB:Bd<=w.heap.size) (I:∀x∈b,0<=x/\x<256) (V:B.length+b.length<=1000000000000):
  Calls Tryz.prog 56 #[.pointer (some ⟨g,0,none⟩), .slice C m d] w (SK w b0 g (B.drop (a/8)++b) (a%8)):=by
 have c0:=f.cell.cell (i:=0) ω;have c1:=f.cell.cell (i:=1) ω;have z0:=f.cell.frozen' (i:=0) ω;have z1:=f.cell.frozen' (i:=1) ω;unfold rf at c0 c1;have oX:=f.cell.lt;have hn:=f.nB;have hm:=T.1;have F:=f.le;have X:=f.own.2.jT;obtain⟨z,hi,s,o,r⟩ :=aL jY;obtain⟨G,Z⟩ :=ν (a/8:Nat);have am:(a:Int)/8=(G:Int):=ω;obtain⟨K,hK⟩ :=ν (n-G+m:Nat);have y:G<=n:=ω;have x6:(n:Int)<=1000000000000/\(m:Int)<=1000000000000/\(0:Int)<=G/\(G:Int)<=n/\(0:Int)<=m/\(0:Int)<=a:=ω;have oZ:∀W,(Instr.makeSlice 22 (.int .i64 0) (.int .i64 (K:Int))).run Tryz.prog W= .ok (.slice (some ⟨W.heap.size,0,none⟩) 0 K) (W.alloc (.cells (eH K (.int .u8 0)) 5)):=λW=>CN (P:=Tryz.prog) 22 5 z (.int .u8 0) Tryz.underlying22 hi s o rfl .i64 .i64 0 K (aF _) (by rw[r];omega) ω W;have oJ:=cZ (P:=Tryz.prog) 22 5 Tryz.underlying22 hi o A n c y;have nW:IntKind.i64.wrap ((n:Int)-(G:Int))=((n-G:Nat):Int):=by rw[aM _ ω];omega
 have D:IntKind.i64.wrap (((n-G:Nat):Int)+(m:Int))=(K:Int):=by rw[aM _ ω];omega
 have S:=f.own.rd.dr y X;obtain⟨J,Y⟩ :=ν (n-G:Nat);rw[Y]at oJ nW D S;have Hi:=η hi;have i7:=η s;have gp:=η o;have i9:=η r;have HG:=η Z;have al:J+m<=1000000000000:=ω;have N:K<=maxLen:=by unfold maxLen;omega
 have M:Hid ((a:Int)%8=((a%8:Nat):Int)):=by show _=_;omega
 have UC:a%8<=8*(B.drop (a/8)++b).length:=by rw[ag,az];omega
 have L:b0<=w.heap.size:=by have:=f.lo;omega
 clear hi s o r hn hm Z hK Y F X;go_enter Tryz.func56,Tryz.ntmps56;go_wp2
 go_region_law
  (first
    | ((refine eN .u8 b0 5 z 1 rfl (.tmp 23) (.tmp 29) _ rfl Tryz.underlying22 Hi.out i7.out gp.out i9.out rfl (l:=[]) ⟨rfl, .inr ⟨_,_,rfl,L,dt w _,aF _,N,by rw[qo,dJ],λi hi=>by simp at hi⟩⟩ rfl (S.alloc (ai _) _) ω ω ξ ?_)
       intro A5 c5 R U u jD;rw[bS,aZ]at U;have rL:bT .u8 R Bd C m b:=(T.alloc hB (.cells (eH K (.int .u8 0)) 5)).keep (λp hp=>dL (u.block _ ξ (by simp [ak];omega)));have mr:b0<=R.heap.size:=by have:=u.size;simp at this;omega)
    | ((refine eN .u8 b0 5 z 1 rfl (.tmp 30) (.tmp 31) _ rfl Tryz.underlying22 Hi.out i7.out gp.out i9.out rfl U rfl rL ω ω mr ?_)
       intro O c6 Q nO H iZ
       have rI:∀q,ak A5=some q->w.heap.size<=q:=λq j=>by
        rcases jD with e | e
        · rw[e]at j;simp [ak]at j;omega
        rw[e]at j;simp at j;omega
       have v:=((f.cell.alloc (.cells (eH K (.int .u8 0)) 5)).drew.grown u (by simp [ak];omega)).grown H (λe=>by have:=rI g e.symm;omega);have ae:Q.cell? ⟨g,0,none⟩ =some (.slice A n c):=v.cell (i:=0) ω;have ad:Q.cell? ⟨g,1,none⟩ =some (.int .i64 a):=v.cell (i:=1) ω;have ac:=v.frozen' (i:=0) ω;have ab:=v.frozen' (i:=1) ω))
 all_goals
  go_wp2;go_end0;have E:=u.size;have ah:=H.size;simp at E
  have Dn:∀q,ak O=some q->w.heap.size<=q:=λq j=>by
   rcases iZ with e | e
   · exact rI q (e▸j)
   rw[e]at j;injection j with j;omega
  have t:ak O≠some g:=λe=>by have:=Dn g e;omega
  refine⟨O,J+m,c6,rfl, ⟨((v.bK (i:=0) ω _).bK (i:=1) ω _).congr λi hi=> ?_,f.lo, ?_,t, ?_,UC⟩, ?_,Dn⟩
  · obtain rfl | rfl:i=0\/i=1:=ω
    · rfl
    show Value.int .i64 ((a:Int)%8)=Value.int .i64 ((a%8:Nat):Int);rw[M.out]
  · rw[HG.out];exact(nO.far (p:= ⟨g,0,none⟩) t _).far (p:= ⟨g,1,none⟩) t _
  · intro x hx;rcases aP.1 hx with h | h
    · exact f.jR x (bu h)
    exact I x h
  exact(((((bk.refl w (λk=>k=g)).alloc _).drew).grown u (λq j=>by simp [ak]at j;exact .inr ω)).grown H (λq j=> .inr (rI q j))).setCell (p:= ⟨g,0,none⟩) (.inl rfl) _ |>.setCell (p:= ⟨g,1,none⟩) (.inl rfl) _
theorem WG (w:World) (b0 g n c a:Nat) (A:ay) (B:aj) (i:qu w b0 g A n c B a) (b:B.length<=1000000000000) (N:Int) (hN:N<0\/32<N\/((rb B a).length:Int)<N):
  Calls Tryz.prog 156 #[.pointer (some ⟨g,0,none⟩), .int .i64 N] w λe w'=>e= .returned (.tuple #[.int .u32 0, .bool false])/\∃q,w'=w.drewN q:=by
 rw[iw,<-i.nB]at hN;have d:N<0\/(¬N<0/\32<N)\/(¬N<0/\¬32<N/\((8*n-a:Nat):Int)<N):=ω;clear hN;obtain⟨q,f⟩ :=ν (8*n-a:Nat);have k:=η f;rw[f]at d;clear f;rcases d with h | ⟨h,j⟩ | ⟨h,j,l⟩
 · go_enter Tryz.func156,Tryz.ntmps156;go_wp2
   go_ret2
   exact⟨rfl,0,rfl⟩
 · go_enter Tryz.func156,Tryz.ntmps156;go_wp2
   go_ret2
   exact⟨rfl,0,rfl⟩
 go_enter Tryz.func156,Tryz.ntmps156
 go_wp2_with fail;refine(jd _ _ _ _ _ _ _ _ i b).mono ?_;rintro e w1 ⟨rfl,q1,rfl⟩;rw[k.out];go_wp2
 go_ret2
 exact⟨rfl,q1,rfl⟩
def YG (w:World) (B:aj) (a J:Nat) (v at_ k:Value) (wr:World):Prop:=
 ∃j q:Nat,j<=J/\k= .int .i64 ((8*j:Nat):Int)/\at_= .int .i64 ((a+j:Nat):Int)/\v= .int .u64 (tT B a j)/\wr=w.drewN q
theorem Oz (w:World) (b0 g n c a:Nat) (A:ay) (B:aj) (h:qu w b0 g A n c B a) (p:B.length<=1000000000000) (N:Nat) (hN:(N:Int)<=32) (v:N<=(rb B a).length):
  Calls Tryz.prog 156 #[.pointer (some ⟨g,0,none⟩), .int .i64 N] w λe w'=>e= .returned (.tuple #[.int .u32 (fM ((rb B a).take N)), .bool true])/\∃q,w'=w.drewN q:=by
 have c0:=h.cell.cell (i:=0) ω;have c1:=h.cell.cell (i:=1) ω;unfold rf at c0 c1;have D:=h.nB;have F:=h.le;rw[iw,<-D]at v;obtain⟨r,U⟩ :=ν (a%8:Nat);obtain⟨d,K⟩ :=ν (a/8:Nat);have T:(a:Int)%8=(r:Int):=ω;have ad:(a:Int)/8=(d:Int):=ω;have sK:(r:Int)<8/\(0:Int)<=r:=ω;have ac:(0:Int)<=a/\(a:Int)<=8000000000000/\(0:Int)<=N:=ω;have Lp:¬(N:Int)<0/\¬32<(N:Int):=ω;obtain⟨J,hJ⟩ :=ν ((N+r+7)/8:Nat);have x:J<=5/\N+r<=8*J/\d+J<=n/\8*J<N+r+8:=ω;have f:=η x;obtain⟨q,Q⟩ :=ν (8*n-a:Nat);have W:((q:Int)<(N:Int))=False:=iF ω;have V:(q<N)=False:=iF ω;have HQ:=η Q;have m:a=8*d+r:=ω;have Yt:=η m;have O6:IntKind.i64.wrap ((N:Int)+(r:Int))=(N:Int)+(r:Int):=by rw[aM _ ω]
 have cu:Hid (tT B d J/2 ^ r%2 ^ N=fM ((rb B a).take N)):=by show _=_;rw[m];exact Ub B ω
 have x6:(n:Int)<=1000000000000:=ω;have HN:=η D;clear D F v U K hJ x Q m;go_enter Tryz.func156,Tryz.ntmps156
 go_wp2_with fail;refine(jd _ _ _ _ _ _ _ _ h p).mono ?_;rintro e w1 ⟨rfl,q1,rfl⟩;rw[HQ.out];go_wp2;go_quiet (fail);go_wp2
 go_loopw [6,7,8] (YG w B d J) (λ_ _ k _=>40+1-(intOf k).toNat)
 case atStart=>exact⟨0,q1+nq,aF _,rfl,rfl,by rw[PT],World.drewN_drewN ..⟩
 obtain⟨j,q2,hj,rfl,rfl,hv,rfl⟩ :=hrel;obtain⟨y,R,g2⟩ :=NI B d (j:=j) (τ f.out);obtain⟨X,u⟩ :=ν (tT B d j);rw[u]at y R g2 hv;subst hv;have HX:=η u;by_cases E:j<J
 · have Y9:((8*j:Nat):Int)<(N:Int)+(r:Int):=by have:=f.out;omega
   have Z:d+j<n:=by have:=f.out;omega
   have ab:(0:Int)<=((8*j:Nat):Int)/\((8*j:Nat):Int)<=32/\(0:Int)<=((d+j:Nat):Int)/\((d+j:Nat):Int)<(n:Int):=by have:=f.out;omega
   have l:=PR B d (j:=j) (by rw[<-HN.out];exact Z) h.jR;obtain⟨b,I⟩ :=ν (ix B (d+j));have H:=Od h.jR (d+j);rw[I]at l H;obtain⟨g5,rfl⟩ :=h.own.2.addr ω;have fI:=h.own.2.jT;have S:=h.own.2.cell (i:=d+j) ω;rw[I]at S;have ah:(w.drewN q2).cell? ⟨g5,d+j,none⟩ =some (.int .u8 b):=S;obtain⟨b',G,s⟩ :=NI B d (j:=j+1) (τ f.out);rw[l,u]at s;have O5:=two_pos (8*j);have t:0<=b*2 ^ (8*j):=Int.mul_nonneg H.1 ω;have e1:IntKind.u64.wrap (b*2 ^ (8*j))=b*2 ^ (8*j):=by rw[fu];exact bz t ω
   have P:bits .or .u64 X (b*2 ^ (8*j))=tT B d (j+1):=by rw[l,u];exact Ou y R H.1 ω
   obtain⟨Y,o⟩ :=ν (tT B d (j+1));rw[o]at P;have HY:=η o;clear u l I o G s O5 t b';go_wp2;go_roundw
   case rel=>exact⟨j+1,q2,E,by rw[show 8*(j+1)=8*j+8 by omega];go_num,by go_num,by rw[HY.out],rfl⟩
   case measure=>simp [intOf];omega
 obtain rfl:J=j:=ω;have Y9:¬((8*J:Nat):Int)<(N:Int)+(r:Int):=by have:=f.out;omega
 have C:(2:Int) ^ N<=4294967296:=by have:=gy (show N<=32 by omega);simpa using this
 have O5:=two_pos N;have z:=two_pos r;have e1:IntKind.u64.wrap (2 ^ N)=2 ^ N:=by rw[fu];exact bz ω ω
 have ae:IntKind.u64.wrap (2 ^ N-1)=2 ^ N-1:=by rw[fu];exact bz ω ω
 have O:0<=X/2 ^ r:=Int.ediv_nonneg y ω;have Y3:X/2 ^ r<=X:=Int.ediv_le_self _ y;have P:bits .and .u64 (X/2 ^ r) (2 ^ N-1)=X/2 ^ r%2 ^ N:=Ni O ω ω;have M:=Int.emod_nonneg (X/2 ^ r) (b:=2 ^ N) ω;have L:=Int.emod_lt_of_pos (X/2 ^ r) O5;have hf:=cu.out;rw[HX.out]at hf;obtain⟨Y,o⟩ :=ν (X/2 ^ r%2 ^ N);rw[o]at P M L hf;have e3:IntKind.u32.wrap Y=Y:=by rw[ft];exact bz ω ω
 have HF:=η hf;clear hf o C O5 z;go_wp2;go_quiet (fail);go_wp2
 go_ret2
 rw[<-HF.out];exact⟨rfl,_,World.drewN_drewN ..⟩
theorem NJ (w:World) (b0 g n c a:Nat) (A:ay) (B:aj) (d:qu w b0 g A n c B a) (b:B.length<=1000000000000) (N:Int) (hN:N<0\/32<N\/((rb B a).length:Int)<N):
  Calls Tryz.prog 142 #[.pointer (some ⟨g,0,none⟩), .int .i64 N] w λe w'=>e= .returned (.tuple #[.int .u32 0, .bool false])/\∃q,w'=w.drewN q:=by
 go_enter Tryz.func142,Tryz.ntmps142
 go_wp2_with fail;refine(WG _ _ _ _ _ _ _ _ d b N hN).mono ?_;rintro e w1 ⟨rfl,q1,rfl⟩;go_wp2
 go_ret2
 exact⟨rfl,q1,rfl⟩
theorem EW (w:World) (b0 g n c a:Nat) (A:ay) (B:aj) (b:qu w b0 g A n c B a) (d:B.length<=1000000000000) (N:Nat) (hN:(N:Int)<=32) (f:N<=(rb B a).length):
  Calls Tryz.prog 142 #[.pointer (some ⟨g,0,none⟩), .int .i64 N] w λe w'=>e= .returned (.tuple #[.int .u32 (fM ((rb B a).take N)), .bool true])/\qu w' b0 g A n c B (a+N)/\bk w w' (λk=>k=g):=by
 have m:=f;rw[iw]at m;have j:=b.le;have s:(0:Int)<=a/\(a:Int)<=8000000000000/\(0:Int)<=N:=ω;have l:a+N<=8*B.length:=ω;have c1:=b.cell.cell (i:=1) ω;have t:=b.cell.frozen' (i:=1) ω;unfold rf at c1;obtain⟨V,o⟩ :=ν (fM ((rb B a).take N));have HV:=η o;clear m j o;go_enter Tryz.func142,Tryz.ntmps142
 go_wp2_with fail;refine(Oz _ _ _ _ _ _ _ _ b d N hN f).mono ?_;rintro e w1 ⟨rfl,q1,rfl⟩;rw[HV.out];have h:=b.drewN q1;go_wp2
 go_ret2
 obtain⟨q,p⟩ :=h.move l (v:= .int .i64 ((a:Int)+(N:Int))) σ;rw[HV.out];exact⟨rfl,q,((bk.refl w _).drewN q1).trans p λk r=> .inl r⟩
theorem jo (w:World) (b0 g n c a:Nat) (A:ay) (B:aj) (b:qu w b0 g A n c B a) (h:B.length<=1000000000000):
  Calls Tryz.prog 130 #[.pointer (some ⟨g,0,none⟩)] w λe w'=>e= .returned (.tuple #[])/\qu w' b0 g A n c B ((a+7)/8*8)/\bk w w' (λk=>k=g):=by
 have c1:=b.cell.cell (i:=1) ω;have l:=b.cell.frozen' (i:=1) ω;unfold rf at c1;have d:=b.le;have j:(0:Int)<=a/\(a:Int)<=8000000000000:=ω;have hv:Hid (((a:Int)+7)/8*8=(((a+7)/8*8:Nat):Int)):=by show _=_;omega
 have f:(a+7)/8*8<=8*B.length:=ω;clear d;go_enter Tryz.func130,Tryz.ntmps130;go_wp2;go_end0;exact⟨rfl,b.move f (by rw[hv.out])⟩
def T9 (w:World) (b0 g n c a K:Nat) (A:ay) (B:aj) (e:Ending) (w':World):Prop:=
 ∃A' c',e= .returned (.slice A' K c')/\ba .u8 w' w.heap.size 5 A' K c' ((B.drop ((a+7)/8)).take K)/\qu w' b0 g A n c B ((a+7)/8*8+8*K)/\bk w w' (λk=>k=g)
theorem yG (w:World) (b0 g n c a:Nat) (A:ay) (B:aj) (z:qu w b0 g A n c B a) (f:B.length<=1000000000000) (N:Int) (K:Nat) (hK:(K:Int)=max 0 (min N ((n-(a+7)/8:Nat):Int))):
  Calls Tryz.prog 103 #[.pointer (some ⟨g,0,none⟩), .int .i64 N] w (T9 w b0 g n c a K A B):=by
 obtain⟨l,J⟩ :=ν ((a+7)/8:Nat);have hn:=z.nB;have ac:=z.le;have ae:l<=n:=ω;obtain⟨q,o⟩ :=ν (n-l:Nat);rw[J,o]at hK;have ab:Hid (8*n-(a+7)/8*8=8*q):=by show _=_;omega
 have H:Hid (8*n-l*8=8*q):=by show _=_;omega
 have Yf:((8*q:Nat):Int)/8=(q:Int):=ω;have Sw:(0:Int)<=((8*q:Nat):Int)/\(q:Int)<=1000000000000/\(0:Int)<=(l:Int)/\(l:Int)<=1000000000000:=ω;have am:((l*8:Nat):Int)/8=(l:Int):=ω;have al:(0:Int)<=((l*8:Nat):Int):=ω;obtain⟨Y,hi,Q,O,M⟩ :=aL jY;have Hi:=η hi;have i7:=η Q;have X:=η O;have i9:=η M;have D:=η J;have HQ:=η o;have HN:=η hn;have ah:g+1<=w.heap.size:=z.cell.lt;clear hi Q O M J o hn ac;by_cases Ih:K=0
 · subst Ih;have I:(N<(q:Int)/\N<1)\/((q:Int)<N/\(q:Int)<1)\/(N=(q:Int)/\(q:Int)<1):=ω;clear hK;rcases I with ⟨h,h1⟩ | ⟨h,h1⟩ | ⟨rfl,h1⟩
   all_goals
    go_enter Tryz.func103,Tryz.ntmps103
    go_wp2_with fail;refine(jo _ _ _ _ _ _ _ _ z f).mono ?_;rintro e w1 ⟨rfl,r,p⟩
    go_wp2_with fail;refine(jd _ _ _ _ _ _ _ _ r f).mono ?_;rintro e w2 ⟨rfl,q2,rfl⟩;rw[ab.out];go_wp2;go_ret;exact⟨none,0,rfl,ba.dN,r.drewN q2,p.drewN q2⟩
 have ap:(1:Int)<=K/\(K:Int)<=(q:Int):=ω;have I:((K:Int)<(q:Int)/\N=(K:Int))\/((K:Int)<N/\q=K)\/(N=(K:Int)/\q=K):=ω;clear hK Ih;have an:l+K<=n:=by have:=HQ.out;omega
 have fI:=z.own.2.jT;have Z:=fW (P:=Tryz.prog) 22 5 Tryz.underlying22 Hi.out X.out A n c (a:=l) (b:=l+K) ω ω;rw[bQ]at Z;have Fq:∀W,(Instr.slice 22 (.slice A n c) (some (.int .i64 (l:Int))) (some (.int .i64 ((l:Int)+(K:Int)))) none).run Tryz.prog W= .ok (.slice (dr A c l) K (c-l)) W:=λW=>by have:=Z W;rwa [jt]at this
 have pd:=((z.own.rd.dr ae fI).pre (j:=K) ω).more (B':=w.heap.size) (ai _);have UC:l*8+8*K<=8*B.length:=by have:=HN.out;omega
 have dA:∀C,dr A c l=some C->¬C.block=g:=λC e h=>z.apart (by
  unfold dr at e;split at e
  · rw[e];simp [ak,h]
  cases A with
  | none=>simp at e
  | some x=>simp at e;subst e;rw[bG]at h;simp [ak,h])
 have L:Hid ((a+7)/8*8=l*8):=by show _=_;rw[D.out]
 have ao:K<=1000000000000:=by have:=HN.out;omega
 clear Z;rcases I with ⟨h,rfl⟩ | ⟨h,rfl⟩ | ⟨rfl,rfl⟩
 · go_enter Tryz.func103,Tryz.ntmps103
   go_wp2_with fail;refine(jo _ _ _ _ _ _ _ _ z f).mono ?_;rintro e w1 ⟨rfl,r,p⟩;rw[L.out]at r
   go_wp2_with fail;refine(jd _ _ _ _ _ _ _ _ r f).mono ?_;rintro e w2 ⟨rfl,q2,rfl⟩;rw[H.out];have m:=r.drewN q2;have c1:=m.cell.cell (i:=1) ω;have z1:=m.cell.frozen' (i:=1) ω;unfold rf at c1;obtain⟨d,u⟩ :=m.move UC (v:= .int .i64 ((l:Int)*8+8*(K:Int))) σ;have y:=(d.cell.alloc (.cells #[] 5)).cell (i:=0) ω;unfold rf at y;have s:bk w ((w1.drewN q2).setCell ⟨g,1,none⟩ (.int .i64 ((l:Int)*8+8*(K:Int)))) (λk=>k=g):=(p.drewN q2).trans u λk t=> .inl t;have R:=(s.ri pd (ai _) (λh0 C e h=>dA C e h)).alloc s.size (.cells #[] 5);have E:=s.size;have T:=d.cell.lt
   go_wp2_with (at_builtin;(refine bq .u8 w.heap.size 5 Y 1 rfl (.tmp 31) (.tmp 40) _ rfl Tryz.underlying22 Hi.out i7.out X.out i9.out rfl (ba.lit (by simp [World.setCell]) [] _ E σ) rfl R ω ω (by rw[Go.Proofs.YtdhmnlpfhfmpfaaGreat.jz];omega) ?_)
                intro V U w5 F G jD)
   rw[bS,aZ]at F;go_ret;refine⟨V,U,rfl,by rw[D.out];exact F, ?_, ?_⟩
   · rw[L.out];exact(d.keeps ((ax _ _).alloc (ai _) (.cells #[] 5))).fC (S:=λk=>some k=ak (some (⟨w1.heap.size,0,none⟩ :Addr))) ((bk.refl _ _).grown G λq o=> .inl o.symm) (λk t h=>by have:=(d.eK t).2;simp [World.setCell]at this;simp [ak]at h;omega)
   exact(s.alloc _).grown G λq o=>by simp [ak]at o;simp [World.setCell]at E;exact .inr ω
 · go_enter Tryz.func103,Tryz.ntmps103
   go_wp2_with fail;refine(jo _ _ _ _ _ _ _ _ z f).mono ?_;rintro e w1 ⟨rfl,r,p⟩;rw[L.out]at r
   go_wp2_with fail;refine(jd _ _ _ _ _ _ _ _ r f).mono ?_;rintro e w2 ⟨rfl,q2,rfl⟩;rw[H.out];have m:=r.drewN q2;have c1:=m.cell.cell (i:=1) ω;have z1:=m.cell.frozen' (i:=1) ω;unfold rf at c1;obtain⟨d,u⟩ :=m.move UC (v:= .int .i64 ((l:Int)*8+8*(q:Int))) σ;have y:=(d.cell.alloc (.cells #[] 5)).cell (i:=0) ω;unfold rf at y;have s:bk w ((w1.drewN q2).setCell ⟨g,1,none⟩ (.int .i64 ((l:Int)*8+8*(q:Int)))) (λk=>k=g):=(p.drewN q2).trans u λk t=> .inl t;have R:=(s.ri pd (ai _) (λh0 C e h=>dA C e h)).alloc s.size (.cells #[] 5);have E:=s.size;have T:=d.cell.lt
   go_wp2_with (at_builtin;(refine bq .u8 w.heap.size 5 Y 1 rfl (.tmp 31) (.tmp 40) _ rfl Tryz.underlying22 Hi.out i7.out X.out i9.out rfl (ba.lit (by simp [World.setCell]) [] _ E σ) rfl R ω ω (by rw[Go.Proofs.YtdhmnlpfhfmpfaaGreat.jz];omega) ?_)
                intro V U w5 F G jD)
   rw[bS,aZ]at F;go_ret;refine⟨V,U,rfl,by rw[D.out];exact F, ?_, ?_⟩
   · rw[L.out];exact(d.keeps ((ax _ _).alloc (ai _) (.cells #[] 5))).fC (S:=λk=>some k=ak (some (⟨w1.heap.size,0,none⟩ :Addr))) ((bk.refl _ _).grown G λq o=> .inl o.symm) (λk t h=>by have:=(d.eK t).2;simp [World.setCell]at this;simp [ak]at h;omega)
   exact(s.alloc _).grown G λq o=>by simp [ak]at o;simp [World.setCell]at E;exact .inr ω
 go_enter Tryz.func103,Tryz.ntmps103
 go_wp2_with fail;refine(jo _ _ _ _ _ _ _ _ z f).mono ?_;rintro e w1 ⟨rfl,r,p⟩;rw[L.out]at r
 go_wp2_with fail;refine(jd _ _ _ _ _ _ _ _ r f).mono ?_;rintro e w2 ⟨rfl,q2,rfl⟩;rw[H.out];have m:=r.drewN q2;have c1:=m.cell.cell (i:=1) ω;have z1:=m.cell.frozen' (i:=1) ω;unfold rf at c1;obtain⟨d,u⟩ :=m.move UC (v:= .int .i64 ((l:Int)*8+8*(q:Int))) σ;have y:=(d.cell.alloc (.cells #[] 5)).cell (i:=0) ω;unfold rf at y;have s:bk w ((w1.drewN q2).setCell ⟨g,1,none⟩ (.int .i64 ((l:Int)*8+8*(q:Int)))) (λk=>k=g):=(p.drewN q2).trans u λk t=> .inl t;have R:=(s.ri pd (ai _) (λh0 C e h=>dA C e h)).alloc s.size (.cells #[] 5);have E:=s.size;have T:=d.cell.lt
 go_wp2_with (at_builtin;(refine bq .u8 w.heap.size 5 Y 1 rfl (.tmp 31) (.tmp 40) _ rfl Tryz.underlying22 Hi.out i7.out X.out i9.out rfl (ba.lit (by simp [World.setCell]) [] _ E σ) rfl R ω ω (by rw[Go.Proofs.YtdhmnlpfhfmpfaaGreat.jz];omega) ?_)
              intro V U w5 F G jD)
 rw[bS,aZ]at F;go_ret;refine⟨V,U,rfl,by rw[D.out];exact F, ?_, ?_⟩
 · rw[L.out];exact(d.keeps ((ax _ _).alloc (ai _) (.cells #[] 5))).fC (S:=λk=>some k=ak (some (⟨w1.heap.size,0,none⟩ :Addr))) ((bk.refl _ _).grown G λq o=> .inl o.symm) (λk t h=>by have:=(d.eK t).2;simp [World.setCell]at this;simp [ak]at h;omega)
 exact(s.alloc _).grown G λq o=>by simp [ak]at o;simp [World.setCell]at E;exact .inr ω
end Go.Proofs.YtdhmnlpfhfmpfaaGreat
