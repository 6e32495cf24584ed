/-
  part
-/
import Derived.Test.YtddhegejmkgmjaaGreatProg
import Derived.Test.YtddhegejmkgmjaaGreatPk5
import Derived.Test.YtddhegejmkgmjaaGreatStep
import Derived.Deep.RegionLaw
set_option linter.unusedVariables false
set_option maxRecDepth 100000
set_option maxHeartbeats 4000000
namespace Go.Proofs.YtddhegejmkgmjaaGreat
open Go.RowKit
theorem ub:(Tryz.prog.info? 5).map (λi=>(i.zero,i.size,i.bytes))=some (some (.int .u8 0),1,1):=by kernel_rfl
def wf (A:Option Addr) (n c:Nat) (t:List Int):Nat->Value
 | 0=> .slice A n c
 | 1=> .int .u64 (bW t)
 | _=> .int .i64 t.length
structure kv (w:World) (b0 g:Nat) (A:Option Addr) (n c:Nat) (L:List Int):Prop where
 cell:Ar w g 3 (wf A n c (rest L))
 lo:b0<=g
 own:ag .u8 w b0 5 A n c (gK L)
 apart:aa A≠some g
 bit:bc L
theorem kv.iQ {w:World} {b0 g n c:Nat} {A:Option Addr} {L:List Int} (h:kv w b0 g A n c L):n=L.length/8:=by rw[h.own.1,dA]
theorem kv.cv {w w':World} {b0 g n c:Nat} {A:Option Addr} {L:List Int} {S:Nat->Prop} (h:kv w b0 g A n c L) (a:aq w w' S) (b:∀k,foot A g k->¬S k):kv w' b0 g A n c L:=
 ⟨a.ar h.cell (b g (.inl rfl)),h.lo,a.bf h.own λq d=>b q (.inr d),h.apart,h.bit⟩
theorem kv.keeps {w w':World} {b0 g n c:Nat} {A:Option Addr} {L:List Int} (h:kv w b0 g A n c L) (a:Below w.heap.size w w'):kv w' b0 g A n c L:=
 h.cv (S:=λ_=>False) (aq.aB a) λ_ _=>id
theorem kv.bH {w:World} {b0 g n c:Nat} {A:Option Addr} {L:List Int} (h:kv w b0 g A n c L) {k:Nat} (a:foot A g k):b0<=k/\k<w.heap.size:=by
 rcases a with rfl | a
 · exact⟨h.lo,h.cell.lt⟩
 · exact h.own.2.lt a
theorem GZ (w:World):Calls Tryz.prog 28 #[] w λe w'=>∃g,e= .returned (.pointer (some ⟨g,0,none⟩))/\kv w' w.heap.size g none 0 0 []/\Below w.heap.size w w':=by
 go_enter Tryz.func28,Tryz.ntmps28
 go_wp2
 go_ret
 have hA:Ar (w.alloc (.cells #[.slice none 0 0, .int .u64 0, .int .i64 0] 88)) w.heap.size 3 (wf none 0 0 (rest [])):=
  Ar.new w _ _ rfl λi hi=>by
   obtain rfl | rfl | rfl:i=0\/i=1\/i=2:=ω
   all_goals rfl
 exact⟨w.heap.size,rfl, ⟨hA,Nat.le_refl _,ag.br,by simp [aa],bc.br⟩,(Below.refl _ _).alloc (Nat.le_refl _) _⟩
def pT (w:World) (b0 g:Nat) (A:Option Addr) (L:List Int) (e:Ending) (w':World):Prop:=
 ∃A' n' c',e= .returned (.tuple #[])/\kv w' b0 g A' n' c' L/\aq w w' (foot A g)/\(∀k,aa A'=some k->aa A=some k\/w.heap.size<=k)
def qV (w:World) (b0 g:Nat) (A:Option Addr) (L s:List Int) (k:Nat) (wr:World):Prop:=
 ∃(j m d:Nat) (A':Option Addr),j+k=s.length/8/\Ar wr g 3 (wf A' m d (s.drop (8*j)))/\ag .u8 wr b0 5 A' m d (gK L++gK (s.take (8*j)))/\aa A'≠some g/\aq w wr (foot A g)/\(∀q,aa A'=some q->aa A=some q\/w.heap.size<=q)
theorem qV.next {w wr l f:World} {b0 g j k m d t K:Nat} {A A' a:Option Addr} {L s:List Int} {Z:Int} (o:bc s) (G:j+k=s.length/8) (F:0<k) (v:bW (s.drop (8*j))=Z) (E:(s.drop (8*j)).length=K)
  (r:aa A'≠some g) (H:g<wr.heap.size) (C:aq w wr (foot A g)) (B:aq w f (foot A g)) (x:wr.heap.size<=f.heap.size) (c:∀q,aa A'=some q->aa A=some q\/w.heap.size<=q)
  (y:ag .u8 l b0 5 a (m+1) t (gK L++gK (s.take (8*j))++[Z%256])) (z:f.grownBy l (aa A')) (u:aa a=aa A'\/aa a=some f.heap.size) (D:Ar l g 3 (wf A' m d (s.drop (8*j)))):
  qV w b0 g A L s (k-1) (((l.setCell ⟨g,0,none⟩ (.slice a (m+1) t)).setCell ⟨g,1,none⟩ (.int .u64 (Z/256))).setCell ⟨g,2,none⟩ (.int .i64 ((K:Int)-8))):=by
 have n:aa a≠some g:=by
  rcases u with e | e
  · rw[e];exact r
  · rw[e];intro h;injection h;omega
 have qO:∀q,aa a=some q->aa A=some q\/w.heap.size<=q:=by
  intro q b;rcases u with e | e
  · exact c q (e▸b)
  · rw[e]at b;injection b with b;have:=C.size;exact .inr ω
 have I:8*(j+1)<=s.length:=ω;refine⟨j+1,m+1,t,a,ω, ?_, ?_,n, ?_,qO⟩
 · refine(((D.aQ (i:=0) ω _).aQ (i:=1) ω _).aQ (i:=2) ω _).congr λi hi=> ?_
   obtain rfl | rfl | rfl:i=0\/i=1\/i=2:=ω
   · rfl
   · show Value.int .u64 (Z/256)=Value.int .u64 (bW (s.drop (8*(j+1))))
     rw[<-v,oc o,oc o,show 8*(j+1)=8*j+8 by omega,Int.pow_add,Int.ediv_ediv_of_nonneg (Int.le_of_lt (two_pos _))];rfl
   · show Value.int .i64 ((K:Int)-8)=Value.int .i64 ((s.drop (8*(j+1))).length:Int)
     rw[List.length_drop]at E⊢;congr 1;omega
 · rw[Ml ω o,v,<-List.append_assoc];exact((y.far (p:= ⟨g,0,none⟩) n _).far (p:= ⟨g,1,none⟩) n _).far (p:= ⟨g,2,none⟩) n _
 · exact(((B.grown z λq b=>(c q b).imp .inr id).setCell (p:= ⟨g,0,none⟩) (.inl (.inl rfl)) _).setCell (p:= ⟨g,1,none⟩) (.inl (.inl rfl)) _).setCell (p:= ⟨g,2,none⟩) (.inl (.inl rfl)) _
theorem qV.end_ {w wr:World} {b0 g j m d N:Nat} {A A':Option Addr} {L:List Int} {V:Int} (i:bc L) (e:b0<=g) (f:j=(rest L++aX V N).length/8) (c:Ar wr g 3 (wf A' m d ((rest L++aX V N).drop (8*j)))) (a:ag .u8 wr b0 5 A' m d (gK L++gK ((rest L++aX V N).take (8*j))))
  (b:aa A'≠some g) (h:aq w wr (foot A g)) (hA:∀q,aa A'=some q->aa A=some q\/w.heap.size<=q):pT w b0 g A (L++aX V N) (.returned (.tuple #[])) wr:=by
 subst f;rw[Ca,<-Hw]at a;rw[<-KG,<-Du]at c;exact⟨A',m,d,rfl, ⟨c,e,a,b,i.app (bc.aX V N)⟩,h,hA⟩
theorem AO (w:World) (b0 g n c:Nat) (A:Option Addr) (L:List Int) (o:kv w b0 g A n c L) (V:Int) (N:Nat) (hV:0<=V/\V<4294967296) (hN:(N:Int)<=32) (am:L.length<=4000000000000):
  Calls Tryz.prog 53 #[.pointer (some ⟨g,0,none⟩), .int .u32 V, .int .i64 N] w (pT w b0 g A (L++aX V N)):=by
 obtain⟨t,ht⟩ :=ν (rest L);have a:=o.cell;rw[ht]at a;have c0:=a.cell (i:=0) ω;have c1:=a.cell (i:=1) ω;have c2:=a.cell (i:=2) ω;have z1:=a.frozen' (i:=1) ω;have z2:=a.frozen' (i:=2) ω;unfold wf at c0 c1 c2;obtain⟨X,S⟩ :=ν (bW t);obtain⟨T,y⟩ :=ν (t.length:Nat);have xH:bc t:=by rw[<-ht];exact o.bit.rest
 have R:=fy xH;obtain⟨s,r⟩ :=ν (t++aX V N);have lG:s.length=T+N:=by rw[<-r,List.length_append,af,y]
 have nY:bc s:=by rw[<-r];exact xH.app (bc.aX V N)
 have W:bW s=X+V%2 ^ N*2 ^ T:=by rw[<-r,dX,S,y,cP,Int.mul_comm]
 rw[S,y]at R;rw[S]at c1;rw[y]at c2;have aS:(0:Int)<=N:=ω;have xG:¬(N:Int)<0/\¬32<(N:Int):=ω;have FB:(T:Int)<8:=by have:=dZ L;rw[ht,y]at this;omega
 have Xk:(2:Int) ^ N<=4294967296:=by have:=cK (show N<=32 by omega);simpa using this
 have Uv:=two_pos N;have Qv:(2:Int) ^ T<=128:=by have:=cK (show T<=7 by omega);simpa using this
 have Xp:=two_pos T;have e1:IntKind.u64.wrap (2 ^ N)=2 ^ N:=by rw[IntKind.wrap_u64];exact Int.emod_eq_of_lt ω ω
 have ah:IntKind.u64.wrap (2 ^ N-1)=2 ^ N-1:=by rw[IntKind.wrap_u64];exact Int.emod_eq_of_lt ω ω
 have e2:bits .and .u64 V (2 ^ N-1)=V%2 ^ N:=Hr hV.1 ω ω;have Q:=Int.emod_nonneg V (b:=2 ^ N) ω;have H:=Int.emod_lt_of_pos V Uv;obtain⟨Y,hY⟩ :=ν (V%2 ^ N);rw[hY]at e2 Q H W;have ad:0<=Y*2 ^ T/\Y*2 ^ T<=4294967295*128:= ⟨Int.mul_nonneg Q ω,Int.mul_le_mul ω Qv ω ω⟩;have e3:IntKind.u64.wrap (Y*2 ^ T)=Y*2 ^ T:=by rw[IntKind.wrap_u64];exact Int.emod_eq_of_lt ω ω
 have e4:bits .or .u64 X (Y*2 ^ T)=bW s:=by rw[W];exact IJ R.1 R.2 Q ω
 obtain⟨Z,k⟩ :=ν (bW s);rw[k]at e4
 have E:=((a.drew.aQ (i:=1) ω (.int .u64 Z)).aQ (i:=2) ω (.int .i64 ((T:Int)+(N:Int)))).congr (f':=wf A n c (s.drop (8*0))) (λi hi=>by
  obtain rfl | rfl | rfl:i=0\/i=1\/i=2:=ω
  · rfl
  · show Value.int .u64 Z=Value.int .u64 (bW (s.drop 0));rw[List.drop_zero,k]
  · show Value.int .i64 ((T:Int)+(N:Int))=Value.int .i64 ((s.drop 0).length:Int);rw[List.drop_zero,lG];simp)
 have oz:ag .u8 ((w.drew.setCell ⟨g,1,none⟩ (.int .u64 Z)).setCell ⟨g,2,none⟩ (.int .i64 ((T:Int)+(N:Int)))) b0 5 A n c (gK L++gK (s.take (8*0))):=by
  have:gK (s.take (8*0))=[]:=by rw[Nat.mul_zero,List.take_zero];rfl
  rw[this,List.append_nil];exact(o.own.drew.far (p:= ⟨g,1,none⟩) o.apart _).far (p:= ⟨g,2,none⟩) o.apart _
 have D:aq w ((w.drew.setCell ⟨g,1,none⟩ (.int .u64 Z)).setCell ⟨g,2,none⟩ (.int .i64 ((T:Int)+(N:Int)))) (foot A g):=
  (((aq.refl w _).drew).setCell (p:= ⟨g,1,none⟩) (.inl (.inl rfl)) _).setCell (p:= ⟨g,2,none⟩) (.inl (.inl rfl)) _
 have O:=η o;obtain⟨i0,hi,C,B,z⟩ :=info_parts ub;have Hi:=η hi;have dM:=η C;have cV:=η B;have dN:=η z;have HS:=η r;have HT:=η ht;have Q3:=η lG;have F:=dA L;have HB:=η F;clear hi C B z r ht S y lG W hY k a Xk Uv Qv Xp Q H ad R o F;go_enter Tryz.func53,Tryz.ntmps53
 go_wp2
 go_region
 go_wp2
 clear e1 ah e2 e3 e4 c0 c1 c2 z1 z2
 go_loopg [] (s.length/8) (qV w b0 g A L s)
 case atStart=>exact⟨0,n,c,A,Nat.zero_add _,E,oz,O.out.apart,D,λq hq=> .inl hq⟩
 case round=>
  clear E oz D;obtain⟨j,m,d,A',hj,h,f,x,P,J⟩ :=hrel;have c0:=h.cell (i:=0) ω;have c1:=h.cell (i:=1) ω;have c2:=h.cell (i:=2) ω;have z0:=h.frozen' (i:=0) ω;have z1:=h.frozen' (i:=1) ω;have z2:=h.frozen' (i:=2) ω;unfold wf at c0 c1 c2;obtain⟨Z,k⟩ :=ν (bW (s.drop (8*j)));obtain⟨K,I⟩ :=ν ((s.drop (8*j)).length:Nat);have ac:=fy (nY.bu (8*j));rw[I,k]at ac;have TV:=I;rw[List.length_drop]at TV;rw[k]at c1;rw[I]at c2;have bb:(K:Int)<=40/\(0:Int)<=K:=by have:=Q3.out;omega
  have aI:Z<18446744073709551616:=by
   have:=cK (show K<=40 by omega);have h2:(2:Int) ^ 40=1099511627776:=rfl;omega
  by_cases ab:8<=(K:Int)
  · have aC:m<=600000000000:=by
     have h1:=f.1;rw[List.length_append,dA,dA,List.length_take]at h1;have:=Q3.out;omega
    have aE:b0<=wr.heap.size+1:=by have:=P.size;have:=O.out.lo;have:=O.out.cell.lt;omega
    have u:=Ml (l:=s) (j:=j) ω nY;rw[k]at u;have bl:=η u;have HJ:=η hj;have M:=η TV;have HZ:=η k;have wh:=η I;have mA:(8:Int)<=K:=ab;clear u hj TV k I;have aA:IntKind.u8.wrap Z=Z%256:=IntKind.wrap_u8 Z;have G:=(h.alloc (.cells #[.int .u8 (Z%256)] 5)).drew;have bi:(wr.alloc (.cells #[.int .u8 (Z%256)] 5)).drew.cell? ⟨g,0,none⟩ =some (.slice A' m d):=G.cell (i:=0) ω;go_wp2
    go_region_law
     (first | ((refine dv .u8 b0 5 i0 1 rfl _ _ _ rfl Tryz.underlying26 Hi.out dM.out cV.out dN.out rfl ((f.alloc _).drew) rfl (aT.lit .u8 wr [Z%256] 5) ω ω ξ ?_)
               intro A5 c5 U dh jC eJ;have v:=G.grown jC (λe=>x e.symm);have bk:U.cell? ⟨g,0,none⟩ =some (.slice A' m d):=v.cell (i:=0) ω;have be:U.cell? ⟨g,1,none⟩ =some (.int .u64 Z):=by rw[<-HZ.out];exact v.cell (i:=1) ω
               have bd:U.cell? ⟨g,2,none⟩ =some (.int .i64 K):=by rw[<-wh.out];exact v.cell (i:=2) ω
               have ap:=v.frozen' (i:=0) ω;have ao:=v.frozen' (i:=1) ω;have an:=v.frozen' (i:=2) ω))
    all_goals
     go_wp2
     go_roundg (gk-1)
     case measure=>have:=HJ.out;have:=M.out;omega
     case rel=>exact qV.next nY HJ.out (by have:=HJ.out;have:=M.out;omega) HZ.out wh.out x h.lt P ((P.alloc _).drew) σ J dh jC eJ v
  · have S6:j=s.length/8:=ω;have al:=η S6;clear S6;go_wp2
    go_end0
    have r:=HS.out;have ht:=HT.out;subst r;subst ht;exact qV.end_ O.out.bit O.out.lo al.out h f x P J
theorem KI {L:List Int} (h:L.length%8=0):rest L=[]:=List.eq_nil_of_length_eq_zero (by rw[dZ,h])
theorem Cn {L:List Int} (h:L.length%8=0):kE L=L:=by unfold kE;rw[h];simp
theorem Rk {L:List Int} (h:L.length%8≠0):kE L=L++aX 0 (8-L.length%8):=by unfold kE;rw[OQ,Nat.mod_eq_of_lt ω]
theorem lZ (w:World) (b0 g n c:Nat) (A:Option Addr) (L:List Int) (b:kv w b0 g A n c L) (a:L.length<=4000000000000):
  Calls Tryz.prog 36 #[.pointer (some ⟨g,0,none⟩)] w (pT w b0 g A (kE L)):=by
 have c2:=b.cell.cell (i:=2) ω;unfold wf at c2;rw[dZ]at c2;by_cases h:L.length%8=0
 · rw[h]at c2
   have m:pT w b0 g A (kE L) (.returned (.tuple #[])) w:=by
    rw[Cn h];exact⟨A,n,c,rfl,b,aq.refl _ _,λk l=> .inl l⟩
   clear h;go_enter Tryz.func36,Tryz.ntmps36
   go_wp2
   go_end0
   exact m
 · have hp:=Rk h;obtain⟨T,f⟩ :=ν (L.length%8:Nat);rw[f]at c2 hp h;have q:(T:Int)<8/\0<(T:Int):=ω;obtain⟨M,j⟩ :=ν (8-T:Nat);have o:(8:Int)-(T:Int)=(M:Int):=ω;rw[j]at hp;have p:=η hp;have d:(M:Int)<=32:=ω;clear hp f j h;go_enter Tryz.func36,Tryz.ntmps36
   go_wp2_with fail
   refine(AO _ _ _ _ _ _ _ b 0 M ω d a).mono ?_;rintro e w' ⟨A',n',c',rfl,r⟩;go_wp2
   go_end0
   rw[p.out];exact⟨A',n',c',rfl,r⟩
theorem Eh (w:World) (b0 g n c:Nat) (A:Option Addr) (L:List Int) (a:kv w b0 g A n c L):
  Calls Tryz.prog 34 #[.pointer (some ⟨g,0,none⟩)] w λe w'=>e= .returned (.slice A n c)/\ag .u8 w' b0 5 A n c (gK L)/\kv w' b0 g none 0 0 (rest L)/\aq w w' (λk=>k=g):=by
 have c0:=a.cell.cell (i:=0) ω;have d:=a.cell.frozen' (i:=0) ω;unfold wf at c0;go_enter Tryz.func34,Tryz.ntmps34
 go_wp2
 go_ret
 have b:(rest L).length<8:=by rw[dZ];omega
 refine⟨rfl,a.own.far (p:= ⟨g,0,none⟩) a.apart _, ⟨(a.cell.aQ (i:=0) ω _).congr λi hi=> ?_,a.lo, ?_,by simp [aa],a.bit.rest⟩,(aq.refl w (λk=>k=g)).setCell (p:= ⟨g,0,none⟩) (.inl rfl) _⟩
 · rw[lV b];obtain rfl | rfl | rfl:i=0\/i=1\/i=2:=ω
   all_goals rfl
 · rw[kC b];exact ag.br
theorem Bh (w:World) (b0 g n c B m d:Nat) (A C:Option Addr) (L b:List Int) (H:kv w b0 g A n c L) (S:aT .u8 w B C m b) (T:B<=w.heap.size) (R:0<m->∀K,C=some K->¬foot A g K.block) (D:∀x∈b,0<=x/\x<256) (t:L.length<=4000000000000) (Z:(m:Int)<=400000000000):
  Calls Tryz.prog 86 #[.pointer (some ⟨g,0,none⟩), .slice C m d] w (pT w b0 g A (kE L++bV b)):=by
 obtain⟨Q,hi,r,q,o⟩ :=info_parts ub;have Hi:=η hi;have W:=η r;have V:=η q;have U:=η o;clear hi r q o;go_enter Tryz.func86,Tryz.ntmps86
 go_wp2_with fail
 refine(lZ _ _ _ _ _ _ _ H t).mono ?_;rintro e w1 ⟨A1,G,c1,rfl,f,j,qM⟩;have y:=j.oH S T R;have a:=f.cell;have P:=a.cell (i:=0) ω;have X:=a.frozen' (i:=0) ω;unfold wf at P;have Y:G<=500000000001:=by have:=f.iQ;rw[fV]at this;omega
 have E:b0<=w1.heap.size:=by have:=f.lo;have:=f.cell.lt;omega
 go_wp2_with (at_builtin;(refine au .u8 b0 5 Q 1 rfl (.tmp 12) (.tmp 13) _ rfl Tryz.underlying26 Hi.out W.out V.out U.out rfl f.own rfl y ω ω E ?_)
              intro M c2 w2 s I u;have F:=a.grown I (λe=>f.apart e.symm);have O:=F.cell (i:=0) ω;have N:=F.frozen' (i:=0) ω)
 go_end0
 have J:aa M≠some g:=by
  rcases u with e | e
  · rw[e];exact f.apart
  · rw[e];intro h;injection h with h;have:=a.lt;omega
 have z:gK (kE L++bV b)=gK (kE L)++b:=by rw[mN (jA L),tD D]
 have v:rest (kE L++bV b)=rest (kE L):=by rw[KH (jA L),Pe,KI (jA L)]
 refine⟨M,G+m,c2,rfl, ⟨(F.aQ (i:=0) ω _).congr λi hi=> ?_,f.lo, ?_,J,H.bit.kE.app (bc.bV b)⟩, ?_, ?_⟩
 · rw[v];obtain rfl | rfl | rfl:i=0\/i=1\/i=2:=ω
   all_goals rfl
 · rw[z];exact s.far (p:= ⟨g,0,none⟩) J _
 · exact(j.grown I λk l=>(qM k l).imp .inr id).setCell (p:= ⟨g,0,none⟩) (.inl (.inl rfl)) _
 · intro k l;rcases u with e | e
   · exact qM k (e▸l)
   · rw[e]at l;injection l with l;have:=j.size;exact .inr ω
theorem ez:(Tryz.prog.info? 5).map (λi=>(i.zero,i.size,i.bytes))=some (some (.int .u8 0),1,1):=by kernel_rfl
def rf (A:Option Addr) (n c a:Nat):Nat->Value
 | 0=> .slice A n c
 | _=> .int .i64 a
structure kd (w:World) (b0 g:Nat) (A:Option Addr) (n c:Nat) (B:List Int) (a:Nat):Prop where
 cell:Ar w g 2 (rf A n c a)
 lo:b0<=g
 own:ag .u8 w b0 5 A n c B
 apart:aa A≠some g
 fC:∀x∈B,0<=x/\x<256
 le:a<=8*B.length
section
variable {w w':World} {b0 g n c a:Nat} {A:Option Addr} {B:List Int}
theorem kd.iQ (h:kd w b0 g A n c B a):n=B.length:=h.own.1
theorem kd.cv {S:Nat->Prop} (h:kd w b0 g A n c B a) (b:aq w w' S) (d:∀k,foot A g k->¬S k):kd w' b0 g A n c B a:=
 ⟨b.ar h.cell (d g (.inl rfl)),h.lo,b.bf h.own λq e=>d q (.inr e),h.apart,h.fC,h.le⟩
theorem kd.keeps (h:kd w b0 g A n c B a) (b:Below w.heap.size w w'):kd w' b0 g A n c B a:=
 h.cv (S:=λ_=>False) (aq.aB b) λ_ _=>id
theorem kd.more {b1:Nat} (h:kd w b0 g A n c B a) (b:b1<=b0):kd w b1 g A n c B a:= ⟨h.cell,Nat.le_trans b h.lo,h.own.more b,h.apart,h.fC,h.le⟩
theorem kd.drewN (h:kd w b0 g A n c B a) (q:Nat):kd (w.drewN q) b0 g A n c B a:= ⟨h.cell.drewN q,h.lo,h.own.drewN q,h.apart,h.fC,h.le⟩
theorem kd.bH (h:kd w b0 g A n c B a) {k:Nat} (b:foot A g k):b0<=k/\k<w.heap.size:=by
 rcases b with rfl | b
 · exact⟨h.lo,h.cell.lt⟩
 · exact h.own.2.lt b
theorem kd.move (h:kd w b0 g A n c B a) {a':Nat} (b:a'<=8*B.length) {v:Value} (hv:v= .int .i64 a'):kd (w.setCell ⟨g,1,none⟩ v) b0 g A n c B a'/\aq w (w.setCell ⟨g,1,none⟩ v) (λk=>k=g):=
 ⟨⟨(h.cell.aQ (i:=1) ω v).congr λi hi=>by
   obtain rfl | rfl:i=0\/i=1:=ω
   · rfl
   · rw[hv];rfl,h.lo,h.own.far (p:= ⟨g,1,none⟩) h.apart _,h.apart,h.fC,b⟩,(aq.refl w (λk=>k=g)).setCell (p:= ⟨g,1,none⟩) (.inl rfl) _⟩
end
theorem GA (w:World):Calls Tryz.prog 78 #[] w λe w'=>∃g,e= .returned (.pointer (some ⟨g,0,none⟩))/\kd w' w.heap.size g none 0 0 [] 0/\Below w.heap.size w w':=by
 go_enter Tryz.func78,Tryz.ntmps78
 go_wp2
 go_ret
 have hA:Ar (w.alloc (.cells #[.slice none 0 0, .int .i64 0] 104)) w.heap.size 2 (rf none 0 0 0):=
  Ar.new w _ _ rfl λi hi=>by
   obtain rfl | rfl:i=0\/i=1:=ω
   all_goals rfl
 exact⟨w.heap.size,rfl, ⟨hA,Nat.le_refl _,ag.br,by simp [aa],σ,σ⟩,(Below.refl _ _).alloc (Nat.le_refl _) _⟩
theorem dY (w:World) (b0 g n c a:Nat) (A:Option Addr) (B:List Int) (b:kd w b0 g A n c B a) (f:B.length<=1000000000000):
  Calls Tryz.prog 82 #[.pointer (some ⟨g,0,none⟩)] w λe w'=>e= .returned (.int .i64 ((8*n-a:Nat):Int))/\∃q,w'=w.drewN q:=by
 have c0:=b.cell.cell (i:=0) ω;have c1:=b.cell.cell (i:=1) ω;unfold rf at c0 c1;have k:=b.iQ;have d:=b.le;have m:(n:Int)<=1000000000000/\(0:Int)<=n/\(a:Int)<=8*(n:Int)/\(0:Int)<=a:=ω;have j:Hid ((8*(n:Int)-(a:Int))=((8*n-a:Nat):Int)):=by show _=_;omega
 have l:IntKind.i64.wrap (8*(n:Int))=8*(n:Int):=by rw[IntWalk.i64_in _ ω]
 have h:IntKind.i64.wrap (8*(n:Int)-(a:Int))=8*(n:Int)-(a:Int):=by rw[IntWalk.i64_in _ ω]
 clear k d;go_enter Tryz.func82,Tryz.ntmps82
 go_wp2
 go_quiet (fail)
 go_wp2
 go_ret
 exact⟨aK j.out,_,rfl⟩
def LN (w:World) (b0 g:Nat) (B:List Int) (a:Nat) (e:Ending) (w':World):Prop:=
 ∃A' n' c',e= .returned (.tuple #[])/\kd w' b0 g A' n' c' B a/\aq w w' (λk=>k=g)/\(∀k,aa A'=some k->w.heap.size<=k)
theorem Ds (w:World) (b0 g n c a O m d:Nat) (A C:Option Addr) (B b:List Int) (f:kd w b0 g A n c B a) (U:aT .u8 w O C m b) (hB:O<=w.heap.size) (H:∀x∈b,0<=x/\x<256) (X:B.length+b.length<=1000000000000):
  Calls Tryz.prog 43 #[.pointer (some ⟨g,0,none⟩), .slice C m d] w (LN w b0 g (B.drop (a/8)++b) (a%8)):=by
 have c0:=f.cell.cell (i:=0) ω;have c1:=f.cell.cell (i:=1) ω;have z0:=f.cell.frozen' (i:=0) ω;have z1:=f.cell.frozen' (i:=1) ω;unfold rf at c0 c1;have kJ:=f.cell.lt;have hn:=f.iQ;have hm:=U.1;have E:=f.le;have Y:=f.own.2.fD;obtain⟨y,hi,s,o,r⟩ :=info_parts ez;obtain⟨G,hG⟩ :=ν (a/8:Nat);have am:(a:Int)/8=(G:Int):=ω;obtain⟨K,hK⟩ :=ν (n-G+m:Nat);have v:G<=n:=ω;have rE:(n:Int)<=1000000000000/\(m:Int)<=1000000000000/\(0:Int)<=G/\(G:Int)<=n/\(0:Int)<=m/\(0:Int)<=a:=ω;have jT:∀W,(Instr.makeSlice 26 (.int .i64 0) (.int .i64 (K:Int))).run Tryz.prog W= .ok (.slice (some ⟨W.heap.size,0,none⟩) 0 K) (W.alloc (.cells (cn K (.int .u8 0)) 5)):=λW=>xf (P:=Tryz.prog) 26 5 y (.int .u8 0) Tryz.underlying26 hi s o rfl .i64 .i64 0 K (Nat.zero_le _) (by rw[r];omega) ω W
 have lG:=bE (P:=Tryz.prog) 26 5 Tryz.underlying26 hi o A n c v;have jD:IntKind.i64.wrap ((n:Int)-(G:Int))=((n-G:Nat):Int):=by rw[IntWalk.i64_in _ ω];omega
 have z:IntKind.i64.wrap (((n-G:Nat):Int)+(m:Int))=(K:Int):=by rw[IntWalk.i64_in _ ω];omega
 have T:=f.own.rd.bY v Y;obtain⟨J,Z⟩ :=ν (n-G:Nat);rw[Z]at lG jD z T;have Hi:=η hi;have dM:=η s;have cV:=η o;have dN:=η r;have HG:=η hG;have al:J+m<=1000000000000:=ω;have N:K<=maxLen:=by unfold maxLen;omega
 have M:Hid ((a:Int)%8=((a%8:Nat):Int)):=by show _=_;omega
 have Ni:a%8<=8*(B.drop (a/8)++b).length:=by rw[List.length_append,List.length_drop];omega
 have I:b0<=w.heap.size:=by have:=f.lo;omega
 clear hi s o r hn hm hG hK Z E Y;go_enter Tryz.func43,Tryz.ntmps43
 go_wp2
 go_region_law
  (first
    | ((refine dv .u8 b0 5 y 1 rfl (.tmp 23) (.tmp 29) _ rfl Tryz.underlying26 Hi.out dM.out cV.out dN.out rfl (l:=[]) ⟨rfl, .inr ⟨_,_,rfl,I,heap_alloc_new w _,Nat.zero_le _,N,by rw[kS,Nat.mul_one],λi hi=>by simp at hi⟩⟩ rfl (T.alloc (Nat.le_refl _) _) ω ω ξ ?_)
       intro A5 c5 S V t eJ;rw[Nat.zero_add,List.nil_append]at V;have lF:aT .u8 S O C m b:=(U.alloc hB (.cells (cn K (.int .u8 0)) 5)).keep (λp hp=>World.cell?_of_block (t.block _ ξ (by simp [aa];omega)));have fN:b0<=S.heap.size:=by have:=t.size;simp at this;omega)
    | ((refine dv .u8 b0 5 y 1 rfl (.tmp 30) (.tmp 31) _ rfl Tryz.underlying26 Hi.out dM.out cV.out dN.out rfl V rfl lF ω ω fN ?_)
       intro Q c6 R jb F dc
       have qO:∀q,aa A5=some q->w.heap.size<=q:=λq j=>by
        rcases eJ with e | e
        · rw[e]at j;simp [aa]at j;omega
        · rw[e]at j;simp at j;omega
       have u:=((f.cell.alloc (.cells (cn K (.int .u8 0)) 5)).drew.grown t (by simp [aa];omega)).grown F (λe=>by have:=qO g e.symm;omega);have ah:R.cell? ⟨g,0,none⟩ =some (.slice A n c):=u.cell (i:=0) ω;have ad:R.cell? ⟨g,1,none⟩ =some (.int .i64 a):=u.cell (i:=1) ω;have ac:=u.frozen' (i:=0) ω;have ab:=u.frozen' (i:=1) ω))
 all_goals
  go_wp2
  go_end0
  have D:=t.size;have Og:=F.size;simp at D
  have Li:∀q,aa Q=some q->w.heap.size<=q:=λq j=>by
   rcases dc with e | e
   · exact qO q (e▸j)
   · rw[e]at j;injection j with j;omega
  have L:aa Q≠some g:=λe=>by have:=Li g e;omega
  refine⟨Q,J+m,c6,rfl, ⟨((u.aQ (i:=0) ω _).aQ (i:=1) ω _).congr λi hi=> ?_,f.lo, ?_,L, ?_,Ni⟩, ?_,Li⟩
  · obtain rfl | rfl:i=0\/i=1:=ω
    · rfl
    · show Value.int .i64 ((a:Int)%8)=Value.int .i64 ((a%8:Nat):Int);rw[M.out]
  · rw[HG.out];exact(jb.far (p:= ⟨g,0,none⟩) L _).far (p:= ⟨g,1,none⟩) L _
  · intro x hx;rcases List.mem_append.1 hx with h | h
    · exact f.fC x (List.mem_of_mem_drop h)
    · exact H x h
  · exact(((((aq.refl w (λk=>k=g)).alloc _).drew).grown t (λq j=>by simp [aa]at j;exact .inr ω)).grown F (λq j=> .inr (qO q j))).setCell (p:= ⟨g,0,none⟩) (.inl rfl) _ |>.setCell (p:= ⟨g,1,none⟩) (.inl rfl) _
theorem P6 (w:World) (b0 g n c a:Nat) (A:Option Addr) (B:List Int) (i:kd w b0 g A n c B a) (b:B.length<=1000000000000) (N:Int) (j:N<0\/32<N\/((rb B a).length:Int)<N):
  Calls Tryz.prog 133 #[.pointer (some ⟨g,0,none⟩), .int .i64 N] w λe w'=>e= .returned (.tuple #[.int .u32 0, .bool false])/\∃q,w'=w.drewN q:=by
 rw[dm,<-i.iQ]at j;have d:N<0\/(¬N<0/\32<N)\/(¬N<0/\¬32<N/\((8*n-a:Nat):Int)<N):=ω;clear j;obtain⟨q,f⟩ :=ν (8*n-a:Nat);have m:=η f;rw[f]at d;clear f;rcases d with h | ⟨h,l⟩ | ⟨h,l,o⟩
 · go_enter Tryz.func133,Tryz.ntmps133
   go_wp2
   go_ret2
   exact⟨rfl,0,rfl⟩
 · go_enter Tryz.func133,Tryz.ntmps133
   go_wp2
   go_ret2
   exact⟨rfl,0,rfl⟩
 · go_enter Tryz.func133,Tryz.ntmps133
   go_wp2_with fail
   refine(dY _ _ _ _ _ _ _ _ i b).mono ?_;rintro e w1 ⟨rfl,k,rfl⟩;rw[m.out];go_wp2
   go_ret2
   exact⟨rfl,k,rfl⟩
def QR (w:World) (B:List Int) (a J:Nat) (v at_ k:Value) (wr:World):Prop:=
 ∃j q:Nat,j<=J/\k= .int .i64 ((8*j:Nat):Int)/\at_= .int .i64 ((a+j:Nat):Int)/\v= .int .u64 (ow B a j)/\wr=w.drewN q
theorem IM (w:World) (b0 g n c a:Nat) (A:Option Addr) (B:List Int) (f:kd w b0 g A n c B a) (p:B.length<=1000000000000) (N:Nat) (hN:(N:Int)<=32) (v:N<=(rb B a).length):
  Calls Tryz.prog 133 #[.pointer (some ⟨g,0,none⟩), .int .i64 N] w λe w'=>e= .returned (.tuple #[.int .u32 (bW ((rb B a).take N)), .bool true])/\∃q,w'=w.drewN q:=by
 have c0:=f.cell.cell (i:=0) ω;have c1:=f.cell.cell (i:=1) ω;unfold rf at c0 c1;have D:=f.iQ;have F:=f.le;rw[dm,<-D]at v;obtain⟨r,V⟩ :=ν (a%8:Nat);obtain⟨d,K⟩ :=ν (a/8:Nat);have U:(a:Int)%8=(r:Int):=ω;have ad:(a:Int)/8=(d:Int):=ω;have oA:(r:Int)<8/\(0:Int)<=r:=ω;have ac:(0:Int)<=a/\(a:Int)<=8000000000000/\(0:Int)<=N:=ω;have FA:¬(N:Int)<0/\¬32<(N:Int):=ω;obtain⟨J,hJ⟩ :=ν ((N+r+7)/8:Nat);have x:J<=5/\N+r<=8*J/\d+J<=n/\8*J<N+r+8:=ω;have o:=η x;obtain⟨q,Q⟩ :=ν (8*n-a:Nat);have Z:((q:Int)<(N:Int))=False:=eq_false ω;have W:(q<N)=False:=eq_false ω;have HQ:=η Q;have l:a=8*d+r:=ω;have QI:=η l;have Ip:IntKind.i64.wrap ((N:Int)+(r:Int))=(N:Int)+(r:Int):=by rw[IntWalk.i64_in _ ω]
 have aA:Hid (ow B d J/2 ^ r%2 ^ N=bW ((rb B a).take N)):=by show _=_;rw[l];exact MU B ω
 have rE:(n:Int)<=1000000000000:=ω;have HN:=η D;clear D F v V K hJ x Q l;go_enter Tryz.func133,Tryz.ntmps133
 go_wp2_with fail
 refine(dY _ _ _ _ _ _ _ _ f p).mono ?_;rintro e w1 ⟨rfl,T,rfl⟩;rw[HQ.out];go_wp2
 go_quiet (fail)
 go_wp2
 go_loopw [6,7,8] (QR w B d J) (λ_ _ k _=>40+1-(intOf k).toNat)
 case atStart=>exact⟨0,T+nq,Nat.zero_le _,rfl,rfl,by rw[JK],World.drewN_drewN ..⟩
 case round=>
  obtain⟨j,P,hj,rfl,rfl,hv,rfl⟩ :=hrel;obtain⟨C,R,g2⟩ :=I6 B d (j:=j) (by have:=o.out;omega);obtain⟨X,u⟩ :=ν (ow B d j);rw[u]at C R g2 hv;subst hv;have HX:=η u;by_cases E:j<J
  · have Ui:((8*j:Nat):Int)<(N:Int)+(r:Int):=by have:=o.out;omega
    have qj:d+j<n:=by have:=o.out;omega
    have ab:(0:Int)<=((8*j:Nat):Int)/\((8*j:Nat):Int)<=32/\(0:Int)<=((d+j:Nat):Int)/\((d+j:Nat):Int)<(n:Int):=by have:=o.out;omega
    have h:=JJ B d (j:=j) (by rw[<-HN.out];exact qj) f.fC;obtain⟨b,I⟩ :=ν (ix B (d+j));have H:=Iz f.fC (d+j);rw[I]at h H;obtain⟨g5,rfl⟩ :=f.own.2.addr ω;have df:=f.own.2.fD;have S:=f.own.2.cell (i:=d+j) ω;rw[I]at S;have al:(w.drewN P).cell? ⟨g5,d+j,none⟩ =some (.int .u8 b):=S;obtain⟨b',G,s⟩ :=I6 B d (j:=j+1) (by have:=o.out;omega);rw[h,u]at s;have y:=two_pos (8*j);have t:0<=b*2 ^ (8*j):=Int.mul_nonneg H.1 ω;have e1:IntKind.u64.wrap (b*2 ^ (8*j))=b*2 ^ (8*j):=by rw[IntKind.wrap_u64];exact Int.emod_eq_of_lt t ω
    have O:bits .or .u64 X (b*2 ^ (8*j))=ow B d (j+1):=by rw[h,u];exact IJ C R H.1 ω
    obtain⟨Y,m⟩ :=ν (ow B d (j+1));rw[m]at O;have HY:=η m;clear u h I m G s y t b';go_wp2
    go_roundw
    case rel=>exact⟨j+1,P,E,by rw[show 8*(j+1)=8*j+8 by omega];go_num,by go_num,by rw[HY.out],rfl⟩
    case measure=>simp [intOf];omega
  · obtain rfl:J=j:=ω;have Ui:¬((8*J:Nat):Int)<(N:Int)+(r:Int):=by have:=o.out;omega
    have Xk:(2:Int) ^ N<=4294967296:=by have:=cK (show N<=32 by omega);simpa using this
    have y:=two_pos N;have Xp:=two_pos r;have e1:IntKind.u64.wrap (2 ^ N)=2 ^ N:=by rw[IntKind.wrap_u64];exact Int.emod_eq_of_lt ω ω
    have ah:IntKind.u64.wrap (2 ^ N-1)=2 ^ N-1:=by rw[IntKind.wrap_u64];exact Int.emod_eq_of_lt ω ω
    have M:0<=X/2 ^ r:=Int.ediv_nonneg C ω;have Qj:X/2 ^ r<=X:=Int.ediv_le_self _ C;have O:bits .and .u64 (X/2 ^ r) (2 ^ N-1)=X/2 ^ r%2 ^ N:=Hr M ω ω;have YM:=Int.emod_nonneg (X/2 ^ r) (b:=2 ^ N) ω;have L:=Int.emod_lt_of_pos (X/2 ^ r) y;have z:=aA.out;rw[HX.out]at z;obtain⟨Y,m⟩ :=ν (X/2 ^ r%2 ^ N);rw[m]at O YM L z;have e3:IntKind.u32.wrap Y=Y:=by rw[IntKind.wrap_u32];exact Int.emod_eq_of_lt ω ω
    have HF:=η z;clear z m Xk y Xp;go_wp2
    go_quiet (fail)
    go_wp2
    go_ret2
    rw[<-HF.out];exact⟨rfl,_,World.drewN_drewN ..⟩
theorem I7 (w:World) (b0 g n c a:Nat) (A:Option Addr) (B:List Int) (f:kd w b0 g A n c B a) (b:B.length<=1000000000000) (N:Int) (h:N<0\/32<N\/((rb B a).length:Int)<N):
  Calls Tryz.prog 119 #[.pointer (some ⟨g,0,none⟩), .int .i64 N] w λe w'=>e= .returned (.tuple #[.int .u32 0, .bool false])/\∃q,w'=w.drewN q:=by
 go_enter Tryz.func119,Tryz.ntmps119
 go_wp2_with fail
 refine(P6 _ _ _ _ _ _ _ _ f b N h).mono ?_;rintro e w1 ⟨rfl,d,rfl⟩;go_wp2
 go_ret2
 exact⟨rfl,d,rfl⟩
theorem zt (w:World) (b0 g n c a:Nat) (A:Option Addr) (B:List Int) (b:kd w b0 g A n c B a) (d:B.length<=1000000000000) (N:Nat) (x:(N:Int)<=32) (f:N<=(rb B a).length):
  Calls Tryz.prog 119 #[.pointer (some ⟨g,0,none⟩), .int .i64 N] w λe w'=>e= .returned (.tuple #[.int .u32 (bW ((rb B a).take N)), .bool true])/\kd w' b0 g A n c B (a+N)/\aq w w' (λk=>k=g):=by
 have o:=f;rw[dm]at o;have j:=b.le;have u:(0:Int)<=a/\(a:Int)<=8000000000000/\(0:Int)<=N:=ω;have l:a+N<=8*B.length:=ω;have c1:=b.cell.cell (i:=1) ω;have y:=b.cell.frozen' (i:=1) ω;unfold rf at c1;obtain⟨V,p⟩ :=ν (bW ((rb B a).take N));have q:=η p;clear o j p;go_enter Tryz.func119,Tryz.ntmps119
 go_wp2_with fail
 refine(IM _ _ _ _ _ _ _ _ b d N x f).mono ?_;rintro e w1 ⟨rfl,m,rfl⟩;rw[q.out];have h:=b.drewN m;go_wp2
 go_ret2
 obtain⟨s,r⟩ :=h.move l (v:= .int .i64 ((a:Int)+(N:Int))) σ;rw[q.out];exact⟨rfl,s,((aq.refl w _).drewN m).trans r λk t=> .inl t⟩
theorem eA (w:World) (b0 g n c a:Nat) (A:Option Addr) (B:List Int) (b:kd w b0 g A n c B a) (h:B.length<=1000000000000):
  Calls Tryz.prog 107 #[.pointer (some ⟨g,0,none⟩)] w λe w'=>e= .returned (.tuple #[])/\kd w' b0 g A n c B ((a+7)/8*8)/\aq w w' (λk=>k=g):=by
 have c1:=b.cell.cell (i:=1) ω;have l:=b.cell.frozen' (i:=1) ω;unfold rf at c1;have d:=b.le;have j:(0:Int)<=a/\(a:Int)<=8000000000000:=ω;have hv:Hid (((a:Int)+7)/8*8=(((a+7)/8*8:Nat):Int)):=by show _=_;omega
 have f:(a+7)/8*8<=8*B.length:=ω;clear d;go_enter Tryz.func107,Tryz.ntmps107
 go_wp2
 go_end0
 exact⟨rfl,b.move f (by rw[hv.out])⟩
def LW (w:World) (b0 g n c a K:Nat) (A:Option Addr) (B:List Int) (e:Ending) (w':World):Prop:=
 ∃A' c',e= .returned (.slice A' K c')/\ag .u8 w' w.heap.size 5 A' K c' ((B.drop ((a+7)/8)).take K)/\kd w' b0 g A n c B ((a+7)/8*8+8*K)/\aq w w' (λk=>k=g)
theorem sG (w:World) (b0 g n c a:Nat) (A:Option Addr) (B:List Int) (C:kd w b0 g A n c B a) (f:B.length<=1000000000000) (N:Int) (K:Nat) (hK:(K:Int)=max 0 (min N ((n-(a+7)/8:Nat):Int))):
  Calls Tryz.prog 81 #[.pointer (some ⟨g,0,none⟩), .int .i64 N] w (LW w b0 g n c a K A B):=by
 obtain⟨l,I⟩ :=ν ((a+7)/8:Nat);have hn:=C.iQ;have ab:=C.le;have ac:l<=n:=ω;obtain⟨q,o⟩ :=ν (n-l:Nat);rw[I,o]at hK;have Uz:Hid (8*n-(a+7)/8*8=8*q):=by show _=_;omega
 have Xr:Hid (8*n-l*8=8*q):=by show _=_;omega
 have Qv:((8*q:Nat):Int)/8=(q:Int):=ω;have UB:(0:Int)<=((8*q:Nat):Int)/\(q:Int)<=1000000000000/\(0:Int)<=(l:Int)/\(l:Int)<=1000000000000:=ω;have am:((l*8:Nat):Int)/8=(l:Int):=ω;have al:(0:Int)<=((l*8:Nat):Int):=ω;obtain⟨Y,hi,O,M,L⟩ :=info_parts ez;have Hi:=η hi;have dM:=η O;have V:=η M;have dN:=η L;have X:=η I;have HQ:=η o;have HN:=η hn;have ah:g+1<=w.heap.size:=C.cell.lt;clear hi O M L I o hn ab;by_cases Ia:K=0
 · subst Ia;have H:(N<(q:Int)/\N<1)\/((q:Int)<N/\(q:Int)<1)\/(N=(q:Int)/\(q:Int)<1):=ω;clear hK;rcases H with ⟨h,h1⟩ | ⟨h,h1⟩ | ⟨rfl,h1⟩
   all_goals
    go_enter Tryz.func81,Tryz.ntmps81
    go_wp2_with fail
    refine(eA _ _ _ _ _ _ _ _ C f).mono ?_;rintro e w1 ⟨rfl,s,p⟩
    go_wp2_with fail
    refine(dY _ _ _ _ _ _ _ _ s f).mono ?_;rintro e w2 ⟨rfl,r,rfl⟩;rw[Uz.out];go_wp2
    go_ret
    exact⟨none,0,rfl,ag.br,s.drewN r,p.drewN r⟩
 · have YH:(1:Int)<=K/\(K:Int)<=(q:Int):=ω;have H:((K:Int)<(q:Int)/\N=(K:Int))\/((K:Int)<N/\q=K)\/(N=(K:Int)/\q=K):=ω;clear hK Ia;have an:l+K<=n:=by have:=HQ.out;omega
   have df:=C.own.2.fD;have Z:=oK (P:=Tryz.prog) 26 5 Tryz.underlying26 Hi.out V.out A n c (a:=l) (b:=l+K) ω ω;rw[Nat.add_sub_cancel_left]at Z;have CQ:∀W,(Instr.slice 26 (.slice A n c) (some (.int .i64 (l:Int))) (some (.int .i64 ((l:Int)+(K:Int)))) none).run Tryz.prog W= .ok (.slice (bY A c l) K (c-l)) W:=λW=>by have:=Z W;rwa [Int.natCast_add]at this
   have rF:=((C.own.rd.bY ac df).pre (j:=K) ω).more (B':=w.heap.size) (Nat.le_refl _);have Ni:l*8+8*K<=8*B.length:=by have:=HN.out;omega
   have bb:∀D,bY A c l=some D->¬D.block=g:=λD e h=>C.apart (by
    unfold bY at e
    split at e
    · rw[e];simp [aa,h]
    · cases A with
      | none=>simp at e
      | some x=>simp at e;subst e;rw[aw]at h;simp [aa,h])
   have J:Hid ((a+7)/8*8=l*8):=by show _=_;rw[X.out]
   have ao:K<=1000000000000:=by have:=HN.out;omega
   clear Z;rcases H with ⟨h,rfl⟩ | ⟨h,rfl⟩ | ⟨rfl,rfl⟩
   · go_enter Tryz.func81,Tryz.ntmps81
     go_wp2_with fail
     refine(eA _ _ _ _ _ _ _ _ C f).mono ?_;rintro e w1 ⟨rfl,s,p⟩;rw[J.out]at s
     go_wp2_with fail
     refine(dY _ _ _ _ _ _ _ _ s f).mono ?_;rintro e w2 ⟨rfl,r,rfl⟩;rw[Xr.out];have m:=s.drewN r;have c1:=m.cell.cell (i:=1) ω;have z1:=m.cell.frozen' (i:=1) ω;unfold rf at c1;obtain⟨d,y⟩ :=m.move Ni (v:= .int .i64 ((l:Int)*8+8*(K:Int))) σ;have z:=(d.cell.alloc (.cells #[] 5)).cell (i:=0) ω;unfold rf at z;have t:aq w ((w1.drewN r).setCell ⟨g,1,none⟩ (.int .i64 ((l:Int)*8+8*(K:Int)))) (λk=>k=g):=(p.drewN r).trans y λk u=> .inl u
     have Q:=(t.oH rF (Nat.le_refl _) (λh0 D e h=>bb D e h)).alloc t.size (.cells #[] 5);have E:=t.size;have R:=d.cell.lt
     go_wp2_with (at_builtin;(refine au .u8 w.heap.size 5 Y 1 rfl (.tmp 31) (.tmp 40) _ rfl Tryz.underlying26 Hi.out dM.out V.out dN.out rfl (ag.lit (by simp [World.setCell]) [] _ E σ) rfl Q ω ω (by rw[Go.Proofs.YtddhegejmkgmjaaGreat.fO];omega) ?_)
                  intro U T w5 F G eJ)
     rw[Nat.zero_add,List.nil_append]at F;go_ret
     refine⟨U,T,rfl,by rw[X.out];exact F, ?_, ?_⟩
     · rw[J.out];exact(d.keeps ((Below.refl _ _).alloc (Nat.le_refl _) (.cells #[] 5))).cv (S:=λk=>some k=aa (some (⟨w1.heap.size,0,none⟩ :Addr))) ((aq.refl _ _).grown G λq o=> .inl o.symm) (λk u h=>by have:=(d.bH u).2;simp [World.setCell]at this;simp [aa]at h;omega)
     · exact(t.alloc _).grown G λq o=>by simp [aa]at o;simp [World.setCell]at E;exact .inr ω
   · go_enter Tryz.func81,Tryz.ntmps81
     go_wp2_with fail
     refine(eA _ _ _ _ _ _ _ _ C f).mono ?_;rintro e w1 ⟨rfl,s,p⟩;rw[J.out]at s
     go_wp2_with fail
     refine(dY _ _ _ _ _ _ _ _ s f).mono ?_;rintro e w2 ⟨rfl,r,rfl⟩;rw[Xr.out];have m:=s.drewN r;have c1:=m.cell.cell (i:=1) ω;have z1:=m.cell.frozen' (i:=1) ω;unfold rf at c1;obtain⟨d,y⟩ :=m.move Ni (v:= .int .i64 ((l:Int)*8+8*(q:Int))) σ;have z:=(d.cell.alloc (.cells #[] 5)).cell (i:=0) ω;unfold rf at z;have t:aq w ((w1.drewN r).setCell ⟨g,1,none⟩ (.int .i64 ((l:Int)*8+8*(q:Int)))) (λk=>k=g):=(p.drewN r).trans y λk u=> .inl u
     have Q:=(t.oH rF (Nat.le_refl _) (λh0 D e h=>bb D e h)).alloc t.size (.cells #[] 5);have E:=t.size;have R:=d.cell.lt
     go_wp2_with (at_builtin;(refine au .u8 w.heap.size 5 Y 1 rfl (.tmp 31) (.tmp 40) _ rfl Tryz.underlying26 Hi.out dM.out V.out dN.out rfl (ag.lit (by simp [World.setCell]) [] _ E σ) rfl Q ω ω (by rw[Go.Proofs.YtddhegejmkgmjaaGreat.fO];omega) ?_)
                  intro U T w5 F G eJ)
     rw[Nat.zero_add,List.nil_append]at F;go_ret
     refine⟨U,T,rfl,by rw[X.out];exact F, ?_, ?_⟩
     · rw[J.out];exact(d.keeps ((Below.refl _ _).alloc (Nat.le_refl _) (.cells #[] 5))).cv (S:=λk=>some k=aa (some (⟨w1.heap.size,0,none⟩ :Addr))) ((aq.refl _ _).grown G λq o=> .inl o.symm) (λk u h=>by have:=(d.bH u).2;simp [World.setCell]at this;simp [aa]at h;omega)
     · exact(t.alloc _).grown G λq o=>by simp [aa]at o;simp [World.setCell]at E;exact .inr ω
   · go_enter Tryz.func81,Tryz.ntmps81
     go_wp2_with fail
     refine(eA _ _ _ _ _ _ _ _ C f).mono ?_;rintro e w1 ⟨rfl,s,p⟩;rw[J.out]at s
     go_wp2_with fail
     refine(dY _ _ _ _ _ _ _ _ s f).mono ?_;rintro e w2 ⟨rfl,r,rfl⟩;rw[Xr.out];have m:=s.drewN r;have c1:=m.cell.cell (i:=1) ω;have z1:=m.cell.frozen' (i:=1) ω;unfold rf at c1;obtain⟨d,y⟩ :=m.move Ni (v:= .int .i64 ((l:Int)*8+8*(q:Int))) σ;have z:=(d.cell.alloc (.cells #[] 5)).cell (i:=0) ω;unfold rf at z;have t:aq w ((w1.drewN r).setCell ⟨g,1,none⟩ (.int .i64 ((l:Int)*8+8*(q:Int)))) (λk=>k=g):=(p.drewN r).trans y λk u=> .inl u
     have Q:=(t.oH rF (Nat.le_refl _) (λh0 D e h=>bb D e h)).alloc t.size (.cells #[] 5);have E:=t.size;have R:=d.cell.lt
     go_wp2_with (at_builtin;(refine au .u8 w.heap.size 5 Y 1 rfl (.tmp 31) (.tmp 40) _ rfl Tryz.underlying26 Hi.out dM.out V.out dN.out rfl (ag.lit (by simp [World.setCell]) [] _ E σ) rfl Q ω ω (by rw[Go.Proofs.YtddhegejmkgmjaaGreat.fO];omega) ?_)
                  intro U T w5 F G eJ)
     rw[Nat.zero_add,List.nil_append]at F;go_ret
     refine⟨U,T,rfl,by rw[X.out];exact F, ?_, ?_⟩
     · rw[J.out];exact(d.keeps ((Below.refl _ _).alloc (Nat.le_refl _) (.cells #[] 5))).cv (S:=λk=>some k=aa (some (⟨w1.heap.size,0,none⟩ :Addr))) ((aq.refl _ _).grown G λq o=> .inl o.symm) (λk u h=>by have:=(d.bH u).2;simp [World.setCell]at this;simp [aa]at h;omega)
     · exact(t.alloc _).grown G λq o=>by simp [aa]at o;simp [World.setCell]at E;exact .inr ω
end Go.Proofs.YtddhegejmkgmjaaGreat
