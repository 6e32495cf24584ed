/-
  part
-/
import Derived.Test.YtgiimmkmjpbecaaGreatPk6
import Derived.Test.YtgiimmkmjpbecaaGreatStep
import Derived.Test.YtgiimmkmjpbecaaGreatProg
import Derived.Deep.RegionLaw
set_option linter.unusedVariables false
set_option maxRecDepth 100000
set_option maxHeartbeats 4000000
namespace Go.Proofs.YtgiimmkmjpbecaaGreat
open Go.RowKit
theorem zC:(Tryz.prog.info? 5).map (λi=>(i.zero,i.size,i.bytes))=some (some (.int .u8 0),1,1):=by kernel_rfl
def wf (A:ax) (n c:Nat) (t:ag):Nat->Value
 | 0=> .slice A n c
 | 1=> .int .u64 (fL t)
 | _=> .int .i64 t.length
structure pX (w:World) (b0 g:Nat) (A:ax) (n c:Nat) (L:ag):Prop where
 cell:Ar w g 3 (wf A n c (rest L))
 lo:b0<=g
 own:aT .u8 w b0 5 A n c (gU L)
 apart:ai A≠some g
 bit:dH L
theorem pX.mW {w:World} {b0 g n c:Nat} {A:ax} {L:ag} (h:pX w b0 g A n c L):n=L.length/8:=by rw[h.own.1,jm]
theorem pX.dx {w w':World} {b0 g n c:Nat} {A:ax} {L:ag} {S:Nat->Prop} (h:pX w b0 g A n c L) (a:bb w w' S) (b:∀k,foot A g k->¬S k):pX w' b0 g A n c L:=
 ⟨a.ar h.cell (b g (.inl rfl)),h.lo,a.dJ h.own λq d=>b q (.inr d),h.apart,h.bit⟩
theorem pX.keeps {w w':World} {b0 g n c:Nat} {A:ax} {L:ag} (h:pX w b0 g A n c L) (a:Below w.heap.size w w'):pX w' b0 g A n c L:=
 h.dx (S:=λ_=>False) (bb.bC a) λ_ _=>id
theorem pX.eG {w:World} {b0 g n c:Nat} {A:ax} {L:ag} (h:pX w b0 g A n c L) {k:Nat} (a:foot A g k):b0<=k/\k<w.heap.size:=by
 rcases a with rfl | a
 · exact⟨h.lo,h.cell.lt⟩
 exact h.own.2.lt a
theorem NU (w:World):Calls Tryz.prog 46 #[] w λe w'=>∃g,e= .returned (.pointer (some ⟨g,0,none⟩))/\pX w' w.heap.size g none 0 0 []/\Below w.heap.size w w':=by
 go_in
 go_wp2;go_ret
 have hA:Ar (w.alloc (.cells #[.slice none 0 0, .int .u64 0, .int .i64 0] 127)) w.heap.size 3 (wf none 0 0 (rest [])):=
  Ar.new w _ _ rfl λi hi=>by
   obtain rfl | rfl | rfl:i=0\/i=1\/i=2:=ω;all_goals rfl
 exact⟨w.heap.size,rfl, ⟨hA,af _,aT.di,by simp [ai],dH.di⟩,(aw _ _).alloc (af _) _⟩
def uV (w:World) (b0 g:Nat) (A:ax) (L:ag) (e:Ending) (w':World):Prop:=
 ∃A' n' c',e= .returned (.tuple #[])/\pX w' b0 g A' n' c' L/\bb w w' (foot A g)/\(∀k,ai A'=some k->ai A=some k\/w.heap.size<=k)
def wM (w:World) (b0 g:Nat) (A:ax) (L s:ag) (k:Nat) (wr:World):Prop:=
 ∃(j m d:Nat) (A':ax),j+k=s.length/8/\Ar wr g 3 (wf A' m d (s.drop (8*j)))/\aT .u8 wr b0 5 A' m d (gU L++gU (s.take (8*j)))/\ai A'≠some g/\bb w wr (foot A g)/\(∀q,ai A'=some q->ai A=some q\/w.heap.size<=q)
theorem wM.next {w wr l f:World} {b0 g j k m d u K:Nat} {A A' a:ax} {L s:ag} {Z:Int} (o:dH s) (G:j+k=s.length/8) (F:0<k) (x:fL (s.drop (8*j))=Z) (E:(s.drop (8*j)).length=K)
  (t:ai A'≠some g) (H:g<wr.heap.size) (C:bb w wr (foot A g)) (r:bb w f (foot A g)) (y:wr.heap.size<=f.heap.size) (c:∀q,ai A'=some q->ai A=some q\/w.heap.size<=q)
  (z:aT .u8 l b0 5 a (m+1) u (gU L++gU (s.take (8*j))++[Z%256])) (B:f.grownBy l (ai A')) (v:ai a=ai A'\/ai a=some f.heap.size) (D:Ar l g 3 (wf A' m d (s.drop (8*j)))):
  wM w b0 g A L s (k-1) (((l.setCell ⟨g,0,none⟩ (.slice a (m+1) u)).setCell ⟨g,1,none⟩ (.int .u64 (Z/256))).setCell ⟨g,2,none⟩ (.int .i64 ((K:Int)-8))):=by
 have n:ai a≠some g:=by
  rcases v with e | e
  · rw[e];exact t
  rw[e];intro h;injection h;omega
 have rA:∀q,ai a=some q->ai A=some q\/w.heap.size<=q:=by
  intro q b;rcases v with e | e
  · exact c q (e▸b)
  rw[e]at b;injection b with b;have:=C.size;exact .inr ω
 have I:8*(j+1)<=s.length:=ω;refine⟨j+1,m+1,u,a,ω, ?_, ?_,n, ?_,rA⟩
 · refine(((D.cE 0 _).cE 1 _).cE 2 _).congr λi hi=> ?_;obtain rfl | rfl | rfl:i=0\/i=1\/i=2:=ω
   · rfl
   · show Value.int .u64 (Z/256)=Value.int .u64 (fL (s.drop (8*(j+1))));rw[<-x,tz o,tz o,show 8*(j+1)=8*j+8 by omega,Int.pow_add,ed (Int.le_of_lt (two_pos _))];rfl
   show Value.int .i64 ((K:Int)-8)=Value.int .i64 ((s.drop (8*(j+1))).length:Int);rw[ay]at E⊢;congr 1;omega
 · rw[TP ω o,x,<-av];exact((z.far (p:= ⟨g,0,none⟩) n _).far (p:= ⟨g,1,none⟩) n _).far (p:= ⟨g,2,none⟩) n _
 exact(((r.grown B λq b=>(c q b).imp .inr id).setCell (p:= ⟨g,0,none⟩) (.inl (.inl rfl)) _).setCell (p:= ⟨g,1,none⟩) (.inl (.inl rfl)) _).setCell (p:= ⟨g,2,none⟩) (.inl (.inl rfl)) _
theorem wM.end_ {w wr:World} {b0 g j m d N:Nat} {A A':ax} {L:ag} {V:Int} (i:dH L) (e:b0<=g) (f:j=(rest L++dt V N).length/8) (c:Ar wr g 3 (wf A' m d ((rest L++dt V N).drop (8*j)))) (a:aT .u8 wr b0 5 A' m d (gU L++gU ((rest L++dt V N).take (8*j))))
  (b:ai A'≠some g) (h:bb w wr (foot A g)) (hA:∀q,ai A'=some q->ai A=some q\/w.heap.size<=q):uV w b0 g A (L++dt V N) (.returned (.tuple #[])) wr:=by
 subst f;rw[Ia,<-Oj]at a;rw[<-RU,<-JO]at c;exact⟨A',m,d,rfl, ⟨c,e,a,b,i.app (dH.dt V N)⟩,h,hA⟩
theorem Gf (w:World) (b0 g n c:Nat) (A:ax) (L:ag) (r:pX w b0 g A n c L) (V:Int) (N:Nat) (hV:0<=V/\V<4294967296) (hN:(N:Int)<=32) (an:L.length<=4000000000000):
  Calls Tryz.prog 103 #[.pointer (some ⟨g,0,none⟩), .int .u32 V, .int .i64 N] w (uV w b0 g A (L++dt V N)):=by
 obtain⟨t,ht⟩ :=ν (rest L);have a:=r.cell;rw[ht]at a;have c0:=a.az 0;have c1:=a.az 1;have c2:=a.az 2;have z1:=a.aH 1;have z2:=a.aH 2;unfold wf at c0 c1 c2;obtain⟨X,W⟩ :=ν (fL t);obtain⟨T,B⟩ :=ν (t.length:Nat);have DN:dH t:=by rw[<-ht];exact r.bit.rest
 have U:=kr DN;obtain⟨s,u⟩ :=ν (t++dt V N);have oh:s.length=T+N:=by rw[<-u,ae,aR,B]
 have qD:dH s:=by rw[<-u];exact DN.app (dH.dt V N)
 have DV:fL s=X+V%2 ^ N*2 ^ T:=by rw[<-u,jf,W,B,gJ,fD]
 rw[W,B]at U;rw[W]at c1;rw[B]at c2;have bo:(0:Int)<=N:=ω;have DJ:¬(N:Int)<0/\¬32<(N:Int):=ω;have CH:(T:Int)<8:=by have:=jh L;rw[ht,B]at this;omega
 have ab:(2:Int) ^ N<=4294967296:=by have:=gu (show N<=32 by omega);simpa using this
 have vH:=two_pos N;have Ra:(2:Int) ^ T<=128:=by have:=gu (show T<=7 by omega);simpa using this
 have R9:=two_pos T;have e1:IntKind.u64.wrap (2 ^ N)=2 ^ N:=by rw[fw];exact bu ω ω
 have al:IntKind.u64.wrap (2 ^ N-1)=2 ^ N-1:=by rw[fw];exact bu ω ω
 have e2:bits .and .u64 V (2 ^ N-1)=V%2 ^ N:=Oc hV.1 ω ω;have o:=Int.emod_nonneg V (b:=2 ^ N) ω;have M:=Int.emod_lt_of_pos V vH;obtain⟨Y,hY⟩ :=ν (V%2 ^ N);rw[hY]at e2 o M DV;have ah:0<=Y*2 ^ T/\Y*2 ^ T<=4294967295*128:= ⟨Int.mul_nonneg o ω,Int.mul_le_mul ω Ra ω ω⟩;have e3:IntKind.u64.wrap (Y*2 ^ T)=Y*2 ^ T:=by rw[fw];exact bu ω ω
 have e4:bits .or .u64 X (Y*2 ^ T)=fL s:=by rw[DV];exact Pm U.1 U.2 o ω
 obtain⟨Z,k⟩ :=ν (fL s);rw[k]at e4
 have H:=((a.drew.cE 1 (.int .u64 Z)).cE 2 (.int .i64 ((T:Int)+(N:Int)))).congr (f':=wf A n c (s.drop (8*0))) (λi hi=>by
  obtain rfl | rfl | rfl:i=0\/i=1\/i=2:=ω
  · rfl
  · show Value.int .u64 Z=Value.int .u64 (fL (s.drop 0));rw[iB,k]
  show Value.int .i64 ((T:Int)+(N:Int))=Value.int .i64 ((s.drop 0).length:Int);rw[iB,oh];simp)
 have tL:aT .u8 ((w.drew.setCell ⟨g,1,none⟩ (.int .u64 Z)).setCell ⟨g,2,none⟩ (.int .i64 ((T:Int)+(N:Int)))) b0 5 A n c (gU L++gU (s.take (8*0))):=by
  have:gU (s.take (8*0))=[]:=by rw[Nat.mul_zero,iD];rfl
  rw[this,ak];exact(r.own.drew.far (p:= ⟨g,1,none⟩) r.apart _).far (p:= ⟨g,2,none⟩) r.apart _
 have G:bb w ((w.drew.setCell ⟨g,1,none⟩ (.int .u64 Z)).setCell ⟨g,2,none⟩ (.int .i64 ((T:Int)+(N:Int)))) (foot A g):=
  (((bb.refl w _).drew).setCell (p:= ⟨g,1,none⟩) (.inl (.inl rfl)) _).setCell (p:= ⟨g,2,none⟩) (.inl (.inl rfl)) _
 have R:=η r;obtain⟨i0,hi,E,D,C⟩ :=aL zC;have Hi:=η hi;have gL:=η E;have fN:=η D;have gM:=η C;have HS:=η u;have HT:=η ht;have O7:=η oh;have I:=jm L;have HB:=η I;clear hi E D C u ht W B oh DV hY k a ab vH Ra R9 o M ah U r I
 go_in
 go_wp2;go_region;go_wp2;clear e1 al e2 e3 e4 c0 c1 c2 z1 z2;go_loopg [] (s.length/8) (wM w b0 g A L s)
 case atStart=>exact⟨0,n,c,A,bX _,H,tL,R.apart,G,λq hq=> .inl hq⟩
 clear H tL G;obtain⟨j,m,d,A',hj,h,f,y,S,P⟩ :=hrel;have c0:=h.az 0;have c1:=h.az 1;have c2:=h.az 2;have z0:=h.aH 0;have z1:=h.aH 1;have z2:=h.aH 2;unfold wf at c0 c1 c2;obtain⟨Z,k⟩ :=ν (fL (s.drop (8*j)));obtain⟨K,O⟩ :=ν ((s.drop (8*j)).length:Nat);have ad:=kr (qD.dU (8*j));rw[O,k]at ad;have z:=O;rw[ay]at z;rw[k]at c1;rw[O]at c2;have bp:(K:Int)<=40/\(0:Int)<=K:=by have:=O7.out;omega
 have bl:Z<18446744073709551616:=by
  have:=gu (show K<=40 by omega);have h2:(2:Int) ^ 40=1099511627776:=rfl;omega
 by_cases ac:8<=(K:Int)
 rotate_left
 · have F:j=s.length/8:=ω;have am:=η F;clear F;go_wp2;go_end0;have u:=HS.out;have ht:=HT.out;subst u;subst ht;exact wM.end_ R.bit R.lo am.out h f y S P
 have be:m<=600000000000:=by
  have h1:=f.1;rw[ae,jm,jm,aD]at h1;have:=O7.out;omega
 have bi:b0<=wr.heap.size+1:=by have:=S.size;have:=R.lo;have:=R.cell.lt;omega
 have v:=TP (l:=s) (j:=j) ω qD;rw[k]at v;have bB:=η v;have HJ:=η hj;have Q:=η z;have HZ:=η k;have Cb:=η O;have qB:(8:Int)<=K:=ac;clear v hj z k O;have bd:IntKind.u8.wrap Z=Z%256:=IntKind.wrap_u8 Z;have J:=(h.alloc (.cells #[.int .u8 (Z%256)] 5)).drew;have bv:(wr.alloc (.cells #[.int .u8 (Z%256)] 5)).drew.cell? ⟨g,0,none⟩ =some (.slice A' m d):=J.az 0;go_wp2
 go_region_law
  (first | ((refine eK .u8 b0 5 i0 1 rfl _ _ _ rfl Tryz.underlying22 Hi.out gL.out fN.out gM.out rfl ((f.alloc _).drew) rfl (bT.lit .u8 wr [Z%256] 5) ω ω ξ ?_)
            intro A5 c5 w5 im od jF;have x:=J.grown od (λe=>y e.symm);have bx:w5.cell? ⟨g,0,none⟩ =some (.slice A' m d):=x.az 0;have bt:w5.cell? ⟨g,1,none⟩ =some (.int .u64 Z):=by rw[<-HZ.out];exact x.az 1
            have bs:w5.cell? ⟨g,2,none⟩ =some (.int .i64 K):=by rw[<-Cb.out];exact x.az 2
            have aE:=x.aH 0;have ap:=x.aH 1;have ao:=x.aH 2))
 all_goals
  go_wp2;go_roundg (gk-1)
  case measure=>have:=HJ.out;have:=Q.out;omega
  case rel=>exact wM.next qD HJ.out (ε HJ.out Q.out) HZ.out Cb.out y h.lt S ((S.alloc _).drew) σ P im od jF x
theorem RX {L:ag} (h:L.length%8=0):rest L=[]:=aC (by rw[jh,h])
theorem Iy {L:ag} (h:L.length%8=0):qu L=L:=by unfold qu;rw[h];simp
theorem Zi {L:ag} (h:L.length%8≠0):qu L=L++dt 0 (8-L.length%8):=by unfold qu;rw[WB,dO ω]
theorem qT (w:World) (b0 g n c:Nat) (A:ax) (L:ag) (b:pX w b0 g A n c L) (a:L.length<=4000000000000):
  Calls Tryz.prog 95 #[.pointer (some ⟨g,0,none⟩)] w (uV w b0 g A (qu L)):=by
 have c2:=b.cell.az 2;unfold wf at c2;rw[jh]at c2;by_cases h:L.length%8=0
 · rw[h]at c2
   have l:uV w b0 g A (qu L) (.returned (.tuple #[])) w:=by
    rw[Iy h];exact⟨A,n,c,rfl,b,bb.refl _ _,λk j=> .inl j⟩
   clear h
   go_in
   go_wp2;go_end0;exact l
 have hp:=Zi h;obtain⟨T,f⟩ :=ν (L.length%8:Nat);rw[f]at c2 hp h;have o:(T:Int)<8/\0<(T:Int):=ω;obtain⟨M,i⟩ :=ν (8-T:Nat);have m:(8:Int)-(T:Int)=(M:Int):=ω;rw[i]at hp;have HP:=η hp;have d:(M:Int)<=32:=ω;clear hp f i h
 go_in
 go_wp2_with fail;refine(Gf _ _ _ _ _ _ _ b 0 M ω d a).mono ?_;rintro e w' ⟨A',n',c',rfl,r⟩;go_wp2;go_end0;rw[HP.out];exact⟨A',n',c',rfl,r⟩
theorem Kw (w:World) (b0 g n c:Nat) (A:ax) (L:ag) (a:pX w b0 g A n c L):
  Calls Tryz.prog 98 #[.pointer (some ⟨g,0,none⟩)] w λe w'=>e= .returned (.slice A n c)/\aT .u8 w' b0 5 A n c (gU L)/\pX w' b0 g none 0 0 (rest L)/\bb w w' (λk=>k=g):=by
 have c0:=a.cell.az 0;have d:=a.cell.aH 0;unfold wf at c0
 go_in
 go_wp2;go_ret;have b:(rest L).length<8:=by rw[jh];omega
 refine⟨rfl,a.own.far (p:= ⟨g,0,none⟩) a.apart _, ⟨(a.cell.cE 0 _).congr λi hi=> ?_,a.lo, ?_,by simp [ai],a.bit.rest⟩,(bb.refl w (λk=>k=g)).setCell (p:= ⟨g,0,none⟩) (.inl rfl) _⟩
 · rw[qO b];obtain rfl | rfl | rfl:i=0\/i=1\/i=2:=ω;all_goals rfl
 rw[pC b];exact aT.di
theorem GK (w:World) (b0 g n c B m d:Nat) (A C:ax) (L b:ag) (H:pX w b0 g A n c L) (R:bT .u8 w B C m b) (S:B<=w.heap.size) (Q:0<m->∀K,C=some K->¬foot A g K.block) (D:∀x∈b,0<=x/\x<256) (t:L.length<=4000000000000) (Y:(m:Int)<=400000000000):
  Calls Tryz.prog 119 #[.pointer (some ⟨g,0,none⟩), .slice C m d] w (uV w b0 g A (qu L++dT b)):=by
 obtain⟨P,hi,r,q,o⟩ :=aL zC;have Hi:=η hi;have V:=η r;have U:=η q;have T:=η o;clear hi r q o
 go_in
 go_wp2_with fail;refine(qT _ _ _ _ _ _ _ H t).mono ?_;rintro e w1 ⟨A1,G,c1,rfl,f,j,wB⟩;have y:=j.rp R S Q;have a:=f.cell;have O:=a.az 0;have W:=a.aH 0;unfold wf at O;have X:G<=500000000001:=by have:=f.mW;rw[mj]at this;omega
 have E:b0<=w1.heap.size:=by have:=f.lo;have:=f.cell.lt;omega
 go_wp2_with (at_builtin;(refine bm .u8 b0 5 P 1 rfl (.tmp 12) (.tmp 13) _ rfl Tryz.underlying22 Hi.out V.out U.out T.out rfl f.own rfl y ω ω E ?_)
              intro A2 c2 w2 s I u;have F:=a.grown I (λe=>f.apart e.symm);have N:=F.az 0;have M:=F.aH 0)
 go_end0
 have J:ai A2≠some g:=by
  rcases u with e | e
  · rw[e];exact f.apart
  rw[e];intro h;injection h with h;have:=a.lt;omega
 have z:gU (qu L++dT b)=gU (qu L)++b:=by rw[rO (pE L),lC D]
 have v:rest (qu L++dT b)=rest (qu L):=by rw[RV (pE L),X5,RX (pE L)]
 refine⟨A2,G+m,c2,rfl, ⟨(F.cE 0 _).congr λi hi=> ?_,f.lo, ?_,J,H.bit.qu.app (dH.dT b)⟩, ?_, ?_⟩
 · rw[v];obtain rfl | rfl | rfl:i=0\/i=1\/i=2:=ω;all_goals rfl
 · rw[z];exact s.far (p:= ⟨g,0,none⟩) J _
 · exact(j.grown I λk l=>(wB k l).imp .inr id).setCell (p:= ⟨g,0,none⟩) (.inl (.inl rfl)) _
 intro k l;rcases u with e | e
 · exact wB k (e▸l)
 rw[e]at l;injection l with l;have:=j.size;exact .inr ω
theorem gG:(Tryz.prog.info? 5).map (λi=>(i.zero,i.size,i.bytes))=some (some (.int .u8 0),1,1):=by kernel_rfl
def rf (A:ax) (n c a:Nat):Nat->Value
 | 0=> .slice A n c
 | _=> .int .i64 a
structure pW (w:World) (b0 g:Nat) (A:ax) (n c:Nat) (B:ag) (a:Nat):Prop where
 cell:Ar w g 2 (rf A n c a)
 lo:b0<=g
 own:aT .u8 w b0 5 A n c B
 apart:ai A≠some g
 jc:∀x∈B,0<=x/\x<256
 le:a<=8*B.length
section
variable {w w':World} {b0 g n c a:Nat} {A:ax} {B:ag}
theorem pW.mW (h:pW w b0 g A n c B a):n=B.length:=h.own.1
theorem pW.dx {S:Nat->Prop} (h:pW w b0 g A n c B a) (b:bb w w' S) (d:∀k,foot A g k->¬S k):pW w' b0 g A n c B a:=
 ⟨b.ar h.cell (d g (.inl rfl)),h.lo,b.dJ h.own λq e=>d q (.inr e),h.apart,h.jc,h.le⟩
theorem pW.keeps (h:pW w b0 g A n c B a) (b:Below w.heap.size w w'):pW w' b0 g A n c B a:=
 h.dx (S:=λ_=>False) (bb.bC b) λ_ _=>id
theorem pW.drewN (h:pW w b0 g A n c B a) (q:Nat):pW (w.drewN q) b0 g A n c B a:= ⟨h.cell.drewN q,h.lo,h.own.drewN q,h.apart,h.jc,h.le⟩
theorem pW.eG (h:pW w b0 g A n c B a) {k:Nat} (b:foot A g k):b0<=k/\k<w.heap.size:=by
 rcases b with rfl | b
 · exact⟨h.lo,h.cell.lt⟩
 exact h.own.2.lt b
theorem pW.move (h:pW w b0 g A n c B a) {a':Nat} (b:a'<=8*B.length) {v:Value} (hv:v= .int .i64 a'):pW (w.setCell ⟨g,1,none⟩ v) b0 g A n c B a'/\bb w (w.setCell ⟨g,1,none⟩ v) (λk=>k=g):=
 ⟨⟨(h.cell.cE 1 v).congr λi hi=>by
   obtain rfl | rfl:i=0\/i=1:=ω
   · rfl
   rw[hv];rfl,h.lo,h.own.far (p:= ⟨g,1,none⟩) h.apart _,h.apart,h.jc,b⟩,(bb.refl w (λk=>k=g)).setCell (p:= ⟨g,1,none⟩) (.inl rfl) _⟩
end
theorem Ns (w:World):Calls Tryz.prog 188 #[] w λe w'=>∃g,e= .returned (.pointer (some ⟨g,0,none⟩))/\pW w' w.heap.size g none 0 0 [] 0/\Below w.heap.size w w':=by
 go_in
 go_wp2;go_ret
 have hA:Ar (w.alloc (.cells #[.slice none 0 0, .int .i64 0] 223)) w.heap.size 2 (rf none 0 0 0):=
  Ar.new w _ _ rfl λi hi=>by
   obtain rfl | rfl:i=0\/i=1:=ω;all_goals rfl
 exact⟨w.heap.size,rfl, ⟨hA,af _,aT.di,by simp [ai],σ,σ⟩,(aw _ _).alloc (af _) _⟩
theorem jg (w:World) (b0 g n c a:Nat) (A:ax) (B:ag) (b:pW w b0 g A n c B a) (f:B.length<=1000000000000):
  Calls Tryz.prog 175 #[.pointer (some ⟨g,0,none⟩)] w λe w'=>e= .returned (.int .i64 ((8*n-a:Nat):Int))/\∃q,w'=w.drewN q:=by
 have c0:=b.cell.az 0;have c1:=b.cell.az 1;unfold rf at c0 c1;have j:=b.mW;have d:=b.le;have l:(n:Int)<=1000000000000/\(0:Int)<=n/\(a:Int)<=8*(n:Int)/\(0:Int)<=a:=ω;have i:Hid ((8*(n:Int)-(a:Int))=((8*n-a:Nat):Int)):=by show _=_;omega
 have k:IntKind.i64.wrap (8*(n:Int))=8*(n:Int):=by rw[aM _ ω]
 have h:IntKind.i64.wrap (8*(n:Int)-(a:Int))=8*(n:Int)-(a:Int):=by rw[aM _ ω]
 clear j d
 go_in
 go_wp2;go_quiet (fail);go_wp2;go_ret;exact⟨bJ i.out,_,rfl⟩
def Tj (w:World) (b0 g:Nat) (B:ag) (a:Nat) (e:Ending) (w':World):Prop:=
 ∃A' n' c',e= .returned (.tuple #[])/\pW w' b0 g A' n' c' B a/\bb w w' (λk=>k=g)/\(∀k,ai A'=some k->w.heap.size<=k)
theorem JN (w:World) (b0 g n c a O m d:Nat) (A C:ax) (B b:ag) (f:pW w b0 g A n c B a) (U:bT .u8 w O C m b) (hB:O<=w.heap.size) (I:∀x∈b,0<=x/\x<256) (X:B.length+b.length<=1000000000000):
  Calls Tryz.prog 174 #[.pointer (some ⟨g,0,none⟩), .slice C m d] w (Tj w b0 g (B.drop (a/8)++b) (a%8)):=by
 have c0:=f.cell.az 0;have c1:=f.cell.az 1;have z0:=f.cell.aH 0;have z1:=f.cell.aH 1;unfold rf at c0 c1;have og:=f.cell.lt;have hn:=f.mW;have hm:=U.1;have F:=f.le;have Y:=f.own.2.iT;obtain⟨z,hi,s,o,r⟩ :=aL gG;obtain⟨G,hG⟩ :=ν (a/8:Nat);have am:(a:Int)/8=(G:Int):=ω;obtain⟨K,hK⟩ :=ν (n-G+m:Nat);have y:G<=n:=ω;have tJ:(n:Int)<=1000000000000/\(m:Int)<=1000000000000/\(0:Int)<=G/\(G:Int)<=n/\(0:Int)<=m/\(0:Int)<=a:=ω;have oL:∀W,(Instr.makeSlice 22 (.int .i64 0) (.int .i64 (K:Int))).run Tryz.prog W= .ok (.slice (some ⟨W.heap.size,0,none⟩) 0 K) (W.alloc (.cells (eB K (.int .u8 0)) 5)):=λW=>CY (P:=Tryz.prog) 22 5 z (.int .u8 0) Tryz.underlying22 hi s o rfl .i64 .i64 0 K (aG _) (by rw[r];omega) ω W;have oh:=cK (P:=Tryz.prog) 22 5 Tryz.underlying22 hi o A n c y;have mM:IntKind.i64.wrap ((n:Int)-(G:Int))=((n-G:Nat):Int):=by rw[aM _ ω];omega
 have D:IntKind.i64.wrap (((n-G:Nat):Int)+(m:Int))=(K:Int):=by rw[aM _ ω];omega
 have T:=f.own.rd.dw y Y;obtain⟨J,Z⟩ :=ν (n-G:Nat);rw[Z]at oh mM D T;have Hi:=η hi;have gL:=η s;have fN:=η o;have gM:=η r;have HG:=η hG;have al:J+m<=1000000000000:=ω;have N:K<=maxLen:=by unfold maxLen;omega
 have M:Hid ((a:Int)%8=((a%8:Nat):Int)):=by show _=_;omega
 have UT:a%8<=8*(B.drop (a/8)++b).length:=by rw[ae,ay];omega
 have L:b0<=w.heap.size:=by have:=f.lo;omega
 clear hi s o r hn hm hG hK Z F Y
 go_in
 go_wp2
 go_region_law
  (first
    | ((refine eK .u8 b0 5 z 1 rfl (.tmp 23) (.tmp 29) _ rfl Tryz.underlying22 Hi.out gL.out fN.out gM.out rfl (l:=[]) ⟨rfl, .inr ⟨_,_,rfl,L,cR w _,aG _,N,by rw[pU,dK],λi hi=>by simp at hi⟩⟩ rfl (T.alloc (af _) _) ω ω ξ ?_)
       intro A5 c5 S V u jF;rw[bX,ba]at V;have ox:bT .u8 S O C m b:=(U.alloc hB (.cells (eB K (.int .u8 0)) 5)).keep (λp hp=>eW (u.block _ ξ (by simp [ai];omega)));have lZ:b0<=S.heap.size:=by have:=u.size;simp at this;omega)
    | ((refine eK .u8 b0 5 z 1 rfl (.tmp 30) (.tmp 31) _ rfl Tryz.underlying22 Hi.out gL.out fN.out gM.out rfl V rfl ox ω ω lZ ?_)
       intro Q c6 R nH H fk
       have rA:∀q,ai A5=some q->w.heap.size<=q:=λq j=>by
        rcases jF with e | e
        · rw[e]at j;simp [ai]at j;omega
        rw[e]at j;simp at j;omega
       have v:=((f.cell.alloc (.cells (eB K (.int .u8 0)) 5)).drew.grown u (by simp [ai];omega)).grown H (λe=>by have:=rA g e.symm;omega);have ah:R.cell? ⟨g,0,none⟩ =some (.slice A n c):=v.az 0;have ad:R.cell? ⟨g,1,none⟩ =some (.int .i64 a):=v.az 1;have ac:=v.aH 0;have ab:=v.aH 1))
 all_goals
  go_wp2;go_end0;have E:=u.size;have VT:=H.size;simp at E
  have DI:∀q,ai Q=some q->w.heap.size<=q:=λq j=>by
   rcases fk with e | e
   · exact rA q (e▸j)
   rw[e]at j;injection j with j;omega
  have t:ai Q≠some g:=λe=>by have:=DI g e;omega
  refine⟨Q,J+m,c6,rfl, ⟨((v.cE 0 _).cE 1 _).congr λi hi=> ?_,f.lo, ?_,t, ?_,UT⟩, ?_,DI⟩
  · obtain rfl | rfl:i=0\/i=1:=ω
    · rfl
    show Value.int .i64 ((a:Int)%8)=Value.int .i64 ((a%8:Nat):Int);rw[M.out]
  · rw[HG.out];exact(nH.far (p:= ⟨g,0,none⟩) t _).far (p:= ⟨g,1,none⟩) t _
  · intro x hx;rcases aQ.1 hx with h | h
    · exact f.jc x (aW h)
    exact I x h
  exact(((((bb.refl w (λk=>k=g)).alloc _).drew).grown u (λq j=>by simp [ai]at j;exact .inr ω)).grown H (λq j=> .inr (rA q j))).setCell (p:= ⟨g,0,none⟩) (.inl rfl) _ |>.setCell (p:= ⟨g,1,none⟩) (.inl rfl) _
theorem WQ (w:World) (b0 g n c a:Nat) (A:ax) (B:ag) (i:pW w b0 g A n c B a) (b:B.length<=1000000000000) (N:Int) (hN:N<0\/32<N\/((rb B a).length:Int)<N):
  Calls Tryz.prog 210 #[.pointer (some ⟨g,0,none⟩), .int .i64 N] w λe w'=>e= .returned (.tuple #[.int .u32 0, .bool false])/\∃q,w'=w.drewN q:=by
 rw[gW,<-i.mW]at hN;have d:N<0\/(¬N<0/\32<N)\/(¬N<0/\¬32<N/\((8*n-a:Nat):Int)<N):=ω;clear hN;obtain⟨q,f⟩ :=ν (8*n-a:Nat);have k:=η f;rw[f]at d;clear f;rcases d with h | ⟨h,j⟩ | ⟨h,j,l⟩
 · go_in
   go_wp2
   go_ret2
   exact⟨rfl,0,rfl⟩
 · go_in
   go_wp2
   go_ret2
   exact⟨rfl,0,rfl⟩
 go_in
 go_wp2_with fail;refine(jg _ _ _ _ _ _ _ _ i b).mono ?_;rintro e w1 ⟨rfl,q1,rfl⟩;rw[k.out];go_wp2
 go_ret2
 exact⟨rfl,q1,rfl⟩
def YQ (w:World) (B:ag) (a J:Nat) (v at_ k:Value) (wr:World):Prop:=
 ∃j q:Nat,j<=J/\k= .int .i64 ((8*j:Nat):Int)/\at_= .int .i64 ((a+j:Nat):Int)/\v= .int .u64 (tG B a j)/\wr=w.drewN q
theorem Pq (w:World) (b0 g n c a:Nat) (A:ax) (B:ag) (h:pW w b0 g A n c B a) (p:B.length<=1000000000000) (N:Nat) (hN:(N:Int)<=32) (v:N<=(rb B a).length):
  Calls Tryz.prog 210 #[.pointer (some ⟨g,0,none⟩), .int .i64 N] w λe w'=>e= .returned (.tuple #[.int .u32 (fL ((rb B a).take N)), .bool true])/\∃q,w'=w.drewN q:=by
 have c0:=h.cell.az 0;have c1:=h.cell.az 1;unfold rf at c0 c1;have C:=h.mW;have E:=h.le;rw[gW,<-C]at v;obtain⟨r,U⟩ :=ν (a%8:Nat);obtain⟨d,K⟩ :=ν (a/8:Nat);have T:(a:Int)%8=(r:Int):=ω;have ad:(a:Int)/8=(d:Int):=ω;have tM:(r:Int)<8/\(0:Int)<=r:=ω;have ac:(0:Int)<=a/\(a:Int)<=8000000000000/\(0:Int)<=N:=ω;have Mh:¬(N:Int)<0/\¬32<(N:Int):=ω;obtain⟨J,hJ⟩ :=ν ((N+r+7)/8:Nat);have x:J<=5/\N+r<=8*J/\d+J<=n/\8*J<N+r+8:=ω;have f:=η x;obtain⟨q,Q⟩ :=ν (8*n-a:Nat);have W:((q:Int)<(N:Int))=False:=eq_false ω;have V:(q<N)=False:=eq_false ω;have HQ:=η Q;have m:a=8*d+r:=ω;have YC:=η m;have Co:IntKind.i64.wrap ((N:Int)+(r:Int))=(N:Int)+(r:Int):=by rw[aM _ ω]
 have bG:Hid (tG B d J/2 ^ r%2 ^ N=fL ((rb B a).take N)):=by show _=_;rw[m];exact Uq B ω
 have tJ:(n:Int)<=1000000000000:=ω;have HN:=η C;clear C E v U K hJ x Q m
 go_in
 go_wp2_with fail;refine(jg _ _ _ _ _ _ _ _ h p).mono ?_;rintro e w1 ⟨rfl,q1,rfl⟩;rw[HQ.out];go_wp2;go_quiet (fail);go_wp2
 go_loopw [6,7,8] (YQ w B d J) (λ_ _ k _=>40+1-(intOf k).toNat)
 case atStart=>exact⟨0,q1+nq,aG _,rfl,rfl,by rw[Qz],World.drewN_drewN ..⟩
 obtain⟨j,q2,hj,rfl,rfl,hv,rfl⟩ :=hrel;obtain⟨y,R,g2⟩ :=OG B d (j:=j) (τ f.out);obtain⟨X,u⟩ :=ν (tG B d j);rw[u]at y R g2 hv;subst hv;have HX:=η u;by_cases D:j<J
 · have F:((8*j:Nat):Int)<(N:Int)+(r:Int):=by have:=f.out;omega
   have sZ:d+j<n:=by have:=f.out;omega
   have ab:(0:Int)<=((8*j:Nat):Int)/\((8*j:Nat):Int)<=32/\(0:Int)<=((d+j:Nat):Int)/\((d+j:Nat):Int)<(n:Int):=by have:=f.out;omega
   have l:=Qy B d (j:=j) (by rw[<-HN.out];exact sZ) h.jc;obtain⟨b,I⟩ :=ν (ix B (d+j));have H:=Pa h.jc (d+j);rw[I]at l H;obtain⟨g5,rfl⟩ :=h.own.2.addr ω;have eY:=h.own.2.iT;have S:=h.own.2.cell (i:=d+j) ω;rw[I]at S;have al:(w.drewN q2).cell? ⟨g5,d+j,none⟩ =some (.int .u8 b):=S;obtain⟨b',G,s⟩ :=OG B d (j:=j+1) (τ f.out);rw[l,u]at s;have vH:=two_pos (8*j);have t:0<=b*2 ^ (8*j):=Int.mul_nonneg H.1 ω;have e1:IntKind.u64.wrap (b*2 ^ (8*j))=b*2 ^ (8*j):=by rw[fw];exact bu t ω
   have P:bits .or .u64 X (b*2 ^ (8*j))=tG B d (j+1):=by rw[l,u];exact Pm y R H.1 ω
   obtain⟨Y,o⟩ :=ν (tG B d (j+1));rw[o]at P;have HY:=η o;clear u l I o G s vH t b';go_wp2;go_roundw
   case rel=>exact⟨j+1,q2,D,by rw[show 8*(j+1)=8*j+8 by omega];go_num,by go_num,by rw[HY.out],rfl⟩
   case measure=>simp [intOf];omega
 obtain rfl:J=j:=ω;have F:¬((8*J:Nat):Int)<(N:Int)+(r:Int):=by have:=f.out;omega
 have z:(2:Int) ^ N<=4294967296:=by have:=gu (show N<=32 by omega);simpa using this
 have vH:=two_pos N;have Z:=two_pos r;have e1:IntKind.u64.wrap (2 ^ N)=2 ^ N:=by rw[fw];exact bu ω ω
 have ah:IntKind.u64.wrap (2 ^ N-1)=2 ^ N-1:=by rw[fw];exact bu ω ω
 have O:0<=X/2 ^ r:=Int.ediv_nonneg y ω;have Yh:X/2 ^ r<=X:=Int.ediv_le_self _ y;have P:bits .and .u64 (X/2 ^ r) (2 ^ N-1)=X/2 ^ r%2 ^ N:=Oc O ω ω;have M:=Int.emod_nonneg (X/2 ^ r) (b:=2 ^ N) ω;have L:=Int.emod_lt_of_pos (X/2 ^ r) vH;have hf:=bG.out;rw[HX.out]at hf;obtain⟨Y,o⟩ :=ν (X/2 ^ r%2 ^ N);rw[o]at P M L hf;have e3:IntKind.u32.wrap Y=Y:=by rw[iO];exact bu ω ω
 have HF:=η hf;clear hf o z vH Z;go_wp2;go_quiet (fail);go_wp2
 go_ret2
 rw[<-HF.out];exact⟨rfl,_,World.drewN_drewN ..⟩
theorem OH (w:World) (b0 g n c a:Nat) (A:ax) (B:ag) (d:pW w b0 g A n c B a) (b:B.length<=1000000000000) (N:Int) (hN:N<0\/32<N\/((rb B a).length:Int)<N):
  Calls Tryz.prog 202 #[.pointer (some ⟨g,0,none⟩), .int .i64 N] w λe w'=>e= .returned (.tuple #[.int .u32 0, .bool false])/\∃q,w'=w.drewN q:=by
 go_in
 go_wp2_with fail;refine(WQ _ _ _ _ _ _ _ _ d b N hN).mono ?_;rintro e w1 ⟨rfl,q1,rfl⟩;go_wp2
 go_ret2
 exact⟨rfl,q1,rfl⟩
theorem Fq (w:World) (b0 g n c a:Nat) (A:ax) (B:ag) (b:pW w b0 g A n c B a) (d:B.length<=1000000000000) (N:Nat) (hN:(N:Int)<=32) (f:N<=(rb B a).length):
  Calls Tryz.prog 202 #[.pointer (some ⟨g,0,none⟩), .int .i64 N] w λe w'=>e= .returned (.tuple #[.int .u32 (fL ((rb B a).take N)), .bool true])/\pW w' b0 g A n c B (a+N)/\bb w w' (λk=>k=g):=by
 have j:=f;rw[gW]at j;have h:=b.le;have r:(0:Int)<=a/\(a:Int)<=8000000000000/\(0:Int)<=N:=ω;have i:a+N<=8*B.length:=ω;have c1:=b.cell.az 1;have s:=b.cell.aH 1;unfold rf at c1;obtain⟨V,l⟩ :=ν (fL ((rb B a).take N));have HV:=η l;clear j h l
 go_in
 go_wp2_with fail;refine(Pq _ _ _ _ _ _ _ _ b d N hN f).mono ?_;rintro e w1 ⟨rfl,q1,rfl⟩;rw[HV.out];have p:=b.drewN q1;go_wp2
 go_ret2
 obtain⟨o,m⟩ :=p.move i (v:= .int .i64 ((a:Int)+(N:Int))) σ;rw[HV.out];exact⟨rfl,o,((bb.refl w _).drewN q1).trans m λk q=> .inl q⟩
theorem jt (w:World) (b0 g n c a:Nat) (A:ax) (B:ag) (b:pW w b0 g A n c B a) (h:B.length<=1000000000000):
  Calls Tryz.prog 200 #[.pointer (some ⟨g,0,none⟩)] w λe w'=>e= .returned (.tuple #[])/\pW w' b0 g A n c B ((a+7)/8*8)/\bb w w' (λk=>k=g):=by
 have c1:=b.cell.az 1;have j:=b.cell.aH 1;unfold rf at c1;have d:=b.le;have i:(0:Int)<=a/\(a:Int)<=8000000000000:=ω;have hv:Hid (((a:Int)+7)/8*8=(((a+7)/8*8:Nat):Int)):=by show _=_;omega
 have f:(a+7)/8*8<=8*B.length:=ω;clear d
 go_in
 go_wp2;go_end0;exact⟨rfl,b.move f (by rw[hv.out])⟩
def Tv (w:World) (b0 g n c a K:Nat) (A:ax) (B:ag) (e:Ending) (w':World):Prop:=
 ∃A' c',e= .returned (.slice A' K c')/\aT .u8 w' w.heap.size 5 A' K c' ((B.drop ((a+7)/8)).take K)/\pW w' b0 g A n c B ((a+7)/8*8+8*K)/\bb w w' (λk=>k=g)
theorem ya (w:World) (b0 g n c a:Nat) (A:ax) (B:ag) (y:pW w b0 g A n c B a) (f:B.length<=1000000000000) (N:Int) (K:Nat) (hK:(K:Int)=max 0 (min N ((n-(a+7)/8:Nat):Int))):
  Calls Tryz.prog 191 #[.pointer (some ⟨g,0,none⟩), .int .i64 N] w (Tv w b0 g n c a K A B):=by
 obtain⟨i,I⟩ :=ν ((a+7)/8:Nat);have hn:=y.mW;have ac:=y.le;have ah:i<=n:=ω;obtain⟨q,m⟩ :=ν (n-i:Nat);rw[I,m]at hK;have ab:Hid (8*n-(a+7)/8*8=8*q):=by show _=_;omega
 have G:Hid (8*n-i*8=8*q):=by show _=_;omega
 have Ra:((8*q:Nat):Int)/8=(q:Int):=ω;have al:(0:Int)<=((8*q:Nat):Int)/\(q:Int)<=1000000000000/\(0:Int)<=(i:Int)/\(i:Int)<=1000000000000:=ω;have ao:((i*8:Nat):Int)/8=(i:Int):=ω;have an:(0:Int)<=((i*8:Nat):Int):=ω;obtain⟨X,hi,O,M,L⟩ :=aL gG;have Hi:=η hi;have gL:=η O;have V:=η M;have gM:=η L;have C:=η I;have HQ:=η m;have HN:=η hn;have am:g+1<=w.heap.size:=y.cell.lt;clear hi O M L I m hn ac;by_cases IK:K=0
 · subst IK;have H:(N<(q:Int)/\N<1)\/((q:Int)<N/\(q:Int)<1)\/(N=(q:Int)/\(q:Int)<1):=ω;clear hK;rcases H with ⟨h,h1⟩ | ⟨h,h1⟩ | ⟨rfl,h1⟩
   all_goals
    go_in
    go_wp2_with fail;refine(jt _ _ _ _ _ _ _ _ y f).mono ?_;rintro e w1 ⟨rfl,p,o⟩
    go_wp2_with fail;refine(jg _ _ _ _ _ _ _ _ p f).mono ?_;rintro e w2 ⟨rfl,q2,rfl⟩;rw[ab.out];go_wp2;go_ret;exact⟨none,0,rfl,aT.di,p.drewN q2,o.drewN q2⟩
 have bd:(1:Int)<=K/\(K:Int)<=(q:Int):=ω;have H:((K:Int)<(q:Int)/\N=(K:Int))\/((K:Int)<N/\q=K)\/(N=(K:Int)/\q=K):=ω;clear hK IK;have ap:i+K<=n:=by have:=HQ.out;omega
 have eY:=y.own.2.iT;have Y:=jE (P:=Tryz.prog) 22 5 Tryz.underlying22 Hi.out V.out A n c (a:=i) (b:=i+K) ω ω;rw[bP]at Y;have Jf:∀W,(Instr.slice 22 (.slice A n c) (some (.int .i64 (i:Int))) (some (.int .i64 ((i:Int)+(K:Int)))) none).run Tryz.prog W= .ok (.slice (dw A c i) K (c-i)) W:=λW=>by have:=Y W;rwa [i6]at this
 have vI:=((y.own.rd.dw ah eY).pre (j:=K) ω).more (B':=w.heap.size) (af _);have UT:i*8+8*K<=8*B.length:=by have:=HN.out;omega
 have Z:∀z,dw A c i=some z->¬z.block=g:=λz e h=>y.apart (by
  unfold dw at e;split at e
  · rw[e];simp [ai,h]
  cases A with
  | none=>simp at e
  | some x=>simp at e;subst e;rw[bH]at h;simp [ai,h])
 have J:Hid ((a+7)/8*8=i*8):=by show _=_;rw[C.out]
 have aE:K<=1000000000000:=by have:=HN.out;omega
 clear Y;rcases H with ⟨h,rfl⟩ | ⟨h,rfl⟩ | ⟨rfl,rfl⟩
 · go_in
   go_wp2_with fail;refine(jt _ _ _ _ _ _ _ _ y f).mono ?_;rintro e w1 ⟨rfl,p,o⟩;rw[J.out]at p
   go_wp2_with fail;refine(jg _ _ _ _ _ _ _ _ p f).mono ?_;rintro e w2 ⟨rfl,q2,rfl⟩;rw[G.out];have l:=p.drewN q2;have c1:=l.cell.az 1;have z1:=l.cell.aH 1;unfold rf at c1;obtain⟨d,t⟩ :=l.move UT (v:= .int .i64 ((i:Int)*8+8*(K:Int))) σ;have u:=(d.cell.alloc (.cells #[] 5)).az 0;unfold rf at u;have r:bb w ((w1.drewN q2).setCell ⟨g,1,none⟩ (.int .i64 ((i:Int)*8+8*(K:Int)))) (λk=>k=g):=(o.drewN q2).trans t λk s=> .inl s;have Q:=(r.rp vI (af _) (λh0 z e h=>Z z e h)).alloc r.size (.cells #[] 5);have D:=r.size;have R:=d.cell.lt
   go_wp2_with (at_builtin;(refine bm .u8 w.heap.size 5 X 1 rfl (.tmp 31) (.tmp 40) _ rfl Tryz.underlying22 Hi.out gL.out V.out gM.out rfl (aT.lit (by simp [World.setCell]) [] _ D σ) rfl Q ω ω (by rw[Go.Proofs.YtgiimmkmjpbecaaGreat.jy];omega) ?_)
                intro U T w5 E F jF)
   rw[bX,ba]at E;go_ret;refine⟨U,T,rfl,by rw[C.out];exact E, ?_, ?_⟩
   · rw[J.out];exact(d.keeps ((aw _ _).alloc (af _) (.cells #[] 5))).dx (S:=λk=>some k=ai (some (⟨w1.heap.size,0,none⟩ :Addr))) ((bb.refl _ _).grown F λq m=> .inl m.symm) (λk s h=>by have:=(d.eG s).2;simp [World.setCell]at this;simp [ai]at h;omega)
   exact(r.alloc _).grown F λq m=>by simp [ai]at m;simp [World.setCell]at D;exact .inr ω
 · go_in
   go_wp2_with fail;refine(jt _ _ _ _ _ _ _ _ y f).mono ?_;rintro e w1 ⟨rfl,p,o⟩;rw[J.out]at p
   go_wp2_with fail;refine(jg _ _ _ _ _ _ _ _ p f).mono ?_;rintro e w2 ⟨rfl,q2,rfl⟩;rw[G.out];have l:=p.drewN q2;have c1:=l.cell.az 1;have z1:=l.cell.aH 1;unfold rf at c1;obtain⟨d,t⟩ :=l.move UT (v:= .int .i64 ((i:Int)*8+8*(q:Int))) σ;have u:=(d.cell.alloc (.cells #[] 5)).az 0;unfold rf at u;have r:bb w ((w1.drewN q2).setCell ⟨g,1,none⟩ (.int .i64 ((i:Int)*8+8*(q:Int)))) (λk=>k=g):=(o.drewN q2).trans t λk s=> .inl s;have Q:=(r.rp vI (af _) (λh0 z e h=>Z z e h)).alloc r.size (.cells #[] 5);have D:=r.size;have R:=d.cell.lt
   go_wp2_with (at_builtin;(refine bm .u8 w.heap.size 5 X 1 rfl (.tmp 31) (.tmp 40) _ rfl Tryz.underlying22 Hi.out gL.out V.out gM.out rfl (aT.lit (by simp [World.setCell]) [] _ D σ) rfl Q ω ω (by rw[Go.Proofs.YtgiimmkmjpbecaaGreat.jy];omega) ?_)
                intro U T w5 E F jF)
   rw[bX,ba]at E;go_ret;refine⟨U,T,rfl,by rw[C.out];exact E, ?_, ?_⟩
   · rw[J.out];exact(d.keeps ((aw _ _).alloc (af _) (.cells #[] 5))).dx (S:=λk=>some k=ai (some (⟨w1.heap.size,0,none⟩ :Addr))) ((bb.refl _ _).grown F λq m=> .inl m.symm) (λk s h=>by have:=(d.eG s).2;simp [World.setCell]at this;simp [ai]at h;omega)
   exact(r.alloc _).grown F λq m=>by simp [ai]at m;simp [World.setCell]at D;exact .inr ω
 go_in
 go_wp2_with fail;refine(jt _ _ _ _ _ _ _ _ y f).mono ?_;rintro e w1 ⟨rfl,p,o⟩;rw[J.out]at p
 go_wp2_with fail;refine(jg _ _ _ _ _ _ _ _ p f).mono ?_;rintro e w2 ⟨rfl,q2,rfl⟩;rw[G.out];have l:=p.drewN q2;have c1:=l.cell.az 1;have z1:=l.cell.aH 1;unfold rf at c1;obtain⟨d,t⟩ :=l.move UT (v:= .int .i64 ((i:Int)*8+8*(q:Int))) σ;have u:=(d.cell.alloc (.cells #[] 5)).az 0;unfold rf at u;have r:bb w ((w1.drewN q2).setCell ⟨g,1,none⟩ (.int .i64 ((i:Int)*8+8*(q:Int)))) (λk=>k=g):=(o.drewN q2).trans t λk s=> .inl s;have Q:=(r.rp vI (af _) (λh0 z e h=>Z z e h)).alloc r.size (.cells #[] 5);have D:=r.size;have R:=d.cell.lt
 go_wp2_with (at_builtin;(refine bm .u8 w.heap.size 5 X 1 rfl (.tmp 31) (.tmp 40) _ rfl Tryz.underlying22 Hi.out gL.out V.out gM.out rfl (aT.lit (by simp [World.setCell]) [] _ D σ) rfl Q ω ω (by rw[Go.Proofs.YtgiimmkmjpbecaaGreat.jy];omega) ?_)
              intro U T w5 E F jF)
 rw[bX,ba]at E;go_ret;refine⟨U,T,rfl,by rw[C.out];exact E, ?_, ?_⟩
 · rw[J.out];exact(d.keeps ((aw _ _).alloc (af _) (.cells #[] 5))).dx (S:=λk=>some k=ai (some (⟨w1.heap.size,0,none⟩ :Addr))) ((bb.refl _ _).grown F λq m=> .inl m.symm) (λk s h=>by have:=(d.eG s).2;simp [World.setCell]at this;simp [ai]at h;omega)
 exact(r.alloc _).grown F λq m=>by simp [ai]at m;simp [World.setCell]at D;exact .inr ω
end Go.Proofs.YtgiimmkmjpbecaaGreat
