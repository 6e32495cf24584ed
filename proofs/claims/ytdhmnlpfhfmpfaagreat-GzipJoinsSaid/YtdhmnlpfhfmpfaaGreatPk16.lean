/-
  part
-/
import Derived.Test.YtdhmnlpfhfmpfaaGreatPk6
import Derived.Test.YtdhmnlpfhfmpfaaGreatStep
import Derived.Test.YtdhmnlpfhfmpfaaGreatProg
import Derived.Deep.RegionLaw
set_option linter.unusedVariables false
set_option maxRecDepth 100000
set_option maxHeartbeats 4000000
namespace Go.Proofs.YtdhmnlpfhfmpfaaGreat
open Go.RowKit
theorem zG:(Tryz.prog.info? 5).map (λi=>(i.zero,i.size,i.bytes))=some (some (.int .u8 0),1,1):=by kernel_rfl
def wf (A:Option Addr) (n c:Nat) (t:List Int):Nat->Value
 | 0=> .slice A n c
 | 1=> .int .u64 (fH t)
 | _=> .int .i64 t.length
structure qf (w:World) (b0 g:Nat) (A:Option Addr) (n c:Nat) (L:List Int):Prop where
 cell:Ar w g 3 (wf A n c (rest L))
 lo:b0<=g
 own:aW .u8 w b0 5 A n c (jO L)
 apart:ai A≠some g
 bit:dJ L
theorem qf.mV {w:World} {b0 g n c:Nat} {A:Option Addr} {L:List Int} (h:qf w b0 g A n c L):n=L.length/8:=by rw[h.own.1,mj]
theorem qf.fz {w w':World} {b0 g n c:Nat} {A:Option Addr} {L:List Int} {S:Nat->Prop} (h:qf w b0 g A n c L) (a:bj w w' S) (b:∀k,foot A g k->¬S k):qf w' b0 g A n c L:=
 ⟨a.ar h.cell (b g (.inl rfl)),h.lo,a.eH h.own λq d=>b q (.inr d),h.apart,h.bit⟩
theorem qf.keeps {w w':World} {b0 g n c:Nat} {A:Option Addr} {L:List Int} (h:qf w b0 g A n c L) (a:Below w.heap.size w w'):qf w' b0 g A n c L:=
 h.fz (S:=λ_=>False) (bj.bA a) λ_ _=>id
theorem qf.eJ {w:World} {b0 g n c:Nat} {A:Option Addr} {L:List Int} (h:qf w b0 g A n c L) {k:Nat} (a:foot A g k):b0<=k/\k<w.heap.size:=by
 rcases a with rfl | a
 · exact⟨h.lo,h.cell.lt⟩
 exact h.own.2.lt a
theorem MH (w:World):Calls Tryz.prog 39 #[] w λe w'=>∃g,e= .returned (.pointer (some ⟨g,0,none⟩))/\qf w' w.heap.size g none 0 0 []/\Below w.heap.size w w':=by
 go_enter Tryz.func39,Tryz.ntmps39;go_wp2;go_ret
 have hA:Ar (w.alloc (.cells #[.slice none 0 0, .int .u64 0, .int .i64 0] 107)) w.heap.size 3 (wf none 0 0 (rest [])):=
  Ar.new w _ _ rfl λi hi=>by
   obtain rfl | rfl | rfl:i=0\/i=1\/i=2:=ω;all_goals rfl
 exact⟨w.heap.size,rfl, ⟨hA,ag _,aW.dK,by simp [ai],dJ.dK⟩,(aw _ _).alloc (ag _) _⟩
def vg (w:World) (b0 g:Nat) (A:Option Addr) (L:List Int) (e:Ending) (w':World):Prop:=
 ∃A' n' c',e= .returned (.tuple #[])/\qf w' b0 g A' n' c' L/\bj w w' (foot A g)/\(∀k,ai A'=some k->ai A=some k\/w.heap.size<=k)
def wN (w:World) (b0 g:Nat) (A:Option Addr) (L s:List Int) (k:Nat) (wr:World):Prop:=
 ∃(j m d:Nat) (A':Option Addr),j+k=s.length/8/\Ar wr g 3 (wf A' m d (s.drop (8*j)))/\aW .u8 wr b0 5 A' m d (jO L++jO (s.take (8*j)))/\ai A'≠some g/\bj w wr (foot A g)/\(∀q,ai A'=some q->ai A=some q\/w.heap.size<=q)
theorem wN.next {w wr l f:World} {b0 g j k m d u K:Nat} {A A' a:Option Addr} {L s:List Int} {Z:Int} (o:dJ s) (G:j+k=s.length/8) (F:0<k) (x:fH (s.drop (8*j))=Z) (E:(s.drop (8*j)).length=K)
  (t:ai A'≠some g) (H:g<wr.heap.size) (C:bj w wr (foot A g)) (r:bj w f (foot A g)) (y:wr.heap.size<=f.heap.size) (c:∀q,ai A'=some q->ai A=some q\/w.heap.size<=q)
  (z:aW .u8 l b0 5 a (m+1) u (jO L++jO (s.take (8*j))++[Z%256])) (B:f.grownBy l (ai A')) (v:ai a=ai A'\/ai a=some f.heap.size) (D:Ar l g 3 (wf A' m d (s.drop (8*j)))):
  wN w b0 g A L s (k-1) (((l.setCell ⟨g,0,none⟩ (.slice a (m+1) u)).setCell ⟨g,1,none⟩ (.int .u64 (Z/256))).setCell ⟨g,2,none⟩ (.int .i64 ((K:Int)-8))):=by
 have n:ai a≠some g:=by
  rcases v with e | e
  · rw[e];exact t
  rw[e];intro h;injection h;omega
 have ri:∀q,ai a=some q->ai A=some q\/w.heap.size<=q:=by
  intro q b;rcases v with e | e
  · exact c q (e▸b)
  rw[e]at b;injection b with b;have:=C.size;exact .inr ω
 have I:8*(j+1)<=s.length:=ω;refine⟨j+1,m+1,u,a,ω, ?_, ?_,n, ?_,ri⟩
 · refine(((D.bC (i:=0) ω _).bC (i:=1) ω _).bC (i:=2) ω _).congr λi hi=> ?_;obtain rfl | rfl | rfl:i=0\/i=1\/i=2:=ω
   · rfl
   · show Value.int .u64 (Z/256)=Value.int .u64 (fH (s.drop (8*(j+1))));rw[<-x,tD o,tD o,show 8*(j+1)=8*j+8 by omega,Int.pow_add,ei (jx (two_pos _))];rfl
   show Value.int .i64 ((K:Int)-8)=Value.int .i64 ((s.drop (8*(j+1))).length:Int);rw[av]at E⊢;congr 1;omega
 · rw[SI ω o,x,<-ak];exact((z.far (p:= ⟨g,0,none⟩) n _).far (p:= ⟨g,1,none⟩) n _).far (p:= ⟨g,2,none⟩) n _
 exact(((r.grown B λq b=>(c q b).imp .inr id).setCell (p:= ⟨g,0,none⟩) (.inl (.inl rfl)) _).setCell (p:= ⟨g,1,none⟩) (.inl (.inl rfl)) _).setCell (p:= ⟨g,2,none⟩) (.inl (.inl rfl)) _
theorem wN.end_ {w wr:World} {b0 g j m d N:Nat} {A A':Option Addr} {L:List Int} {V:Int} (i:dJ L) (e:b0<=g) (f:j=(rest L++dv V N).length/8) (c:Ar wr g 3 (wf A' m d ((rest L++dv V N).drop (8*j)))) (a:aW .u8 wr b0 5 A' m d (jO L++jO ((rest L++dv V N).take (8*j))))
  (b:ai A'≠some g) (h:bj w wr (foot A g)) (hA:∀q,ai A'=some q->ai A=some q\/w.heap.size<=q):vg w b0 g A (L++dv V N) (.returned (.tuple #[])) wr:=by
 subst f;rw[SK,<-N5]at a;rw[<-QE,<-J8]at c;exact⟨A',m,d,rfl, ⟨c,e,a,b,i.app (dJ.dv V N)⟩,h,hA⟩
theorem FK (w:World) (b0 g n c:Nat) (A:Option Addr) (L:List Int) (r:qf w b0 g A n c L) (V:Int) (N:Nat) (hV:0<=V/\V<4294967296) (hN:(N:Int)<=32) (an:L.length<=4000000000000):
  Calls Tryz.prog 68 #[.pointer (some ⟨g,0,none⟩), .int .u32 V, .int .i64 N] w (vg w b0 g A (L++dv V N)):=by
 obtain⟨t,ht⟩ :=ν (rest L);have a:=r.cell;rw[ht]at a;have c0:=a.cell (i:=0) ω;have c1:=a.cell (i:=1) ω;have c2:=a.cell (i:=2) ω;have z1:=a.frozen' (i:=1) ω;have z2:=a.frozen' (i:=2) ω;unfold wf at c0 c1 c2;obtain⟨X,U⟩ :=ν (fH t);obtain⟨T,B⟩ :=ν (t.length:Nat);have vE:dJ t:=by rw[<-ht];exact r.bit.rest
 have S:=km vE;obtain⟨s,u⟩ :=ν (t++dv V N);have oP:s.length=T+N:=by rw[<-u,af,aP,B]
 have rJ:dJ s:=by rw[<-u];exact vE.app (dJ.dv V N)
 have Dr:fH s=X+V%2 ^ N*2 ^ T:=by rw[<-u,iZ,U,B,gH,eO]
 rw[U,B]at S;rw[U]at c1;rw[B]at c2;have bp:(0:Int)<=N:=ω;have Dj:¬(N:Int)<0/\¬32<(N:Int):=ω;have Dk:(T:Int)<8:=by have:=jS L;rw[ht,B]at this;omega
 have ac:(2:Int) ^ N<=4294967296:=by have:=gq (show N<=32 by omega);simpa using this
 have oo:=two_pos N;have Xy:(2:Int) ^ T<=128:=by have:=gq (show T<=7 by omega);simpa using this
 have ab:=two_pos T;have e1:IntKind.u64.wrap (2 ^ N)=2 ^ N:=by rw[fx];exact bn ω ω
 have al:IntKind.u64.wrap (2 ^ N-1)=2 ^ N-1:=by rw[fx];exact bn ω ω
 have e2:bits .and .u64 V (2 ^ N-1)=V%2 ^ N:=MV hV.1 ω ω;have o:=jq V (b:=2 ^ N) ω;have J:=ia V oo;obtain⟨Y,hY⟩ :=ν (V%2 ^ N);rw[hY]at e2 o J Dr;have ah:0<=Y*2 ^ T/\Y*2 ^ T<=4294967295*128:= ⟨Int.mul_nonneg o ω,Int.mul_le_mul ω Xy ω ω⟩;have e3:IntKind.u64.wrap (Y*2 ^ T)=Y*2 ^ T:=by rw[fx];exact bn ω ω
 have e4:bits .or .u64 X (Y*2 ^ T)=fH s:=by rw[Dr];exact O4 S.1 S.2 o ω
 obtain⟨Z,k⟩ :=ν (fH s);rw[k]at e4
 have G:=((a.drew.bC (i:=1) ω (.int .u64 Z)).bC (i:=2) ω (.int .i64 ((T:Int)+(N:Int)))).congr (f':=wf A n c (s.drop (8*0))) (λi hi=>by
  obtain rfl | rfl | rfl:i=0\/i=1\/i=2:=ω
  · rfl
  · show Value.int .u64 Z=Value.int .u64 (fH (s.drop 0));rw[iw,k]
  show Value.int .i64 ((T:Int)+(N:Int))=Value.int .i64 ((s.drop 0).length:Int);rw[iw,oP];simp)
 have rR:aW .u8 ((w.drew.setCell ⟨g,1,none⟩ (.int .u64 Z)).setCell ⟨g,2,none⟩ (.int .i64 ((T:Int)+(N:Int)))) b0 5 A n c (jO L++jO (s.take (8*0))):=by
  have:jO (s.take (8*0))=[]:=by rw[Nat.mul_zero,iz];rfl
  rw[this,ax];exact(r.own.drew.far (p:= ⟨g,1,none⟩) r.apart _).far (p:= ⟨g,2,none⟩) r.apart _
 have F:bj w ((w.drew.setCell ⟨g,1,none⟩ (.int .u64 Z)).setCell ⟨g,2,none⟩ (.int .i64 ((T:Int)+(N:Int)))) (foot A g):=
  (((bj.refl w _).drew).setCell (p:= ⟨g,1,none⟩) (.inl (.inl rfl)) _).setCell (p:= ⟨g,2,none⟩) (.inl (.inl rfl)) _
 have Q:=η r;obtain⟨i0,hi,E,D,C⟩ :=aJ zG;have Hi:=η hi;have gV:=η E;have fY:=η D;have gW:=η C;have HS:=η u;have HT:=η ht;have Rl:=η oP;have H:=mj L;have HB:=η H;clear hi E D C u ht U B oP Dr hY k a ac oo Xy ab o J ah S r H;go_enter Tryz.func68,Tryz.ntmps68;go_wp2;go_region;go_wp2;clear e1 al e2 e3 e4 c0 c1 c2 z1 z2;go_loopg [] (s.length/8) (wN w b0 g A L s)
 case atStart=>exact⟨0,n,c,A,bZ _,G,rR,Q.out.apart,F,λq hq=> .inl hq⟩
 clear G rR F;obtain⟨j,m,d,A',hj,h,f,y,R,O⟩ :=hrel;have c0:=h.cell (i:=0) ω;have c1:=h.cell (i:=1) ω;have c2:=h.cell (i:=2) ω;have z0:=h.frozen' (i:=0) ω;have z1:=h.frozen' (i:=1) ω;have z2:=h.frozen' (i:=2) ω;unfold wf at c0 c1 c2;obtain⟨Z,k⟩ :=ν (fH (s.drop (8*j)));obtain⟨K,M⟩ :=ν ((s.drop (8*j)).length:Nat);have ad:=km (rJ.dX (8*j));rw[M,k]at ad;have z:=M;rw[av]at z;rw[k]at c1;rw[M]at c2;have bs:(K:Int)<=40/\(0:Int)<=K:=by have:=Rl.out;omega
 have bo:Z<18446744073709551616:=by
  have:=gq (show K<=40 by omega);have h2:(2:Int) ^ 40=1099511627776:=rfl;omega
 by_cases Zt:8<=(K:Int)
 rotate_left
 · have Zq:j=s.length/8:=ω;have am:=η Zq;clear Zq;go_wp2;go_end0;have u:=HS.out;have ht:=HT.out;subst u;subst ht;exact wN.end_ Q.out.bit Q.out.lo am.out h f y R O
 have bi:m<=600000000000:=by
  have h1:=f.1;rw[af,mj,mj,aA]at h1;have:=Rl.out;omega
 have bl:b0<=wr.heap.size+1:=by have:=R.size;have:=Q.out.lo;have:=Q.out.cell.lt;omega
 have v:=SI (l:=s) (j:=j) ω rJ;rw[k]at v;have bE:=η v;have HJ:=η hj;have P:=η z;have HZ:=η k;have C8:=η M;have qh:(8:Int)<=K:=Zt;clear v hj z k M;have be:IntKind.u8.wrap Z=Z%256:=IntKind.wrap_u8 Z;have I:=(h.alloc (.cells #[.int .u8 (Z%256)] 5)).drew;have bx:(wr.alloc (.cells #[.int .u8 (Z%256)] 5)).drew.cell? ⟨g,0,none⟩ =some (.slice A' m d):=I.cell (i:=0) ω;go_wp2
 go_region_law
  (first | ((refine eM .u8 b0 5 i0 1 rfl _ _ _ rfl Tryz.underlying22 Hi.out gV.out fY.out gW.out rfl ((f.alloc _).drew) rfl (bU.lit .u8 wr [Z%256] 5) ω ω ξ ?_)
            intro A5 c5 W ik om jA;have x:=I.grown om (λe=>y e.symm);have bB:W.cell? ⟨g,0,none⟩ =some (.slice A' m d):=x.cell (i:=0) ω;have bv:W.cell? ⟨g,1,none⟩ =some (.int .u64 Z):=by rw[<-HZ.out];exact x.cell (i:=1) ω
            have bt:W.cell? ⟨g,2,none⟩ =some (.int .i64 K):=by rw[<-C8.out];exact x.cell (i:=2) ω
            have aE:=x.frozen' (i:=0) ω;have ap:=x.frozen' (i:=1) ω;have ao:=x.frozen' (i:=2) ω))
 all_goals
  go_wp2;go_roundg (gk-1)
  case measure=>have:=HJ.out;have:=P.out;omega
  case rel=>exact wN.next rJ HJ.out (by have:=HJ.out;have:=P.out;omega) HZ.out C8.out y h.lt R ((R.alloc _).drew) σ O ik om jA x
theorem QG {L:List Int} (h:L.length%8=0):rest L=[]:=aC (by rw[jS,h])
theorem Hs {L:List Int} (h:L.length%8=0):qy L=L:=by unfold qy;rw[h];simp
theorem Ym {L:List Int} (h:L.length%8≠0):qy L=L++dv 0 (8-L.length%8):=by unfold qy;rw[VK,dU ω]
theorem qW (w:World) (b0 g n c:Nat) (A:Option Addr) (L:List Int) (b:qf w b0 g A n c L) (a:L.length<=4000000000000):
  Calls Tryz.prog 46 #[.pointer (some ⟨g,0,none⟩)] w (vg w b0 g A (qy L)):=by
 have c2:=b.cell.cell (i:=2) ω;unfold wf at c2;rw[jS]at c2;by_cases h:L.length%8=0
 · rw[h]at c2
   have m:vg w b0 g A (qy L) (.returned (.tuple #[])) w:=by
    rw[Hs h];exact⟨A,n,c,rfl,b,bj.refl _ _,λk l=> .inl l⟩
   clear h;go_enter Tryz.func46,Tryz.ntmps46;go_wp2;go_end0;exact m
 have hp:=Ym h;obtain⟨T,f⟩ :=ν (L.length%8:Nat);rw[f]at c2 hp h;have p:(T:Int)<8/\0<(T:Int):=ω;obtain⟨M,j⟩ :=ν (8-T:Nat);have o:(8:Int)-(T:Int)=(M:Int):=ω;rw[j]at hp;have HP:=η hp;have d:(M:Int)<=32:=ω;clear hp f j h;go_enter Tryz.func46,Tryz.ntmps46
 go_wp2_with fail;refine(FK _ _ _ _ _ _ _ b 0 M ω d a).mono ?_;rintro e w' ⟨A',n',c',rfl,r⟩;go_wp2;go_end0;rw[HP.out];exact⟨A',n',c',rfl,r⟩
theorem JM (w:World) (b0 g n c:Nat) (A:Option Addr) (L:List Int) (a:qf w b0 g A n c L):
  Calls Tryz.prog 47 #[.pointer (some ⟨g,0,none⟩)] w λe w'=>e= .returned (.slice A n c)/\aW .u8 w' b0 5 A n c (jO L)/\qf w' b0 g none 0 0 (rest L)/\bj w w' (λk=>k=g):=by
 have c0:=a.cell.cell (i:=0) ω;have d:=a.cell.frozen' (i:=0) ω;unfold wf at c0;go_enter Tryz.func47,Tryz.ntmps47;go_wp2;go_ret;have b:(rest L).length<8:=by rw[jS];omega
 refine⟨rfl,a.own.far (p:= ⟨g,0,none⟩) a.apart _, ⟨(a.cell.bC (i:=0) ω _).congr λi hi=> ?_,a.lo, ?_,by simp [ai],a.bit.rest⟩,(bj.refl w (λk=>k=g)).setCell (p:= ⟨g,0,none⟩) (.inl rfl) _⟩
 · rw[qP b];obtain rfl | rfl | rfl:i=0\/i=1\/i=2:=ω;all_goals rfl
 rw[pI b];exact aW.dK
theorem Ge (w:World) (b0 g n c B m d:Nat) (A C:Option Addr) (L b:List Int) (H:qf w b0 g A n c L) (R:bU .u8 w B C m b) (S:B<=w.heap.size) (Q:0<m->∀K,C=some K->¬foot A g K.block) (D:∀x∈b,0<=x/\x<256) (t:L.length<=4000000000000) (Y:(m:Int)<=400000000000):
  Calls Tryz.prog 109 #[.pointer (some ⟨g,0,none⟩), .slice C m d] w (vg w b0 g A (qy L++gG b)):=by
 obtain⟨P,hi,r,q,o⟩ :=aJ zG;have Hi:=η hi;have V:=η r;have U:=η q;have T:=η o;clear hi r q o;go_enter Tryz.func109,Tryz.ntmps109
 go_wp2_with fail;refine(qW _ _ _ _ _ _ _ H t).mono ?_;rintro e w1 ⟨A1,G,c1,rfl,f,j,wF⟩;have y:=j.rA R S Q;have a:=f.cell;have O:=a.cell (i:=0) ω;have W:=a.frozen' (i:=0) ω;unfold wf at O;have X:G<=500000000001:=by have:=f.mV;rw[mq]at this;omega
 have E:b0<=w1.heap.size:=by have:=f.lo;have:=f.cell.lt;omega
 go_wp2_with (at_builtin;(refine ba .u8 b0 5 P 1 rfl (.tmp 12) (.tmp 13) _ rfl Tryz.underlying22 Hi.out V.out U.out T.out rfl f.own rfl y ω ω E ?_)
              intro A2 c2 w2 s I u;have F:=a.grown I (λe=>f.apart e.symm);have N:=F.cell (i:=0) ω;have M:=F.frozen' (i:=0) ω)
 go_end0
 have J:ai A2≠some g:=by
  rcases u with e | e
  · rw[e];exact f.apart
  rw[e];intro h;injection h with h;have:=a.lt;omega
 have z:jO (qy L++gG b)=jO (qy L)++b:=by rw[zJ (pK L),vu D]
 have v:rest (qy L++gG b)=rest (qy L):=by rw[QF (pK L),Wc,QG (pK L)]
 refine⟨A2,G+m,c2,rfl, ⟨(F.bC (i:=0) ω _).congr λi hi=> ?_,f.lo, ?_,J,H.bit.qy.app (dJ.gG b)⟩, ?_, ?_⟩
 · rw[v];obtain rfl | rfl | rfl:i=0\/i=1\/i=2:=ω;all_goals rfl
 · rw[z];exact s.far (p:= ⟨g,0,none⟩) J _
 · exact(j.grown I λk l=>(wF k l).imp .inr id).setCell (p:= ⟨g,0,none⟩) (.inl (.inl rfl)) _
 intro k l;rcases u with e | e
 · exact wF k (e▸l)
 rw[e]at l;injection l with l;have:=j.size;exact .inr ω
theorem jl:(Tryz.prog.info? 5).map (λi=>(i.zero,i.size,i.bytes))=some (some (.int .u8 0),1,1):=by kernel_rfl
def rf (A:Option Addr) (n c a:Nat):Nat->Value
 | 0=> .slice A n c
 | _=> .int .i64 a
structure qd (w:World) (b0 g:Nat) (A:Option Addr) (n c:Nat) (B:List Int) (a:Nat):Prop where
 cell:Ar w g 2 (rf A n c a)
 lo:b0<=g
 own:aW .u8 w b0 5 A n c B
 apart:ai A≠some g
 jU:∀x∈B,0<=x/\x<256
 le:a<=8*B.length
section
variable {w w':World} {b0 g n c a:Nat} {A:Option Addr} {B:List Int}
theorem qd.mV (h:qd w b0 g A n c B a):n=B.length:=h.own.1
theorem qd.fz {S:Nat->Prop} (h:qd w b0 g A n c B a) (b:bj w w' S) (d:∀k,foot A g k->¬S k):qd w' b0 g A n c B a:=
 ⟨b.ar h.cell (d g (.inl rfl)),h.lo,b.eH h.own λq e=>d q (.inr e),h.apart,h.jU,h.le⟩
theorem qd.keeps (h:qd w b0 g A n c B a) (b:Below w.heap.size w w'):qd w' b0 g A n c B a:=
 h.fz (S:=λ_=>False) (bj.bA b) λ_ _=>id
theorem qd.drewN (h:qd w b0 g A n c B a) (q:Nat):qd (w.drewN q) b0 g A n c B a:= ⟨h.cell.drewN q,h.lo,h.own.drewN q,h.apart,h.jU,h.le⟩
theorem qd.eJ (h:qd w b0 g A n c B a) {k:Nat} (b:foot A g k):b0<=k/\k<w.heap.size:=by
 rcases b with rfl | b
 · exact⟨h.lo,h.cell.lt⟩
 exact h.own.2.lt b
theorem qd.move (h:qd w b0 g A n c B a) {a':Nat} (b:a'<=8*B.length) {v:Value} (hv:v= .int .i64 a'):qd (w.setCell ⟨g,1,none⟩ v) b0 g A n c B a'/\bj w (w.setCell ⟨g,1,none⟩ v) (λk=>k=g):=
 ⟨⟨(h.cell.bC (i:=1) ω v).congr λi hi=>by
   obtain rfl | rfl:i=0\/i=1:=ω
   · rfl
   rw[hv];rfl,h.lo,h.own.far (p:= ⟨g,1,none⟩) h.apart _,h.apart,h.jU,b⟩,(bj.refl w (λk=>k=g)).setCell (p:= ⟨g,1,none⟩) (.inl rfl) _⟩
end
theorem Ml (w:World):Calls Tryz.prog 100 #[] w λe w'=>∃g,e= .returned (.pointer (some ⟨g,0,none⟩))/\qd w' w.heap.size g none 0 0 [] 0/\Below w.heap.size w w':=by
 go_enter Tryz.func100,Tryz.ntmps100;go_wp2;go_ret
 have hA:Ar (w.alloc (.cells #[.slice none 0 0, .int .i64 0] 122)) w.heap.size 2 (rf none 0 0 0):=
  Ar.new w _ _ rfl λi hi=>by
   obtain rfl | rfl:i=0\/i=1:=ω;all_goals rfl
 exact⟨w.heap.size,rfl, ⟨hA,ag _,aW.dK,by simp [ai],σ,σ⟩,(aw _ _).alloc (ag _) _⟩
theorem j3 (w:World) (b0 g n c a:Nat) (A:Option Addr) (B:List Int) (b:qd w b0 g A n c B a) (f:B.length<=1000000000000):
  Calls Tryz.prog 104 #[.pointer (some ⟨g,0,none⟩)] w λe w'=>e= .returned (.int .i64 ((8*n-a:Nat):Int))/\∃q,w'=w.drewN q:=by
 have c0:=b.cell.cell (i:=0) ω;have c1:=b.cell.cell (i:=1) ω;unfold rf at c0 c1;have k:=b.mV;have d:=b.le;have m:(n:Int)<=1000000000000/\(0:Int)<=n/\(a:Int)<=8*(n:Int)/\(0:Int)<=a:=ω;have j:Hid ((8*(n:Int)-(a:Int))=((8*n-a:Nat):Int)):=by show _=_;omega
 have l:IntKind.i64.wrap (8*(n:Int))=8*(n:Int):=by rw[aK _ ω]
 have h:IntKind.i64.wrap (8*(n:Int)-(a:Int))=8*(n:Int)-(a:Int):=by rw[aK _ ω]
 clear k d;go_enter Tryz.func104,Tryz.ntmps104;go_wp2;go_quiet (fail);go_wp2;go_ret;exact⟨cn j.out,_,rfl⟩
def S6 (w:World) (b0 g:Nat) (B:List Int) (a:Nat) (e:Ending) (w':World):Prop:=
 ∃A' n' c',e= .returned (.tuple #[])/\qd w' b0 g A' n' c' B a/\bj w w' (λk=>k=g)/\(∀k,ai A'=some k->w.heap.size<=k)
theorem J7 (w:World) (b0 g n c a O m d:Nat) (A C:Option Addr) (B b:List Int) (f:qd w b0 g A n c B a) (U:bU .u8 w O C m b) (hB:O<=w.heap.size) (I:∀x∈b,0<=x/\x<256) (X:B.length+b.length<=1000000000000):
  Calls Tryz.prog 56 #[.pointer (some ⟨g,0,none⟩), .slice C m d] w (S6 w b0 g (B.drop (a/8)++b) (a%8)):=by
 have c0:=f.cell.cell (i:=0) ω;have c1:=f.cell.cell (i:=1) ω;have z0:=f.cell.frozen' (i:=0) ω;have z1:=f.cell.frozen' (i:=1) ω;unfold rf at c0 c1;have oL:=f.cell.lt;have hn:=f.mV;have hm:=U.1;have F:=f.le;have Y:=f.own.2.jD;obtain⟨z,hi,s,o,r⟩ :=aJ jl;obtain⟨G,hG⟩ :=ν (a/8:Nat);have an:(a:Int)/8=(G:Int):=ω;obtain⟨K,hK⟩ :=ν (n-G+m:Nat);have y:G<=n:=ω;have xj:(n:Int)<=1000000000000/\(m:Int)<=1000000000000/\(0:Int)<=G/\(G:Int)<=n/\(0:Int)<=m/\(0:Int)<=a:=ω;have oN:∀W,(Instr.makeSlice 22 (.int .i64 0) (.int .i64 (K:Int))).run Tryz.prog W= .ok (.slice (some ⟨W.heap.size,0,none⟩) 0 K) (W.alloc (.cells (eD K (.int .u8 0)) 5)):=λW=>CJ (P:=Tryz.prog) 22 5 z (.int .u8 0) Tryz.underlying22 hi s o rfl .i64 .i64 0 K (aF _) (by rw[r];omega) ω W;have oP:=dc (P:=Tryz.prog) 22 5 Tryz.underlying22 hi o A n c y;have nO:IntKind.i64.wrap ((n:Int)-(G:Int))=((n-G:Nat):Int):=by rw[aK _ ω];omega
 have D:IntKind.i64.wrap (((n-G:Nat):Int)+(m:Int))=(K:Int):=by rw[aK _ ω];omega
 have T:=f.own.rd.dx y Y;obtain⟨J,Z⟩ :=ν (n-G:Nat);rw[Z]at oP nO D T;have Hi:=η hi;have gV:=η s;have fY:=η o;have gW:=η r;have HG:=η hG;have am:J+m<=1000000000000:=ω;have N:K<=maxLen:=by unfold maxLen;omega
 have M:Hid ((a:Int)%8=((a%8:Nat):Int)):=by show _=_;omega
 have U5:a%8<=8*(B.drop (a/8)++b).length:=by rw[af,av];omega
 have L:b0<=w.heap.size:=by have:=f.lo;omega
 clear hi s o r hn hm hG hK Z F Y;go_enter Tryz.func56,Tryz.ntmps56;go_wp2
 go_region_law
  (first
    | ((refine eM .u8 b0 5 z 1 rfl (.tmp 23) (.tmp 29) _ rfl Tryz.underlying22 Hi.out gV.out fY.out gW.out rfl (l:=[]) ⟨rfl, .inr ⟨_,_,rfl,L,dr w _,aF _,N,by rw[qb,dG],λi hi=>by simp at hi⟩⟩ rfl (T.alloc (ag _) _) ω ω ξ ?_)
       intro A5 c5 S V u jA;rw[bZ,aT]at V;have pP:bU .u8 S O C m b:=(U.alloc hB (.cells (eD K (.int .u8 0)) 5)).keep (λp hp=>fe (u.block _ ξ (by simp [ai];omega)));have kY:b0<=S.heap.size:=by have:=u.size;simp at this;omega)
    | ((refine eM .u8 b0 5 z 1 rfl (.tmp 30) (.tmp 31) _ rfl Tryz.underlying22 Hi.out gV.out fY.out gW.out rfl V rfl pP ω ω kY ?_)
       intro Q c6 R nE H iF
       have ri:∀q,ai A5=some q->w.heap.size<=q:=λq j=>by
        rcases jA with e | e
        · rw[e]at j;simp [ai]at j;omega
        rw[e]at j;simp at j;omega
       have v:=((f.cell.alloc (.cells (eD K (.int .u8 0)) 5)).drew.grown u (by simp [ai];omega)).grown H (λe=>by have:=ri g e.symm;omega);have ah:R.cell? ⟨g,0,none⟩ =some (.slice A n c):=v.cell (i:=0) ω;have ad:R.cell? ⟨g,1,none⟩ =some (.int .i64 a):=v.cell (i:=1) ω;have ac:=v.frozen' (i:=0) ω;have ab:=v.frozen' (i:=1) ω))
 all_goals
  go_wp2;go_end0;have E:=u.size;have al:=H.size;simp at E
  have Dh:∀q,ai Q=some q->w.heap.size<=q:=λq j=>by
   rcases iF with e | e
   · exact ri q (e▸j)
   rw[e]at j;injection j with j;omega
  have t:ai Q≠some g:=λe=>by have:=Dh g e;omega
  refine⟨Q,J+m,c6,rfl, ⟨((v.bC (i:=0) ω _).bC (i:=1) ω _).congr λi hi=> ?_,f.lo, ?_,t, ?_,U5⟩, ?_,Dh⟩
  · obtain rfl | rfl:i=0\/i=1:=ω
    · rfl
    show Value.int .i64 ((a:Int)%8)=Value.int .i64 ((a%8:Nat):Int);rw[M.out]
  · rw[HG.out];exact(nE.far (p:= ⟨g,0,none⟩) t _).far (p:= ⟨g,1,none⟩) t _
  · intro x hx;rcases aN.1 hx with h | h
    · exact f.jU x (aX h)
    exact I x h
  exact(((((bj.refl w (λk=>k=g)).alloc _).drew).grown u (λq j=>by simp [ai]at j;exact .inr ω)).grown H (λq j=> .inr (ri q j))).setCell (p:= ⟨g,0,none⟩) (.inl rfl) _ |>.setCell (p:= ⟨g,1,none⟩) (.inl rfl) _
theorem VY (w:World) (b0 g n c a:Nat) (A:Option Addr) (B:List Int) (i:qd w b0 g A n c B a) (b:B.length<=1000000000000) (N:Int) (hN:N<0\/32<N\/((rb B a).length:Int)<N):
  Calls Tryz.prog 156 #[.pointer (some ⟨g,0,none⟩), .int .i64 N] w λe w'=>e= .returned (.tuple #[.int .u32 0, .bool false])/\∃q,w'=w.drewN q:=by
 rw[im,<-i.mV]at hN;have d:N<0\/(¬N<0/\32<N)\/(¬N<0/\¬32<N/\((8*n-a:Nat):Int)<N):=ω;clear hN;obtain⟨q,f⟩ :=ν (8*n-a:Nat);have k:=η f;rw[f]at d;clear f;rcases d with h | ⟨h,j⟩ | ⟨h,j,l⟩
 · go_enter Tryz.func156,Tryz.ntmps156;go_wp2
   go_ret2
   exact⟨rfl,0,rfl⟩
 · go_enter Tryz.func156,Tryz.ntmps156;go_wp2
   go_ret2
   exact⟨rfl,0,rfl⟩
 go_enter Tryz.func156,Tryz.ntmps156
 go_wp2_with fail;refine(j3 _ _ _ _ _ _ _ _ i b).mono ?_;rintro e w1 ⟨rfl,q1,rfl⟩;rw[k.out];go_wp2
 go_ret2
 exact⟨rfl,q1,rfl⟩
def Y0 (w:World) (B:List Int) (a J:Nat) (v at_ k:Value) (wr:World):Prop:=
 ∃j q:Nat,j<=J/\k= .int .i64 ((8*j:Nat):Int)/\at_= .int .i64 ((a+j:Nat):Int)/\v= .int .u64 (tJ B a j)/\wr=w.drewN q
theorem O8 (w:World) (b0 g n c a:Nat) (A:Option Addr) (B:List Int) (h:qd w b0 g A n c B a) (p:B.length<=1000000000000) (N:Nat) (hN:(N:Int)<=32) (v:N<=(rb B a).length):
  Calls Tryz.prog 156 #[.pointer (some ⟨g,0,none⟩), .int .i64 N] w λe w'=>e= .returned (.tuple #[.int .u32 (fH ((rb B a).take N)), .bool true])/\∃q,w'=w.drewN q:=by
 have c0:=h.cell.cell (i:=0) ω;have c1:=h.cell.cell (i:=1) ω;unfold rf at c0 c1;have D:=h.mV;have F:=h.le;rw[im,<-D]at v;obtain⟨r,V⟩ :=ν (a%8:Nat);obtain⟨d,L⟩ :=ν (a/8:Nat);have U:(a:Int)%8=(r:Int):=ω;have ad:(a:Int)/8=(d:Int):=ω;have rq:(r:Int)<8/\(0:Int)<=r:=ω;have ac:(0:Int)<=a/\(a:Int)<=8000000000000/\(0:Int)<=N:=ω;have Lc:¬(N:Int)<0/\¬32<(N:Int):=ω;obtain⟨J,hJ⟩ :=ν ((N+r+7)/8:Nat);have x:J<=5/\N+r<=8*J/\d+J<=n/\8*J<N+r+8:=ω;have f:=η x;obtain⟨q,R⟩ :=ν (8*n-a:Nat);have Z:((q:Int)<(N:Int))=False:=eq_false ω;have W:(q<N)=False:=eq_false ω;have HQ:=η R;have m:a=8*d+r:=ω;have XO:=η m;have NH:IntKind.i64.wrap ((N:Int)+(r:Int))=(N:Int)+(r:Int):=by rw[aK _ ω]
 have bX:Hid (tJ B d J/2 ^ r%2 ^ N=fH ((rb B a).take N)):=by show _=_;rw[m];exact TC B ω
 have xj:(n:Int)<=1000000000000:=ω;have HN:=η D;clear D F v V L hJ x R m;go_enter Tryz.func156,Tryz.ntmps156
 go_wp2_with fail;refine(j3 _ _ _ _ _ _ _ _ h p).mono ?_;rintro e w1 ⟨rfl,q1,rfl⟩;rw[HQ.out];go_wp2;go_quiet (fail);go_wp2
 go_loopw [6,7,8] (Y0 w B d J) (λ_ _ k _=>40+1-(intOf k).toNat)
 case atStart=>exact⟨0,q1+nq,aF _,rfl,rfl,by rw[Ps],World.drewN_drewN ..⟩
 obtain⟨j,q2,hj,rfl,rfl,hv,rfl⟩ :=hrel;obtain⟨y,S,g2⟩ :=Nk B d (j:=j) (by have:=f.out;omega);obtain⟨X,u⟩ :=ν (tJ B d j);rw[u]at y S g2 hv;subst hv;have HX:=η u;by_cases E:j<J
 · have G:((8*j:Nat):Int)<(N:Int)+(r:Int):=by have:=f.out;omega
   have vI:d+j<n:=by have:=f.out;omega
   have ab:(0:Int)<=((8*j:Nat):Int)/\((8*j:Nat):Int)<=32/\(0:Int)<=((d+j:Nat):Int)/\((d+j:Nat):Int)<(n:Int):=by have:=f.out;omega
   have l:=Pr B d (j:=j) (by rw[<-HN.out];exact vI) h.jU;obtain⟨b,K⟩ :=ν (ix B (d+j));have I:=NR h.jU (d+j);rw[K]at l I;obtain⟨g5,rfl⟩ :=h.own.2.addr ω;have eL:=h.own.2.jD;have T:=h.own.2.cell (i:=d+j) ω;rw[K]at T;have al:(w.drewN q2).cell? ⟨g5,d+j,none⟩ =some (.int .u8 b):=T;obtain⟨b',H,s⟩ :=Nk B d (j:=j+1) (by have:=f.out;omega);rw[l,u]at s;have oo:=two_pos (8*j);have t:0<=b*2 ^ (8*j):=Int.mul_nonneg I.1 ω;have e1:IntKind.u64.wrap (b*2 ^ (8*j))=b*2 ^ (8*j):=by rw[fx];exact bn t ω
   have Q:bits .or .u64 X (b*2 ^ (8*j))=tJ B d (j+1):=by rw[l,u];exact O4 y S I.1 ω
   obtain⟨Y,o⟩ :=ν (tJ B d (j+1));rw[o]at Q;have HY:=η o;clear u l K o H s oo t b';go_wp2;go_roundw
   case rel=>exact⟨j+1,q2,E,by rw[show 8*(j+1)=8*j+8 by omega];go_num,by go_num,by rw[HY.out],rfl⟩
   case measure=>simp [intOf];omega
 obtain rfl:J=j:=ω;have G:¬((8*J:Nat):Int)<(N:Int)+(r:Int):=by have:=f.out;omega
 have C:(2:Int) ^ N<=4294967296:=by have:=gq (show N<=32 by omega);simpa using this
 have oo:=two_pos N;have z:=two_pos r;have e1:IntKind.u64.wrap (2 ^ N)=2 ^ N:=by rw[fx];exact bn ω ω
 have ah:IntKind.u64.wrap (2 ^ N-1)=2 ^ N-1:=by rw[fx];exact bn ω ω
 have P:0<=X/2 ^ r:=Int.ediv_nonneg y ω;have Xq:X/2 ^ r<=X:=Int.ediv_le_self _ y;have Q:bits .and .u64 (X/2 ^ r) (2 ^ N-1)=X/2 ^ r%2 ^ N:=MV P ω ω;have O:=jq (X/2 ^ r) (b:=2 ^ N) ω;have M:=ia (X/2 ^ r) oo;have hf:=bX.out;rw[HX.out]at hf;obtain⟨Y,o⟩ :=ν (X/2 ^ r%2 ^ N);rw[o]at Q O M hf;have e3:IntKind.u32.wrap Y=Y:=by rw[fw];exact bn ω ω
 have HF:=η hf;clear hf o C oo z;go_wp2;go_quiet (fail);go_wp2
 go_ret2
 rw[<-HF.out];exact⟨rfl,_,World.drewN_drewN ..⟩
theorem Nl (w:World) (b0 g n c a:Nat) (A:Option Addr) (B:List Int) (d:qd w b0 g A n c B a) (b:B.length<=1000000000000) (N:Int) (hN:N<0\/32<N\/((rb B a).length:Int)<N):
  Calls Tryz.prog 142 #[.pointer (some ⟨g,0,none⟩), .int .i64 N] w λe w'=>e= .returned (.tuple #[.int .u32 0, .bool false])/\∃q,w'=w.drewN q:=by
 go_enter Tryz.func142,Tryz.ntmps142
 go_wp2_with fail;refine(VY _ _ _ _ _ _ _ _ d b N hN).mono ?_;rintro e w1 ⟨rfl,q1,rfl⟩;go_wp2
 go_ret2
 exact⟨rfl,q1,rfl⟩
theorem ET (w:World) (b0 g n c a:Nat) (A:Option Addr) (B:List Int) (b:qd w b0 g A n c B a) (d:B.length<=1000000000000) (N:Nat) (hN:(N:Int)<=32) (f:N<=(rb B a).length):
  Calls Tryz.prog 142 #[.pointer (some ⟨g,0,none⟩), .int .i64 N] w λe w'=>e= .returned (.tuple #[.int .u32 (fH ((rb B a).take N)), .bool true])/\qd w' b0 g A n c B (a+N)/\bj w w' (λk=>k=g):=by
 have m:=f;rw[im]at m;have j:=b.le;have s:(0:Int)<=a/\(a:Int)<=8000000000000/\(0:Int)<=N:=ω;have l:a+N<=8*B.length:=ω;have c1:=b.cell.cell (i:=1) ω;have t:=b.cell.frozen' (i:=1) ω;unfold rf at c1;obtain⟨V,o⟩ :=ν (fH ((rb B a).take N));have HV:=η o;clear m j o;go_enter Tryz.func142,Tryz.ntmps142
 go_wp2_with fail;refine(O8 _ _ _ _ _ _ _ _ b d N hN f).mono ?_;rintro e w1 ⟨rfl,q1,rfl⟩;rw[HV.out];have h:=b.drewN q1;go_wp2
 go_ret2
 obtain⟨q,p⟩ :=h.move l (v:= .int .i64 ((a:Int)+(N:Int))) σ;rw[HV.out];exact⟨rfl,q,((bj.refl w _).drewN q1).trans p λk r=> .inl r⟩
theorem jm (w:World) (b0 g n c a:Nat) (A:Option Addr) (B:List Int) (b:qd w b0 g A n c B a) (h:B.length<=1000000000000):
  Calls Tryz.prog 130 #[.pointer (some ⟨g,0,none⟩)] w λe w'=>e= .returned (.tuple #[])/\qd w' b0 g A n c B ((a+7)/8*8)/\bj w w' (λk=>k=g):=by
 have c1:=b.cell.cell (i:=1) ω;have l:=b.cell.frozen' (i:=1) ω;unfold rf at c1;have d:=b.le;have j:(0:Int)<=a/\(a:Int)<=8000000000000:=ω;have hv:Hid (((a:Int)+7)/8*8=(((a+7)/8*8:Nat):Int)):=by show _=_;omega
 have f:(a+7)/8*8<=8*B.length:=ω;clear d;go_enter Tryz.func130,Tryz.ntmps130;go_wp2;go_end0;exact⟨rfl,b.move f (by rw[hv.out])⟩
def Sq (w:World) (b0 g n c a K:Nat) (A:Option Addr) (B:List Int) (e:Ending) (w':World):Prop:=
 ∃A' c',e= .returned (.slice A' K c')/\aW .u8 w' w.heap.size 5 A' K c' ((B.drop ((a+7)/8)).take K)/\qd w' b0 g A n c B ((a+7)/8*8+8*K)/\bj w w' (λk=>k=g)
theorem yf (w:World) (b0 g n c a:Nat) (A:Option Addr) (B:List Int) (z:qd w b0 g A n c B a) (f:B.length<=1000000000000) (N:Int) (K:Nat) (hK:(K:Int)=max 0 (min N ((n-(a+7)/8:Nat):Int))):
  Calls Tryz.prog 103 #[.pointer (some ⟨g,0,none⟩), .int .i64 N] w (Sq w b0 g n c a K A B):=by
 obtain⟨l,J⟩ :=ν ((a+7)/8:Nat);have hn:=z.mV;have ac:=z.le;have ah:l<=n:=ω;obtain⟨q,o⟩ :=ν (n-l:Nat);rw[J,o]at hK;have ab:Hid (8*n-(a+7)/8*8=8*q):=by show _=_;omega
 have H:Hid (8*n-l*8=8*q):=by show _=_;omega
 have Xy:((8*q:Nat):Int)/8=(q:Int):=ω;have RJ:(0:Int)<=((8*q:Nat):Int)/\(q:Int)<=1000000000000/\(0:Int)<=(l:Int)/\(l:Int)<=1000000000000:=ω;have an:((l*8:Nat):Int)/8=(l:Int):=ω;have am:(0:Int)<=((l*8:Nat):Int):=ω;obtain⟨Y,hi,Q,O,M⟩ :=aJ jl;have Hi:=η hi;have gV:=η Q;have X:=η O;have gW:=η M;have D:=η J;have HQ:=η o;have HN:=η hn;have al:g+1<=w.heap.size:=z.cell.lt;clear hi Q O M J o hn ac;by_cases I0:K=0
 · subst I0;have I:(N<(q:Int)/\N<1)\/((q:Int)<N/\(q:Int)<1)\/(N=(q:Int)/\(q:Int)<1):=ω;clear hK;rcases I with ⟨h,h1⟩ | ⟨h,h1⟩ | ⟨rfl,h1⟩
   all_goals
    go_enter Tryz.func103,Tryz.ntmps103
    go_wp2_with fail;refine(jm _ _ _ _ _ _ _ _ z f).mono ?_;rintro e w1 ⟨rfl,r,p⟩
    go_wp2_with fail;refine(j3 _ _ _ _ _ _ _ _ r f).mono ?_;rintro e w2 ⟨rfl,q2,rfl⟩;rw[ab.out];go_wp2;go_ret;exact⟨none,0,rfl,aW.dK,r.drewN q2,p.drewN q2⟩
 have aE:(1:Int)<=K/\(K:Int)<=(q:Int):=ω;have I:((K:Int)<(q:Int)/\N=(K:Int))\/((K:Int)<N/\q=K)\/(N=(K:Int)/\q=K):=ω;clear hK I0;have ao:l+K<=n:=by have:=HQ.out;omega
 have eL:=z.own.2.jD;have Z:=fR (P:=Tryz.prog) 22 5 Tryz.underlying22 Hi.out X.out A n c (a:=l) (b:=l+K) ω ω;rw[bS]at Z;have Fj:∀W,(Instr.slice 22 (.slice A n c) (some (.int .i64 (l:Int))) (some (.int .i64 ((l:Int)+(K:Int)))) none).run Tryz.prog W= .ok (.slice (dx A c l) K (c-l)) W:=λW=>by have:=Z W;rwa [gY]at this
 have tL:=((z.own.rd.dx ah eL).pre (j:=K) ω).more (B':=w.heap.size) (ag _);have U5:l*8+8*K<=8*B.length:=by have:=HN.out;omega
 have dy:∀C,dx A c l=some C->¬C.block=g:=λC e h=>z.apart (by
  unfold dx at e;split at e
  · rw[e];simp [ai,h]
  cases A with
  | none=>simp at e
  | some x=>simp at e;subst e;rw[bH]at h;simp [ai,h])
 have L:Hid ((a+7)/8*8=l*8):=by show _=_;rw[D.out]
 have ap:K<=1000000000000:=by have:=HN.out;omega
 clear Z;rcases I with ⟨h,rfl⟩ | ⟨h,rfl⟩ | ⟨rfl,rfl⟩
 · go_enter Tryz.func103,Tryz.ntmps103
   go_wp2_with fail;refine(jm _ _ _ _ _ _ _ _ z f).mono ?_;rintro e w1 ⟨rfl,r,p⟩;rw[L.out]at r
   go_wp2_with fail;refine(j3 _ _ _ _ _ _ _ _ r f).mono ?_;rintro e w2 ⟨rfl,q2,rfl⟩;rw[H.out];have m:=r.drewN q2;have c1:=m.cell.cell (i:=1) ω;have z1:=m.cell.frozen' (i:=1) ω;unfold rf at c1;obtain⟨d,u⟩ :=m.move U5 (v:= .int .i64 ((l:Int)*8+8*(K:Int))) σ;have y:=(d.cell.alloc (.cells #[] 5)).cell (i:=0) ω;unfold rf at y;have s:bj w ((w1.drewN q2).setCell ⟨g,1,none⟩ (.int .i64 ((l:Int)*8+8*(K:Int)))) (λk=>k=g):=(p.drewN q2).trans u λk t=> .inl t;have R:=(s.rA tL (ag _) (λh0 C e h=>dy C e h)).alloc s.size (.cells #[] 5);have E:=s.size;have T:=d.cell.lt
   go_wp2_with (at_builtin;(refine ba .u8 w.heap.size 5 Y 1 rfl (.tmp 31) (.tmp 40) _ rfl Tryz.underlying22 Hi.out gV.out X.out gW.out rfl (aW.lit (by simp [World.setCell]) [] _ E σ) rfl R ω ω (by rw[Go.Proofs.YtdhmnlpfhfmpfaaGreat.jw];omega) ?_)
                intro V U w5 F G jA)
   rw[bZ,aT]at F;go_ret;refine⟨V,U,rfl,by rw[D.out];exact F, ?_, ?_⟩
   · rw[L.out];exact(d.keeps ((aw _ _).alloc (ag _) (.cells #[] 5))).fz (S:=λk=>some k=ai (some (⟨w1.heap.size,0,none⟩ :Addr))) ((bj.refl _ _).grown G λq o=> .inl o.symm) (λk t h=>by have:=(d.eJ t).2;simp [World.setCell]at this;simp [ai]at h;omega)
   exact(s.alloc _).grown G λq o=>by simp [ai]at o;simp [World.setCell]at E;exact .inr ω
 · go_enter Tryz.func103,Tryz.ntmps103
   go_wp2_with fail;refine(jm _ _ _ _ _ _ _ _ z f).mono ?_;rintro e w1 ⟨rfl,r,p⟩;rw[L.out]at r
   go_wp2_with fail;refine(j3 _ _ _ _ _ _ _ _ r f).mono ?_;rintro e w2 ⟨rfl,q2,rfl⟩;rw[H.out];have m:=r.drewN q2;have c1:=m.cell.cell (i:=1) ω;have z1:=m.cell.frozen' (i:=1) ω;unfold rf at c1;obtain⟨d,u⟩ :=m.move U5 (v:= .int .i64 ((l:Int)*8+8*(q:Int))) σ;have y:=(d.cell.alloc (.cells #[] 5)).cell (i:=0) ω;unfold rf at y;have s:bj w ((w1.drewN q2).setCell ⟨g,1,none⟩ (.int .i64 ((l:Int)*8+8*(q:Int)))) (λk=>k=g):=(p.drewN q2).trans u λk t=> .inl t;have R:=(s.rA tL (ag _) (λh0 C e h=>dy C e h)).alloc s.size (.cells #[] 5);have E:=s.size;have T:=d.cell.lt
   go_wp2_with (at_builtin;(refine ba .u8 w.heap.size 5 Y 1 rfl (.tmp 31) (.tmp 40) _ rfl Tryz.underlying22 Hi.out gV.out X.out gW.out rfl (aW.lit (by simp [World.setCell]) [] _ E σ) rfl R ω ω (by rw[Go.Proofs.YtdhmnlpfhfmpfaaGreat.jw];omega) ?_)
                intro V U w5 F G jA)
   rw[bZ,aT]at F;go_ret;refine⟨V,U,rfl,by rw[D.out];exact F, ?_, ?_⟩
   · rw[L.out];exact(d.keeps ((aw _ _).alloc (ag _) (.cells #[] 5))).fz (S:=λk=>some k=ai (some (⟨w1.heap.size,0,none⟩ :Addr))) ((bj.refl _ _).grown G λq o=> .inl o.symm) (λk t h=>by have:=(d.eJ t).2;simp [World.setCell]at this;simp [ai]at h;omega)
   exact(s.alloc _).grown G λq o=>by simp [ai]at o;simp [World.setCell]at E;exact .inr ω
 go_enter Tryz.func103,Tryz.ntmps103
 go_wp2_with fail;refine(jm _ _ _ _ _ _ _ _ z f).mono ?_;rintro e w1 ⟨rfl,r,p⟩;rw[L.out]at r
 go_wp2_with fail;refine(j3 _ _ _ _ _ _ _ _ r f).mono ?_;rintro e w2 ⟨rfl,q2,rfl⟩;rw[H.out];have m:=r.drewN q2;have c1:=m.cell.cell (i:=1) ω;have z1:=m.cell.frozen' (i:=1) ω;unfold rf at c1;obtain⟨d,u⟩ :=m.move U5 (v:= .int .i64 ((l:Int)*8+8*(q:Int))) σ;have y:=(d.cell.alloc (.cells #[] 5)).cell (i:=0) ω;unfold rf at y;have s:bj w ((w1.drewN q2).setCell ⟨g,1,none⟩ (.int .i64 ((l:Int)*8+8*(q:Int)))) (λk=>k=g):=(p.drewN q2).trans u λk t=> .inl t;have R:=(s.rA tL (ag _) (λh0 C e h=>dy C e h)).alloc s.size (.cells #[] 5);have E:=s.size;have T:=d.cell.lt
 go_wp2_with (at_builtin;(refine ba .u8 w.heap.size 5 Y 1 rfl (.tmp 31) (.tmp 40) _ rfl Tryz.underlying22 Hi.out gV.out X.out gW.out rfl (aW.lit (by simp [World.setCell]) [] _ E σ) rfl R ω ω (by rw[Go.Proofs.YtdhmnlpfhfmpfaaGreat.jw];omega) ?_)
              intro V U w5 F G jA)
 rw[bZ,aT]at F;go_ret;refine⟨V,U,rfl,by rw[D.out];exact F, ?_, ?_⟩
 · rw[L.out];exact(d.keeps ((aw _ _).alloc (ag _) (.cells #[] 5))).fz (S:=λk=>some k=ai (some (⟨w1.heap.size,0,none⟩ :Addr))) ((bj.refl _ _).grown G λq o=> .inl o.symm) (λk t h=>by have:=(d.eJ t).2;simp [World.setCell]at this;simp [ai]at h;omega)
 exact(s.alloc _).grown G λq o=>by simp [ai]at o;simp [World.setCell]at E;exact .inr ω
end Go.Proofs.YtdhmnlpfhfmpfaaGreat
