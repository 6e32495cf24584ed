/-
  part
-/
import Derived.Test.YtgiimmkmjpbecaaGreatPk6
import Derived.Test.YtgiimmkmjpbecaaGreatPk7
import Derived.Maps.OwnSet
import Derived.Maps.Views
import Derived.Deep.DeepCutAuto
import Derived.BigFrame
namespace Go.Proofs.YtgiimmkmjpbecaaGreat
open Go.RowKit Go.Maps
set_option linter.unusedVariables false
set_option maxRecDepth 100000
set_option maxHeartbeats 4000000
theorem Iz:(Tryz.prog.info? 5).map (λi=>(i.zero,i.size,i.bytes))=some (some (.int .u8 0),1,1):=by kernel_rfl
theorem Qx:(Tryz.prog.info? 3).map (λi=>(i.zero,i.size,i.bytes))=some (some (.int .i64 0),1,8):=by kernel_rfl
def ff (e:oP) (A:ax) (n c base at_ gm:Nat) (Ap:ax) (np cp:Nat):Nat->Value
 | 0=> .int .i64 e.chain
 | 1=> .int .i64 e.nice
 | 2=> .bool e.lazy
 | 3=> .slice A n c
 | 4=> .int .i64 base
 | 5=> .int .i64 at_
 | 6=> .map (some gm)
 | _=> .slice Ap np cp
def qd (D:DataW Unit) (head:Int->Option Int):Prop:=
 IsMap D/\∀x:Int,Maps.has D (.int .u32 x)=(head x).isSome/\D.atKey (.int .u32 x) (.lit (.int .i64 0))= .lit (.int .i64 ((head x).getD 0))
theorem qd.new:qd (.map []) (λ_=>none):= ⟨isMap_empty,λx=> ⟨rfl,rfl⟩⟩
theorem qd.put {D:DataW Unit} {head:Int->Option Int} (h:qd D head) (y v:Int) (b:WideAt.IsKeyLit (.int .u32 y)):qd (D.put (.int .u32 y) (.lit (.int .i64 v))) (λx=>if x=y then some v else head x):=by
 refine⟨h.1.put _ _,λx=> ?_⟩;by_cases e:x=y
 · subst e;rw[has_put_same h.1 b,atKey_put_same h.1 b];simp
 have a:(Lit.int .u32 x)≠Lit.int .u32 y:=λc=>e (by injection c);rw[has_put_other a,atKey_put_other a];simp only [if_neg e];exact h.2 x
structure eA (w:World) (b0 g:Nat) (e:oP) (st:jk) (b:Nat) (A:ax) (n c gm nm:Nat) (Dm:DataW Unit) (Ap:ax) (np cp:Nat):Prop where
 cell:Ar w g 8 (ff e A n c st.base st.at_ gm Ap np cp)
 lo:b0<=g
 own:aT .u8 w b0 5 A n c (st.D.drop st.base)
 xv:aT .i64 w b0 3 Ap np cp (st.P.drop st.base)
 map:w.ownsMap Tryz.prog 46 (plainElem Tryz.prog 3) gm nm Dm
 rep:qd Dm st.head
 glo:b0<=gm
 nmb:nm<=b
 d1:ai A≠some g
 d2:ai Ap≠some g
 d3:gm≠g
 d4:∀q,ai A=some q->ai Ap≠some q
 d5:ai A≠some gm
 d6:ai Ap≠some gm
 ok:st.Ok b
 jc:∀x∈st.D,0<=x/\x<256
 eb:e.chain<=256/\e.nice<=258
 big:st.D.length<=100000000000
def FF (A:ax) (gm:Nat) (Ap:ax) (g k:Nat):Prop:=k=g\/k=gm\/ai A=some k\/ai Ap=some k
theorem pN {w w':World} {k:TypeId} {R:Value->Option (DataW Unit×List MemPlace)} {gm nm:Nat} {D:DataW Unit} (h:w.ownsMap Tryz.prog k R gm nm D) (a:w'.heap[gm]?=w.heap[gm]?):w'.ownsMap Tryz.prog k R gm nm D:=by
 obtain⟨c,clock,b,r⟩ :=h;exact⟨c,clock,a.trans b,r⟩
section
variable {w w':World} {b0 g b n c gm nm np cp:Nat} {e:oP} {st:jk} {A Ap:ax} {Dm:DataW Unit}
theorem eA.eG (h:eA w b0 g e st b A n c gm nm Dm Ap np cp) {k:Nat} (a:FF A gm Ap g k):b0<=k/\k<w.heap.size:=by
 rcases a with rfl | rfl | a | a
 · exact⟨h.lo,h.cell.lt⟩
 · exact⟨h.glo,h.map.lt⟩
 · exact h.own.2.lt a
 exact h.xv.2.lt a
theorem eA.dx {S:Nat->Prop} (h:eA w b0 g e st b A n c gm nm Dm Ap np cp) (a:bb w w' S) (d:∀k,FF A gm Ap g k->¬S k):eA w' b0 g e st b A n c gm nm Dm Ap np cp:=
 ⟨a.ar h.cell (d g (.inl rfl)),h.lo,a.dJ h.own λq f=>d q (.inr (.inr (.inl f))),a.dJ h.xv λq f=>d q (.inr (.inr (.inr f))),pN h.map (a.block gm h.map.lt (d gm (.inr (.inl rfl)))),h.rep,h.glo,h.nmb,h.d1,h.d2,h.d3,h.d4,h.d5,h.d6,h.ok,h.jc,h.eb,h.big⟩
theorem eA.keeps (h:eA w b0 g e st b A n c gm nm Dm Ap np cp) (a:Below w.heap.size w w'):eA w' b0 g e st b A n c gm nm Dm Ap np cp:=
 h.dx (S:=λ_=>False) (bb.bC a) λ_ _=>id
theorem eA.drewN (h:eA w b0 g e st b A n c gm nm Dm Ap np cp) (q:Nat):eA (w.drewN q) b0 g e st b A n c gm nm Dm Ap np cp:=h.keeps (below_drewN (aw _ w) q)
theorem eA.mW (h:eA w b0 g e st b A n c gm nm Dm Ap np cp):n+st.base=st.D.length:=by
 have a:=h.own.1;have:=h.ok.lo;have:=h.ok.hi;rw[ay]at a;omega
theorem eA.Pg (h:eA w b0 g e st b A n c gm nm Dm Ap np cp):np=n:=by
 rw[h.xv.1,h.own.1,ay,ay,h.ok.len]
theorem eA.Oh (h:eA w b0 g e st b A n c gm nm Dm Ap np cp):st.base<=st.D.length:=aq h.ok.lo h.ok.hi
theorem eA.byte (h:eA w b0 g e st b A n c gm nm Dm Ap np cp) {i:Nat} (hi:i<n):∃gd,A=some ⟨gd,0,none⟩/\w.cell? ⟨gd,i,none⟩ =some (.int .u8 (ix st.D (st.base+i))):=by
 obtain⟨gd,rfl⟩ :=h.own.2.addr ω;refine⟨gd,rfl, ?_⟩;have:=h.own.2.cell (i:=i) ω;rw[lS]at this;exact this
theorem eA.place (h:eA w b0 g e st b A n c gm nm Dm Ap np cp) {i:Nat} (hi:i<n):∃gd,Ap=some ⟨gd,0,none⟩/\w.cell? ⟨gd,i,none⟩ =some (.int .i64 (ix st.P (st.base+i))):=by
 have a:=h.Pg;obtain⟨gd,rfl⟩ :=h.xv.2.addr ω;refine⟨gd,rfl, ?_⟩;have:=h.xv.2.cell (i:=i) ω;rw[lS]at this;exact this
theorem rX (h:eA w b0 g e st b A n c gm nm Dm Ap np cp):w.cell? ⟨g,0,none⟩ =some (.int .i64 e.chain)/\w.cell? ⟨g,1,none⟩ =some (.int .i64 e.nice)/\w.cell? ⟨g,2,none⟩ =some (.bool e.lazy)/\w.cell? ⟨g,3,none⟩ =some (.slice A n c)/\w.cell? ⟨g,4,none⟩ =some (.int .i64 st.base)/\
  w.cell? ⟨g,5,none⟩ =some (.int .i64 st.at_)/\w.cell? ⟨g,6,none⟩ =some (.map (some gm))/\w.cell? ⟨g,7,none⟩ =some (.slice Ap np cp):=
 ⟨h.cell.az 0,h.cell.az 1,h.cell.az 2,h.cell.az 3,h.cell.az 4,h.cell.az 5,h.cell.az 6,h.cell.az 7⟩
theorem Fp (h:eA w b0 g e st b A n c gm nm Dm Ap np cp) (p:Nat) (hp:st.base<=p) (o:p<st.D.length):
  Calls Tryz.prog 114 #[.pointer (some ⟨g,0,none⟩), .int .i64 p] w λr w'=>r= .returned (.int .u8 (ix st.D p))/\∃q,w'=w.drewN q:=by
 obtain⟨-, -, -,t,l, -, -, -⟩ :=rX h;obtain⟨i,rfl⟩ :∃i,p=st.base+i:= ⟨p-st.base,ω⟩;have k:i<n:=by have:=h.mW;omega
 obtain⟨gd,rfl,cb⟩ :=h.byte k;have s:=h.big;obtain⟨B,j⟩ :=ν (st.base);obtain⟨v,hv⟩ :=ν (ix st.D (st.base+i));rw[hv]at cb⊢;rw[j]at l⊢;have f:((B+i:Nat):Int)-(B:Int)=(i:Int):=ω;have a:(0:Int)<=i/\(i:Int)<n/\((B+i:Nat):Int)<=100000000000/\(0:Int)<=B:=ω;obtain⟨P,d⟩ :=ν (B+i);rw[d]at f a⊢;have m:IntKind.i64.wrap ((P:Int)-(B:Int))=(i:Int):=by rw[aM _ ω,f]
 clear d hv j
 go_in
 go_wp2;go_quiet (fail);go_wp2;go_ret;exact⟨rfl,_,rfl⟩
theorem yT (h:eA w b0 g e st b A n c gm nm Dm Ap np cp):
  Calls Tryz.prog 116 #[.pointer (some ⟨g,0,none⟩)] w λr w'=>r= .returned (.int .i64 st.D.length)/\∃q,w'=w.drewN q:=by
 obtain⟨-, -, -,m,k, -, -, -⟩ :=rX h;have d:=h.big;have a:=h.mW;obtain⟨B,i⟩ :=ν (st.base);obtain⟨L,f⟩ :=ν (st.D.length);rw[i]at k a;rw[f]at d a⊢;have j:(B:Int)+(n:Int)=(L:Int)/\(0:Int)<=B/\(0:Int)<=n/\(L:Int)<=100000000000:=ω;have l:IntKind.i64.wrap ((B:Int)+(n:Int))=(L:Int):=by rw[aM _ ω,j.1]
 clear i f a d
 go_in
 go_wp2;go_quiet (fail);go_wp2;go_ret;exact⟨rfl,_,rfl⟩
theorem yh (h:eA w b0 g e st b A n c gm nm Dm Ap np cp):
  Calls Tryz.prog 104 #[.pointer (some ⟨g,0,none⟩)] w λr w'=>r= .returned (.int .i64 ((st.D.length-st.at_:Nat):Int))/\∃q,w'=w.drewN q:=by
 obtain⟨-, -, -,u,s,p, -, -⟩ :=rX h;have i:=h.big;have a:=h.mW;have d:=h.ok.hi;obtain⟨B,m⟩ :=ν (st.base);obtain⟨L,k⟩ :=ν (st.D.length);obtain⟨T,j⟩ :=ν (st.at_);rw[m]at s a;rw[j]at p d⊢;rw[k]at i a d⊢;have l:(B:Int)+(n:Int)=(L:Int)/\(0:Int)<=B/\(0:Int)<=n/\(L:Int)<=100000000000/\(0:Int)<=T/\(T:Int)<=L:=ω;have f:Hid ((L:Int)-(T:Int)=((L-T:Nat):Int)):=by show _=_;omega
 have t:IntKind.i64.wrap ((B:Int)+(n:Int))=(L:Int):=by rw[aM _ ω,l.1]
 have o:IntKind.i64.wrap ((L:Int)-(T:Int))=(L:Int)-(T:Int):=by rw[aM _ ω]
 clear m k a i j d
 go_in
 go_wp2;go_quiet (fail);go_wp2;go_ret;exact⟨bJ (by rw[<-f.out,<-l.1]),_,rfl⟩
theorem a6J (a b k:Nat) (c:b<2 ^ k) (h:a*2 ^ k+b<4294967296):bits .or .u32 ((a*2 ^ k:Nat):Int) (b:Int)=((a*2 ^ k+b:Nat):Int):=by
 rw[u32_or_nat _ _ ω ω,ez,<-eC c]
theorem WD {u v x:Int} (b:0<=u/\u<256) (hv:0<=v/\v<256) (a:0<=x/\x<256):bits .or .u32 (bits .or .u32 (u*65536) (v*256)) x=u*65536+v*256+x:=by
 obtain⟨U,rfl⟩ :=aF b.1;obtain⟨V,rfl⟩ :=aF hv.1;obtain⟨X,rfl⟩ :=aF a.1;have e:(U:Int)*65536=((U*2 ^ 16:Nat):Int):=σ;have d:(V:Int)*256=((V*256:Nat):Int):=σ;have c:U*2 ^ 16+V*256=(U*256+V)*2 ^ 8:=ω;rw[e,d,a6J _ _ _ ω ω,c,a6J _ _ _ ω ω];omega
theorem IV (h:eA w b0 g e st b A n c gm nm Dm Ap np cp) (p:Nat) (hp:st.base<=p) (y:p+3<=st.D.length):
  Calls Tryz.prog 132 #[.pointer (some ⟨g,0,none⟩), .int .i64 p] w λr w'=>r= .returned (.int .u32 (mr st.D p))/\∃q,w'=w.drewN q:=by
 obtain⟨-, -, -,K,H, -, -, -⟩ :=rX h;obtain⟨i,rfl⟩ :∃i,p=st.base+i:= ⟨p-st.base,ω⟩;have z:=h.mW;obtain⟨gd,rfl,o⟩ :=h.byte (i:=i) ω;obtain⟨f,k,m⟩ :=h.byte (i:=i+1) ω;cases k;obtain⟨f,k,l⟩ :=h.byte (i:=i+2) ω;cases k;have J:=h.big;have F:mr st.D (st.base+i)=hs3 (ix st.D (st.base+i)) (ix st.D (st.base+(i+1))) (ix st.D (st.base+(i+2))):=rfl
 have a:∀j,0<=ix st.D j/\ix st.D j<256:=λj=>by
  unfold ix;rw[au];cases e:st.D[j]? with
  | none=>simp
  | some v=>exact h.jc v (cu e)
 have b0:=a (st.base+i);have b1:=a (st.base+(i+1));have b2:=a (st.base+(i+2));rw[F];obtain⟨B,G⟩ :=ν (st.base);obtain⟨u,t⟩ :=ν (ix st.D (st.base+i));obtain⟨v,hv⟩ :=ν (ix st.D (st.base+(i+1)));obtain⟨x,s⟩ :=ν (ix st.D (st.base+(i+2)));rw[t]at o b0⊢;rw[hv]at m b1⊢;rw[s]at l b2⊢;rw[G]at H z y⊢;have E:((B+i:Nat):Int)-(B:Int)=(i:Int):=ω;have d:(0:Int)<=i/\(i:Int)+2<n/\((B+i:Nat):Int)<=100000000000/\(0:Int)<=B/\(n:Int)<=100000000000:=ω;obtain⟨P,C⟩ :=ν (B+i);rw[C]at E d⊢;have I:IntKind.i64.wrap ((P:Int)-(B:Int))=(i:Int):=by rw[aM _ ω,E]
 clear C hv G t s F y a z
 go_in
 go_wp2;go_quiet (fail);go_wp2;go_ret;exact⟨bJ (by rw[WD b0 b1 b2];rfl),_,rfl⟩
def YS (w:World) (D:ag) (a p M:Nat) (i:Value) (wr:World):Prop:=
 ∃k q:Nat,k<=M/\i= .int .i64 k/\Hid (Px D a p (M-k) k=Px D a p M 0)/\wr=w.drewN q
theorem Sa (h:eA w b0 g e st b A n c gm nm Dm Ap np cp) (a p:Nat) (ha:st.base<=a) (S:a<=p) (P:p<=st.D.length):
  Calls Tryz.prog 133 #[.pointer (some ⟨g,0,none⟩), .int .i64 a, .int .i64 p] w λr w'=>r= .returned (.int .i64 (kG st.D a p))/\∃q,w'=w.drewN q:=by
 have R:=h.big;obtain⟨L,t⟩ :=ν (st.D.length);obtain⟨M,E⟩ :=ν (min 258 (L-p));have l:Hid (kG st.D a p=Px st.D a p M 0):=by show _=_;unfold kG;rw[t,E]
 have s:((258:Int)<(L:Int)-(p:Int)/\M=258)\/((L:Int)-(p:Int)<258/\(L:Int)-(p:Int)=(M:Int))\/((L:Int)-(p:Int)=258/\M=258):=ω;have j:=λW (hf:eA W b0 g e st b A n c gm nm Dm Ap np cp)=>yT hf;rw[t]at R P;have hI:(0:Int)<=a/\(a:Int)<=p/\(p:Int)<=L/\(L:Int)<=100000000000:=ω;have V:=η t;have HM:=η E;have tS:M<=258/\p+M<=L:=ω
 go_in
 rw[t]at j;clear t E;go_upto_region 2 with fail
 go_cut [8] (λN wx=>N= .int .i64 M/\∃q,wx=w.drewN q)
 case first=>
  rcases s with ⟨I,rfl⟩ | ⟨I,h2⟩ | ⟨I,rfl⟩
  all_goals
   go_wp2_with fail;refine(j w h).mono ?_;rintro e w1 ⟨rfl,q1,rfl⟩;go_wp2;go_meet;exact⟨by first | rfl | (congr 1),q1,rfl⟩
 obtain⟨rfl,O,rfl⟩ :=hcut;clear s;go_wp2
 go_loopw [7] (YS w st.D a p M) (λi _=>M-(intOf i).toNat)
 case atStart=>exact⟨0,O,aG _,rfl,rfl,rfl⟩
 obtain⟨k,q,Y,rfl,d,rfl⟩ :=hrel;have o:=h.drewN q;by_cases Q:k<M
 rotate_left
 · obtain rfl:k=M:=ω;replace d:=d.out;rw[dL]at d;have f:Hid (k=Px st.D a p k 0):=d;clear d;go_wp2;go_ret;exact⟨by rw[l.out,<-f.out];rfl,q,rfl⟩
 have X:(0:Int)<=k/\(k:Int)<(M:Int):=ω;have T:=V.out;have z:=λW (hf:eA W b0 g e st b A n c gm nm Dm Ap np cp)=>Fp hf (a+k) ω ω;have v:=λW (hf:eA W b0 g e st b A n c gm nm Dm Ap np cp)=>Fp hf (p+k) ω ω;have K:((a+k:Nat):Int)=(a:Int)+(k:Int):=ω;have J:((p+k:Nat):Int)=(p:Int)+(k:Int):=ω;obtain⟨m,H⟩ :∃m,M-k=m+1:= ⟨M-k-1,ω⟩;replace d:=d.out;rw[H]at d;have F:Px st.D a p (m+1) k=if ix st.D (a+k)=ix st.D (p+k)then Px st.D a p m (k+1)else k:=rfl;rw[F]at d;obtain⟨x,C⟩ :=ν (ix st.D (a+k));obtain⟨y,B⟩ :=ν (ix st.D (p+k));rw[C,B]at d;rw[C]at z;rw[B]at v;rw[K]at z;rw[J]at v;have G:M-(k+1)=m:=ω;have U:=η G;clear C B F T K J H G;by_cases u:x=y
 · subst u;rw[aa rfl]at d;have f:=η d;clear d
   go_wp2_with fail;refine(z _ o).mono ?_;rintro e w1 ⟨rfl,q1,rfl⟩
   go_wp2_with fail;refine(v _ (h.drewN (q+q1))).mono ?_;rintro e w1 ⟨rfl,q2,rfl⟩;go_wp2;go_roundw
   case rel=>exact⟨k+1,q+q1+q2,ω,by go_num,by show _=_;rw[U.out];exact f,rfl⟩
   case measure=>simp [intOf];omega
 rw[a8 u]at d;have f:=η d;clear d;have Z:(x==y)=false:=by simpa using u
 clear u
 go_wp2_with fail;refine(z _ o).mono ?_;rintro e w1 ⟨rfl,q1,rfl⟩
 go_wp2_with fail;refine(v _ (h.drewN (q+q1))).mono ?_;rintro e w1 ⟨rfl,q2,rfl⟩;go_wp2;go_ret;exact⟨by rw[l.out,<-f.out];rfl,q+q1+q2,rfl⟩
end
theorem Sl:(Tryz.prog.info? 3).map (λi=>(i.zero,i.size,i.bytes))=some (some (.int .i64 0),1,8):=by kernel_rfl
def Hg (Al:ax) (nl cl:Nat) (c:ax) (a cc:Nat) (f:Nat->Int) (As:ax) (ns cs:Nat) (b:Int) (i:Nat):Value:=
 if i=0 then .slice Al nl cl else if i=1 then .slice c a cc else if i=18 then .slice As ns cs else if i=19 then .int .i64 b else .int .i64 (f (i-2))
def cf (l:ag) (n i m:Nat):Int:=if m=0 then 0 else if m<n then cnt l l.length m else if m=n then cnt l i n else 0
theorem TS {l:ag} {n i:Nat} (c:1<=n) (h:ix l i=(n:Int)) (m:Nat):(if m=n then cf l n i n+1 else cf l n i m)=cf l n (i+1) m:=by
 by_cases e:m=n
 · subst e;rw[aa rfl];unfold cf;rw[a8 ω,a8 ω,aa rfl,a8 ω,a8 ω,aa rfl];simp [cnt,h]
 rw[a8 e];unfold cf;by_cases b:m=0
 · rw[aa b,aa b]
 rw[a8 b,a8 b];by_cases a:m<n
 · rw[aa a,aa a]
 rw[a8 a,a8 a,a8 e,a8 e]
theorem Z3 {l:ag} {n i:Nat} (h:¬ix l i=(n:Int)) (m:Nat):cf l n i m=cf l n (i+1) m:=by
 unfold cf;have:cnt l (i+1) n=cnt l i n:=by simp [cnt,h]
 rw[this]
theorem Z4 (l:ag) (n m:Nat):cf l n l.length m=cf l (n+1) 0 m:=by
 unfold cf;by_cases a:m=0
 · rw[aa a,aa a]
 rw[a8 a,a8 a];by_cases c:m<n
 · rw[aa c,aa ω]
 rw[a8 c];by_cases b:m=n
 · subst b;rw[aa rfl,aa ω]
 rw[a8 b,a8 ω];split <;> simp [cnt]
def Yt (l:ag) (n i:Nat):Nat:=if cnt l i n=0 then tu l (n-1)else n
theorem a0x {l:ag} {n i:Nat} (h:ix l i=(n:Int)):Yt l n (i+1)=n:=by unfold Yt;rw[a8 (by simp [cnt,h])]
theorem Wj {l:ag} {n i:Nat} (h:¬ix l i=(n:Int)):Yt l n (i+1)=Yt l n i:=by
 unfold Yt;have:cnt l (i+1) n=cnt l i n:=by simp [cnt,h]
 rw[this]
theorem Wk (l:ag) {n:Nat} (a:1<=n):Yt l n l.length=Yt l (n+1) 0:=by
 unfold Yt;rw[aa (show cnt l 0 (n+1)=0 from rfl)];obtain⟨m,rfl⟩ :∃m,n=m+1:= ⟨n-1,ω⟩;simp only [Nat.add_sub_cancel];rfl
theorem Xp (l:ag) {n:Nat} (a:1<=n):uI l (n-1)++idxs l n l.length=uI l n:=by
 obtain⟨m,rfl⟩ :∃m,n=m+1:= ⟨n-1,ω⟩;rfl
def YT (a:World) (g b c:Nat) (Al:ax) (cl cc:Nat) (l:ag) (n i:Nat) (w:World):Prop:=
 ∃(As:ax) (ns cs:Nat),Ar w g 20 (Hg Al l.length cl (some ⟨c,0,none⟩) l.length cc (cf l n i) As ns cs (Yt l n i))/\bT .i64 w b Al l.length l/\bT .u32 w b (some ⟨c,0,none⟩) l.length (jo l)/\
  aT .i64 w b 3 As ns cs (uI l (n-1)++idxs l n i)/\g=b/\a.heap.size<=c/\(∀q,ai Al=some q->a.heap.size<=q)/\ai As≠some g/\a.heap.size<=g/\Below a.heap.size a w
def a1T (a:World) (g b c:Nat) (Al:ax) (cl cc:Nat) (l:ag) (s8 _a _b:Value) (w:World):Prop:=
 ∃n:Nat,1<=n/\n<=16/\s8= .int .i64 n/\YT a g b c Al cl cc l n 0 w
def a1c (a:World) (g b c:Nat) (Al:ax) (cl cc:Nat) (l:ag) (n:Nat) (_a _b s30:Value) (w:World):Prop:=
 ∃i:Nat,i<=l.length/\s30= .int .i64 i/\YT a g b c Al cl cc l n i w
def yq (w:World) (b0 B g:Nat) (l:ag):Prop:=
 ∃(Al a As:ax) (cl cc cs:Nat),Ar w g 20 (Hg Al l.length cl a l.length cc (cf l 16 0) As (uI l 15).length cs (tu l 15))/\bT .i64 w B Al l.length l/\bT .u32 w B a l.length (jo l)/\bT .i64 w B As (uI l 15).length (uI l 15)/\
  b0<=g/\g<B/\(∀q,ai Al=some q->b0<=q)/\(∀q,ai a=some q->b0<=q)/\(∀q,ai As=some q->b0<=q)
theorem yq.dx {w w':World} {b0 B g:Nat} {l:ag} {S:Nat->Prop} (h:yq w b0 B g l) (d:bb w w' S) (z:B<=w.heap.size) (j:∀k,b0<=k->k<B->¬S k):yq w' b0 B g l:=by
 obtain⟨Al,y,As,cl,cc,cs,u,t,s,h4,h5,h6,h7,o,m⟩ :=h
 have a:∀{k:IntKind} {n:Nat} {A:ax} {x:ag},bT k w B A n x->(∀q,ai A=some q->b0<=q)->bT k w' B A n x:=λc r=>
  ⟨c.1,λp=>by
    obtain⟨v,e,f,b⟩ :=c.2 p;exact⟨v,e,f,λi hi=>(d.cell (by rw[bH];omega) (by rw[bH];exact j _ (r _ (by rw[e];rfl)) f)).trans (b i hi)⟩⟩
 exact⟨Al,y,As,cl,cc,cs,d.ar u (j g h5 h6),a t h7,a s o,a h4 m,h5,h6,h7,o,m⟩
theorem yq.keeps {w w':World} {b0 B g:Nat} {l:ag} (h:yq w b0 B g l) (b:B<=w.heap.size) (a:Below w.heap.size w w'):yq w' b0 B g l:=
 h.dx (S:=λ_=>False) (bb.bC a) b λ_ _ _=>id
def PG (w:World) (l:ag) (e:Ending) (w':World):Prop:=
 ∃g,e= .returned (.tuple #[.pointer (some ⟨g,0,none⟩), .int .i64 0])/\yq w' w.heap.size w'.heap.size g l/\Below w.heap.size w w'
theorem I9 (w:World) (A:ax) (n c B:Nat) (l:ag) (most:Int) (a:bT .i64 w B A n l) (b:n<=1000) (h:bg l most≠0):
  Calls Tryz.prog 120 #[.slice A n c, .int .i64 most] w λe w'=>e= .returned (.tuple #[.pointer none, .int .i64 (bg l most)])/\w=w':=by
 obtain⟨E,hE⟩ :=ν (bg l most);rw[hE]at h⊢;have f:(E==0)=false:=by simpa using h
 have d:=η hE;clear hE
 go_in
 go_wp2_with fail;refine(Dk _ _ _ _ _ most _ a b).mono ?_;rintro e w1 ⟨rfl,rfl⟩;rw[d.out];go_wp2
 go_ret2
 exact⟨rfl,rfl⟩
theorem nY (w:World) (A:ax) (n c B:Nat) (l:ag) (most:Int) (P:bT .i64 w B A n l) (hB:B<=w.heap.size) (hn:n<=288) (h:bg l most=0):
  Calls Tryz.prog 120 #[.slice A n c, .int .i64 most] w (PG w l):=by
 obtain⟨i0,hi,V,U,T⟩ :=aL Sl;have Hi:=η hi;have gL:=η V;have fN:=η U;have gM:=η T;clear hi V U T;have H0:=η h;have Y:=P.alloc hB (.cells #[] 3);have HN:=η P.1;clear h
 go_in
 go_wp2_with fail;refine(Dk _ _ _ _ _ most _ P ω).mono ?_;rintro e w1 ⟨rfl,rfl⟩;rw[H0.out]
 go_wp2_with (at_builtin;(refine bm .i64 w.heap.size 3 i0 8 rfl (.tmp 17) (.tmp 18) _ rfl Tryz.underlying80 Hi.out gL.out fN.out gM.out rfl (aT.lit rfl [] _ (af _) σ) rfl Y ω ω σ ?_)
              intro A2 d2 w2 a Q bd)
 rw[ba,bX]at a;have r:Below w.heap.size w w2:=((aw _ w).alloc (af _) _).grown Q σ (by simp [ai]);have ao:bT .i64 w2 B A n l:=P.below (r.mono hB)
 go_wp2_with fail;refine(TX _ _ _ _ _ (ao.more (aq hB r.size)) hn).mono ?_;rintro e D ⟨rfl,t,L⟩;have be:Hid (l.length=n):=HN.symm;have ZL:=r.trans (L.mono r.size);have ac:=(a.keeps L).rd;have I:∀q,ai A2=some q->w.heap.size<=q:=λq o=>(a.2.lt o).1;have an:bT .i64 D B A n l:=P.below (ZL.mono hB);have Cn:=HN.out;subst Cn
 have b:Ar (D.alloc (.cells #[.slice A2 l.length d2, .slice (some ⟨w2.heap.size+2,0,none⟩) l.length l.length, .int .i64 0, .int .i64 0, .int .i64 0, .int .i64 0, .int .i64 0, .int .i64 0, .int .i64 0, .int .i64 0, .int .i64 0, .int .i64 0, .int .i64 0, .int .i64 0, .int .i64 0, .int .i64 0, .int .i64 0, .int .i64 0, .slice none 0 0, .int .i64 0] 196)) D.heap.size 20
   (Hg A2 l.length d2 (some ⟨w2.heap.size+2,0,none⟩) l.length l.length (cf l 1 0) none 0 0 (Yt l 1 0)):=
  Ar.new D _ _ rfl λi hi=>by
   have hz:∀m,cf l 1 0 m=0:=λm=>by unfold cf;split;rfl;split;omega;split <;> simp [cnt]
   obtain rfl | rfl | rfl | rfl | hm:i=0\/i=1\/i=18\/i=19\/(2<=i/\i<18):=ω
   · rfl
   · rfl
   · rfl
   · rfl
   unfold Hg;rw[a8 ω,a8 ω,a8 ω,a8 ω,hz];obtain rfl | rfl | rfl | rfl | rfl | rfl | rfl | rfl | rfl | rfl | rfl | rfl | rfl | rfl | rfl | rfl:i=2\/i=3\/i=4\/i=5\/i=6\/i=7\/i=8\/i=9\/i=10\/i=11\/i=12\/i=13\/i=14\/i=15\/i=16\/i=17:=ω;all_goals rfl
 have N:YT w D.heap.size D.heap.size (w2.heap.size+2) A2 d2 l.length l 1 0 (D.alloc (.cells #[.slice A2 l.length d2, .slice (some ⟨w2.heap.size+2,0,none⟩) l.length l.length, .int .i64 0, .int .i64 0, .int .i64 0, .int .i64 0, .int .i64 0, .int .i64 0, .int .i64 0, .int .i64 0, .int .i64 0, .int .i64 0, .int .i64 0, .int .i64 0, .int .i64 0, .int .i64 0, .int .i64 0, .int .i64 0, .slice none 0 0, .int .i64 0] 196)):=
  ⟨none,0,0,b,ac.alloc (af _) _,t.alloc (af _) _,aT.di,rfl,τ r.size,I,by simp [ai],ZL.size,ZL.alloc ZL.size _⟩
 clear b
 go_wp2_with fail;obtain⟨g,Q⟩ :=ν (D.heap.size);obtain⟨R,z⟩ :=ν (w2.heap.size+2);rw[Q,z]at N;rw[Q,z];have bB:=η z;have HG:=η Q;clear Q z t L ac an Y bd
 go_loopw [8,9,10] (a1T w g g R A2 d2 l.length l) (λs8 _ _ _=>17-(intOf s8).toNat)
 case atStart=>exact⟨1,af _,ω,rfl,N⟩
 clear N;obtain⟨n,rz,bp,rfl,N⟩ :=hrel;by_cases bs:n<16
 rotate_left
 · obtain rfl:n=16:=ω;obtain⟨As,ns,cs,b,M,t,a,_,z,I,d,s,F⟩ :=N;have og:=b.lt;have am:uI l (16-1)++idxs l 16 0=uI l 15:=by rw[show idxs l 16 0=[] from rfl,ak]
   rw[am]at a;have aE:=a.1;subst aE;have hT:yq wr w.heap.size wr.heap.size g l:= ⟨A2,_,As,d2,_,cs,b,M.more (bE og),t.more (bE og),a.rd,s,og,I,λq o=>by simp [ai]at o;omega,λq o=>aq s (a.2.lt o).1⟩;clear b M t a;go_wp2
   go_ret2
   exact⟨g,rfl,hT,F⟩
 have tJ:(1:Int)<=n/\(n:Int)<=15:=ω
 go_wp2_with fail
 go_loopw [9,10,30] (a1c w g g R A2 d2 l.length l n) (λ_ _ ah _=>l.length-(intOf ah).toNat)
 case atStart=>exact⟨0,aG _,rfl,N⟩
 clear N;obtain⟨i,hi,rfl,As,ns,cs,b,M,t,a,_,z,I,d,s,F⟩ :=hrel;by_cases J:i<l.length
 rotate_left
 · obtain rfl:i=l.length:=ω
   have tS:YT w g g R A2 d2 l.length l (n+1) 0 wr:=by
    refine⟨As,ns,cs, ?_,M,t, ?_,rfl,z,I,d,s,F⟩
    · rw[Wk l rz]at b;refine b.congr λj hj=> ?_;unfold Hg;rw[Z4]
    rw[Xp l rz]at a;rw[bW,show idxs l (n+1) 0=[] from rfl,ak];exact a
   clear b M t a F
   go_wp2_with fail;go_roundw
   case rel=>exact⟨n+1,ω,ω,by go_num,tS⟩
   case measure=>simp [intOf];omega
 have bt:(0:Int)<=i/\(i:Int)<(l.length:Int):=ω;obtain⟨ad,rfl,bv,c1⟩ :=(P.below (F.mono hB)).at_ J;obtain⟨x,O⟩ :=ν (ix l i);rw[O]at c1;by_cases Cp:x=(n:Int)
 rotate_left
 · have bo:(x==(n:Int))=false:=by simpa using Cp
   have B8:a1c w g g R A2 d2 l.length l n (.int .i64 i) (.int .i64 x) (.int .i64 ((i:Int)+1)) wr:=by
    have E:¬ix l i=(n:Int):=by rw[O];exact Cp
    have e1:idxs l n (i+1)=idxs l n i:=by rw[DY,a8 E,ak]
    refine⟨i+1,J,by go_num,As,ns,cs, ?_,M,t,by rw[e1];exact a,rfl,z,I,d,s,F⟩;rw[Wj E];refine b.congr λj hj=> ?_;unfold Hg;rw[<-Z3 E]
   clear O
   go_wp2_with fail;go_roundw
   case rel=>exact B8
   case measure=>simp [intOf];omega
 subst Cp;have E:ix l i=(n:Int):=O;have e1:Hid (idxs l n (i+1)=idxs l n i++[(i:Int)]):=by show _=_;rw[DY,aa E]
 obtain⟨C,hC⟩ :=ν (cf l n i n:Int);have bx:0<=C/\C<=288:=by rw[<-hC];unfold cf;have:=lG l i n;split;omega;split;omega;split <;> omega
 have k2:=b.cell (i:=2+n) ω;have al:=b.az 18;have z2:=b.frozen' (i:=2+n) ω;have bl:=b.aH 18;have bi:=b.aH 19
 have t2:∀f As ns cs S,Hg A2 l.length d2 (some ⟨R,0,none⟩) l.length l.length f As ns cs S (2+n)= .int .i64 (f n):=λf As ns cs S=>by
  unfold Hg;rw[a8 ω,a8 ω,a8 ω,a8 ω,bP]
 have G:∀f As ns cs S,Hg A2 l.length d2 (some ⟨R,0,none⟩) l.length l.length f As ns cs S 18= .slice As ns cs:=λf As ns cs S=>rfl;rw[t2,hC]at k2;rw[G]at al;have ew:IntKind.i64.wrap (C+1)=C+1:=by rw[aM _ ω]
 have Fy:=b.drew.iz (i:=2+n) ω (.int .i64 (C+1));have b1p:(wr.drew.setCell ⟨g,2+n,none⟩ (.int .i64 (C+1))).cell? ⟨g,18,none⟩ =some (.slice As ns cs):=by rw[Fy.az 18,dA _ _ ω,G]
 have b1u:=Fy.aH 18;have b1w:=Fy.aH 19;have lY:=Fy.alloc (.cells #[.int .i64 i] 3);have b1q:((wr.drew.setCell ⟨g,2+n,none⟩ (.int .i64 (C+1))).alloc (.cells #[.int .i64 i] 3)).cell? ⟨g,18,none⟩ =some (.slice As ns cs):=by rw[lY.az 18,dA _ _ ω,G]
 have H:=(a.drew.far (p:= ⟨g,2+n,none⟩) d (.int .i64 (C+1))).alloc (.cells #[.int .i64 i] 3)
 have ap:ns+1<=1000000000000:=by
  have:=a.1;rw[ae,qQ,oN]at this;have h1:=I2 l (n-1);have h2:=lG l i n;have h3:(n-1)*l.length<=15*288:=gD ω ω;omega
 have HX:=η O;have HC:=η hC;have Yk:g+1<=wr.heap.size:=b.lt;clear O hC
 go_wp2_with fail;go_cut [] (λwx=>wx=wr.drew.setCell ⟨g,2+n,none⟩ (.int .i64 (C+1)))
 case first=>
  go_region
  all_goals
   go_wp2_with fail;go_meet;rfl
 subst hcut;have cW:=bT.Wl .i64 (w:=wr.drew.setCell ⟨g,2+n,none⟩ (.int .i64 (C+1))) (g:=wr.heap.size) (by simp [World.setCell]) [(i:Int)] 3;have K:g<=((wr.drew.setCell ⟨g,2+n,none⟩ (.int .i64 (C+1))).alloc (.cells #[.int .i64 i] 3)).heap.size:=by simp [World.setCell];omega
 go_wp2_with (at_builtin;go_must (refine bm .i64 g 3 i0 8 rfl (.tmp 52) (.tmp 54) _ rfl Tryz.underlying80 Hi.out gL.out fN.out gM.out rfl H rfl cW ap ω K ?_)
              intro A5 c5 w5 im od jF;have fY:=lY.grown od (λe=>d e.symm);have b1v:=fY.aH 18;have a9n:=fY.az 18;have a9o:=fY.az 19;rw[dA _ _ ω]at a9n a9o;have b1x:=fY.aH 19)
 go_roundw
 case rel=>
  have IU:ai A5≠some g:=by
   rcases jF with e | e
   · rw[e];exact d
   rw[e];intro h;injection h with h;simp [World.setCell]at h;omega
  have W:∀q,ai As=some q->w.heap.size<=q:=λq o=>aq s (a.2.lt o).1;have ab:=((F.drew.setCell (p:= ⟨g,2+n,none⟩) s (.int .i64 (C+1))).alloc (by simp [World.setCell];exact F.size) (.cells #[.int .i64 i] 3))
  have og:∀{k:IntKind} {m:Nat} {X:ax} {y:ag},bT k wr g X m y->bT k w5 g X m y:=λo=>
   o.keep λp hp=>eW ((od.block p.block (by simp [World.setCell];omega) (λe=>by have:=(a.2.lt e.symm).1;omega)).trans ((eE _ _ _ (by simp [World.setCell];omega)).trans (cS _ _ _ _ ξ)))
  have Z:∀{k:IntKind} {m:Nat} {X:ax} {y:ag},bT k wr g X m y->bT k ((w5.setCell ⟨g,18,none⟩ (.slice A5 (ns+1) c5)).setCell ⟨g,19,none⟩ (.int .i64 n)) g X m y:=λo=>
   (og o).keep λp hp=>eW ((cS _ _ _ _ ξ).trans (cS _ _ _ _ ξ))
  refine⟨i+1,J,by go_num,A5,ns+1,c5,((fY.cE 18 _).cE 19 _).congr λj hj=> ?_,Z M,Z t, ?_,rfl,z,I,IU,s, ?_⟩
  · rw[a0x E];by_cases u:j=19
    · subst u;rw[upd_same];rfl
    rw[dA _ _ u];by_cases v:j=18
    · subst v;rw[upd_same];rfl
    rw[dA _ _ v];by_cases j2:j=2+n
    · subst j2;rw[upd_same,t2,<-TS rz E,aa rfl,HC.out]
    rw[dA _ _ j2];unfold Hg;by_cases j0:j=0
    · rw[aa j0,aa j0]
    rw[a8 j0,a8 j0];by_cases j1:j=1
    · rw[aa j1,aa j1]
    rw[a8 j1,a8 j1,a8 v,a8 v,a8 u,a8 u,<-TS rz E,a8 ω]
  · rw[e1.out,<-av];exact(im.far (p:= ⟨g,18,none⟩) IU _).far (p:= ⟨g,19,none⟩) IU _
  exact((ab.grown od ab.size W).setCell (p:= ⟨g,18,none⟩) s _).setCell (p:= ⟨g,19,none⟩) s _
 case measure=>simp [intOf];omega
end Go.Proofs.YtgiimmkmjpbecaaGreat
