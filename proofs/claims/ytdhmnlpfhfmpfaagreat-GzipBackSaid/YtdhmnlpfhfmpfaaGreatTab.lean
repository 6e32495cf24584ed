/-
  part
-/
import Derived.Test.YtdhmnlpfhfmpfaaGreatPk6
import Derived.Test.YtdhmnlpfhfmpfaaGreatPk7
import Derived.Maps.OwnSet
import Derived.Maps.Views
import Derived.Deep.DeepCutAuto
import Derived.BigFrame
namespace Go.Proofs.YtdhmnlpfhfmpfaaGreat
open Go.RowKit Go.Maps
set_option linter.unusedVariables false
set_option maxRecDepth 100000
set_option maxHeartbeats 4000000
theorem I4:(Tryz.prog.info? 5).map (λi=>(i.zero,i.size,i.bytes))=some (some (.int .u8 0),1,1):=by kernel_rfl
theorem PQ:(Tryz.prog.info? 3).map (λi=>(i.zero,i.size,i.bytes))=some (some (.int .i64 0),1,8):=by kernel_rfl
def ff (e:px) (A:ay) (n c base at_ gm:Nat) (Ap:ay) (np cp:Nat):Nat->Value
 | 0=> .int .i64 e.chain
 | 1=> .int .i64 e.nice
 | 2=> .bool e.lazy
 | 3=> .slice A n c
 | 4=> .int .i64 base
 | 5=> .int .i64 at_
 | 6=> .map (some gm)
 | _=> .slice Ap np cp
def qz (D:DataW Unit) (head:Int->Option Int):Prop:=
 IsMap D/\∀x:Int,Maps.has D (.int .u32 x)=(head x).isSome/\D.atKey (.int .u32 x) (.lit (.int .i64 0))= .lit (.int .i64 ((head x).getD 0))
theorem qz.new:qz (.map []) (λ_=>none):= ⟨isMap_empty,λx=> ⟨rfl,rfl⟩⟩
theorem qz.put {D:DataW Unit} {head:Int->Option Int} (h:qz D head) (y v:Int) (b:WideAt.IsKeyLit (.int .u32 y)):qz (D.put (.int .u32 y) (.lit (.int .i64 v))) (λx=>if x=y then some v else head x):=by
 refine⟨h.1.put _ _,λx=> ?_⟩;by_cases e:x=y
 · subst e;rw[has_put_same h.1 b,atKey_put_same h.1 b];simp
 have a:(Lit.int .u32 x)≠Lit.int .u32 y:=λc=>e (by injection c);rw[has_put_other a,atKey_put_other a];simp only [if_neg e];exact h.2 x
structure eG (w:World) (b0 g:Nat) (e:px) (st:jf) (b:Nat) (A:ay) (n c gm nm:Nat) (Dm:DataW Unit) (Ap:ay) (np cp:Nat):Prop where
 cell:Ar w g 8 (ff e A n c st.base st.at_ gm Ap np cp)
 lo:b0<=g
 own:ba .u8 w b0 5 A n c (st.D.drop st.base)
 xS:ba .i64 w b0 3 Ap np cp (st.P.drop st.base)
 map:w.ownsMap Tryz.prog 29 (plainElem Tryz.prog 3) gm nm Dm
 rep:qz Dm st.head
 glo:b0<=gm
 nmb:nm<=b
 d1:ak A≠some g
 d2:ak Ap≠some g
 d3:gm≠g
 d4:∀q,ak A=some q->ak Ap≠some q
 d5:ak A≠some gm
 d6:ak Ap≠some gm
 ok:st.Ok b
 jR:∀x∈st.D,0<=x/\x<256
 eb:e.chain<=256/\e.nice<=258
 big:st.D.length<=100000000000
def FF (A:ay) (gm:Nat) (Ap:ay) (g k:Nat):Prop:=k=g\/k=gm\/ak A=some k\/ak Ap=some k
theorem qb {w w':World} {k:TypeId} {R:Value->Option (DataW Unit×List MemPlace)} {gm nm:Nat} {D:DataW Unit} (h:w.ownsMap Tryz.prog k R gm nm D) (a:w'.heap[gm]?=w.heap[gm]?):w'.ownsMap Tryz.prog k R gm nm D:=by
 obtain⟨c,clock,b,r⟩ :=h;exact⟨c,clock,a.trans b,r⟩
section
variable {w w':World} {b0 g b n c gm nm np cp:Nat} {e:px} {st:jf} {A Ap:ay} {Dm:DataW Unit}
theorem eG.eK (h:eG w b0 g e st b A n c gm nm Dm Ap np cp) {k:Nat} (a:FF A gm Ap g k):b0<=k/\k<w.heap.size:=by
 rcases a with rfl | rfl | a | a
 · exact⟨h.lo,h.cell.lt⟩
 · exact⟨h.glo,h.map.lt⟩
 · exact h.own.2.lt a
 exact h.xS.2.lt a
theorem eG.fC {S:Nat->Prop} (h:eG w b0 g e st b A n c gm nm Dm Ap np cp) (a:bk w w' S) (d:∀k,FF A gm Ap g k->¬S k):eG w' b0 g e st b A n c gm nm Dm Ap np cp:=
 ⟨a.ar h.cell (d g (.inl rfl)),h.lo,a.dX h.own λq f=>d q (.inr (.inr (.inl f))),a.dX h.xS λq f=>d q (.inr (.inr (.inr f))),qb h.map (a.block gm h.map.lt (d gm (.inr (.inl rfl)))),h.rep,h.glo,h.nmb,h.d1,h.d2,h.d3,h.d4,h.d5,h.d6,h.ok,h.jR,h.eb,h.big⟩
theorem eG.keeps (h:eG w b0 g e st b A n c gm nm Dm Ap np cp) (a:Below w.heap.size w w'):eG w' b0 g e st b A n c gm nm Dm Ap np cp:=
 h.fC (S:=λ_=>False) (bk.bJ a) λ_ _=>id
theorem eG.drewN (h:eG w b0 g e st b A n c gm nm Dm Ap np cp) (q:Nat):eG (w.drewN q) b0 g e st b A n c gm nm Dm Ap np cp:=h.keeps (below_drewN (ax _ w) q)
theorem eG.nB (h:eG w b0 g e st b A n c gm nm Dm Ap np cp):n+st.base=st.D.length:=by
 have a:=h.own.1;have:=h.ok.lo;have:=h.ok.hi;rw[az]at a;omega
theorem eG.Oj (h:eG w b0 g e st b A n c gm nm Dm Ap np cp):np=n:=by
 rw[h.xS.1,h.own.1,az,az,h.ok.len]
theorem eG.Np (h:eG w b0 g e st b A n c gm nm Dm Ap np cp):st.base<=st.D.length:=aw h.ok.lo h.ok.hi
theorem eG.byte (h:eG w b0 g e st b A n c gm nm Dm Ap np cp) {i:Nat} (hi:i<n):∃gd,A=some ⟨gd,0,none⟩/\w.cell? ⟨gd,i,none⟩ =some (.int .u8 (ix st.D (st.base+i))):=by
 obtain⟨gd,rfl⟩ :=h.own.2.addr ω;refine⟨gd,rfl, ?_⟩;have:=h.own.2.cell (i:=i) ω;rw[mg]at this;exact this
theorem eG.place (h:eG w b0 g e st b A n c gm nm Dm Ap np cp) {i:Nat} (hi:i<n):∃gd,Ap=some ⟨gd,0,none⟩/\w.cell? ⟨gd,i,none⟩ =some (.int .i64 (ix st.P (st.base+i))):=by
 have a:=h.Oj;obtain⟨gd,rfl⟩ :=h.xS.2.addr ω;refine⟨gd,rfl, ?_⟩;have:=h.xS.2.cell (i:=i) ω;rw[mg]at this;exact this
theorem sD (h:eG w b0 g e st b A n c gm nm Dm Ap np cp):w.cell? ⟨g,0,none⟩ =some (.int .i64 e.chain)/\w.cell? ⟨g,1,none⟩ =some (.int .i64 e.nice)/\w.cell? ⟨g,2,none⟩ =some (.bool e.lazy)/\w.cell? ⟨g,3,none⟩ =some (.slice A n c)/\w.cell? ⟨g,4,none⟩ =some (.int .i64 st.base)/\
  w.cell? ⟨g,5,none⟩ =some (.int .i64 st.at_)/\w.cell? ⟨g,6,none⟩ =some (.map (some gm))/\w.cell? ⟨g,7,none⟩ =some (.slice Ap np cp):=
 ⟨h.cell.cell (i:=0) ω,h.cell.cell (i:=1) ω,h.cell.cell (i:=2) ω,h.cell.cell (i:=3) ω,h.cell.cell (i:=4) ω,h.cell.cell (i:=5) ω,h.cell.cell (i:=6) ω,h.cell.cell (i:=7) ω⟩
theorem EU (h:eG w b0 g e st b A n c gm nm Dm Ap np cp) (p:Nat) (hp:st.base<=p) (o:p<st.D.length):
  Calls Tryz.prog 83 #[.pointer (some ⟨g,0,none⟩), .int .i64 p] w λr w'=>r= .returned (.int .u8 (ix st.D p))/\∃q,w'=w.drewN q:=by
 obtain⟨-, -, -,t,l, -, -, -⟩ :=sD h;obtain⟨i,rfl⟩ :∃i,p=st.base+i:= ⟨p-st.base,ω⟩;have k:i<n:=by have:=h.nB;omega
 obtain⟨gd,rfl,cb⟩ :=h.byte k;have s:=h.big;obtain⟨B,j⟩ :=ν (st.base);obtain⟨v,hv⟩ :=ν (ix st.D (st.base+i));rw[hv]at cb⊢;rw[j]at l⊢;have f:((B+i:Nat):Int)-(B:Int)=(i:Int):=ω;have a:(0:Int)<=i/\(i:Int)<n/\((B+i:Nat):Int)<=100000000000/\(0:Int)<=B:=ω;obtain⟨P,d⟩ :=ν (B+i);rw[d]at f a⊢;have m:IntKind.i64.wrap ((P:Int)-(B:Int))=(i:Int):=by rw[aM _ ω,f]
 clear d hv j;go_enter Tryz.func83,Tryz.ntmps83;go_wp2;go_quiet (fail);go_wp2;go_ret;exact⟨rfl,_,rfl⟩
theorem zu (h:eG w b0 g e st b A n c gm nm Dm Ap np cp):
  Calls Tryz.prog 85 #[.pointer (some ⟨g,0,none⟩)] w λr w'=>r= .returned (.int .i64 st.D.length)/\∃q,w'=w.drewN q:=by
 obtain⟨-, -, -,m,k, -, -, -⟩ :=sD h;have d:=h.big;have a:=h.nB;obtain⟨B,i⟩ :=ν (st.base);obtain⟨L,f⟩ :=ν (st.D.length);rw[i]at k a;rw[f]at d a⊢;have j:(B:Int)+(n:Int)=(L:Int)/\(0:Int)<=B/\(0:Int)<=n/\(L:Int)<=100000000000:=ω;have l:IntKind.i64.wrap ((B:Int)+(n:Int))=(L:Int):=by rw[aM _ ω,j.1]
 clear i f a d;go_enter Tryz.func85,Tryz.ntmps85;go_wp2;go_quiet (fail);go_wp2;go_ret;exact⟨rfl,_,rfl⟩
theorem yL (h:eG w b0 g e st b A n c gm nm Dm Ap np cp):
  Calls Tryz.prog 62 #[.pointer (some ⟨g,0,none⟩)] w λr w'=>r= .returned (.int .i64 ((st.D.length-st.at_:Nat):Int))/\∃q,w'=w.drewN q:=by
 obtain⟨-, -, -,u,s,p, -, -⟩ :=sD h;have i:=h.big;have a:=h.nB;have d:=h.ok.hi;obtain⟨B,m⟩ :=ν (st.base);obtain⟨L,k⟩ :=ν (st.D.length);obtain⟨T,j⟩ :=ν (st.at_);rw[m]at s a;rw[j]at p d⊢;rw[k]at i a d⊢;have l:(B:Int)+(n:Int)=(L:Int)/\(0:Int)<=B/\(0:Int)<=n/\(L:Int)<=100000000000/\(0:Int)<=T/\(T:Int)<=L:=ω;have f:Hid ((L:Int)-(T:Int)=((L-T:Nat):Int)):=by show _=_;omega
 have t:IntKind.i64.wrap ((B:Int)+(n:Int))=(L:Int):=by rw[aM _ ω,l.1]
 have o:IntKind.i64.wrap ((L:Int)-(T:Int))=(L:Int)-(T:Int):=by rw[aM _ ω]
 clear m k a i j d;go_enter Tryz.func62,Tryz.ntmps62;go_wp2;go_quiet (fail);go_wp2;go_ret;exact⟨bZ (by rw[<-f.out,<-l.1]),_,rfl⟩
theorem a8c (a b k:Nat) (c:b<2 ^ k) (h:a*2 ^ k+b<4294967296):bits .or .u32 ((a*2 ^ k:Nat):Int) (b:Int)=((a*2 ^ k+b:Nat):Int):=by
 rw[u32_or_nat _ _ ω ω,eE,<-eI c]
theorem Wt {u v x:Int} (b:0<=u/\u<256) (hv:0<=v/\v<256) (a:0<=x/\x<256):bits .or .u32 (bits .or .u32 (u*65536) (v*256)) x=u*65536+v*256+x:=by
 obtain⟨U,rfl⟩ :=aJ b.1;obtain⟨V,rfl⟩ :=aJ hv.1;obtain⟨X,rfl⟩ :=aJ a.1;have e:(U:Int)*65536=((U*2 ^ 16:Nat):Int):=σ;have d:(V:Int)*256=((V*256:Nat):Int):=σ;have c:U*2 ^ 16+V*256=(U*256+V)*2 ^ 8:=ω;rw[e,d,a8c _ _ _ ω ω,c,a8c _ _ _ ω ω];omega
theorem Iq (h:eG w b0 g e st b A n c gm nm Dm Ap np cp) (p:Nat) (hp:st.base<=p) (y:p+3<=st.D.length):
  Calls Tryz.prog 106 #[.pointer (some ⟨g,0,none⟩), .int .i64 p] w λr w'=>r= .returned (.int .u32 (mL st.D p))/\∃q,w'=w.drewN q:=by
 obtain⟨-, -, -,K,H, -, -, -⟩ :=sD h;obtain⟨i,rfl⟩ :∃i,p=st.base+i:= ⟨p-st.base,ω⟩;have z:=h.nB;obtain⟨gd,rfl,o⟩ :=h.byte (i:=i) ω;obtain⟨f,k,m⟩ :=h.byte (i:=i+1) ω;cases k;obtain⟨f,k,l⟩ :=h.byte (i:=i+2) ω;cases k;have J:=h.big;have F:mL st.D (st.base+i)=hs3 (ix st.D (st.base+i)) (ix st.D (st.base+(i+1))) (ix st.D (st.base+(i+2))):=rfl
 have a:∀j,0<=ix st.D j/\ix st.D j<256:=λj=>by
  unfold ix;rw[aq];cases e:st.D[j]? with
  | none=>simp
  | some v=>exact h.jR v (cT e)
 have b0:=a (st.base+i);have b1:=a (st.base+(i+1));have b2:=a (st.base+(i+2));rw[F];obtain⟨B,G⟩ :=ν (st.base);obtain⟨u,t⟩ :=ν (ix st.D (st.base+i));obtain⟨v,hv⟩ :=ν (ix st.D (st.base+(i+1)));obtain⟨x,s⟩ :=ν (ix st.D (st.base+(i+2)));rw[t]at o b0⊢;rw[hv]at m b1⊢;rw[s]at l b2⊢;rw[G]at H z y⊢;have E:((B+i:Nat):Int)-(B:Int)=(i:Int):=ω;have d:(0:Int)<=i/\(i:Int)+2<n/\((B+i:Nat):Int)<=100000000000/\(0:Int)<=B/\(n:Int)<=100000000000:=ω;obtain⟨P,C⟩ :=ν (B+i);rw[C]at E d⊢;have I:IntKind.i64.wrap ((P:Int)-(B:Int))=(i:Int):=by rw[aM _ ω,E]
 clear C hv G t s F y a z;go_enter Tryz.func106,Tryz.ntmps106;go_wp2;go_quiet (fail);go_wp2;go_ret;exact⟨bZ (by rw[Wt b0 b1 b2];rfl),_,rfl⟩
def YI (w:World) (D:aj) (a p M:Nat) (i:Value) (wr:World):Prop:=
 ∃k q:Nat,k<=M/\i= .int .i64 k/\Hid (OI D a p (M-k) k=OI D a p M 0)/\wr=w.drewN q
theorem Ro (h:eG w b0 g e st b A n c gm nm Dm Ap np cp) (a p:Nat) (ha:st.base<=a) (S:a<=p) (P:p<=st.D.length):
  Calls Tryz.prog 107 #[.pointer (some ⟨g,0,none⟩), .int .i64 a, .int .i64 p] w λr w'=>r= .returned (.int .i64 (kR st.D a p))/\∃q,w'=w.drewN q:=by
 have R:=h.big;obtain⟨L,t⟩ :=ν (st.D.length);obtain⟨M,E⟩ :=ν (min 258 (L-p));have l:Hid (kR st.D a p=OI st.D a p M 0):=by show _=_;unfold kR;rw[t,E]
 have s:((258:Int)<(L:Int)-(p:Int)/\M=258)\/((L:Int)-(p:Int)<258/\(L:Int)-(p:Int)=(M:Int))\/((L:Int)-(p:Int)=258/\M=258):=ω;have j:=λW (hf:eG W b0 g e st b A n c gm nm Dm Ap np cp)=>zu hf;rw[t]at R P;have hI:(0:Int)<=a/\(a:Int)<=p/\(p:Int)<=L/\(L:Int)<=100000000000:=ω;have V:=η t;have HM:=η E;have yr:M<=258/\p+M<=L:=ω;go_enter Tryz.func107,Tryz.ntmps107;rw[t]at j;clear t E;go_upto_region 2 with fail
 go_cut [8] (λN wx=>N= .int .i64 M/\∃q,wx=w.drewN q)
 case first=>
  rcases s with ⟨I,rfl⟩ | ⟨I,h2⟩ | ⟨I,rfl⟩
  all_goals
   go_wp2_with fail;refine(j w h).mono ?_;rintro e w1 ⟨rfl,q1,rfl⟩;go_wp2;go_meet;exact⟨by first | rfl | (congr 1),q1,rfl⟩
 obtain⟨rfl,O,rfl⟩ :=hcut;clear s;go_wp2
 go_loopw [7] (YI w st.D a p M) (λi _=>M-(intOf i).toNat)
 case atStart=>exact⟨0,O,aF _,rfl,rfl,rfl⟩
 obtain⟨k,q,Y,rfl,d,rfl⟩ :=hrel;have o:=h.drewN q;by_cases Q:k<M
 rotate_left
 · obtain rfl:k=M:=ω;replace d:=d.out;rw[dG]at d;have f:Hid (k=OI st.D a p k 0):=d;clear d;go_wp2;go_ret;exact⟨by rw[l.out,<-f.out];rfl,q,rfl⟩
 have X:(0:Int)<=k/\(k:Int)<(M:Int):=ω;have T:=V.out;have z:=λW (hf:eG W b0 g e st b A n c gm nm Dm Ap np cp)=>EU hf (a+k) ω ω;have v:=λW (hf:eG W b0 g e st b A n c gm nm Dm Ap np cp)=>EU hf (p+k) ω ω;have K:((a+k:Nat):Int)=(a:Int)+(k:Int):=ω;have J:((p+k:Nat):Int)=(p:Int)+(k:Int):=ω;obtain⟨m,H⟩ :∃m,M-k=m+1:= ⟨M-k-1,ω⟩;replace d:=d.out;rw[H]at d;have F:OI st.D a p (m+1) k=if ix st.D (a+k)=ix st.D (p+k)then OI st.D a p m (k+1)else k:=rfl;rw[F]at d;obtain⟨x,C⟩ :=ν (ix st.D (a+k));obtain⟨y,B⟩ :=ν (ix st.D (p+k));rw[C,B]at d;rw[C]at z;rw[B]at v;rw[K]at z;rw[J]at v;have G:M-(k+1)=m:=ω;have U:=η G;clear C B F T K J H G;by_cases u:x=y
 · subst u;rw[af rfl]at d;have f:=η d;clear d
   go_wp2_with fail;refine(z _ o).mono ?_;rintro e w1 ⟨rfl,q1,rfl⟩
   go_wp2_with fail;refine(v _ (h.drewN (q+q1))).mono ?_;rintro e w1 ⟨rfl,q2,rfl⟩;go_wp2;go_roundw
   case rel=>exact⟨k+1,q+q1+q2,ω,by go_num,by show _=_;rw[U.out];exact f.out,rfl⟩
   case measure=>simp [intOf];omega
 rw[aa u]at d;have f:=η d;clear d;have Z:(x==y)=false:=by simpa using u
 clear u
 go_wp2_with fail;refine(z _ o).mono ?_;rintro e w1 ⟨rfl,q1,rfl⟩
 go_wp2_with fail;refine(v _ (h.drewN (q+q1))).mono ?_;rintro e w1 ⟨rfl,q2,rfl⟩;go_wp2;go_ret;exact⟨by rw[l.out,<-f.out];rfl,q+q1+q2,rfl⟩
end
theorem RA:(Tryz.prog.info? 3).map (λi=>(i.zero,i.size,i.bytes))=some (some (.int .i64 0),1,8):=by kernel_rfl
def GD (Al:ay) (nl cl:Nat) (c:ay) (a cc:Nat) (f:Nat->Int) (As:ay) (ns cs:Nat) (b:Int) (i:Nat):Value:=
 if i=0 then .slice Al nl cl else if i=1 then .slice c a cc else if i=18 then .slice As ns cs else if i=19 then .int .i64 b else .int .i64 (f (i-2))
def cf (l:aj) (n i m:Nat):Int:=if m=0 then 0 else if m<n then cnt l l.length m else if m=n then cnt l i n else 0
theorem Ts {l:aj} {n i:Nat} (c:1<=n) (h:ix l i=(n:Int)) (m:Nat):(if m=n then cf l n i n+1 else cf l n i m)=cf l n (i+1) m:=by
 by_cases e:m=n
 · subst e;rw[af rfl];unfold cf;rw[aa ω,aa ω,af rfl,aa ω,aa ω,af rfl];simp [cnt,h]
 rw[aa e];unfold cf;by_cases b:m=0
 · rw[af b,af b]
 rw[aa b,aa b];by_cases a:m<n
 · rw[af a,af a]
 rw[aa a,aa a,aa e,aa e]
theorem YR {l:aj} {n i:Nat} (h:¬ix l i=(n:Int)) (m:Nat):cf l n i m=cf l n (i+1) m:=by
 unfold cf;have:cnt l (i+1) n=cnt l i n:=by simp [cnt,h]
 rw[this]
theorem YS (l:aj) (n m:Nat):cf l n l.length m=cf l (n+1) 0 m:=by
 unfold cf;by_cases a:m=0
 · rw[af a,af a]
 rw[aa a,aa a];by_cases c:m<n
 · rw[af c,af ω]
 rw[aa c];by_cases b:m=n
 · subst b;rw[af rfl,af ω]
 rw[aa b,aa ω];split <;> simp [cnt]
def Yi (l:aj) (n i:Nat):Nat:=if cnt l i n=0 then tK l (n-1)else n
theorem a0z {l:aj} {n i:Nat} (h:ix l i=(n:Int)):Yi l n (i+1)=n:=by unfold Yi;rw[aa (by simp [cnt,h])]
theorem W5 {l:aj} {n i:Nat} (h:¬ix l i=(n:Int)):Yi l n (i+1)=Yi l n i:=by
 unfold Yi;have:cnt l (i+1) n=cnt l i n:=by simp [cnt,h]
 rw[this]
theorem W6 (l:aj) {n:Nat} (a:1<=n):Yi l n l.length=Yi l (n+1) 0:=by
 unfold Yi;rw[af (show cnt l 0 (n+1)=0 from rfl)];obtain⟨m,rfl⟩ :∃m,n=m+1:= ⟨n-1,ω⟩;simp only [Nat.add_sub_cancel];rfl
theorem Xe (l:aj) {n:Nat} (a:1<=n):uW l (n-1)++idxs l n l.length=uW l n:=by
 obtain⟨m,rfl⟩ :∃m,n=m+1:= ⟨n-1,ω⟩;rfl
def YJ (a:World) (g b c:Nat) (Al:ay) (cl cc:Nat) (l:aj) (n i:Nat) (w:World):Prop:=
 ∃(As:ay) (ns cs:Nat),Ar w g 20 (GD Al l.length cl (some ⟨c,0,none⟩) l.length cc (cf l n i) As ns cs (Yi l n i))/\bT .i64 w b Al l.length l/\bT .u32 w b (some ⟨c,0,none⟩) l.length (jk l)/\
  ba .i64 w b 3 As ns cs (uW l (n-1)++idxs l n i)/\g=b/\a.heap.size<=c/\(∀q,ak Al=some q->a.heap.size<=q)/\ak As≠some g/\a.heap.size<=g/\Below a.heap.size a w
def a2s (a:World) (g b c:Nat) (Al:ay) (cl cc:Nat) (l:aj) (s8 _a _b:Value) (w:World):Prop:=
 ∃n:Nat,1<=n/\n<=16/\s8= .int .i64 n/\YJ a g b c Al cl cc l n 0 w
def a1i (a:World) (g b c:Nat) (Al:ay) (cl cc:Nat) (l:aj) (n:Nat) (_a _b s30:Value) (w:World):Prop:=
 ∃i:Nat,i<=l.length/\s30= .int .i64 i/\YJ a g b c Al cl cc l n i w
def yR (w:World) (b0 B g:Nat) (l:aj):Prop:=
 ∃(Al a As:ay) (cl cc cs:Nat),Ar w g 20 (GD Al l.length cl a l.length cc (cf l 16 0) As (uW l 15).length cs (tK l 15))/\bT .i64 w B Al l.length l/\bT .u32 w B a l.length (jk l)/\bT .i64 w B As (uW l 15).length (uW l 15)/\
  b0<=g/\g<B/\(∀q,ak Al=some q->b0<=q)/\(∀q,ak a=some q->b0<=q)/\(∀q,ak As=some q->b0<=q)
theorem yR.fC {w w':World} {b0 B g:Nat} {l:aj} {S:Nat->Prop} (h:yR w b0 B g l) (d:bk w w' S) (z:B<=w.heap.size) (j:∀k,b0<=k->k<B->¬S k):yR w' b0 B g l:=by
 obtain⟨Al,y,As,cl,cc,cs,u,t,s,h4,h5,h6,h7,o,m⟩ :=h
 have a:∀{k:IntKind} {n:Nat} {A:ay} {x:aj},bT k w B A n x->(∀q,ak A=some q->b0<=q)->bT k w' B A n x:=λc r=>
  ⟨c.1,λp=>by
    obtain⟨v,e,f,b⟩ :=c.2 p;exact⟨v,e,f,λi hi=>(d.cell (by rw[bG];omega) (by rw[bG];exact j _ (r _ (by rw[e];rfl)) f)).trans (b i hi)⟩⟩
 exact⟨Al,y,As,cl,cc,cs,d.ar u (j g h5 h6),a t h7,a s o,a h4 m,h5,h6,h7,o,m⟩
theorem yR.keeps {w w':World} {b0 B g:Nat} {l:aj} (h:yR w b0 B g l) (b:B<=w.heap.size) (a:Below w.heap.size w w'):yR w' b0 B g l:=
 h.fC (S:=λ_=>False) (bk.bJ a) b λ_ _ _=>id
def OW (w:World) (l:aj) (e:Ending) (w':World):Prop:=
 ∃g,e= .returned (.tuple #[.pointer (some ⟨g,0,none⟩), .int .i64 0])/\yR w' w.heap.size w'.heap.size g l/\Below w.heap.size w w'
theorem Ho (w:World) (A:ay) (n c B:Nat) (l:aj) (most:Int) (a:bT .i64 w B A n l) (b:n<=1000) (h:bg l most≠0):
  Calls Tryz.prog 110 #[.slice A n c, .int .i64 most] w λe w'=>e= .returned (.tuple #[.pointer none, .int .i64 (bg l most)])/\w=w':=by
 obtain⟨E,hE⟩ :=ν (bg l most);rw[hE]at h⊢;have f:(E==0)=false:=by simpa using h
 have d:=η hE;clear hE;go_enter Tryz.func110,Tryz.ntmps110
 go_wp2_with fail;refine(D3 _ _ _ _ _ most _ a b).mono ?_;rintro e w1 ⟨rfl,rfl⟩;rw[d.out];go_wp2
 go_ret2
 exact⟨rfl,rfl⟩
theorem oo (w:World) (A:ay) (n c B:Nat) (l:aj) (most:Int) (P:bT .i64 w B A n l) (hB:B<=w.heap.size) (hn:n<=288) (h:bg l most=0):
  Calls Tryz.prog 110 #[.slice A n c, .int .i64 most] w (OW w l):=by
 obtain⟨i0,hi,V,U,T⟩ :=aL RA;have Hi:=η hi;have i7:=η V;have gp:=η U;have i9:=η T;clear hi V U T;have H0:=η h;have Y:=P.alloc hB (.cells #[] 3);have HN:=η P.1;clear h;go_enter Tryz.func110,Tryz.ntmps110
 go_wp2_with fail;refine(D3 _ _ _ _ _ most _ P ω).mono ?_;rintro e w1 ⟨rfl,rfl⟩;rw[H0.out]
 go_wp2_with (at_builtin;(refine bq .i64 w.heap.size 3 i0 8 rfl (.tmp 17) (.tmp 18) _ rfl Tryz.underlying63 Hi.out i7.out gp.out i9.out rfl (ba.lit rfl [] _ (ai _) σ) rfl Y ω ω σ ?_)
              intro A2 d2 w2 a Q aE)
 rw[aZ,bS]at a;have r:Below w.heap.size w w2:=((ax _ w).alloc (ai _) _).grown Q σ (by simp [ak]);have an:bT .i64 w2 B A n l:=P.below (r.mono hB)
 go_wp2_with fail;refine(Tw _ _ _ _ _ (an.more (aw hB r.size)) hn).mono ?_;rintro e D ⟨rfl,t,L⟩;have be:Hid (l.length=n):=HN.out.symm;have ZM:=r.trans (L.mono r.size);have ac:=(a.keeps L).rd;have I:∀q,ak A2=some q->w.heap.size<=q:=λq o=>(a.2.lt o).1;have am:bT .i64 D B A n l:=P.below (ZM.mono hB);have Cn:=HN.out;subst Cn
 have b:Ar (D.alloc (.cells #[.slice A2 l.length d2, .slice (some ⟨w2.heap.size+2,0,none⟩) l.length l.length, .int .i64 0, .int .i64 0, .int .i64 0, .int .i64 0, .int .i64 0, .int .i64 0, .int .i64 0, .int .i64 0, .int .i64 0, .int .i64 0, .int .i64 0, .int .i64 0, .int .i64 0, .int .i64 0, .int .i64 0, .int .i64 0, .slice none 0 0, .int .i64 0] 175)) D.heap.size 20
   (GD A2 l.length d2 (some ⟨w2.heap.size+2,0,none⟩) l.length l.length (cf l 1 0) none 0 0 (Yi l 1 0)):=
  Ar.new D _ _ rfl λi hi=>by
   have hz:∀m,cf l 1 0 m=0:=λm=>by unfold cf;split;rfl;split;omega;split <;> simp [cnt]
   obtain rfl | rfl | rfl | rfl | hm:i=0\/i=1\/i=18\/i=19\/(2<=i/\i<18):=ω
   · rfl
   · rfl
   · rfl
   · rfl
   unfold GD;rw[aa ω,aa ω,aa ω,aa ω,hz];obtain rfl | rfl | rfl | rfl | rfl | rfl | rfl | rfl | rfl | rfl | rfl | rfl | rfl | rfl | rfl | rfl:i=2\/i=3\/i=4\/i=5\/i=6\/i=7\/i=8\/i=9\/i=10\/i=11\/i=12\/i=13\/i=14\/i=15\/i=16\/i=17:=ω;all_goals rfl
 have N:YJ w D.heap.size D.heap.size (w2.heap.size+2) A2 d2 l.length l 1 0 (D.alloc (.cells #[.slice A2 l.length d2, .slice (some ⟨w2.heap.size+2,0,none⟩) l.length l.length, .int .i64 0, .int .i64 0, .int .i64 0, .int .i64 0, .int .i64 0, .int .i64 0, .int .i64 0, .int .i64 0, .int .i64 0, .int .i64 0, .int .i64 0, .int .i64 0, .int .i64 0, .int .i64 0, .int .i64 0, .int .i64 0, .slice none 0 0, .int .i64 0] 175)):=
  ⟨none,0,0,b,ac.alloc (ai _) _,t.alloc (ai _) _,ba.dN,rfl,τ r.size,I,by simp [ak],ZM.size,ZM.alloc ZM.size _⟩
 clear b
 go_wp2_with fail;obtain⟨g,Q⟩ :=ν (D.heap.size);obtain⟨R,z⟩ :=ν (w2.heap.size+2);rw[Q,z]at N;rw[Q,z];have bx:=η z;have HG:=η Q;clear Q z t L ac am Y aE
 go_loopw [8,9,10] (a2s w g g R A2 d2 l.length l) (λs8 _ _ _=>17-(intOf s8).toNat)
 case atStart=>exact⟨1,ai _,ω,rfl,N⟩
 clear N;obtain⟨n,p9,bp,rfl,N⟩ :=hrel;by_cases bs:n<16
 rotate_left
 · obtain rfl:n=16:=ω;obtain⟨As,ns,cs,b,M,t,a,_,z,I,d,s,F⟩ :=N;have oX:=b.lt;have al:uW l (16-1)++idxs l 16 0=uW l 15:=by rw[show idxs l 16 0=[] from rfl,aA]
   rw[al]at a;have ap:=a.1;subst ap;have hT:yR wr w.heap.size wr.heap.size g l:= ⟨A2,_,As,d2,_,cs,b,M.more (dh oX),t.more (dh oX),a.rd,s,oX,I,λq o=>by simp [ak]at o;omega,λq o=>aw s (a.2.lt o).1⟩;clear b M t a;go_wp2
   go_ret2
   exact⟨g,rfl,hT,F⟩
 have x6:(1:Int)<=n/\(n:Int)<=15:=ω
 go_wp2_with fail
 go_loopw [9,10,30] (a1i w g g R A2 d2 l.length l n) (λ_ _ ae _=>l.length-(intOf ae).toNat)
 case atStart=>exact⟨0,aF _,rfl,N⟩
 clear N;obtain⟨i,hi,rfl,As,ns,cs,b,M,t,a,_,z,I,d,s,F⟩ :=hrel;by_cases J:i<l.length
 rotate_left
 · obtain rfl:i=l.length:=ω
   have yr:YJ w g g R A2 d2 l.length l (n+1) 0 wr:=by
    refine⟨As,ns,cs, ?_,M,t, ?_,rfl,z,I,d,s,F⟩
    · rw[W6 l p9]at b;refine b.congr λj hj=> ?_;unfold GD;rw[YS]
    rw[Xe l p9]at a;rw[bX,show idxs l (n+1) 0=[] from rfl,aA];exact a
   clear b M t a F
   go_wp2_with fail;go_roundw
   case rel=>exact⟨n+1,ω,ω,by go_num,yr⟩
   case measure=>simp [intOf];omega
 have Y8:(0:Int)<=i/\(i:Int)<(l.length:Int):=ω;obtain⟨ad,rfl,bt,c1⟩ :=(P.below (F.mono hB)).at_ J;obtain⟨x,O⟩ :=ν (ix l i);rw[O]at c1;by_cases Cp:x=(n:Int)
 rotate_left
 · have bo:(x==(n:Int))=false:=by simpa using Cp
   have Bc:a1i w g g R A2 d2 l.length l n (.int .i64 i) (.int .i64 x) (.int .i64 ((i:Int)+1)) wr:=by
    have E:¬ix l i=(n:Int):=by rw[O];exact Cp
    have e1:idxs l n (i+1)=idxs l n i:=by rw[DA,aa E,aA]
    refine⟨i+1,J,by go_num,As,ns,cs, ?_,M,t,by rw[e1];exact a,rfl,z,I,d,s,F⟩;rw[W5 E];refine b.congr λj hj=> ?_;unfold GD;rw[<-YR E]
   clear O
   go_wp2_with fail;go_roundw
   case rel=>exact Bc
   case measure=>simp [intOf];omega
 subst Cp;have E:ix l i=(n:Int):=O;have e1:Hid (idxs l n (i+1)=idxs l n i++[(i:Int)]):=by show _=_;rw[DA,af E]
 obtain⟨C,hC⟩ :=ν (cf l n i n:Int);have bv:0<=C/\C<=288:=by rw[<-hC];unfold cf;have:=lU l i n;split;omega;split;omega;split <;> omega
 have k2:=b.cell (i:=2+n) ω;have ah:=b.cell (i:=18) ω;have z2:=b.frozen' (i:=2+n) ω;have bl:=b.frozen' (i:=18) ω;have bi:=b.frozen' (i:=19) ω
 have t2:∀f As ns cs S,GD A2 l.length d2 (some ⟨R,0,none⟩) l.length l.length f As ns cs S (2+n)= .int .i64 (f n):=λf As ns cs S=>by
  unfold GD;rw[aa ω,aa ω,aa ω,aa ω,bQ]
 have G:∀f As ns cs S,GD A2 l.length d2 (some ⟨R,0,none⟩) l.length l.length f As ns cs S 18= .slice As ns cs:=λf As ns cs S=>rfl;rw[t2,hC]at k2;rw[G]at ah;have ew:IntKind.i64.wrap (C+1)=C+1:=by rw[aM _ ω]
 have F5:=b.drew.bK (i:=2+n) ω (.int .i64 (C+1));have b2Z:(wr.drew.setCell ⟨g,2+n,none⟩ (.int .i64 (C+1))).cell? ⟨g,18,none⟩ =some (.slice As ns cs):=by rw[F5.cell (i:=18) ω,dx _ _ ω,G]
 have b35:=F5.frozen' (i:=18) ω;have b37:=F5.frozen' (i:=19) ω;have nI:=F5.alloc (.cells #[.int .i64 i] 3);have b30:((wr.drew.setCell ⟨g,2+n,none⟩ (.int .i64 (C+1))).alloc (.cells #[.int .i64 i] 3)).cell? ⟨g,18,none⟩ =some (.slice As ns cs):=by rw[nI.cell (i:=18) ω,dx _ _ ω,G]
 have H:=(a.drew.far (p:= ⟨g,2+n,none⟩) d (.int .i64 (C+1))).alloc (.cells #[.int .i64 i] 3)
 have ao:ns+1<=1000000000000:=by
  have:=a.1;rw[ag,rr,pn]at this;have h1:=He l (n-1);have h2:=lU l i n;have h3:(n-1)*l.length<=15*288:=gG ω ω;omega
 have HX:=η O;have HC:=η hC;have Y6:g+1<=wr.heap.size:=b.lt;clear O hC
 go_wp2_with fail;go_cut [] (λwx=>wx=wr.drew.setCell ⟨g,2+n,none⟩ (.int .i64 (C+1)))
 case first=>
  go_region
  all_goals
   go_wp2_with fail;go_meet;rfl
 subst hcut;have cQ:=bT.W7 .i64 (w:=wr.drew.setCell ⟨g,2+n,none⟩ (.int .i64 (C+1))) (g:=wr.heap.size) (by simp [World.setCell]) [(i:Int)] 3;have K:g<=((wr.drew.setCell ⟨g,2+n,none⟩ (.int .i64 (C+1))).alloc (.cells #[.int .i64 i] 3)).heap.size:=by simp [World.setCell];omega
 go_wp2_with (at_builtin;go_must (refine bq .i64 g 3 i0 8 rfl (.tmp 52) (.tmp 54) _ rfl Tryz.underlying63 Hi.out i7.out gp.out i9.out rfl H rfl cQ ao ω K ?_)
              intro A5 c5 w5 ir oz jD;have gW:=nI.grown oz (λe=>d e.symm);have b36:=gW.frozen' (i:=18) ω;have b0Z:=gW.cell (i:=18) ω;have b13:=gW.cell (i:=19) ω;rw[dx _ _ ω]at b0Z b13;have b38:=gW.frozen' (i:=19) ω)
 go_roundw
 case rel=>
  have Ip:ak A5≠some g:=by
   rcases jD with e | e
   · rw[e];exact d
   rw[e];intro h;injection h with h;simp [World.setCell]at h;omega
  have W:∀q,ak As=some q->w.heap.size<=q:=λq o=>aw s (a.2.lt o).1;have ab:=((F.drew.setCell (p:= ⟨g,2+n,none⟩) s (.int .i64 (C+1))).alloc (by simp [World.setCell];exact F.size) (.cells #[.int .i64 i] 3))
  have oX:∀{k:IntKind} {m:Nat} {X:ay} {y:aj},bT k wr g X m y->bT k w5 g X m y:=λo=>
   o.keep λp hp=>dL ((oz.block p.block (by simp [World.setCell];omega) (λe=>by have:=(a.2.lt e.symm).1;omega)).trans ((dC _ _ _ (by simp [World.setCell];omega)).trans (cV _ _ _ _ ξ)))
  have Z:∀{k:IntKind} {m:Nat} {X:ay} {y:aj},bT k wr g X m y->bT k ((w5.setCell ⟨g,18,none⟩ (.slice A5 (ns+1) c5)).setCell ⟨g,19,none⟩ (.int .i64 n)) g X m y:=λo=>
   (oX o).keep λp hp=>dL ((cV _ _ _ _ ξ).trans (cV _ _ _ _ ξ))
  refine⟨i+1,J,by go_num,A5,ns+1,c5,((gW.bK (i:=18) ω _).bK (i:=19) ω _).congr λj hj=> ?_,Z M,Z t, ?_,rfl,z,I,Ip,s, ?_⟩
  · rw[a0z E];by_cases u:j=19
    · subst u;rw[upd_same];rfl
    rw[dx _ _ u];by_cases v:j=18
    · subst v;rw[upd_same];rfl
    rw[dx _ _ v];by_cases j2:j=2+n
    · subst j2;rw[upd_same,t2,<-Ts p9 E,af rfl,HC.out]
    rw[dx _ _ j2];unfold GD;by_cases j0:j=0
    · rw[af j0,af j0]
    rw[aa j0,aa j0];by_cases j1:j=1
    · rw[af j1,af j1]
    rw[aa j1,aa j1,aa v,aa v,aa u,aa u,<-Ts p9 E,aa ω]
  · rw[e1.out,<-av];exact(ir.far (p:= ⟨g,18,none⟩) Ip _).far (p:= ⟨g,19,none⟩) Ip _
  exact((ab.grown oz ab.size W).setCell (p:= ⟨g,18,none⟩) s _).setCell (p:= ⟨g,19,none⟩) s _
 case measure=>simp [intOf];omega
end Go.Proofs.YtdhmnlpfhfmpfaaGreat
