/-
  part
-/
import Derived.Test.YtgiimmkmjpbecaaGreatLimG
import Derived.Test.YtgiimmkmjpbecaaGreatPk12
set_option linter.unusedVariables false
set_option maxRecDepth 100000
set_option maxHeartbeats 8000000
namespace Go.Proofs.YtgiimmkmjpbecaaGreat
open Go.RowKit
inductive fU {α β:Type} (R:α->β->Prop):List α->List β->Prop
 | nil:fU R [] []
 | cons {a:α} {b:β} {xs:List α} {ys:List β}:R a b->fU R xs ys->fU R (a::xs) (b::ys)
section
variable {α β:Type} {R R':α->β->Prop} {xs cs:List α} {ys ds:List β}
theorem fU.length (h:fU R xs ys):xs.length=ys.length:=by
 induction h with
 | nil=>rfl
 | cons _ _ ih=>rw[br,br,ih]
theorem fU.mono (h:fU R xs ys) (c:∀a∈xs,∀b,R a b->R' a b):fU R' xs ys:=by
 induction h with
 | nil=>exact .nil
 | cons h1 _ ih=>exact .cons (c _ aI _ h1) (ih λa d=>c a (aJ _ d))
theorem fU.app (h:fU R xs ys) (h':fU R cs ds):fU R (xs++cs) (ys++ds):=by
 induction h with
 | nil=>exact h'
 | cons h1 _ ih=>exact .cons h1 ih
theorem fU.one {a:α} {b:β} (h:R a b):fU R [a] [b]:= .cons h .nil
theorem fU.perm (hp:cs.Perm xs) (h:fU R xs ys):∃ds,ds.Perm ys/\fU R cs ds:=by
 induction hp generalizing ys with
 | nil=>exact⟨ys,cO _,h⟩
 | cons x _ ih=>
   cases h with
   | cons b a=>
     obtain⟨ds,hd,e⟩ :=ih a;exact⟨_::ds,List.Perm.cons _ hd, .cons b e⟩
 | swap x y l=>
   cases h with
   | cons b a=>cases a with
     | cons f h4=>exact⟨_,List.Perm.swap _ _ _, .cons f (.cons b h4)⟩
 | trans _ _ ih1 ih2=>
   obtain⟨d1,p1,d⟩ :=ih2 h;obtain⟨d2,p2,c⟩ :=ih1 d;exact⟨d2,p2.trans p1,c⟩
theorem fU.mem (h:fU R xs ys):∀b∈ys,∃a∈xs,R a b:=by
 induction h with
 | nil=>intro b c;simp at c
 | cons h1 _ ih=>
   intro b c;rcases aZ.1 c with rfl | c
   · exact⟨_,aI,h1⟩
   obtain⟨a,e,d⟩ :=ih b c;exact⟨a,aJ _ e,d⟩
theorem fU.a9s (h:fU R xs ys):∀a∈xs,∃b∈ys,R a b:=by
 induction h with
 | nil=>intro b c;simp at c
 | cons h1 _ ih=>
   intro b c;rcases aZ.1 c with rfl | c
   · exact⟨_,aI,h1⟩
   obtain⟨a,e,d⟩ :=ih b c;exact⟨a,aJ _ e,d⟩
end
def ma (w:World) (B:Nat) (X:Nat->Prop) (e:El) (p:Pk):Prop:=e.1=p.w/\bT .i64 w B e.2.1 e.2.2.1 p.l/\(0<e.2.2.1->∀g,ai e.2.1=some g->¬X g)
def uT (w:World) (B:Nat) (X:Nat->Prop) (A:ax) (n:Nat) (L:List Pk):Prop:=∃D,yl w B A n D/\fU (ma w B X) D L
theorem uT.below {w w':World} {B n:Nat} {X:Nat->Prop} {A:ax} {L:List Pk} (h:uT w B X A n L) (b:Below B w w'):uT w' B X A n L:=by
 obtain⟨D,d,c⟩ :=h;exact⟨D,d.below b,c.mono λe _ p a=> ⟨a.1,a.2.1.below b,a.2.2⟩⟩
theorem uT.more {w:World} {B B' n:Nat} {X:Nat->Prop} {A:ax} {L:List Pk} (h:uT w B X A n L) (b:B<=B'):uT w B' X A n L:=by
 obtain⟨D,d,c⟩ :=h;exact⟨D,d.more b,c.mono λe _ p a=> ⟨a.1,a.2.1.more b,a.2.2⟩⟩
theorem Own.ar {w:World} {b0:Nat} {e:TypeId} {d n c g:Nat} {f:Nat->Value} (h:Own w b0 e d (some ⟨g,0,none⟩) n c f):Ar w g (n*d) f:=by
 rcases h with ⟨m,_⟩ | ⟨q,b,a,p,l,k,o,j,i⟩
 · cases m
 injection a with a;injection a with a;subst a;exact⟨b,e,(0,0),l, .inr rfl,by rw[j];exact eV _ k,i⟩
theorem BG (w d:World) (g n c:Nat) (b:List El) (h:Dt d g n b w) (j:n<=1000) (a:Sm b) (f:PF b):
  Calls Tryz.prog 147 #[.slice (some ⟨g,0,none⟩) n c,tE] w (Ty d g n b):=by
 have i:=η (NA w d g n c b h j a f);clear h a f;unfold tE at i⊢
 go_in
 go_wp2_with fail;refine i.mono ?_;rintro e k ⟨D,rfl,h⟩
 go_wp2_with fail;go_end0;exact⟨D,rfl,h⟩
theorem BI (w:World) (F:Value):
  Calls Tryz.prog 147 #[.slice none 0 0,F] w λe w'=>e= .returned (.tuple #[])/\w=w':=by
 have a:=η (NB w F)
 go_in
 go_wp2_with fail;refine a.mono ?_;rintro e b ⟨rfl,rfl⟩
 go_wp2_with fail;go_end0;exact⟨rfl,rfl⟩
theorem yl.a0y {w:World} {g:Nat} (b:g=w.heap.size) (a:Int) (A:ax) (n c:Nat) (t:TypeId):yl (w.alloc (.cells #[.int .i64 a, .slice A n c] t)) (g+1) (some ⟨g,0,none⟩) 1 [(a,A,n,c)]:=by
 subst b;exact yl.lit w (a,A,n,c) t
theorem ma.dx {w w':World} {X k S:Nat->Prop} {e:El} {p:Pk} (h:ma w w.heap.size X e p) (j:bb w w' S) (q:∀g,S g->X g) (o:∀g,g<w.heap.size->k g->X g):ma w' w'.heap.size k e p:=by
 refine⟨h.1,(j.rp h.2.1 (af _) (λa d b m=>h.2.2 a d.block (by rw[b];rfl) (q _ m))).more j.size,λa g f l=> ?_⟩;obtain⟨d,b,n, -⟩ :=h.2.1.at_ (i:=0) a;rw[b]at f;have c:d.block=g:=by simpa [ai] using f
 exact h.2.2 a g (by rw[b,<-c];rfl) (o g ω l)
theorem Nk {f:Int->Int} {L:List Pk} {S:ag} (h:L.Perm (fA f S)):∃S',S'.Perm S/\L=fA f S':=by
 refine⟨L.map λp=>p.l.headD 0, ?_, ?_⟩
 · have:=h.map (λp:Pk=>p.l.headD 0);refine this.trans ?_;unfold fA;rw[List.map_map];have e:((λp:Pk=>p.l.headD 0) ∘ λs=>(⟨f s,[s]⟩ :Pk))=id:=by funext s;rfl
   rw[e,List.map_id]
 unfold fA;rw[List.map_map]
 conv=>lhs;rw[<-List.map_id L]
 refine dn λp hp=> ?_;obtain⟨s,d,b,a⟩ :=km p (h.mem_iff.1 hp);obtain⟨pw,c⟩ :=p;simp only at b a;subst b a;rfl
def dZ (f:ag):Nat->ag
 | 0=>[]
 | k+1=>dZ f k++if 0<ix f k then [(k:Int)] else []
def qx (f:ag) (s:Int):Int:=ix f s.toNat
section
variable {α β:Type} {R R':α->β->Prop} {xs:List α} {ys:List β}
theorem fU.and (h:fU R xs ys) (h':fU R' xs ys):fU (λa b=>R a b/\R' a b) xs ys:=by
 induction h with
 | nil=>exact .nil
 | cons h1 _ ih=>cases h' with
   | cons d c=>exact .cons ⟨h1,d⟩ (ih c)
theorem fU.flip (h:fU R xs ys):fU (λb a=>R a b) ys xs:=by
 induction h with
 | nil=>exact .nil
 | cons h1 _ ih=>exact .cons h1 ih
theorem fU.pw {Q:α->α->Prop} {j:β->β->Prop} (h:fU R xs ys) (m:xs.Pairwise Q) (H:∀a∈xs,∀a'∈xs,∀b∈ys,∀c∈ys,R a b->R a' c->Q a a'->j b c):ys.Pairwise j:=by
 induction h with
 | nil=>exact List.Pairwise.nil
 | @cons a b xs ys h1 h2 ih=>
   obtain⟨l,k⟩ :=aV.1 m;refine aV.2 ⟨λq g=> ?_,ih k λa p a' f b o c d=>H a (aJ _ p) a' (aJ _ f) b (aJ _ o) c (aJ _ d)⟩;obtain⟨e,i,n⟩ :=h2.mem q g;exact H a aI e (aJ _ i) b aI q (aJ _ g) h1 n (l e i)
end
theorem xy {f:ag}:∀k:Nat,∀s∈dZ f k,0<=s/\s<(k:Int)
 | 0,s,h=>by simp [dZ]at h
 | k+1,s,h=>by
   rw[dZ]at h;rcases aQ.1 h with h | h
   · have:=xy k s h;omega
   split at h
   · have:=bk.1 h;omega
   simp at h
theorem Ge {f:ag}:∀k:Nat,(dZ f k).Pairwise (· < ·)
 | 0=>List.Pairwise.nil
 | k+1=>by
   rw[dZ];refine List.pairwise_append.2 ⟨Ge k, ?_,λs a t ht=> ?_⟩
   · split
     · exact i9 _ _
     exact List.Pairwise.nil
   split at ht
   · rw[bk.1 ht];exact(xy k s a).2
   simp at ht
def a1R (N:Int->Nat) (e:El) (p:Pk):Prop:=ps e=N (p.l.headD 0)
def LvN (b:Nat) (f:ag) (i:Nat) (D:List El):Prop:=
 ∃N:Int->Nat,fU (a1R N) D (fA (qx f) (dZ f i))/\(∀s∈dZ f i,∀t∈dZ f i,s<t->N s<N t)/\(∀s∈dZ f i,N s<b)
theorem E6 {N a:Int->Nat} {g:Int->Int}:∀{S:ag} {D:List El},(∀s∈S,a s=N s)->fU (a1R N) D (fA g S)->fU (a1R a) D (fA g S)
 | [],D,_,h=>by cases h;exact .nil
 | s::S,D,hs,h=>by
   cases h with
   | cons c b=>exact .cons (by show _=a s;rw[hs s aI];exact c) (E6 (λt ht=>hs t (aJ _ ht)) b)
theorem LvN.push {b j:Nat} {f:ag} {i:Nat} {D:List El} {v:Int} (h:LvN b f i D) (hv:ix f i=v) (hp:0<v) (k:b<j):LvN j f (i+1) (D++[(v,some ⟨b,0,none⟩,1,1)]):=by
 obtain⟨N,g,l,e⟩ :=h;have yF:dZ f (i+1)=dZ f i++[(i:Int)]:=by rw[dZ,hv,aa hp]
 refine⟨λs=>if s=(i:Int)then b else N s, ?_,λs a t ht d=> ?_,λs a=> ?_⟩
 · rw[yF];unfold fA at g⊢;rw[eQ];refine fU.app (E6 (λs a=> ?_) g) (fU.one ?_)
   · have:=xy i s a;exact a8 ω
   show b=if(i:Int)=(i:Int)then b else _;rw[aa rfl]
 · rw[yF]at a ht;have c:∀s,s∈dZ f i->¬s=(i:Int):=λs a=>by have:=xy i s a;omega
   dsimp only;rcases aQ.1 a with a | a <;> rcases aQ.1 ht with ht | ht
   · rw[a8 (c s a),a8 (c t ht)];exact l s a t ht d
   · rw[a8 (c s a),aa (bk.1 ht)];exact e s a
   · have m:=bk.1 a;have:=xy i t ht;omega
   have m:=bk.1 a;have n:=bk.1 ht;omega
 dsimp only;rw[yF]at a;rcases aQ.1 a with a | a
 · rw[a8 (τ (xy i s a))];have:=e s a;omega
 rw[aa (bk.1 a)];exact k
theorem Wh {g:Int->Int} {S:ag} {Q:Int->Int->Prop} {b:Pk->Pk->Prop} (h:S.Pairwise Q) (H:∀s t,Q s t->b ⟨g s,[s]⟩ ⟨g t,[t]⟩):(fA g S).Pairwise b:=by
 unfold fA;rw[List.pairwise_map];exact h.imp λa=>H _ _ a
theorem LvN.asc {b:Nat} {f:ag} {i:Nat} {D:List El} (h:LvN b f i D):PF D:=by
 obtain⟨N,w,v,z⟩ :=h;refine w.flip.pw (Q:=λp q=>p.l.headD 0<q.l.headD 0) (Wh (Ge i) λs t c=>c) ?_;intro p hp q o e y x u r m a;have k:ps e=N (p.l.headD 0):=r;have j:ps x=N (q.l.headD 0):=m;obtain⟨s,n,B,g⟩ :=km p hp;obtain⟨t,ht,A,d⟩ :=km q o;rw[k,j,g,d];rw[g,d]at a;exact bE (v s n t ht a)
def zw (f:ag) (S:ag):Prop:=S.Pairwise λs t=>qx f s<qx f t\/(qx f s=qx f t/\s<=t)
theorem zw.le {f S:ag} (h:zw f S):S.Pairwise λs t=>qx f s<=qx f t:=h.imp λh=>by rcases h with h | h <;> omega
def LvR (w:World) (f:ag) (m:Nat) (k:Nat) (b a:Value) (wr:World):Prop:=
 ∃(i q c:Nat) (A:ax) (D:List El),b= .slice A q c/\a= .int .i64 i/\i<=m/\kz wr w.heap.size A q c D/\Below w.heap.size w wr/\Hid (fU (ma wr wr.heap.size λg=>ai A=some g\/g<w.heap.size) D (fA (qx f) (dZ f i)))/\q<=i/\Hid (k=m-i)/\Hid (LvN wr.heap.size f i D)
theorem a0z {w wr d:World} {f:ag} {i q c:Nat} {A s:ax} {D:List El} {v:Int} (x:kz wr w.heap.size A q c D) (hA:fU (ma wr wr.heap.size λg=>ai A=some g\/g<w.heap.size) D (fA (qx f) (dZ f i))) (t:w.heap.size<=wr.heap.size) (hv:ix f i=v) (hp:0<v)
  (b:((wr.alloc (.cells #[.int .i64 (i:Nat)] 3)).alloc (.cells #[.int .i64 v, .slice (some ⟨wr.heap.size,0,none⟩) 1 1] 201)).grownBy d (ai A)) (l:ai s=ai A\/ai s=some ((wr.alloc (.cells #[.int .i64 (i:Nat)] 3)).alloc (.cells #[.int .i64 v, .slice (some ⟨wr.heap.size,0,none⟩) 1 1] 201)).heap.size):
  fU (ma d d.heap.size λg=>ai s=some g\/g<w.heap.size) (D++[(v,some ⟨wr.heap.size,0,none⟩,1,1)]) (fA (qx f) (dZ f (i+1))):=by
 have h:∀g,ai A=some g->g<wr.heap.size:=λg b=>(x.2.lt b).2;have j:bb (wr.alloc (.cells #[.int .i64 (i:Nat)] 3)) d (λg=>ai A=some g):=((bb.refl _ _).alloc _).grown b (λk m=> .inl m);have o:bb wr d (λg=>ai A=some g):=(((bb.refl _ _).alloc _).alloc _).grown b (λk m=> .inl m);rw[show dZ f (i+1)=dZ f i++[(i:Int)] by rw[dZ,hv,aa hp]];unfold fA at hA⊢;rw[eQ];refine(hA.mono λe _ p y=>y.dx o (λg b=> .inl b) (λg b a=> ?_)).app (fU.one ?_)
 · rcases a with a | a
   · rcases l with e | e
     · left;rw[<-e];exact a
     rw[e]at a;injection a with a;simp at a;omega
   exact .inr a
 refine⟨?_, ?_,λ_ g n a=> ?_⟩
 · show v=qx f i;unfold qx;rw[aY,hv]
 · have z:=bT.lit .i64 wr [(i:Int)] 3;exact(j.rp z σ (λ_ C r u=>by injection r with r;subst r;exact absurd (h _ u) (j3 _))).more (by have:=j.size;simp at this;omega)
 have B:wr.heap.size=g:=by simpa [ai] using n
 rcases a with a | a
 · rcases l with e | e
   · rw[e]at a;have:=h _ a;omega
   rw[e]at a;injection a with a;simp at a;omega
 omega
def a1P (w:World) (f:ag) (m:Nat) (e:Ending) (w':World):Prop:=
 ∃A q c S,e= .returned (.slice A q c)/\Below w.heap.size w w'/\uT w' w'.heap.size (λg=>g<w.heap.size) A q (fA (qx f) S)/\((A=none/\q=0)\/∃g,A=some ⟨g,0,none⟩/\w.heap.size<=g/\g<w'.heap.size)/\S.Perm (dZ f m)/\zw f S/\q<=c
theorem MP (w:World) (C:ax) (m d:Nat) (f:ag) (hr:bT .i64 w w.heap.size C m f) (n:m<=1000) (hf:∀i,i<m->0<=ix f i/\ix f i<=1048576):
  Calls Tryz.prog 140 #[.slice C m d] w (a1P w f m):=by
 obtain⟨i0,hi,J,I,H⟩ :=aL vQ;have Hi:=η hi;have gL:=η J;have fN:=η I;have gM:=η H;have J7:(0:Int)<=m/\(m:Int)<=1000:=ω;have HF:=η hf;have HM:=η n;clear hi J I H hf n
 go_in
 go_wp2_with fail;go_loopg [3,8] m (LvR w f m)
 case atStart=>exact⟨0,0,0,none,[],rfl,rfl,aG _,kz.di,aw _ _, .nil,af _,rfl, ⟨λ_=>0, .nil,λs E=>by simp [dZ]at E,λs E=>by simp [dZ]at E⟩⟩
 obtain⟨i,q,c,A,D,rfl,rfl,ac,b,a,hA,hq,o,hN⟩ :=hrel;by_cases j:i<m
 · have xi:(i:Int)<(m:Int)/\(0:Int)<=i:=ω;obtain⟨v,hv⟩ :=ν (ix f i);obtain⟨ad,rfl,Y,y⟩ :=hr.at_ (i:=i) j;rw[hv]at y;have al:wr.cell? (ad.add i)=some (.int .i64 v):=(a.cell (p:=ad.add i) (by rw[bH];exact Y)).trans y;have R:=HF.out i j;rw[hv]at R;have HV:=η (⟨hv,j⟩ :_/\_);clear y hv j;by_cases hp:0<v
   · have ib:=(b.alloc (.cells #[.int .i64 (i:Nat)] 3)).alloc (.cells #[.int .i64 v, .slice (some ⟨wr.heap.size,0,none⟩) 1 1] 201);have cW:=yl.a0y (w:=wr.alloc (.cells #[.int .i64 (i:Nat)] 3)) (g:=wr.heap.size+1) σ v (some ⟨wr.heap.size,0,none⟩) 1 1 201;have z:Below w.heap.size w ((wr.alloc (.cells #[.int .i64 (i:Nat)] 3)).alloc (.cells #[.int .i64 v, .slice (some ⟨wr.heap.size,0,none⟩) 1 1] 201)):=(a.alloc a.size _).alloc (aq a.size σ) _;have Co:q+1<=1000000000000:=by have:=HM.out;omega
     go_wp2_with (at_builtin;(refine sO w.heap.size i0 rfl (.tmp 15) (.tmp 20) rfl Hi.out gL.out fN.out gM.out rfl ib rfl cW Co z.size ?_);intro A4 d4 w4 bM x dY)
     go_roundg (m-(i+1))
     case measure=>have:=o.out;have:=HV.2;omega
     case rel=>exact⟨i+1,q+1,d4,A4,_,rfl,by go_num,HV.2,bM,z.grown x z.size (λk o=>(b.2.lt o).1),a0z b hA.out a.size HV.1 hp x dY,ω,rfl,hN.out.push HV.1 hp (by have G:=x.size;simp at G;omega)⟩
   have yF:dZ f (i+1)=dZ f i:=by rw[dZ,a8 (by rw[HV.1];exact hp),ak]
   have O:=η yF;clear yF
   go_wp2_with fail;go_roundg (m-(i+1))
   case measure=>have:=o.out;have:=HV.2;omega
   case rel=>exact⟨i+1,q,c,A,D,rfl,by go_num,HV.2,b,a,by show fU _ _ _;rw[O.out];exact hA.out,ω,rfl,by have G:=hN.out;unfold LvN at G⊢;rw[O.out];exact G⟩
 obtain rfl:i=m:=ω;have xi:¬(i:Int)<(i:Int):=ω;have hA:=hA.out;have P:=b.2.iT
 have u:Sm D:=λe he=>by
  obtain⟨p,hp,n⟩ :=hA.a9s e he;obtain⟨s,E,G,h2⟩ :=km p hp;rw[n.1,G];unfold qx;by_cases U:s.toNat<i
  · have:=HF.out _ U;omega
  have:ix f s.toNat=0:=by
   have hl:=hr.1;unfold ix;rw[au,bq ω];rfl
  rw[this];omega
 rcases b.2 with ⟨rz,ow,B3⟩ | ⟨g,an,rfl,B9⟩
 · subst rz ow B3;have hD:D=[]:=aC b.1.symm;subst hD
   have hS:dZ f i=[]:=by
    have:=hA.length;rw[kj]at this;exact aC this.symm
   have HP:=η (⟨a,hS⟩ :_/\_);clear hA u b a
   go_wp2_with fail;refine(BI _ _).mono ?_;rintro e Q ⟨rfl,rfl⟩
   go_wp2_with fail;go_ret;exact⟨none,0,0,[],rfl,HP.1, ⟨[], ⟨rfl,λh0=>ω⟩, .nil⟩, .inl ⟨rfl,rfl⟩,by rw[HP.2],List.Pairwise.nil,af _⟩
 have L:Dt wr g q D wr:= ⟨b.1.symm,bb.refl _ _,Own.ar b.2⟩;have HC:=η (BG wr wr g q c D L (τ HM.out) u hN.out.asc);have K:w.heap.size<=g:=(b.2.lt rfl).1;have HA:=η (⟨hA,P,K,a⟩ :_/\_/\_/\_);clear hA P K L u b a;unfold tE at HC
 go_wp2_with fail;refine HC.mono ?_;rintro e Q ⟨D',rfl,F,V,W⟩
 go_wp2_with fail;go_ret;obtain⟨hA,P,K,a⟩ :=HA.out;obtain⟨N,n1,n2,n3⟩ :=hN.out;obtain⟨L',gV,M⟩ :=fU.perm W (hA.and n1);obtain⟨S,B,rfl⟩ :=Nk gV;have ab:=M.mono λe _ p n=>n.1
 have T:(fA (qx f) S).Pairwise λp q=>p.w<q.w\/(p.w=q.w/\p.l.headD 0<=q.l.headD 0):=M.pw V λe he e' ah p hp q hq r r' X=>by
  obtain⟨s,E,e1,e2⟩ :=km p hp;obtain⟨t,ht,e3,e4⟩ :=km q hq;have r1:ps e=N (p.l.headD 0):=r.2;have r2:ps e'=N (q.l.headD 0):=r'.2;have w1:e.1=p.w:=r.1.1;have w2:e'.1=q.w:=r'.1.1;rcases X with h | ⟨h,h'⟩
  · left;omega
  right;refine⟨ω, ?_⟩;rw[e2,e4];rw[r1,r2,e2,e4]at h';rcases Int.lt_or_le t s with h9 | h9
  · have:=n2 t (B.mem_iff.1 ht) s (B.mem_iff.1 E) h9;have am:N s<=N t:=h';omega
  exact h9
 have Z:fU (ma Q Q.heap.size λg=>g<w.heap.size) D' (fA (qx f) S):=ab.mono λe _ p n=>n.dx F.dx (λk o=>by subst o;exact .inl rfl) (λ_ _ h=> .inr h);refine⟨some ⟨g,0,none⟩,q,c,S,rfl,a.trans (F.dx.below (λk o=>by subst o;exact K) a.size), ⟨D', ⟨F.len.symm, ?_⟩,Z⟩, .inr ⟨g,rfl,K,F.lt⟩,B, ?_,P⟩
 · exact F.ar.rd F.lt (af _)
 unfold fA at T;rw[List.pairwise_map]at T;exact T
theorem fU.at_ {α β:Type} {R:α->β->Prop} {xs:List α} {ys:List β} (h:fU R xs ys) (a:α) (b:β):∀i,i<xs.length->R (xs.getD i a) (ys.getD i b):=by
 induction h with
 | nil=>intro i hi;simp at hi
 | cons h1 _ ih=>
   intro i hi;cases i with
   | zero=>exact h1
   | succ i=>exact ih i (by simpa using hi)
theorem WO (L:List Pk) (t:Nat) (h:2*t+1<L.length):(dr L).take (t+1)=(dr L).take t++[⟨(L.getD (2*t) ⟨0,[]⟩).w+(L.getD (2*t+1) ⟨0,[]⟩).w,(L.getD (2*t) ⟨0,[]⟩).l++(L.getD (2*t+1) ⟨0,[]⟩).l⟩]:=by
 induction L using dr.induct generalizing t with
 | case1 a b r ih=>
   rw[dr];cases t with
   | zero=>rfl
   | succ t=>
     have:=ih t (by simp only [List.length_cons]at h;omega);rw[dc,dc,this];rw[show 2*(t+1)=2*t+1+1 by omega,show 2*t+1+1+1=(2*t+1)+1+1 by omega];rfl
 | case2 u h'=>
   match u,h' with
   | [],_=>simp at h
   | [a],_=>simp at h
   | a::b::r,h'=>exact absurd rfl (h' a b r)
def pF (v:Int) (A:ax) (n c:Nat) (j:Nat):Value:=if j=0 then .int .i64 v else .slice A n c
def PdB (wr:World) (g c:Int) (j f:ax) (h i d e:Nat) (l k:Value) (wx:World):Prop:=
 ∃b a,l= .pointer (some ⟨b,0,none⟩)/\k= .pointer (some ⟨a,0,none⟩)/\Ar wx b 2 (pF g j h i)/\Ar wx a 2 (pF c f d e)/\wr.heap.size<=b/\wr.heap.size<=a/\Below wr.heap.size wr wx
theorem yQ {w:World} {g:Nat} (a:g=w.heap.size) (v:Int) (A:ax) (n c:Nat) (t:TypeId):Ar (w.alloc (.cells #[.int .i64 v, .slice A n c] t)) g 2 (pF v A n c):=by
 subst a
 exact Ar.new w #[.int .i64 v, .slice A n c] t rfl (λi hi=>by
  obtain rfl | rfl:i=0\/i=1:=ω
  · rfl
  rfl)
theorem a9x (wr:World) (e a:Int) (h d:ax) (f g b c:Nat):PdB wr e a h d f g b c (.pointer (some ⟨wr.heap.size,0,none⟩)) (.pointer (some ⟨wr.heap.size+1,0,none⟩)) ((wr.alloc (.cells #[.int .i64 e, .slice h f g] 201)).alloc (.cells #[.int .i64 a, .slice d b c] 201)).drew:=
 ⟨_,_,rfl,rfl,((yQ rfl e h f g _).alloc _).drew,(yQ σ a d b c _).drew,af _,ft _,(((aw _ wr).alloc (af _) _).alloc σ _).drew⟩
theorem a9y (wr:World) (e a:Int) (h d:ax) (f g b c:Nat):PdB wr e a h d f g b c (.pointer (some ⟨wr.heap.size+1,0,none⟩)) (.pointer (some ⟨wr.heap.size,0,none⟩)) ((wr.alloc (.cells #[.int .i64 a, .slice d b c] 201)).alloc (.cells #[.int .i64 e, .slice h f g] 201)).drew:=
 ⟨_,_,rfl,rfl,(yQ σ e h f g _).drew,((yQ rfl a d b c _).alloc _).drew,ft _,af _,(((aw _ wr).alloc (af _) _).alloc σ _).drew⟩
def PdR (w:World) (L:List Pk) (k:Nat) (b a:Value) (wr:World):Prop:=
 ∃(t p q c:Nat) (A:ax) (D:List El),b= .slice A q c/\a= .int .i64 p/\Hid (p=2*t)/\kz wr w.heap.size A q c D/\Below w.heap.size w wr/\Hid (fU (ma wr wr.heap.size λg=>ai A=some g\/g<w.heap.size) D ((dr L).take t))/\Hid (k=L.length-p)/\p<=L.length+1
def EW (w:World) (X:Nat->Prop) (L:List Pk) (e:Ending) (w':World):Prop:=
 ∃g q c,e= .returned (.slice (some ⟨g,0,none⟩) q c)/\Below w.heap.size w w'/\uT w' w'.heap.size X (some ⟨g,0,none⟩) q L/\q<=c/\w.heap.size<=g/\g<w'.heap.size
theorem P4 {w':World} {b a:Nat} {g c:Int} {j f:ax} {h i d e:Nat} (h5:Ar w' b 2 (pF g j h i)) (h6:Ar w' a 2 (pF c f d e)):
  w'.cell? ⟨b,0,none⟩ =some (.int .i64 g)/\w'.cell? ⟨b,1,none⟩ =some (.slice j h i)/\w'.cell? ⟨a,0,none⟩ =some (.int .i64 c)/\w'.cell? ⟨a,1,none⟩ =some (.slice f d e):=
 ⟨h5.az 0,h5.az 1,h6.az 0,h6.az 1⟩
theorem TR (wc:World) (A1 A2:ax) (b c1 a c2:Nat) (d c:ag) (l:bT .i64 wc wc.heap.size A1 b d) (k:bT .i64 wc wc.heap.size A2 a c) (h:b<=400000) (g:a<=400000):
  Calls Tryz.prog 149 #[.slice (some ⟨wc.heap.size,0,none⟩) 2 2] (wc.alloc (.cells #[.slice A1 b c1, .slice A2 a c2] 80)).drew (MkI (wc.alloc (.cells #[.slice A1 b c1, .slice A2 a c2] 80)).drew (d++c)):=by
 have e:=(Ar.new wc #[.slice A1 b c1, .slice A2 a c2] 80 (m:=2) (f:=λj=>if j=0 then .slice A1 b c1 else .slice A2 a c2) rfl (λi hi=>by
  obtain rfl | rfl:i=0\/i=1:=ω
  · rfl
  rfl)).drew
 refine Lt _ wc.heap.size wc.heap.size (by simp [World.drew]) A1 A2 b c1 a c2 d c (e.az 0) (e.az 1) (l.alloc (af _) _) (k.alloc (af _) _) ?_ h g;show wc.heap.size<=(wc.alloc _).heap.size;simp
def SmP (L:List Pk):Prop:=∀p∈L,0<=p.w/\p.w<=1099511627776/\p.l.length<=400000
theorem Nf (w:World) (g n c B:Nat) (L:List Pk) (X:Nat->Prop) (hX:∀g,X g->g<w.heap.size) (hp:uT w B X (some ⟨g,0,none⟩) n L) (hB:B<=w.heap.size) (hn:n<=1000) (Z:SmP L) (h2:2<=n):
  Calls Tryz.prog 142 #[.slice (some ⟨g,0,none⟩) n c] w (EW w X (dr L)):=by
 obtain⟨i0,hi,W,V,U⟩ :=aL vQ;have Hi:=η hi;have gL:=η W;have fN:=η V;have gM:=η U;obtain⟨E,vI,Vq⟩ :=hp;have ah:n=L.length:=vI.1.trans Vq.length;have tJ:(0:Int)<=n/\(n:Int)<=1000:=ω;have YJ:=η vI;have bo:=η hX;clear hX;have am:=η Vq;have Db:=η Z;have D:=η (⟨ah,h2,hB,hn⟩ :_/\_/\_/\_);clear hi W V U vI Vq Z ah h2 hB hn
 go_in
 go_wp2_with fail;go_loopg [3,4] n (PdR w L)
 case atStart=>exact⟨0,0,0,0,none,[],rfl,rfl,rfl,kz.di,aw _ _,by rw[iD];exact .nil,by show n=_;have:=D.1;omega,ω⟩
 obtain⟨t,p,q,c2,A2,D2,rfl,rfl,G,C,M,hA,b,f⟩ :=hrel;have N:=D.1;obtain⟨p1,K⟩ :=ν (p+1);have an:(p:Int)+1=(p1:Int):=ω;have bM:(0:Int)<=p/\(p:Int)<=2000/\(0:Int)<=p1/\(p1:Int)<=2000:=by have:=D.out;omega
 by_cases d:p1<n
 rotate_left
 · have xi:¬(p1:Int)<(n:Int):=ω;have J4:(dr L).take t=dr L:=aA (by rw[kt];have:=G.out;have:=D.out;omega);have I:=hA.out;rw[J4]at I;have ab:q=(dr L).length:=by have h1:=C.1;have h2:=I.length;omega
   have Co:0<q:=by rw[ab,kt];have:=D.out;omega
   have eY:=C.2.iT;obtain⟨g2,rfl⟩ :=C.2.addr ω
   have bG:Hid (EW w X (dr L) (.returned (.slice (some ⟨g2,0,none⟩) q c2)) wr):=
    ⟨g2,q,c2,rfl,M, ⟨D2, ⟨C.1,C.2.rd⟩,I.mono λe _ pk hm=>hm.dx (S:=λ_=>False) (bb.refl _ _) (λk b=>b.elim) (λk _ b=> .inr (bo k b))⟩,eY,(C.2.lt rfl).1,(C.2.lt rfl).2⟩
   clear d J4 I ab Co eY N K
   go_wp2_with fail;go_ret;exact bG
 obtain⟨x,a⟩ :=ν (el E p);obtain⟨y,hy⟩ :=ν (el E p1);have bi:E.length=n:=YJ.1.symm;have A:=am.at_ (0,none,0,0) ⟨0,[]⟩ p ω;have z:=am.at_ (0,none,0,0) ⟨0,[]⟩ p1 ω
 change ma _ _ _ (el E p) _ at A
 change ma _ _ _ (el E p1) _ at z
 rw[a]at A;rw[hy]at z;obtain⟨m,u,i,s⟩ :=x;obtain⟨l,r,h,o⟩ :=y;obtain⟨ad,H,QK,mB⟩ :=YJ.2 ω;obtain rfl:ad= ⟨g,0,none⟩ :=by injection H with H;exact H.symm
 have O:g<w.heap.size:=aB QK D.2.2.1
 have cell:∀j,j<n*2->wr.cell? ⟨g,j,none⟩ =some (ye E j):=λj hj=>by
  have:=mB j hj;rw[nW]at this;exact(M.cell (p:= ⟨g,j,none⟩) O).trans this
 have a0:=cell (p*2) ω;have a1:=cell (p*2+1) ω;have b0:=cell (p1*2) ω;have b1:=cell (p1*2+1) ω;rw[sT E rfl,a]at a0;rw[wV E rfl,a]at a1;rw[sT E rfl,hy]at b0;rw[wV E rfl,hy]at b1;replace a0:wr.cell? ⟨g,p*2,none⟩ =some (.int .i64 m):=a0;replace a1:wr.cell? ⟨g,p*2+1,none⟩ =some (.slice u i s):=a1;replace b0:wr.cell? ⟨g,p1*2,none⟩ =some (.int .i64 l):=b0;replace b1:wr.cell? ⟨g,p1*2+1,none⟩ =some (.slice r h o):=b1;have xi:(p1:Int)<(n:Int)/\(p:Int)<(n:Int):=ω;have w1:IntKind.i64.wrap ((p:Int)+1)=(p1:Int):=by rw[an];exact pT ω
 have w2:IntKind.i64.wrap (p1:Int)=(p1:Int):=pT ω;have bd:g<wr.heap.size:=aB O M.size;have aE:g<wr.heap.size+1:=ω;have ap:¬g=wr.heap.size:=ω;have ao:¬g=wr.heap.size+1:=ω;have HP:=η (⟨A,z,K,d,N,O,f⟩ :_/\_/\_/\_/\_/\_/\_);clear cell mB a hy bi A z K d N O H QK f;go_upto_region 5 with fail
 go_cut [5,6] (λv5 v6 wx=>PdB wr m l u r i s h o v5 v6 wx)
 case first=>
  go_region
  all_goals
   go_wp2_with fail;go_meet
   first
    | exact a9x wr m l u r i s h o
    | exact a9y wr m l u r i s h o
 clear a0 a1 b0 b1 w1 w2 bd aE ap ao;obtain⟨g5,g6,rfl,rfl,h5,h6,l5,l6,P⟩ :=hcut;obtain⟨A,z,K,d,N,O,f⟩ :=HP.out;have Ms:=M.trans (P.mono M.size);have ac:=C.keeps P;have nB:m=(L.getD p ⟨0,[]⟩).w/\l=(L.getD p1 ⟨0,[]⟩).w:= ⟨A.1,z.1⟩;have rx:=(A.2.1.more D.2.2.1).below Ms;have ry:=(z.2.1.more D.2.2.1).below Ms;have T:=Db.out (L.getD p ⟨0,[]⟩) (by rw[au,cZ ω];exact cF _);have R:=Db.out (L.getD p1 ⟨0,[]⟩) (by rw[au,cZ ω];exact cF _);have bx:(0:Int)<=m/\m<=1099511627776/\(0:Int)<=l/\l<=1099511627776:=ω;have Cp:i<=400000:=by have:i=_:=rx.1;rw[this];exact T.2.2
 have Y:h<=400000:=by have:h=_:=ry.1;rw[this];exact R.2.2
 have bp:=η (TR wc u r i s h o _ _ (rx.more Ms.size) (ry.more Ms.size) Cp Y);obtain⟨v,F⟩ :=ν (m+l);have bB:(0:Int)<=v/\v<=2199023255552:=ω;have bv:IntKind.i64.wrap (m+l)=v:=by rw[F];exact aM _ ω
 have bt:IntKind.i64.wrap v=v:=aM _ ω;have HX:=η (⟨A,z,K,d,N,f,nB,F⟩ :_/\_/\_/\_/\_/\_/\_/\m+l=v)
 have Co:q+1<=1000000000000:=by
  have h1:=ac.1;have h2:=hA.out.length;have h3:((dr L).take t).length<=(dr L).length:=List.length_take_le' _ _;rw[kt]at h3;have:=D.out;omega
 have KR:=Ms.size;have pY:∀k,ai A2=some k->k<wr.heap.size:=λk b=>(C.2.lt b).2;have yj:=η (⟨pY,l5,l6,P⟩ :_/\_/\_/\_);clear A z K d N f nB T R Cp Y O HP rx ry pY l5 l6;go_upto_region 6 with fail
 go_region_held3 (λw'=>w'.cell? ⟨g5,0,none⟩ =some (.int .i64 m)/\w'.cell? ⟨g5,1,none⟩ =some (.slice u i s)/\w'.cell? ⟨g6,0,none⟩ =some (.int .i64 l)/\w'.cell? ⟨g6,1,none⟩ =some (.slice r h o))
  (first | exact P4 m5 m6 | exact P4 (k5.alloc _) (k6.alloc _) | exact P4 k5 k6 | exact P4 (h5.alloc _).drew (h6.alloc _).drew | exact P4 h5.drew h6.drew | exact P4 h5 h6)
  (first
    | (go_at_call 149;(refine bp.mono ?_);rintro e w5 ⟨A5,n5,Q,rfl,lQ,lZ⟩
       have k5:=((h5.alloc (.cells #[.slice u i s, .slice r h o] 80)).drew).keeps lZ;have k6:=((h6.alloc (.cells #[.slice u i s, .slice r h o] 80)).drew).keeps lZ;have o5:=((ac.alloc (.cells #[.slice u i s, .slice r h o] 80)).drew).keeps lZ;have s5:wc.heap.size+1<=w5.heap.size:=by have:=lZ.size;simpa [World.drew] using this)
    | (have _g:=o5;(refine xD w.heap.size i0 rfl (.tmp 23) (.tmp 36) rfl Hi.out gL.out fN.out gM.out rfl (o5.alloc _) rfl (yl.a0y rfl v A5 n5 Q 201) Co ξ ?_);intro A6 d6 w6 nH jH fk
       have m5:=(k5.alloc _).grown jH (λe=>by have:=yj.1 _ e.symm;have:=yj.2.1;omega);have m6:=(k6.alloc _).grown jH (λe=>by have:=yj.1 _ e.symm;have:=yj.2.2.1;omega)))
 obtain⟨p2,Jb⟩ :=ν (p+2);have bI:(p:Int)+2=(p2:Int):=ω;have EP:=η Jb;clear Jb
 go_wp2_with fail;go_roundg (n-p2)
 case measure=>have:=b.out;have:=EP.out;have:=HX.out;omega
 obtain⟨A,z,K,d,N,f,nB,F⟩ :=HX.out;obtain⟨pY,l5,l6,P⟩ :=yj.out;have c0:bb wr wc (λk=>ai A2=some k):=bb.bC P;have bl:=((c0.alloc (.cells #[.slice u i s, .slice r h o] 80)).drew).trans (bb.bC (S:=λ_=>False) lZ) (λk b=>b.elim);have c3:=(bl.alloc (.cells #[.int .i64 v, .slice A5 n5 Q] 201)).grown jH (λk b=> .inl b);have Q:bb w5 w6 (λk=>ai A2=some k):=((bb.refl w5 _).alloc (.cells #[.int .i64 v, .slice A5 n5 Q] 201)).grown jH (λk b=> .inl b);have be:Below w.heap.size w w6:=M.trans (c3.below (λk b=>(C.2.lt b).1) M.size);have bs:=P.size
 have al:∀k,ai A5=some k->wr.heap.size<=k/\k<w5.heap.size:=λk b=>by
  have h1:=(lQ.2.lt b).1;have h2:=(lQ.2.lt b).2;simp [World.drew]at h1;omega
 refine⟨t+1,p2,q+1,d6,A6,_,rfl,rfl,by have:=EP.out;have:=G.out;show _=_;omega,nH,be, ?_,by show n-p2=_;have:=D.1;omega,τ EP.out⟩;show fU _ _ _;rw[WO L t (τ G.out),<-G.out,K];refine(hA.out.mono λe _ pk hm=>hm.dx c3 (λk b=> .inl b) (λk b a=> ?_)).app (fU.one ⟨?_, ?_,λ_ k b a=> ?_⟩)
 · rcases a with a | a
   · rcases fk with J | J
     · left;rw[<-J];exact a
     rw[J]at a;injection a with a;simp at a;omega
   exact .inr a
 · show v=_;rw[<-F,nB.1,nB.2]
 · exact(Q.rp lQ.rd (af _) (λ_ ad J hs=>by
    have h9:=(al ad.block (by rw[J];rfl)).1;have h8:=pY _ hs;omega)).more Q.size
 have h9:=al k b;have ca:=M.size;rcases a with a | a
 · rcases fk with J | J
   · rw[J]at a;have h8:=pY _ a;omega
   rw[J]at a;injection a with a;simp at a;omega
 omega
def Qm (A:ax) (c:Nat):ax:=if c=1 then A else A.map (·.add 2)
theorem CZ {i:TypeInfo} (hi:Tryz.prog.info? 201 =some i) (b:i.size=2) (A:ax) (n c:Nat) (d:1<=n) (W:World):
  (Instr.slice 198 (.slice A n c) (some (.int .i64 1)) none none).run Tryz.prog W= .ok (.slice (Qm A c) (n-1) (c-1)) W:=by
 have a:Tryz.prog.elem 198 = 201 :=by simp [Program.elem,Tryz.underlying198]
 rw[run_slice_l W 198 A n c (by rw[a];exact Tryz.underlying198) .i64 1 ω ω,a];simp [sizeOf,typeInfo,hi,b,sliced,Qm]
theorem yl.tail {w:World} {B n c:Nat} {A:ax} {e:El} {D:List El} (h:yl w B A n (e::D)) (l:n<=c):yl w B (Qm A c) (n-1) D:=by
 have k:n=D.length+1:=h.1;refine⟨ω,λm=> ?_⟩;obtain⟨a,j,d,b⟩ :=h.2 ω;refine⟨a.add 2,by unfold Qm;rw[a8 ω,j];rfl,by rw[bH];exact d,λi hi=> ?_⟩;have g:=b (2+i) ω
 have f:(a.add 2).add i=a.add (2+i):=by
  rw[Hw]
 rw[f,g]
 have:ye (e::D) (2+i)=ye D i:=by
  unfold ye el;rw[show(2+i)%2=i%2 by omega,show(2+i)/2=i/2+1 by omega];rfl
 rw[this]
theorem add_zero' (a:Addr):a.add 0=a:=by unfold Addr.add;simp
theorem zA (a:Addr):a.add 1= ⟨a.block,a.off+1,none⟩ :=by unfold Addr.add;simp
def MgR (w:World) (B:Nat) (X:Nat->Prop) (f e:List Pk) (k:Nat) (d b a:Value) (wr:World):Prop:=
 ∃(A1 A2 A:ax) (n1 c1 n2 c2 q c:Nat) (E1 E2 D:List El) (M1 M2 M:List Pk),d= .slice A1 n1 c1/\b= .slice A2 n2 c2/\a= .slice A q c/\n1<=c1/\n2<=c2/\Hid (yl w B A1 n1 E1)/\Hid (yl w B A2 n2 E2)/\Hid (fU (ma w B X) E1 M1)/\Hid (fU (ma w B X) E2 M2)/\
  kz wr w.heap.size A q c D/\Below w.heap.size w wr/\Hid (fU (ma w B X) D M)/\Hid (M++Cq M1 M2=Cq f e)/\Hid (k=n1+n2)/\q+n1+n2<=3000
theorem MW (w:World) (B a c1 b c2:Nat) (A1 A2:ax) (S R:List Pk) (X:Nat->Prop) (h1:uT w B X A1 a S) (h2:uT w B X A2 b R) (hB:B<=w.heap.size) (nG:0<a) (rz:a<=1000) (ow:b<=1000) (s:a<=c1) (r:b<=c2):
  Calls Tryz.prog 141 #[.slice A1 a c1, .slice A2 b c2] w (EW w X (Cq S R)):=by
 obtain⟨i0,hi,K,F,J⟩ :=aL vQ;have Hi:=η hi;have gL:=η K;have fN:=η F;have gM:=η J;have tJ:(0:Int)<=a/\(a:Int)<=1000/\(0:Int)<=b/\(b:Int)<=1000:=ω;obtain⟨N,hN⟩ :=ν (a+b);have bi:(a:Int)+(b:Int)=(N:Int):=ω;have oL:=run_make (P:=Tryz.prog) w 198 201 i0 _ Tryz.underlying198 hi K .i64 .i64 0 (N:Int) (ei _) ω (by rw[J];omega) ω;rw[aY,F]at oL;obtain⟨Zc,Q⟩ :=ν (madeCells (Value.agg #[.int .i64 0, .slice none 0 0]).cells (N*2));have al:Zc.size=N*2:=by rw[<-Q];simp [madeCells]
 rw[Q]at oL;have qC:(Instr.makeSlice 198 (.int .i64 0) (.int .i64 (N:Int))).run Tryz.prog w= .ok (.slice (some ⟨w.heap.size,0,none⟩) 0 N) (w.alloc (.cells Zc 201)):=oL;have ab:kz (w.alloc (.cells Zc 201)) w.heap.size (some ⟨w.heap.size,0,none⟩) 0 N []:= ⟨rfl, .inr ⟨w.heap.size,Zc,rfl,af _,cR w _,aG _,by unfold maxLen;omega,al,λi hi=>ω⟩⟩;have oh:=λ(A:ax) (n c:Nat) (hn:1<=n) W=>CZ hi F A n c hn W;have O7:=η oh;obtain⟨D1,f,G⟩ :=h1;obtain⟨D2,g,O⟩ :=h2
 have fy:Hid (MgR w B X S R N (.slice A1 a c1) (.slice A2 b c2) (.slice (some ⟨w.heap.size,0,none⟩) 0 N) (w.alloc (.cells Zc 201))):=
  ⟨A1,A2,_,a,c1,b,c2,0,N,D1,D2,[],S,R,[],rfl,rfl,rfl,s,r,f,g,G,O,ab,(aw _ w).alloc (af _) _, .nil,rfl,hN.symm,ω⟩
 have o:=η hB;have ad:0<(Cq S R).length:=by rw[uy,<-G.length,<-f.1];omega
 have bd:=η ad;clear hi K F J oL Q al ab oh f G g O hN nG rz ow s r hB ad
 go_in
 go_wp2_with fail;go_loopg [0,1,5] N (MgR w B X S R)
 case atStart=>exact fy
 clear fy qC tJ;obtain⟨A1,A2,A,a,c1,b,c2,q,c,E1,E2,D,v,u,M,rfl,rfl,rfl,s,r,f,g,G,O,ho,H,L,hM,z,hq⟩ :=hrel;have tJ:(0:Int)<=a/\(a:Int)<=3000/\(0:Int)<=b/\(b:Int)<=3000:=ω;by_cases CT:0<a/\0<b
 rotate_left
 · have ah:(a=0)\/(0<a/\b=0):=ω
   have oM:Cq v u=v++u:=by
    have l1:v.length=a:=by rw[<-G.out.length,<-f.out.1]
    have l2:u.length=b:=by rw[<-O.out.length,<-g.out.1]
    rcases ah with h | ⟨_,h⟩
    · have:v=[]:=aC ω;rw[this,zi];rfl
    have:u=[]:=aC ω;rw[this,zg,ak]
   have tS:=hM.out;rw[oM]at tS;have ra:=f.out.below (H.mono o.out);have KR:=H.size;have an:q+a<=1000000000000:=ω;have am:q+a+b<=1000000000000:=ω
   have bG:Hid (∀A7 c7 w7,kz w7 w.heap.size A7 (q+a+b) c7 (D++E1++E2)->Below w.heap.size w w7->EW w X (Cq S R) (.returned (.slice A7 (q+a+b) c7)) w7):=λA7 c7 w7 h7 oA=>by
    have Mc:fU (ma w B X) (D++E1++E2) (M++v++u):=(L.out.app G.out).app O.out;rw[show M++v++u=M++(v++u) by simp,tS]at Mc;have ao:0<q+a+b:=by rw[h7.1,Mc.length];exact bd
    obtain⟨g7,rfl⟩ :=h7.2.addr ao;refine⟨g7,_,c7,rfl,oA, ⟨_,h7.rd,Mc.mono λe _ pk hm=> ⟨hm.1,(hm.2.1.below (oA.mono o.out)).more (aq o.out oA.size),hm.2.2⟩⟩,h7.2.iT,(h7.2.lt rfl).1,(h7.2.lt rfl).2⟩
   have aE:=η g.out;have Ha:((a:Int)=0)\/((0:Int)<a/\(b:Int)=0):=ω;have HC:=η Ha;have yY:¬(0:Int)<a\/((0:Int)<a/\¬(0:Int)<b):=ω;clear ah oM tS CT hq Ha;rcases yY with yY | ⟨yY,bt⟩
   all_goals
    go_wp2_with (first
     | (at_builtin;(refine sO w.heap.size i0 rfl (.tmp 45) (.tmp 46) rfl Hi.out gL.out fN.out gM.out rfl ho rfl ra an KR ?_);intro A6 d6 w6 nH jH fk;have t:=H.grown jH KR (λk z=>(ho.2.lt z).1);have rb:=aE.below (t.mono o.out))
     | (have _g:=t;at_builtin;(refine sO w.heap.size i0 rfl (.tmp 47) (.tmp 48) rfl Hi.out gL.out fN.out gM.out rfl nH rfl rb am t.size ?_);intro A7 d7 w7 P3 Hd xe;have oA:=t.grown Hd t.size (λk z=>(nH.2.lt z).1)))
    all_goals go_ret
    all_goals exact bG.out _ _ _ P3 oA
 have px:(0:Int)<a/\(0:Int)<b:=ω;obtain⟨l,rfl,bx,ZV⟩ :=f.out.2 ω;obtain⟨j,rfl,bv,ZW⟩ :=g.out.2 ω;cases E1 with
 | nil=>have:=f.out.1;simp at this;omega
 | cons x E1=>
   cases E2 with
   | nil=>have:=g.out.1;simp at this;omega
   | cons y E2=>
     obtain⟨E,xA,Y,Z⟩ :=x;obtain⟨C,V,T,U⟩ :=y;have a0:=(H.cell (p:=l.add 0) (by rw[bH];have:=o.out;omega)).trans (ZV 0 ω);have a1:=(H.cell (p:=l.add 1) (by rw[bH];have:=o.out;omega)).trans (ZV 1 ω);have b0:=(H.cell (p:=j.add 0) (by rw[bH];have:=o.out;omega)).trans (ZW 0 ω);have b1:=(H.cell (p:=j.add 1) (by rw[bH];have:=o.out;omega)).trans (ZW 1 ω);rw[add_zero']at a0 b0;rw[zA]at a1 b1;replace a0:wr.cell? l=some (.int .i64 E):=a0;replace a1:wr.cell? ⟨l.block,l.off+1,none⟩ =some (.slice xA Y Z):=a1;replace b0:wr.cell? j=some (.int .i64 C):=b0;replace b1:wr.cell? ⟨j.block,j.off+1,none⟩ =some (.slice V T U):=b1
     go_wp2_with fail;go_quiet (fail);have d:=below_drewN H nq;have ac:=ho.drewN nq;have Co:q+1<=1000000000000:=ω;have be:=O7.out (some l) a c1 ω;have qD:=O7.out (some j) b c2 ω;have bs:(0:Int)<a:=px.1;have bp:(0:Int)<b:=px.2;have bo:0<a:=CT.1;have bl:0<b:=CT.2;have I:=η (⟨CT,hq⟩ :_/\_);clear CT hq;by_cases ap:C<E
     · have m:Hid (∀W,Below w.heap.size w W->W.cell? j=some (.int .i64 C)/\W.cell? ⟨j.block,j.off+1,none⟩ =some (.slice V T U)):=λW hW=>by
        have g0:=(hW.cell (p:=j.add 0) (by rw[bH];have:=o.out;omega)).trans (ZW 0 (τ I.out));have g1:=(hW.cell (p:=j.add 1) (by rw[bH];have:=o.out;omega)).trans (ZW 1 (τ I.out));rw[add_zero']at g0;rw[zA]at g1;exact⟨g0,g1⟩
       clear a0 a1 b0 b1
       go_wp2_with fail
       go_region_held3 (λw'=>w'.cell? j=some (.int .i64 C)/\w'.cell? ⟨j.block,j.off+1,none⟩ =some (.slice V T U))
        (first | exact m.out _ t | exact m.out _ (d.alloc d.size _) | exact m.out _ (d.drew.alloc d.drew.size _) | exact m.out _ (d.alloc d.size _).drew | exact m.out _ d | exact m.out _ d.drew)
        (first
          | ((refine xD w.heap.size i0 rfl (.tmp 29) (.tmp 33) rfl Hi.out gL.out fN.out gM.out rfl (ac.drew.alloc (.cells #[.int .i64 C, .slice V T U] 201)) rfl (yl.a0y (w:=(wr.drewN nq).drew) rfl C V T U 201) Co (d.drew.alloc d.drew.size _).size ?_);intro A6 d6 w6 nH jH fk
             have t:=(d.drew.alloc d.drew.size (.cells #[.int .i64 C, .slice V T U] 201)).grown jH (d.drew.alloc d.drew.size _).size (λk z=>(ho.2.lt z).1)))
       go_wp2_with fail;go_roundg (a+(b-1))
       case measure=>have:=z.out;have:=I.out;omega
       cases O.out with
       | cons k1 k2=>
         cases G.out with
         | cons k3 k4=>
           rename_i p2 u p1 v
           refine⟨some l,Qm (some j) c2,A6,a,c1,b-1,c2-1,q+1,d6,_,E2,_,p1::v,u,M++[p2],rfl,rfl,rfl,s,ω,f.out,g.out.tail r, .cons k3 k4,k2,nH,t, ?_, ?_,rfl,τ I.out⟩
           · exact L.out.app (fU.one k1)
           have mM:p2.w<p1.w:=by
            rw[<-k1.1,<-k3.1];exact ap
           show _=_;rw[<-hM.out,Cq,aa mM,av];rfl
     have l9:decide (C<E)=false:=ξ
     have m:Hid (∀W,Below w.heap.size w W->W.cell? l=some (.int .i64 E)/\W.cell? ⟨l.block,l.off+1,none⟩ =some (.slice xA Y Z)):=λW hW=>by
      have g0:=(hW.cell (p:=l.add 0) (by rw[bH];have:=o.out;omega)).trans (ZV 0 (τ I.out));have g1:=(hW.cell (p:=l.add 1) (by rw[bH];have:=o.out;omega)).trans (ZV 1 (τ I.out));rw[add_zero']at g0;rw[zA]at g1;exact⟨g0,g1⟩
     clear a0 a1 b0 b1
     go_wp2_with fail
     go_region_held3 (λw'=>w'.cell? l=some (.int .i64 E)/\w'.cell? ⟨l.block,l.off+1,none⟩ =some (.slice xA Y Z))
      (first | exact m.out _ t | exact m.out _ (d.alloc d.size _) | exact m.out _ (d.drew.alloc d.drew.size _) | exact m.out _ (d.alloc d.size _).drew | exact m.out _ d | exact m.out _ d.drew)
      (first
        | ((refine xD w.heap.size i0 rfl (.tmp 37) (.tmp 41) rfl Hi.out gL.out fN.out gM.out rfl (ac.drew.alloc (.cells #[.int .i64 E, .slice xA Y Z] 201)) rfl (yl.a0y (w:=(wr.drewN nq).drew) rfl E xA Y Z 201) Co (d.drew.alloc d.drew.size _).size ?_);intro A6 d6 w6 nH jH fk
           have t:=(d.drew.alloc d.drew.size (.cells #[.int .i64 E, .slice xA Y Z] 201)).grown jH (d.drew.alloc d.drew.size _).size (λk z=>(ho.2.lt z).1)))
     go_wp2_with fail;go_roundg (a-1+b)
     case measure=>have:=z.out;have:=I.out;omega
     cases O.out with
     | cons k1 k2=>
       cases G.out with
       | cons k3 k4=>
         rename_i p2 u p1 v
         refine⟨Qm (some l) c1,some j,A6,a-1,c1-1,b,c2,q+1,d6,E1,_,_,v,p2::u,M++[p1],rfl,rfl,rfl,ω,r,f.out.tail s,g.out,k4, .cons k1 k2,nH,t, ?_, ?_,rfl,τ I.out⟩
         · exact L.out.app (fU.one k3)
         have mM:¬p2.w<p1.w:=by
          rw[<-k1.1,<-k3.1];show¬C<E;omega
         show _=_;rw[<-hM.out,Cq,a8 mM,av];rfl
def Q0 (f:ag):Bool:=f.any λv=>decide (v<0)||decide (1048576<v)
def oC (f:ag) (m:Int):Int:=
 if 288<f.length\/m<1\/15<m then 1 else if Q0 f=true then 1 else if 2 ^ m.toNat<(dZ f f.length).length then 3 else 0
theorem TK {f:ag} {i:Nat} (hi:i<f.length) (h:ix f i<0\/1048576<ix f i):Q0 f=true:=by
 unfold Q0;rw[List.any_eq_true];exact⟨ix f i,sq hi,by simpa using h⟩
theorem Og {f:ag} (h:∀j,j<f.length->0<=ix f j/\ix f j<=1048576):Q0 f=false:=by
 unfold Q0;rw[List.any_eq_false];intro v hv;obtain⟨i,hi,e⟩ :=List.getElem_of_mem hv;have:=h i hi;have a:ix f i=v:=by simp [ix,hi,e]
 rw[a]at this;simp;omega
theorem zj (f:ag) (k:Nat):(dZ f k).length<=k:=by
 induction k with
 | zero=>exact af _
 | succ k a=>rw[dZ,ae];split <;> simp <;> omega
def CkR (w:World) (f:ag) (n:Nat) (k:Nat) (b a:Value) (wr:World):Prop:=
 ∃i c:Nat,b= .int .i64 c/\a= .int .i64 i/\wr=w/\i<=n/\Hid (c=(dZ f i).length)/\Hid (∀j,j<i->0<=ix f j/\ix f j<=1048576)/\Hid (k=n-i)
theorem MN (w:World) (B:Nat) (C:ax) (n d:Nat) (f:ag) (t:bT .i64 w B C n f) (m:Int) (W:(n:Int)<=4611686018427387904):
  Calls Tryz.prog 139 #[.slice C n d, .int .i64 m] w λe w'=>e= .returned (.int .i64 (oC f m))/\w=w':=by
 have u:=t.1;have Y:(0:Int)<=n:=ω;by_cases J:288<n\/m<1\/15<m
 · have hv:oC f m=1:=by unfold oC;rw[aa ω]
   rw[hv];have k:(288:Int)<n\/(¬(288:Int)<n/\m<1)\/(¬(288:Int)<n/\¬m<1/\15<m):=ω;clear J hv u t;rcases k with F | ⟨F,K⟩ | ⟨F,K,S⟩
   all_goals
    go_in
    go_wp2_with fail;go_ret;exact⟨rfl,rfl⟩
 have F:¬(288:Int)<n:=ω;have K:¬m<1:=ω;have S:¬15<m:=ω;have hv:oC f m=if Q0 f=true then 1 else if 2 ^ m.toNat<(dZ f f.length).length then 3 else 0:=by unfold oC;rw[a8 ω]
 have HV:=η hv;have G:=η u;have X:(n:Int)<=288:=ω;obtain⟨p,rfl⟩ :=aF (show 0<=m by omega);have x:p<=15:=ω;obtain⟨T,r⟩ :=ν (2 ^ p)
 have Z:1<=T/\T<=32768:=by
  rw[<-r];exact⟨fR _,aq (bw ω x) δ⟩
 have R:(2:Int) ^ p=(T:Int):=by rw[<-r];simp
 have Q:IntKind.i64.wrap (T:Int)=(T:Int):=aM _ ω;have V:=η r;clear J hv u r
 go_in
 go_wp2_with fail;go_loopg [5,21] n (CkR w f n)
 case atStart=>exact⟨0,0,rfl,rfl,rfl,aG _,rfl,λj I=>ω,rfl⟩
 obtain⟨i,c,rfl,rfl,M,hi,k,a,H⟩ :=hrel;obtain rfl:=M.symm;by_cases g:i<n
 rotate_left
 · obtain rfl:i=n:=ω;have N:¬(i:Int)<(i:Int):=ω
   have q:oC f (p:Int)=if T<c then 3 else 0:=by
    rw[HV.out,a8 (by rw[Og (by rw[<-G.out];exact a.out)];decide),aY,V.out,<-G.out,<-k.out]
   have s:=η q;have O:(0:Int)<=c/\(c:Int)<=288:=by have:=k.out;have:=zj f i;omega
   clear q g;by_cases h:T<c
   · have E:(T:Int)<(c:Int):=ω;have l:=η h;clear h
     go_wp2_with fail;go_ret;exact⟨bJ (by rw[s.out,aa l.out]),rfl⟩
   have E:¬(T:Int)<(c:Int):=ω;have l:=η h;clear h
   go_wp2_with fail;go_ret;exact⟨bJ (by rw[s.out,a8 l.out]),rfl⟩
 have N:(i:Int)<(n:Int)/\(0:Int)<=i:=ω;obtain⟨v,hv⟩ :=ν (ix f i);obtain⟨ad,rfl,P,y⟩ :=t.at_ (i:=i) g;rw[hv]at y;have z:c<=288:=by have:=k.out;have:=zj f i;omega
 have O:(0:Int)<=c/\(c:Int)<=288:=ω;have b:=η (⟨hv,g⟩ :_/\_);clear hv g z;by_cases A:v<0\/1048576<v
 · have q:oC f (p:Int)=1:=by rw[HV.out,aa (TK (by rw[<-G.out];exact b.2) (by rw[b.1];exact A))]
   have s:=η q;have D:v<0\/(¬v<0/\1048576<v):=ω;clear A q;rcases D with L | ⟨L,U⟩
   all_goals
    go_wp2_with fail;go_ret;exact⟨bJ s.symm,rfl⟩
 have L:¬v<0:=ω;have U:¬1048576<v:=ω;clear A;by_cases hp:0<v
 · have yF:dZ f (i+1)=dZ f i++[(i:Int)]:=by rw[dZ,aa (by rw[b.1];exact hp)]
   have o:=η yF;clear yF
   go_wp2_with fail;go_roundg (n-(i+1))
   case measure=>have:=H.out;have:=b.2;omega
   case rel=>exact⟨i+1,c+1,by go_num,by go_num,rfl,b.2,by show _=_;rw[o.out,ae,<-k.out];rfl,λj I=>by
    by_cases e:j=i
    · subst e;rw[b.1];omega
    exact a.out j ω,rfl⟩
 have yF:dZ f (i+1)=dZ f i:=by rw[dZ,a8 (by rw[b.1];exact hp),ak]
 have o:=η yF;clear yF
 go_wp2_with fail;go_roundg (n-(i+1))
 case measure=>have:=H.out;have:=b.2;omega
 case rel=>exact⟨i+1,c,rfl,by go_num,rfl,b.2,by show _=_;rw[o.out];exact k.out,λj I=>by
  by_cases e:j=i
  · subst e;rw[b.1];omega
  exact a.out j ω,rfl⟩
end Go.Proofs.YtgiimmkmjpbecaaGreat
