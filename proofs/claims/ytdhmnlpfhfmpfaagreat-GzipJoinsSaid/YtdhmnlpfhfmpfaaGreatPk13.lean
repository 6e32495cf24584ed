/-
  part
-/
import Derived.Test.YtdhmnlpfhfmpfaaGreatLimG
import Derived.Test.YtdhmnlpfhfmpfaaGreatPk12
set_option linter.unusedVariables false
set_option maxRecDepth 100000
set_option maxHeartbeats 8000000
namespace Go.Proofs.YtdhmnlpfhfmpfaaGreat
open Go.RowKit
inductive fO {α β:Type} (R:α->β->Prop):List α->List β->Prop
 | nil:fO R [] []
 | cons {a:α} {b:β} {xs:List α} {ys:List β}:R a b->fO R xs ys->fO R (a::xs) (b::ys)
section
variable {α β:Type} {R R':α->β->Prop} {xs cs:List α} {ys ds:List β}
theorem fO.length (h:fO R xs ys):xs.length=ys.length:=by
 induction h with
 | nil=>rfl
 | cons _ _ ih=>rw[bc,bc,ih]
theorem fO.mono (h:fO R xs ys) (c:∀a∈xs,∀b,R a b->R' a b):fO R' xs ys:=by
 induction h with
 | nil=>exact .nil
 | cons h1 _ ih=>exact .cons (c _ az _ h1) (ih λa d=>c a (aB _ d))
theorem fO.app (h:fO R xs ys) (h':fO R cs ds):fO R (xs++cs) (ys++ds):=by
 induction h with
 | nil=>exact h'
 | cons h1 _ ih=>exact .cons h1 ih
theorem fO.one {a:α} {b:β} (h:R a b):fO R [a] [b]:= .cons h .nil
theorem fO.perm (hp:cs.Perm xs) (h:fO R xs ys):∃ds,ds.Perm ys/\fO R cs ds:=by
 induction hp generalizing ys with
 | nil=>exact⟨ys,cO _,h⟩
 | cons x _ ih=>
   cases h with
   | cons b a=>
     obtain⟨ds,hd,e⟩ :=ih a;exact⟨_::ds,List.Perm.cons _ hd, .cons b e⟩
 | swap x y l=>
   cases h with
   | cons b a=>cases a with
     | cons f h4=>exact⟨_,List.Perm.swap _ _ _, .cons f (.cons b h4)⟩
 | trans _ _ ih1 ih2=>
   obtain⟨d1,p1,d⟩ :=ih2 h;obtain⟨d2,p2,c⟩ :=ih1 d;exact⟨d2,p2.trans p1,c⟩
theorem fO.mem (h:fO R xs ys):∀b∈ys,∃a∈xs,R a b:=by
 induction h with
 | nil=>intro b c;simp at c
 | cons h1 _ ih=>
   intro b c;rcases aV.1 c with rfl | c
   · exact⟨_,az,h1⟩
   obtain⟨a,e,d⟩ :=ih b c;exact⟨a,aB _ e,d⟩
theorem fO.b0B (h:fO R xs ys):∀a∈xs,∃b∈ys,R a b:=by
 induction h with
 | nil=>intro b c;simp at c
 | cons h1 _ ih=>
   intro b c;rcases aV.1 c with rfl | c
   · exact⟨_,az,h1⟩
   obtain⟨a,e,d⟩ :=ih b c;exact⟨a,aB _ e,d⟩
end
def lY (w:World) (B:Nat) (X:Nat->Prop) (e:El) (p:Pk):Prop:=e.1=p.w/\bU .i64 w B e.2.1 e.2.2.1 p.l/\(0<e.2.2.1->∀g,ai e.2.1=some g->¬X g)
def vd (w:World) (B:Nat) (X:Nat->Prop) (A:Option Addr) (n:Nat) (L:List Pk):Prop:=∃D,yr w B A n D/\fO (lY w B X) D L
theorem vd.below {w w':World} {B n:Nat} {X:Nat->Prop} {A:Option Addr} {L:List Pk} (h:vd w B X A n L) (b:Below B w w'):vd w' B X A n L:=by
 obtain⟨D,d,c⟩ :=h;exact⟨D,d.below b,c.mono λe _ p a=> ⟨a.1,a.2.1.below b,a.2.2⟩⟩
theorem vd.more {w:World} {B B' n:Nat} {X:Nat->Prop} {A:Option Addr} {L:List Pk} (h:vd w B X A n L) (b:B<=B'):vd w B' X A n L:=by
 obtain⟨D,d,c⟩ :=h;exact⟨D,d.more b,c.mono λe _ p a=> ⟨a.1,a.2.1.more b,a.2.2⟩⟩
theorem Own.ar {w:World} {b0:Nat} {e:TypeId} {d n c g:Nat} {f:Nat->Value} (h:Own w b0 e d (some ⟨g,0,none⟩) n c f):Ar w g (n*d) f:=by
 rcases h with ⟨m,_⟩ | ⟨q,b,a,p,l,k,o,j,i⟩
 · cases m
 injection a with a;injection a with a;subst a;exact⟨b,e,(0,0),l, .inr rfl,by rw[j];exact fc _ k,i⟩
theorem BB (w d:World) (g n c:Nat) (b:List El) (h:Dt d g n b w) (j:n<=1000) (a:Sm b) (f:Ov b):
  Calls Tryz.prog 153 #[.slice (some ⟨g,0,none⟩) n c,tI] w (Su d g n b):=by
 have i:=η (Ms w d g n c b h j a f);clear h a f;unfold tI at i⊢;go_enter Tryz.func153,Tryz.ntmps153
 go_wp2_with fail;refine i.out.mono ?_;rintro e k ⟨D,rfl,h⟩
 go_wp2_with fail;go_end0;exact⟨D,rfl,h⟩
theorem BC (w:World) (F:Value):
  Calls Tryz.prog 153 #[.slice none 0 0,F] w λe w'=>e= .returned (.tuple #[])/\w=w':=by
 have a:=η (Mt w F);go_enter Tryz.func153,Tryz.ntmps153
 go_wp2_with fail;refine a.out.mono ?_;rintro e b ⟨rfl,rfl⟩
 go_wp2_with fail;go_end0;exact⟨rfl,rfl⟩
theorem yr.a08 {w:World} {g:Nat} (b:g=w.heap.size) (a:Int) (A:Option Addr) (n c:Nat) (t:TypeId):yr (w.alloc (.cells #[.int .i64 a, .slice A n c] t)) (g+1) (some ⟨g,0,none⟩) 1 [(a,A,n,c)]:=by
 subst b;exact yr.lit w (a,A,n,c) t
theorem lY.fz {w w':World} {X k S:Nat->Prop} {e:El} {p:Pk} (h:lY w w.heap.size X e p) (j:bj w w' S) (q:∀g,S g->X g) (o:∀g,g<w.heap.size->k g->X g):lY w' w'.heap.size k e p:=by
 refine⟨h.1,(j.rA h.2.1 (ag _) (λa d b m=>h.2.2 a d.block (by rw[b];rfl) (q _ m))).more j.size,λa g f l=> ?_⟩;obtain⟨d,b,n, -⟩ :=h.2.1.at_ (i:=0) a;rw[b]at f;have c:d.block=g:=by simpa [ai] using f
 exact h.2.2 a g (by rw[b,<-c];rfl) (o g ω l)
theorem Mg {f:Int->Int} {L:List Pk} {S:List Int} (h:L.Perm (dO f S)):∃S',S'.Perm S/\L=dO f S':=by
 refine⟨L.map λp=>p.l.headD 0, ?_, ?_⟩
 · have:=h.map (λp:Pk=>p.l.headD 0);refine this.trans ?_;unfold dO;rw[jy];have e:((λp:Pk=>p.l.headD 0) ∘ λs=>(⟨f s,[s]⟩ :Pk))=id:=by funext s;rfl
   rw[e,List.map_id]
 unfold dO;rw[jy]
 conv=>lhs;rw[<-List.map_id L]
 refine bD λp hp=> ?_;obtain⟨s,d,b,a⟩ :=kj p (h.mem_iff.1 hp);obtain⟨pw,c⟩ :=p;simp only at b a;subst b a;rfl
def dQ (f:List Int):Nat->List Int
 | 0=>[]
 | k+1=>dQ f k++if 0<ix f k then [(k:Int)] else []
def oA (f:List Int) (s:Int):Int:=ix f s.toNat
section
variable {α β:Type} {R R':α->β->Prop} {xs:List α} {ys:List β}
theorem fO.and (h:fO R xs ys) (h':fO R' xs ys):fO (λa b=>R a b/\R' a b) xs ys:=by
 induction h with
 | nil=>exact .nil
 | cons h1 _ ih=>cases h' with
   | cons d c=>exact .cons ⟨h1,d⟩ (ih c)
theorem fO.flip (h:fO R xs ys):fO (λb a=>R a b) ys xs:=by
 induction h with
 | nil=>exact .nil
 | cons h1 _ ih=>exact .cons h1 ih
theorem fO.pw {Q:α->α->Prop} {j:β->β->Prop} (h:fO R xs ys) (k:xs.Pairwise Q) (H:∀a∈xs,∀a'∈xs,∀b∈ys,∀c∈ys,R a b->R a' c->Q a a'->j b c):ys.Pairwise j:=by
 induction h with
 | nil=>exact List.Pairwise.nil
 | @cons a b xs ys h1 h2 ih=>
   obtain⟨s1,s2⟩ :=aR.1 k;refine aR.2 ⟨λq g=> ?_,ih s2 λa n a' f b m c d=>H a (aB _ n) a' (aB _ f) b (aB _ m) c (aB _ d)⟩;obtain⟨e,i,l⟩ :=h2.mem q g;exact H a az e (aB _ i) b az q (aB _ g) h1 l (s1 e i)
end
theorem xC {f:List Int}:∀k:Nat,∀s∈dQ f k,0<=s/\s<(k:Int)
 | 0,s,h=>by simp [dQ]at h
 | k+1,s,h=>by
   rw[dQ]at h;rcases aN.1 h with h | h
   · have:=xC k s h;omega
   split at h
   · have:=bg.1 h;omega
   simp at h
theorem FJ {f:List Int}:∀k:Nat,(dQ f k).Pairwise (· < ·)
 | 0=>List.Pairwise.nil
 | k+1=>by
   rw[dQ];refine List.pairwise_append.2 ⟨FJ k, ?_,λs a t ht=> ?_⟩
   · split
     · exact i7 _ _
     exact List.Pairwise.nil
   split at ht
   · rw[bg.1 ht];exact(xC k s a).2
   simp at ht
def a1K (N:Int->Nat) (e:El) (p:Pk):Prop:=ps e=N (p.l.headD 0)
def LvN (b:Nat) (f:List Int) (i:Nat) (D:List El):Prop:=
 ∃N:Int->Nat,fO (a1K N) D (dO (oA f) (dQ f i))/\(∀s∈dQ f i,∀t∈dQ f i,s<t->N s<N t)/\(∀s∈dQ f i,N s<b)
theorem Dz {N a:Int->Nat} {g:Int->Int}:∀{S:List Int} {D:List El},(∀s∈S,a s=N s)->fO (a1K N) D (dO g S)->fO (a1K a) D (dO g S)
 | [],D,_,h=>by cases h;exact .nil
 | s::S,D,hs,h=>by
   cases h with
   | cons c b=>exact .cons (by show _=a s;rw[hs s az];exact c) (Dz (λt ht=>hs t (aB _ ht)) b)
theorem LvN.push {b j:Nat} {f:List Int} {i:Nat} {D:List El} {v:Int} (h:LvN b f i D) (hv:ix f i=v) (hp:0<v) (k:b<j):LvN j f (i+1) (D++[(v,some ⟨b,0,none⟩,1,1)]):=by
 obtain⟨N,g,l,e⟩ :=h;have xo:dQ f (i+1)=dQ f i++[(i:Int)]:=by rw[dQ,hv,ae hp]
 refine⟨λs=>if s=(i:Int)then b else N s, ?_,λs a t ht d=> ?_,λs a=> ?_⟩
 · rw[xo];unfold dO at g⊢;rw[dt];refine fO.app (Dz (λs a=> ?_) g) (fO.one ?_)
   · have:=xC i s a;exact aa ω
   show b=if(i:Int)=(i:Int)then b else _;rw[ae rfl]
 · rw[xo]at a ht;have c:∀s,s∈dQ f i->¬s=(i:Int):=λs a=>by have:=xC i s a;omega
   dsimp only;rcases aN.1 a with a | a <;> rcases aN.1 ht with ht | ht
   · rw[aa (c s a),aa (c t ht)];exact l s a t ht d
   · rw[aa (c s a),ae (bg.1 ht)];exact e s a
   · have m:=bg.1 a;have:=xC i t ht;omega
   have m:=bg.1 a;have n:=bg.1 ht;omega
 dsimp only;rw[xo]at a;rcases aN.1 a with a | a
 · rw[aa (by have:=xC i s a;omega)];have:=e s a;omega
 rw[ae (bg.1 a)];exact k
theorem Vq {g:Int->Int} {S:List Int} {Q:Int->Int->Prop} {b:Pk->Pk->Prop} (h:S.Pairwise Q) (H:∀s t,Q s t->b ⟨g s,[s]⟩ ⟨g t,[t]⟩):(dO g S).Pairwise b:=by
 unfold dO;rw[List.pairwise_map];exact h.imp λa=>H _ _ a
theorem LvN.asc {b:Nat} {f:List Int} {i:Nat} {D:List El} (h:LvN b f i D):Ov D:=by
 obtain⟨N,w,v,z⟩ :=h;refine w.flip.pw (Q:=λp q=>p.l.headD 0<q.l.headD 0) (Vq (FJ i) λs t c=>c) ?_;intro p hp q o e y x u r m a;have k:ps e=N (p.l.headD 0):=r;have j:ps x=N (q.l.headD 0):=m;obtain⟨s,n,B,g⟩ :=kj p hp;obtain⟨t,ht,A,d⟩ :=kj q o;rw[k,j,g,d];rw[g,d]at a;exact cZ (v s n t ht a)
def zB (f:List Int) (S:List Int):Prop:=S.Pairwise λs t=>oA f s<oA f t\/(oA f s=oA f t/\s<=t)
theorem zB.le {f S:List Int} (h:zB f S):S.Pairwise λs t=>oA f s<=oA f t:=h.imp λh=>by rcases h with h | h <;> omega
def LvR (w:World) (f:List Int) (m:Nat) (k:Nat) (b a:Value) (wr:World):Prop:=
 ∃(i q c:Nat) (A:Option Addr) (D:List El),b= .slice A q c/\a= .int .i64 i/\i<=m/\kx wr w.heap.size A q c D/\Below w.heap.size w wr/\Hid (fO (lY wr wr.heap.size λg=>ai A=some g\/g<w.heap.size) D (dO (oA f) (dQ f i)))/\q<=i/\Hid (k=m-i)/\Hid (LvN wr.heap.size f i D)
theorem a09 {w wr d:World} {f:List Int} {i q c:Nat} {A s:Option Addr} {D:List El} {v:Int} (x:kx wr w.heap.size A q c D) (hA:fO (lY wr wr.heap.size λg=>ai A=some g\/g<w.heap.size) D (dO (oA f) (dQ f i))) (t:w.heap.size<=wr.heap.size) (hv:ix f i=v) (hp:0<v)
  (b:((wr.alloc (.cells #[.int .i64 (i:Nat)] 3)).alloc (.cells #[.int .i64 v, .slice (some ⟨wr.heap.size,0,none⟩) 1 1] 180)).grownBy d (ai A)) (l:ai s=ai A\/ai s=some ((wr.alloc (.cells #[.int .i64 (i:Nat)] 3)).alloc (.cells #[.int .i64 v, .slice (some ⟨wr.heap.size,0,none⟩) 1 1] 180)).heap.size):
  fO (lY d d.heap.size λg=>ai s=some g\/g<w.heap.size) (D++[(v,some ⟨wr.heap.size,0,none⟩,1,1)]) (dO (oA f) (dQ f (i+1))):=by
 have h:∀g,ai A=some g->g<wr.heap.size:=λg b=>(x.2.lt b).2;have j:bj (wr.alloc (.cells #[.int .i64 (i:Nat)] 3)) d (λg=>ai A=some g):=((bj.refl _ _).alloc _).grown b (λk m=> .inl m);have o:bj wr d (λg=>ai A=some g):=(((bj.refl _ _).alloc _).alloc _).grown b (λk m=> .inl m);rw[show dQ f (i+1)=dQ f i++[(i:Int)] by rw[dQ,hv,ae hp]];unfold dO at hA⊢;rw[dt];refine(hA.mono λe _ p y=>y.fz o (λg b=> .inl b) (λg b a=> ?_)).app (fO.one ?_)
 · rcases a with a | a
   · rcases l with e | e
     · left;rw[<-e];exact a
     rw[e]at a;injection a with a;simp at a;omega
   exact .inr a
 refine⟨?_, ?_,λ_ g n a=> ?_⟩
 · show v=oA f i;unfold oA;rw[aU,hv]
 · have z:=bU.lit .i64 wr [(i:Int)] 3;exact(j.rA z σ (λ_ C r u=>by injection r with r;subst r;exact absurd (h _ u) (Nat.lt_irrefl _))).more (by have:=j.size;simp at this;omega)
 have B:wr.heap.size=g:=by simpa [ai] using n
 rcases a with a | a
 · rcases l with e | e
   · rw[e]at a;have:=h _ a;omega
   rw[e]at a;injection a with a;simp at a;omega
 omega
def a1I (w:World) (f:List Int) (m:Nat) (e:Ending) (w':World):Prop:=
 ∃A q c S,e= .returned (.slice A q c)/\Below w.heap.size w w'/\vd w' w'.heap.size (λg=>g<w.heap.size) A q (dO (oA f) S)/\((A=none/\q=0)\/∃g,A=some ⟨g,0,none⟩/\w.heap.size<=g/\g<w'.heap.size)/\S.Perm (dQ f m)/\zB f S/\q<=c
theorem LO (w:World) (C:Option Addr) (m d:Nat) (f:List Int) (hr:bU .i64 w w.heap.size C m f) (n:m<=1000) (hf:∀i,i<m->0<=ix f i/\ix f i<=1048576):
  Calls Tryz.prog 137 #[.slice C m d] w (a1I w f m):=by
 obtain⟨i0,hi,J,I,H⟩ :=aJ vW;have Hi:=η hi;have gV:=η J;have fY:=η I;have gW:=η H;have Gu:(0:Int)<=m/\(m:Int)<=1000:=ω;have HF:=η hf;have HM:=η n;clear hi J I H hf n;go_enter Tryz.func137,Tryz.ntmps137
 go_wp2_with fail;go_loopg [3,8] m (LvR w f m)
 case atStart=>exact⟨0,0,0,none,[],rfl,rfl,aF _,kx.dK,aw _ _, .nil,ag _,rfl, ⟨λ_=>0, .nil,λs E=>by simp [dQ]at E,λs E=>by simp [dQ]at E⟩⟩
 obtain⟨i,q,c,A,D,rfl,rfl,ac,b,a,hA,hq,o,hN⟩ :=hrel;by_cases j:i<m
 · have vJ:(i:Int)<(m:Int)/\(0:Int)<=i:=ω;obtain⟨v,hv⟩ :=ν (ix f i);obtain⟨ad,rfl,Y,y⟩ :=hr.at_ (i:=i) j;rw[hv]at y;have al:wr.cell? (ad.add i)=some (.int .i64 v):=(a.cell (p:=ad.add i) (by rw[bH];exact Y)).trans y;have R:=HF.out i j;rw[hv]at R;have HV:=η (⟨hv,j⟩ :_/\_);clear y hv j;by_cases hp:0<v
   · have jt:=(b.alloc (.cells #[.int .i64 (i:Nat)] 3)).alloc (.cells #[.int .i64 v, .slice (some ⟨wr.heap.size,0,none⟩) 1 1] 180);have cW:=yr.a08 (w:=wr.alloc (.cells #[.int .i64 (i:Nat)] 3)) (g:=wr.heap.size+1) σ v (some ⟨wr.heap.size,0,none⟩) 1 1 180;have z:Below w.heap.size w ((wr.alloc (.cells #[.int .i64 (i:Nat)] 3)).alloc (.cells #[.int .i64 v, .slice (some ⟨wr.heap.size,0,none⟩) 1 1] 180)):=(a.alloc a.size _).alloc (au a.size σ) _;have NH:q+1<=1000000000000:=by have:=HM.out;omega
     go_wp2_with (at_builtin;(refine sV w.heap.size i0 rfl (.tmp 15) (.tmp 20) rfl Hi.out gV.out fY.out gW.out rfl jt rfl cW NH z.size ?_);intro A4 d4 w4 bE x dP)
     go_roundg (m-(i+1))
     case measure=>have:=o.out;have:=HV.out.2;omega
     case rel=>exact⟨i+1,q+1,d4,A4,_,rfl,by go_num,HV.out.2,bE,z.grown x z.size (λk o=>(b.2.lt o).1),a09 b hA.out a.size HV.out.1 hp x dP,ω,rfl,hN.out.push HV.out.1 hp (by have G:=x.size;simp at G;omega)⟩
   have xo:dQ f (i+1)=dQ f i:=by rw[dQ,aa (by rw[HV.out.1];exact hp),ax]
   have O:=η xo;clear xo
   go_wp2_with fail;go_roundg (m-(i+1))
   case measure=>have:=o.out;have:=HV.out.2;omega
   case rel=>exact⟨i+1,q,c,A,D,rfl,by go_num,HV.out.2,b,a,by show fO _ _ _;rw[O.out];exact hA.out,ω,rfl,by have G:=hN.out;unfold LvN at G⊢;rw[O.out];exact G⟩
 obtain rfl:i=m:=ω;have vJ:¬(i:Int)<(i:Int):=ω;have hA:=hA.out;have P:=b.2.jD
 have u:Sm D:=λe he=>by
  obtain⟨p,hp,n⟩ :=hA.b0B e he;obtain⟨s,E,G,h2⟩ :=kj p hp;rw[n.1,G];unfold oA;by_cases U:s.toNat<i
  · have:=HF.out _ U;omega
  have:ix f s.toNat=0:=by
   have hl:=hr.1;unfold ix;rw[aq,br ω];rfl
  rw[this];omega
 rcases b.2 with ⟨qi,pn,za⟩ | ⟨g,an,rfl,UX⟩
 · subst qi pn za;have hD:D=[]:=aC b.1.symm;subst hD
   have hS:dQ f i=[]:=by
    have:=hA.length;rw[jf]at this;exact aC this.symm
   have HP:=η (⟨a,hS⟩ :_/\_);clear hA u b a
   go_wp2_with fail;refine(BC _ _).mono ?_;rintro e Q ⟨rfl,rfl⟩
   go_wp2_with fail;go_ret;exact⟨none,0,0,[],rfl,HP.out.1, ⟨[], ⟨rfl,λh0=>ω⟩, .nil⟩, .inl ⟨rfl,rfl⟩,by rw[HP.out.2],List.Pairwise.nil,ag _⟩
 have L:Dt wr g q D wr:= ⟨b.1.symm,bj.refl _ _,Own.ar b.2⟩;have HC:=η (BB wr wr g q c D L (by have:=HM.out;omega) u hN.out.asc);have K:w.heap.size<=g:=(b.2.lt rfl).1;have HA:=η (⟨hA,P,K,a⟩ :_/\_/\_/\_);clear hA P K L u b a;unfold tI at HC
 go_wp2_with fail;refine HC.out.mono ?_;rintro e Q ⟨D',rfl,F,V,W⟩
 go_wp2_with fail;go_ret;obtain⟨hA,P,K,a⟩ :=HA.out;obtain⟨N,n1,n2,n3⟩ :=hN.out;obtain⟨L',gR,M⟩ :=fO.perm W (hA.and n1);obtain⟨S,B,rfl⟩ :=Mg gR;have ab:=M.mono λe _ p n=>n.1
 have T:(dO (oA f) S).Pairwise λp q=>p.w<q.w\/(p.w=q.w/\p.l.headD 0<=q.l.headD 0):=M.pw V λe he e' ah p hp q hq r r' X=>by
  obtain⟨s,E,e1,e2⟩ :=kj p hp;obtain⟨t,ht,e3,e4⟩ :=kj q hq;have r1:ps e=N (p.l.headD 0):=r.2;have r2:ps e'=N (q.l.headD 0):=r'.2;have w1:e.1=p.w:=r.1.1;have w2:e'.1=q.w:=r'.1.1;rcases X with h | ⟨h,h'⟩
  · left;omega
  right;refine⟨ω, ?_⟩;rw[e2,e4];rw[r1,r2,e2,e4]at h';rcases Int.lt_or_le t s with h9 | h9
  · have:=n2 t (B.mem_iff.1 ht) s (B.mem_iff.1 E) h9;have am:N s<=N t:=h';omega
  exact h9
 have Z:fO (lY Q Q.heap.size λg=>g<w.heap.size) D' (dO (oA f) S):=ab.mono λe _ p n=>n.fz F.fz (λk o=>by subst o;exact .inl rfl) (λ_ _ h=> .inr h);refine⟨some ⟨g,0,none⟩,q,c,S,rfl,a.trans (F.fz.below (λk o=>by subst o;exact K) a.size), ⟨D', ⟨F.len.symm, ?_⟩,Z⟩, .inr ⟨g,rfl,K,F.lt⟩,B, ?_,P⟩
 · exact F.ar.rd F.lt (ag _)
 unfold dO at T;rw[List.pairwise_map]at T;exact T
theorem fO.at_ {α β:Type} {R:α->β->Prop} {xs:List α} {ys:List β} (h:fO R xs ys) (a:α) (b:β):∀i,i<xs.length->R (xs.getD i a) (ys.getD i b):=by
 induction h with
 | nil=>intro i hi;simp at hi
 | cons h1 _ ih=>
   intro i hi;cases i with
   | zero=>exact h1
   | succ i=>exact ih i (by simpa using hi)
theorem VX (L:List Pk) (t:Nat) (h:2*t+1<L.length):(di L).take (t+1)=(di L).take t++[⟨(L.getD (2*t) ⟨0,[]⟩).w+(L.getD (2*t+1) ⟨0,[]⟩).w,(L.getD (2*t) ⟨0,[]⟩).l++(L.getD (2*t+1) ⟨0,[]⟩).l⟩]:=by
 induction L using di.induct generalizing t with
 | case1 a b r ih=>
   rw[di];cases t with
   | zero=>rfl
   | succ t=>
     have:=ih t (by simp only [List.length_cons]at h;omega);rw[bM,bM,this];rw[show 2*(t+1)=2*t+1+1 by omega,show 2*t+1+1+1=(2*t+1)+1+1 by omega];rfl
 | case2 u h'=>
   match u,h' with
   | [],_=>simp at h
   | [a],_=>simp at h
   | a::b::r,h'=>exact absurd rfl (h' a b r)
def pF (v:Int) (A:Option Addr) (n c:Nat) (j:Nat):Value:=if j=0 then .int .i64 v else .slice A n c
def PdB (wr:World) (g c:Int) (j f:Option Addr) (h i d e:Nat) (l k:Value) (wx:World):Prop:=
 ∃b a,l= .pointer (some ⟨b,0,none⟩)/\k= .pointer (some ⟨a,0,none⟩)/\Ar wx b 2 (pF g j h i)/\Ar wx a 2 (pF c f d e)/\wr.heap.size<=b/\wr.heap.size<=a/\Below wr.heap.size wr wx
theorem yS {w:World} {g:Nat} (a:g=w.heap.size) (v:Int) (A:Option Addr) (n c:Nat) (t:TypeId):Ar (w.alloc (.cells #[.int .i64 v, .slice A n c] t)) g 2 (pF v A n c):=by
 subst a
 exact Ar.new w #[.int .i64 v, .slice A n c] t rfl (λi hi=>by
  obtain rfl | rfl:i=0\/i=1:=ω
  · rfl
  rfl)
theorem b0G (wr:World) (e a:Int) (h d:Option Addr) (f g b c:Nat):PdB wr e a h d f g b c (.pointer (some ⟨wr.heap.size,0,none⟩)) (.pointer (some ⟨wr.heap.size+1,0,none⟩)) ((wr.alloc (.cells #[.int .i64 e, .slice h f g] 180)).alloc (.cells #[.int .i64 a, .slice d b c] 180)).drew:=
 ⟨_,_,rfl,rfl,((yS rfl e h f g _).alloc _).drew,(yS σ a d b c _).drew,ag _,fu _,(((aw _ wr).alloc (ag _) _).alloc σ _).drew⟩
theorem b0H (wr:World) (e a:Int) (h d:Option Addr) (f g b c:Nat):PdB wr e a h d f g b c (.pointer (some ⟨wr.heap.size+1,0,none⟩)) (.pointer (some ⟨wr.heap.size,0,none⟩)) ((wr.alloc (.cells #[.int .i64 a, .slice d b c] 180)).alloc (.cells #[.int .i64 e, .slice h f g] 180)).drew:=
 ⟨_,_,rfl,rfl,(yS σ e h f g _).drew,((yS rfl a d b c _).alloc _).drew,fu _,ag _,(((aw _ wr).alloc (ag _) _).alloc σ _).drew⟩
def PdR (w:World) (L:List Pk) (k:Nat) (b a:Value) (wr:World):Prop:=
 ∃(t p q c:Nat) (A:Option Addr) (D:List El),b= .slice A q c/\a= .int .i64 p/\Hid (p=2*t)/\kx wr w.heap.size A q c D/\Below w.heap.size w wr/\Hid (fO (lY wr wr.heap.size λg=>ai A=some g\/g<w.heap.size) D ((di L).take t))/\Hid (k=L.length-p)/\p<=L.length+1
def EA (w:World) (X:Nat->Prop) (L:List Pk) (e:Ending) (w':World):Prop:=
 ∃g q c,e= .returned (.slice (some ⟨g,0,none⟩) q c)/\Below w.heap.size w w'/\vd w' w'.heap.size X (some ⟨g,0,none⟩) q L/\q<=c/\w.heap.size<=g/\g<w'.heap.size
theorem P4 {w':World} {b a:Nat} {g c:Int} {k f:Option Addr} {h j d e:Nat} (h5:Ar w' b 2 (pF g k h j)) (h6:Ar w' a 2 (pF c f d e)):
  w'.cell? ⟨b,0,none⟩ =some (.int .i64 g)/\w'.cell? ⟨b,1,none⟩ =some (.slice k h j)/\w'.cell? ⟨a,0,none⟩ =some (.int .i64 c)/\w'.cell? ⟨a,1,none⟩ =some (.slice f d e):=
 ⟨h5.cell (i:=0) ω,h5.cell (i:=1) ω,h6.cell (i:=0) ω,h6.cell (i:=1) ω⟩
theorem SM (wc:World) (A1 A2:Option Addr) (b c1 a c2:Nat) (d c:List Int) (l:bU .i64 wc wc.heap.size A1 b d) (k:bU .i64 wc wc.heap.size A2 a c) (h:b<=400000) (g:a<=400000):
  Calls Tryz.prog 155 #[.slice (some ⟨wc.heap.size,0,none⟩) 2 2] (wc.alloc (.cells #[.slice A1 b c1, .slice A2 a c2] 63)).drew (MkI (wc.alloc (.cells #[.slice A1 b c1, .slice A2 a c2] 63)).drew (d++c)):=by
 have e:=(Ar.new wc #[.slice A1 b c1, .slice A2 a c2] 63 (m:=2) (f:=λj=>if j=0 then .slice A1 b c1 else .slice A2 a c2) rfl (λi hi=>by
  obtain rfl | rfl:i=0\/i=1:=ω
  · rfl
  rfl)).drew
 refine Kz _ wc.heap.size wc.heap.size (by simp [World.drew]) A1 A2 b c1 a c2 d c (e.cell (i:=0) ω) (e.cell (i:=1) ω) (l.alloc (ag _) _) (k.alloc (ag _) _) ?_ h g;show wc.heap.size<=(wc.alloc _).heap.size;simp
def SmP (L:List Pk):Prop:=∀p∈L,0<=p.w/\p.w<=1099511627776/\p.l.length<=400000
theorem Mf (w:World) (g n c B:Nat) (L:List Pk) (X:Nat->Prop) (hX:∀g,X g->g<w.heap.size) (hp:vd w B X (some ⟨g,0,none⟩) n L) (hB:B<=w.heap.size) (hn:n<=1000) (Z:SmP L) (h2:2<=n):
  Calls Tryz.prog 139 #[.slice (some ⟨g,0,none⟩) n c] w (EA w X (di L)):=by
 obtain⟨i0,hi,W,V,U⟩ :=aJ vW;have Hi:=η hi;have gV:=η W;have fY:=η V;have gW:=η U;obtain⟨E,tL,Uy⟩ :=hp;have ah:n=L.length:=tL.1.trans Uy.length;have xj:(0:Int)<=n/\(n:Int)<=1000:=ω;have XU:=η tL;have bp:=η hX;clear hX;have am:=η Uy;have yq:=η Z;have D:=η (⟨ah,h2,hB,hn⟩ :_/\_/\_/\_);clear hi W V U tL Uy Z ah h2 hB hn;go_enter Tryz.func139,Tryz.ntmps139
 go_wp2_with fail;go_loopg [3,4] n (PdR w L)
 case atStart=>exact⟨0,0,0,0,none,[],rfl,rfl,rfl,kx.dK,aw _ _,by rw[iz];exact .nil,by show n=_;have:=D.out.1;omega,ω⟩
 obtain⟨t,p,q,c2,A2,D2,rfl,rfl,G,C,M,hA,b,f⟩ :=hrel;have N:=D.out.1;obtain⟨p1,K⟩ :=ν (p+1);have an:(p:Int)+1=(p1:Int):=ω;have ca:(0:Int)<=p/\(p:Int)<=2000/\(0:Int)<=p1/\(p1:Int)<=2000:=by have:=D.out;omega
 by_cases d:p1<n
 rotate_left
 · have vJ:¬(p1:Int)<(n:Int):=ω;have Ij:(di L).take t=di L:=ay (by rw[jk];have:=G.out;have:=D.out;omega);have I:=hA.out;rw[Ij]at I;have ab:q=(di L).length:=by have h1:=C.1;have h2:=I.length;omega
   have NH:0<q:=by rw[ab,jk];have:=D.out;omega
   have eL:=C.2.jD;obtain⟨g2,rfl⟩ :=C.2.addr ω
   have bX:Hid (EA w X (di L) (.returned (.slice (some ⟨g2,0,none⟩) q c2)) wr):=
    ⟨g2,q,c2,rfl,M, ⟨D2, ⟨C.1,C.2.rd⟩,I.mono λe _ pk hm=>hm.fz (S:=λ_=>False) (bj.refl _ _) (λk b=>b.elim) (λk _ b=> .inr (bp.out k b))⟩,eL,(C.2.lt rfl).1,(C.2.lt rfl).2⟩
   clear d Ij I ab NH eL N K
   go_wp2_with fail;go_ret;exact bX.out
 obtain⟨x,a⟩ :=ν (el E p);obtain⟨y,hy⟩ :=ν (el E p1);have bl:E.length=n:=XU.out.1.symm;have A:=am.out.at_ (0,none,0,0) ⟨0,[]⟩ p ω;have z:=am.out.at_ (0,none,0,0) ⟨0,[]⟩ p1 ω
 change lY _ _ _ (el E p) _ at A
 change lY _ _ _ (el E p1) _ at z
 rw[a]at A;rw[hy]at z;obtain⟨m,u,i,s⟩ :=x;obtain⟨l,r,h,o⟩ :=y;obtain⟨ad,H,PC,mD⟩ :=XU.out.2 ω;obtain rfl:ad= ⟨g,0,none⟩ :=by injection H with H;exact H.symm
 have O:g<w.heap.size:=aD PC D.out.2.2.1
 have cell:∀j,j<n*2->wr.cell? ⟨g,j,none⟩ =some (yl E j):=λj hj=>by
  have:=mD j hj;rw[nY]at this;exact(M.cell (p:= ⟨g,j,none⟩) O).trans this
 have a0:=cell (p*2) ω;have a1:=cell (p*2+1) ω;have b0:=cell (p1*2) ω;have b1:=cell (p1*2+1) ω;rw[tu E rfl,a]at a0;rw[wT E rfl,a]at a1;rw[tu E rfl,hy]at b0;rw[wT E rfl,hy]at b1;replace a0:wr.cell? ⟨g,p*2,none⟩ =some (.int .i64 m):=a0;replace a1:wr.cell? ⟨g,p*2+1,none⟩ =some (.slice u i s):=a1;replace b0:wr.cell? ⟨g,p1*2,none⟩ =some (.int .i64 l):=b0;replace b1:wr.cell? ⟨g,p1*2+1,none⟩ =some (.slice r h o):=b1;have vJ:(p1:Int)<(n:Int)/\(p:Int)<(n:Int):=ω;have w1:IntKind.i64.wrap ((p:Int)+1)=(p1:Int):=by rw[an];exact qa ω
 have w2:IntKind.i64.wrap (p1:Int)=(p1:Int):=qa ω;have be:g<wr.heap.size:=aD O M.size;have aE:g<wr.heap.size+1:=ω;have ap:¬g=wr.heap.size:=ω;have ao:¬g=wr.heap.size+1:=ω;have HP:=η (⟨A,z,K,d,N,O,f⟩ :_/\_/\_/\_/\_/\_/\_);clear cell mD a hy bl A z K d N O H PC f;go_upto_region 5 with fail
 go_cut [5,6] (λv5 v6 wx=>PdB wr m l u r i s h o v5 v6 wx)
 case first=>
  go_region
  all_goals
   go_wp2_with fail;go_meet
   first
    | exact b0G wr m l u r i s h o
    | exact b0H wr m l u r i s h o
 clear a0 a1 b0 b1 w1 w2 be aE ap ao;obtain⟨g5,g6,rfl,rfl,h5,h6,l5,l6,P⟩ :=hcut;obtain⟨A,z,K,d,N,O,f⟩ :=HP.out;have Gq:=M.trans (P.mono M.size);have ac:=C.keeps P;have ny:m=(L.getD p ⟨0,[]⟩).w/\l=(L.getD p1 ⟨0,[]⟩).w:= ⟨A.1,z.1⟩;have rx:=(A.2.1.more D.out.2.2.1).below Gq;have ry:=(z.2.1.more D.out.2.2.1).below Gq;have T:=yq.out (L.getD p ⟨0,[]⟩) (by rw[aq,bN ω];exact cF _);have R:=yq.out (L.getD p1 ⟨0,[]⟩) (by rw[aq,bN ω];exact cF _);have bB:(0:Int)<=m/\m<=1099511627776/\(0:Int)<=l/\l<=1099511627776:=ω;have Cj:i<=400000:=by have:i=_:=rx.1;rw[this];exact T.2.2
 have Y:h<=400000:=by have:h=_:=ry.1;rw[this];exact R.2.2
 have bs:=η (SM wc u r i s h o _ _ (rx.more Gq.size) (ry.more Gq.size) Cj Y);obtain⟨v,F⟩ :=ν (m+l);have bE:(0:Int)<=v/\v<=2199023255552:=ω;have bx:IntKind.i64.wrap (m+l)=v:=by rw[F];exact aK _ ω
 have bv:IntKind.i64.wrap v=v:=aK _ ω;have HX:=η (⟨A,z,K,d,N,f,ny,F⟩ :_/\_/\_/\_/\_/\_/\_/\m+l=v)
 have NH:q+1<=1000000000000:=by
  have h1:=ac.1;have h2:=hA.out.length;have h3:((di L).take t).length<=(di L).length:=List.length_take_le' _ _;rw[jk]at h3;have:=D.out;omega
 have JX:=Gq.size;have tR:∀k,ai A2=some k->k<wr.heap.size:=λk b=>(C.2.lt b).2;have tP:=η (⟨tR,l5,l6,P⟩ :_/\_/\_/\_);clear A z K d N f ny T R Cj Y O HP rx ry tR l5 l6;go_upto_region 6 with fail
 go_region_held3 (λw'=>w'.cell? ⟨g5,0,none⟩ =some (.int .i64 m)/\w'.cell? ⟨g5,1,none⟩ =some (.slice u i s)/\w'.cell? ⟨g6,0,none⟩ =some (.int .i64 l)/\w'.cell? ⟨g6,1,none⟩ =some (.slice r h o))
  (first | exact P4 m5 m6 | exact P4 (k5.alloc _) (k6.alloc _) | exact P4 k5 k6 | exact P4 (h5.alloc _).drew (h6.alloc _).drew | exact P4 h5.drew h6.drew | exact P4 h5 h6)
  (first
    | (go_at_call 155;(refine bs.out.mono ?_);rintro e w5 ⟨A5,n5,Q,rfl,jL,kY⟩
       have k5:=((h5.alloc (.cells #[.slice u i s, .slice r h o] 63)).drew).keeps kY;have k6:=((h6.alloc (.cells #[.slice u i s, .slice r h o] 63)).drew).keeps kY;have o5:=((ac.alloc (.cells #[.slice u i s, .slice r h o] 63)).drew).keeps kY;have s5:wc.heap.size+1<=w5.heap.size:=by have:=kY.size;simpa [World.drew] using this)
    | (have _g:=o5;(refine xF w.heap.size i0 rfl (.tmp 23) (.tmp 36) rfl Hi.out gV.out fY.out gW.out rfl (o5.alloc _) rfl (yr.a08 rfl v A5 n5 Q 180) NH ξ ?_);intro A6 d6 w6 nE lX iF
       have m5:=(k5.alloc _).grown lX (λe=>by have:=tP.out.1 _ e.symm;have:=tP.out.2.1;omega);have m6:=(k6.alloc _).grown lX (λe=>by have:=tP.out.1 _ e.symm;have:=tP.out.2.2.1;omega)))
 obtain⟨p2,Io⟩ :=ν (p+2);have bI:(p:Int)+2=(p2:Int):=ω;have Ev:=η Io;clear Io
 go_wp2_with fail;go_roundg (n-p2)
 case measure=>have:=b.out;have:=Ev.out;have:=HX.out;omega
 obtain⟨A,z,K,d,N,f,ny,F⟩ :=HX.out;obtain⟨tR,l5,l6,P⟩ :=tP.out;have c0:bj wr wc (λk=>ai A2=some k):=bj.bA P;have bo:=((c0.alloc (.cells #[.slice u i s, .slice r h o] 63)).drew).trans (bj.bA (S:=λ_=>False) kY) (λk b=>b.elim);have c3:=(bo.alloc (.cells #[.int .i64 v, .slice A5 n5 Q] 180)).grown lX (λk b=> .inl b);have Q:bj w5 w6 (λk=>ai A2=some k):=((bj.refl w5 _).alloc (.cells #[.int .i64 v, .slice A5 n5 Q] 180)).grown lX (λk b=> .inl b);have bi:Below w.heap.size w w6:=M.trans (c3.below (λk b=>(C.2.lt b).1) M.size);have bt:=P.size
 have al:∀k,ai A5=some k->wr.heap.size<=k/\k<w5.heap.size:=λk b=>by
  have h1:=(jL.2.lt b).1;have h2:=(jL.2.lt b).2;simp [World.drew]at h1;omega
 refine⟨t+1,p2,q+1,d6,A6,_,rfl,rfl,by have:=Ev.out;have:=G.out;show _=_;omega,nE,bi, ?_,by show n-p2=_;have:=D.out.1;omega,by have:=Ev.out;omega⟩;show fO _ _ _;rw[VX L t (by have:=G.out;omega),<-G.out,K];refine(hA.out.mono λe _ pk hm=>hm.fz c3 (λk b=> .inl b) (λk b a=> ?_)).app (fO.one ⟨?_, ?_,λ_ k b a=> ?_⟩)
 · rcases a with a | a
   · rcases iF with J | J
     · left;rw[<-J];exact a
     rw[J]at a;injection a with a;simp at a;omega
   exact .inr a
 · show v=_;rw[<-F,ny.1,ny.2]
 · exact(Q.rA jL.rd (ag _) (λ_ ad J hs=>by
    have h9:=(al ad.block (by rw[J];rfl)).1;have h8:=tR _ hs;omega)).more Q.size
 have h9:=al k b;have cb:=M.size;rcases a with a | a
 · rcases iF with J | J
   · rw[J]at a;have h8:=tR _ a;omega
   rw[J]at a;injection a with a;simp at a;omega
 omega
def Pb (A:Option Addr) (c:Nat):Option Addr:=if c=1 then A else A.map (·.add 2)
theorem CK {i:TypeInfo} (hi:Tryz.prog.info? 180 =some i) (b:i.size=2) (A:Option Addr) (n c:Nat) (d:1<=n) (W:World):
  (Instr.slice 177 (.slice A n c) (some (.int .i64 1)) none none).run Tryz.prog W= .ok (.slice (Pb A c) (n-1) (c-1)) W:=by
 have a:Tryz.prog.elem 177 = 180 :=by simp [Program.elem,Tryz.underlying177]
 rw[run_slice_l W 177 A n c (by rw[a];exact Tryz.underlying177) .i64 1 ω ω,a];simp [sizeOf,typeInfo,hi,b,sliced,Pb]
theorem yr.tail {w:World} {B n c:Nat} {A:Option Addr} {e:El} {D:List El} (h:yr w B A n (e::D)) (l:n<=c):yr w B (Pb A c) (n-1) D:=by
 have k:n=D.length+1:=h.1;refine⟨ω,λm=> ?_⟩;obtain⟨a,j,d,b⟩ :=h.2 ω;refine⟨a.add 2,by unfold Pb;rw[aa ω,j];rfl,by rw[bH];exact d,λi hi=> ?_⟩;have g:=b (2+i) ω
 have f:(a.add 2).add i=a.add (2+i):=by
  rw[GM]
 rw[f,g]
 have:yl (e::D) (2+i)=yl D i:=by
  unfold yl el;rw[show(2+i)%2=i%2 by omega,show(2+i)/2=i/2+1 by omega];rfl
 rw[this]
theorem add_zero' (a:Addr):a.add 0=a:=by unfold Addr.add;simp
theorem zE (a:Addr):a.add 1= ⟨a.block,a.off+1,none⟩ :=by unfold Addr.add;simp
def MgR (w:World) (B:Nat) (X:Nat->Prop) (f e:List Pk) (k:Nat) (d b a:Value) (wr:World):Prop:=
 ∃(A1 A2 A:Option Addr) (n1 c1 n2 c2 q c:Nat) (E1 E2 D:List El) (M1 M2 M:List Pk),d= .slice A1 n1 c1/\b= .slice A2 n2 c2/\a= .slice A q c/\n1<=c1/\n2<=c2/\Hid (yr w B A1 n1 E1)/\Hid (yr w B A2 n2 E2)/\Hid (fO (lY w B X) E1 M1)/\Hid (fO (lY w B X) E2 M2)/\
  kx wr w.heap.size A q c D/\Below w.heap.size w wr/\Hid (fO (lY w B X) D M)/\Hid (M++zi M1 M2=zi f e)/\Hid (k=n1+n2)/\q+n1+n2<=3000
theorem LS (w:World) (B a c1 b c2:Nat) (A1 A2:Option Addr) (S R:List Pk) (X:Nat->Prop) (h1:vd w B X A1 a S) (h2:vd w B X A2 b R) (hB:B<=w.heap.size) (sr:0<a) (qi:a<=1000) (pn:b<=1000) (s:a<=c1) (r:b<=c2):
  Calls Tryz.prog 138 #[.slice A1 a c1, .slice A2 b c2] w (EA w X (zi S R)):=by
 obtain⟨i0,hi,K,F,J⟩ :=aJ vW;have Hi:=η hi;have gV:=η K;have fY:=η F;have gW:=η J;have xj:(0:Int)<=a/\(a:Int)<=1000/\(0:Int)<=b/\(b:Int)<=1000:=ω;obtain⟨N,hN⟩ :=ν (a+b);have bi:(a:Int)+(b:Int)=(N:Int):=ω;have oN:=run_make (P:=Tryz.prog) w 177 180 i0 _ Tryz.underlying177 hi K .i64 .i64 0 (N:Int) (df _) ω (by rw[J];omega) ω;rw[aU,F]at oN;obtain⟨Zc,Q⟩ :=ν (madeCells (Value.agg #[.int .i64 0, .slice none 0 0]).cells (N*2));have al:Zc.size=N*2:=by rw[<-Q];simp [madeCells]
 rw[Q]at oN;have qC:(Instr.makeSlice 177 (.int .i64 0) (.int .i64 (N:Int))).run Tryz.prog w= .ok (.slice (some ⟨w.heap.size,0,none⟩) 0 N) (w.alloc (.cells Zc 180)):=oN;have ab:kx (w.alloc (.cells Zc 180)) w.heap.size (some ⟨w.heap.size,0,none⟩) 0 N []:= ⟨rfl, .inr ⟨w.heap.size,Zc,rfl,ag _,dr w _,aF _,by unfold maxLen;omega,al,λi hi=>ω⟩⟩;have oP:=λ(A:Option Addr) (n c:Nat) (hn:1<=n) W=>CK hi F A n c hn W;have Rl:=η oP;obtain⟨D1,f,G⟩ :=h1;obtain⟨D2,g,O⟩ :=h2
 have fA:Hid (MgR w B X S R N (.slice A1 a c1) (.slice A2 b c2) (.slice (some ⟨w.heap.size,0,none⟩) 0 N) (w.alloc (.cells Zc 180))):=
  ⟨A1,A2,_,a,c1,b,c2,0,N,D1,D2,[],S,R,[],rfl,rfl,rfl,s,r,f,g,G,O,ab,(aw _ w).alloc (ag _) _, .nil,rfl,hN.symm,ω⟩
 have o:=η hB;have ad:0<(zi S R).length:=by rw[uE,<-G.length,<-f.1];omega
 have aE:=η ad;clear hi K F J oN Q al ab oP f G g O hN sr qi pn s r hB ad;go_enter Tryz.func138,Tryz.ntmps138
 go_wp2_with fail;go_loopg [0,1,5] N (MgR w B X S R)
 case atStart=>exact fA.out
 clear fA qC xj;obtain⟨A1,A2,A,a,c1,b,c2,q,c,E1,E2,D,v,u,M,rfl,rfl,rfl,s,r,f,g,G,O,ho,H,L,hM,z,hq⟩ :=hrel;have xj:(0:Int)<=a/\(a:Int)<=3000/\(0:Int)<=b/\(b:Int)<=3000:=ω;by_cases CE:0<a/\0<b
 rotate_left
 · have ah:(a=0)\/(0<a/\b=0):=ω
   have oO:zi v u=v++u:=by
    have l1:v.length=a:=by rw[<-G.out.length,<-f.out.1]
    have l2:u.length=b:=by rw[<-O.out.length,<-g.out.1]
    rcases ah with h | ⟨_,h⟩
    · have:v=[]:=aC ω;rw[this,zn];rfl
    have:u=[]:=aC ω;rw[this,zj,ax]
   have xU:=hM.out;rw[oO]at xU;have ra:=f.out.below (H.mono o.out);have JX:=H.size;have am:q+a<=1000000000000:=ω;have RJ:q+a+b<=1000000000000:=ω
   have bX:Hid (∀A7 c7 w7,kx w7 w.heap.size A7 (q+a+b) c7 (D++E1++E2)->Below w.heap.size w w7->EA w X (zi S R) (.returned (.slice A7 (q+a+b) c7)) w7):=λA7 c7 w7 h7 pB=>by
    have Rq:fO (lY w B X) (D++E1++E2) (M++v++u):=(L.out.app G.out).app O.out;rw[show M++v++u=M++(v++u) by simp,xU]at Rq;have an:0<q+a+b:=by rw[h7.1,Rq.length];exact aE.out
    obtain⟨g7,rfl⟩ :=h7.2.addr an;refine⟨g7,_,c7,rfl,pB, ⟨_,h7.rd,Rq.mono λe _ pk hm=> ⟨hm.1,(hm.2.1.below (pB.mono o.out)).more (au o.out pB.size),hm.2.2⟩⟩,h7.2.jD,(h7.2.lt rfl).1,(h7.2.lt rfl).2⟩
   have ap:=η g.out;have JY:((a:Int)=0)\/((0:Int)<a/\(b:Int)=0):=ω;have HC:=η JY;have yF:¬(0:Int)<a\/((0:Int)<a/\¬(0:Int)<b):=ω;clear ah oO xU CE hq JY;rcases yF with yF | ⟨yF,bt⟩
   all_goals
    go_wp2_with (first
     | (at_builtin;(refine sV w.heap.size i0 rfl (.tmp 45) (.tmp 46) rfl Hi.out gV.out fY.out gW.out rfl ho rfl ra am JX ?_);intro A6 d6 w6 nE lX iF;have t:=H.grown lX JX (λk z=>(ho.2.lt z).1);have rb:=ap.out.below (t.mono o.out))
     | (have _g:=t;at_builtin;(refine sV w.heap.size i0 rfl (.tmp 47) (.tmp 48) rfl Hi.out gV.out fY.out gW.out rfl nE rfl rb RJ t.size ?_);intro A7 d7 w7 NG K1 Aa;have pB:=t.grown K1 t.size (λk z=>(nE.2.lt z).1)))
    all_goals go_ret
    all_goals exact bX.out _ _ _ NG pB
 have pC:(0:Int)<a/\(0:Int)<b:=ω;obtain⟨l,rfl,bx,Ze⟩ :=f.out.2 ω;obtain⟨j,rfl,bv,Zf⟩ :=g.out.2 ω;cases E1 with
 | nil=>have:=f.out.1;simp at this;omega
 | cons x E1=>
   cases E2 with
   | nil=>have:=g.out.1;simp at this;omega
   | cons y E2=>
     obtain⟨E,xA,Y,Z⟩ :=x;obtain⟨C,V,T,U⟩ :=y;have a0:=(H.cell (p:=l.add 0) (by rw[bH];have:=o.out;omega)).trans (Ze 0 ω);have a1:=(H.cell (p:=l.add 1) (by rw[bH];have:=o.out;omega)).trans (Ze 1 ω);have b0:=(H.cell (p:=j.add 0) (by rw[bH];have:=o.out;omega)).trans (Zf 0 ω);have b1:=(H.cell (p:=j.add 1) (by rw[bH];have:=o.out;omega)).trans (Zf 1 ω);rw[add_zero']at a0 b0;rw[zE]at a1 b1;replace a0:wr.cell? l=some (.int .i64 E):=a0;replace a1:wr.cell? ⟨l.block,l.off+1,none⟩ =some (.slice xA Y Z):=a1;replace b0:wr.cell? j=some (.int .i64 C):=b0;replace b1:wr.cell? ⟨j.block,j.off+1,none⟩ =some (.slice V T U):=b1
     go_wp2_with fail;go_quiet (fail);have d:=below_drewN H nq;have ac:=ho.drewN nq;have NH:q+1<=1000000000000:=ω;have be:=Rl.out (some l) a c1 ω;have rJ:=Rl.out (some j) b c2 ω;have bs:(0:Int)<a:=pC.1;have bp:(0:Int)<b:=pC.2;have bo:0<a:=CE.1;have bl:0<b:=CE.2;have I:=η (⟨CE,hq⟩ :_/\_);clear CE hq;by_cases ao:C<E
     · have m:Hid (∀W,Below w.heap.size w W->W.cell? j=some (.int .i64 C)/\W.cell? ⟨j.block,j.off+1,none⟩ =some (.slice V T U)):=λW hW=>by
        have g0:=(hW.cell (p:=j.add 0) (by rw[bH];have:=o.out;omega)).trans (Zf 0 (by have:=I.out;omega));have g1:=(hW.cell (p:=j.add 1) (by rw[bH];have:=o.out;omega)).trans (Zf 1 (by have:=I.out;omega));rw[add_zero']at g0;rw[zE]at g1;exact⟨g0,g1⟩
       clear a0 a1 b0 b1
       go_wp2_with fail
       go_region_held3 (λw'=>w'.cell? j=some (.int .i64 C)/\w'.cell? ⟨j.block,j.off+1,none⟩ =some (.slice V T U))
        (first | exact m.out _ t | exact m.out _ (d.alloc d.size _) | exact m.out _ (d.drew.alloc d.drew.size _) | exact m.out _ (d.alloc d.size _).drew | exact m.out _ d | exact m.out _ d.drew)
        (first
          | ((refine xF w.heap.size i0 rfl (.tmp 29) (.tmp 33) rfl Hi.out gV.out fY.out gW.out rfl (ac.drew.alloc (.cells #[.int .i64 C, .slice V T U] 180)) rfl (yr.a08 (w:=(wr.drewN nq).drew) rfl C V T U 180) NH (d.drew.alloc d.drew.size _).size ?_);intro A6 d6 w6 nE lX iF
             have t:=(d.drew.alloc d.drew.size (.cells #[.int .i64 C, .slice V T U] 180)).grown lX (d.drew.alloc d.drew.size _).size (λk z=>(ho.2.lt z).1)))
       go_wp2_with fail;go_roundg (a+(b-1))
       case measure=>have:=z.out;have:=I.out;omega
       cases O.out with
       | cons k1 k2=>
         cases G.out with
         | cons k3 k4=>
           rename_i p2 u p1 v
           refine⟨some l,Pb (some j) c2,A6,a,c1,b-1,c2-1,q+1,d6,_,E2,_,p1::v,u,M++[p2],rfl,rfl,rfl,s,ω,f.out,g.out.tail r, .cons k3 k4,k2,nE,t, ?_, ?_,rfl,by have:=I.out;omega⟩
           · exact L.out.app (fO.one k1)
           have nO:p2.w<p1.w:=by
            rw[<-k1.1,<-k3.1];exact ao
           show _=_;rw[<-hM.out,zi,ae nO,ak];rfl
     have lr:decide (C<E)=false:=ξ
     have m:Hid (∀W,Below w.heap.size w W->W.cell? l=some (.int .i64 E)/\W.cell? ⟨l.block,l.off+1,none⟩ =some (.slice xA Y Z)):=λW hW=>by
      have g0:=(hW.cell (p:=l.add 0) (by rw[bH];have:=o.out;omega)).trans (Ze 0 (by have:=I.out;omega));have g1:=(hW.cell (p:=l.add 1) (by rw[bH];have:=o.out;omega)).trans (Ze 1 (by have:=I.out;omega));rw[add_zero']at g0;rw[zE]at g1;exact⟨g0,g1⟩
     clear a0 a1 b0 b1
     go_wp2_with fail
     go_region_held3 (λw'=>w'.cell? l=some (.int .i64 E)/\w'.cell? ⟨l.block,l.off+1,none⟩ =some (.slice xA Y Z))
      (first | exact m.out _ t | exact m.out _ (d.alloc d.size _) | exact m.out _ (d.drew.alloc d.drew.size _) | exact m.out _ (d.alloc d.size _).drew | exact m.out _ d | exact m.out _ d.drew)
      (first
        | ((refine xF w.heap.size i0 rfl (.tmp 37) (.tmp 41) rfl Hi.out gV.out fY.out gW.out rfl (ac.drew.alloc (.cells #[.int .i64 E, .slice xA Y Z] 180)) rfl (yr.a08 (w:=(wr.drewN nq).drew) rfl E xA Y Z 180) NH (d.drew.alloc d.drew.size _).size ?_);intro A6 d6 w6 nE lX iF
           have t:=(d.drew.alloc d.drew.size (.cells #[.int .i64 E, .slice xA Y Z] 180)).grown lX (d.drew.alloc d.drew.size _).size (λk z=>(ho.2.lt z).1)))
     go_wp2_with fail;go_roundg (a-1+b)
     case measure=>have:=z.out;have:=I.out;omega
     cases O.out with
     | cons k1 k2=>
       cases G.out with
       | cons k3 k4=>
         rename_i p2 u p1 v
         refine⟨Pb (some l) c1,some j,A6,a-1,c1-1,b,c2,q+1,d6,E1,_,_,v,p2::u,M++[p1],rfl,rfl,rfl,ω,r,f.out.tail s,g.out,k4, .cons k1 k2,nE,t, ?_, ?_,rfl,by have:=I.out;omega⟩
         · exact L.out.app (fO.one k3)
         have nO:¬p2.w<p1.w:=by
          rw[<-k1.1,<-k3.1];show¬C<E;omega
         show _=_;rw[<-hM.out,zi,aa nO,ak];rfl
def OP (f:List Int):Bool:=f.any λv=>decide (v<0)||decide (1048576<v)
def oD (f:List Int) (m:Int):Int:=
 if 288<f.length\/m<1\/15<m then 1 else if OP f=true then 1 else if 2 ^ m.toNat<(dQ f f.length).length then 3 else 0
theorem SE {f:List Int} {i:Nat} (hi:i<f.length) (h:ix f i<0\/1048576<ix f i):OP f=true:=by
 unfold OP;rw[List.any_eq_true];exact⟨ix f i,xr hi,by simpa using h⟩
theorem MZ {f:List Int} (h:∀j,j<f.length->0<=ix f j/\ix f j<=1048576):OP f=false:=by
 unfold OP;rw[List.any_eq_false];intro v hv;obtain⟨i,hi,e⟩ :=List.getElem_of_mem hv;have:=h i hi;have a:ix f i=v:=by simp [ix,hi,e]
 rw[a]at this;simp;omega
theorem zo (f:List Int) (k:Nat):(dQ f k).length<=k:=by
 induction k with
 | zero=>exact ag _
 | succ k a=>rw[dQ,af];split <;> simp <;> omega
def CkR (w:World) (f:List Int) (n:Nat) (k:Nat) (b a:Value) (wr:World):Prop:=
 ∃i c:Nat,b= .int .i64 c/\a= .int .i64 i/\wr=w/\i<=n/\Hid (c=(dQ f i).length)/\Hid (∀j,j<i->0<=ix f j/\ix f j<=1048576)/\Hid (k=n-i)
theorem LN (w:World) (B:Nat) (C:Option Addr) (n d:Nat) (f:List Int) (t:bU .i64 w B C n f) (m:Int) (W:(n:Int)<=4611686018427387904):
  Calls Tryz.prog 136 #[.slice C n d, .int .i64 m] w λe w'=>e= .returned (.int .i64 (oD f m))/\w=w':=by
 have u:=t.1;have Y:(0:Int)<=n:=ω;by_cases I:288<n\/m<1\/15<m
 · have hv:oD f m=1:=by unfold oD;rw[ae ω]
   rw[hv];have k:(288:Int)<n\/(¬(288:Int)<n/\m<1)\/(¬(288:Int)<n/\¬m<1/\15<m):=ω;clear I hv u t;rcases k with E | ⟨E,J⟩ | ⟨E,J,S⟩
   all_goals
    go_enter Tryz.func136,Tryz.ntmps136
    go_wp2_with fail;go_ret;exact⟨rfl,rfl⟩
 have E:¬(288:Int)<n:=ω;have J:¬m<1:=ω;have S:¬15<m:=ω;have hv:oD f m=if OP f=true then 1 else if 2 ^ m.toNat<(dQ f f.length).length then 3 else 0:=by unfold oD;rw[aa ω]
 have HV:=η hv;have F:=η u;have X:(n:Int)<=288:=ω;obtain⟨p,rfl⟩ :=aG (show 0<=m by omega);have M:p<=15:=ω;obtain⟨T,r⟩ :=ν (2 ^ p)
 have Z:1<=T/\T<=32768:=by
  rw[<-r];exact⟨ez _,au (bq ω M) δ⟩
 have R:(2:Int) ^ p=(T:Int):=by rw[<-r];simp
 have Q:IntKind.i64.wrap (T:Int)=(T:Int):=aK _ ω;have V:=η r;clear I hv u r;go_enter Tryz.func136,Tryz.ntmps136
 go_wp2_with fail;go_loopg [5,21] n (CkR w f n)
 case atStart=>exact⟨0,0,rfl,rfl,rfl,aF _,rfl,λj H=>ω,rfl⟩
 obtain⟨i,c,rfl,rfl,L,hi,k,a,G⟩ :=hrel;obtain rfl:=L.symm;by_cases g:i<n
 rotate_left
 · obtain rfl:i=n:=ω;have N:¬(i:Int)<(i:Int):=ω
   have q:oD f (p:Int)=if T<c then 3 else 0:=by
    rw[HV.out,aa (by rw[MZ (by rw[<-F.out];exact a.out)];decide),aU,V.out,<-F.out,<-k.out]
   have s:=η q;have O:(0:Int)<=c/\(c:Int)<=288:=by have:=k.out;have:=zo f i;omega
   clear q g;by_cases h:T<c
   · have D:(T:Int)<(c:Int):=ω;have l:=η h;clear h
     go_wp2_with fail;go_ret;exact⟨cn (by rw[s.out,ae l.out]),rfl⟩
   have D:¬(T:Int)<(c:Int):=ω;have l:=η h;clear h
   go_wp2_with fail;go_ret;exact⟨cn (by rw[s.out,aa l.out]),rfl⟩
 have N:(i:Int)<(n:Int)/\(0:Int)<=i:=ω;obtain⟨v,hv⟩ :=ν (ix f i);obtain⟨ad,rfl,P,x⟩ :=t.at_ (i:=i) g;rw[hv]at x;have y:c<=288:=by have:=k.out;have:=zo f i;omega
 have O:(0:Int)<=c/\(c:Int)<=288:=ω;have b:=η (⟨hv,g⟩ :_/\_);clear hv g y;by_cases z:v<0\/1048576<v
 · have q:oD f (p:Int)=1:=by rw[HV.out,ae (SE (by rw[<-F.out];exact b.out.2) (by rw[b.out.1];exact z))]
   have s:=η q;have A:v<0\/(¬v<0/\1048576<v):=ω;clear z q;rcases A with K | ⟨K,U⟩
   all_goals
    go_wp2_with fail;go_ret;exact⟨cn s.out.symm,rfl⟩
 have K:¬v<0:=ω;have U:¬1048576<v:=ω;clear z;by_cases hp:0<v
 · have xo:dQ f (i+1)=dQ f i++[(i:Int)]:=by rw[dQ,ae (by rw[b.out.1];exact hp)]
   have o:=η xo;clear xo
   go_wp2_with fail;go_roundg (n-(i+1))
   case measure=>have:=G.out;have:=b.out.2;omega
   case rel=>exact⟨i+1,c+1,by go_num,by go_num,rfl,b.out.2,by show _=_;rw[o.out,af,<-k.out];rfl,λj H=>by
    by_cases e:j=i
    · subst e;rw[b.out.1];omega
    exact a.out j ω,rfl⟩
 have xo:dQ f (i+1)=dQ f i:=by rw[dQ,aa (by rw[b.out.1];exact hp),ax]
 have o:=η xo;clear xo
 go_wp2_with fail;go_roundg (n-(i+1))
 case measure=>have:=G.out;have:=b.out.2;omega
 case rel=>exact⟨i+1,c,rfl,by go_num,rfl,b.out.2,by show _=_;rw[o.out];exact k.out,λj H=>by
  by_cases e:j=i
  · subst e;rw[b.out.1];omega
  exact a.out j ω,rfl⟩
end Go.Proofs.YtdhmnlpfhfmpfaaGreat
