/-
  part
-/
import Derived.Test.YtdhmnlpfhfmpfaaGreatLimG
import Derived.Test.YtdhmnlpfhfmpfaaGreatPk12
set_option linter.unusedVariables false
set_option maxRecDepth 100000
set_option maxHeartbeats 8000000
namespace Go.Proofs.YtdhmnlpfhfmpfaaGreat
open Go.RowKit
inductive fT {α β:Type} (R:α->β->Prop):List α->List β->Prop
 | nil:fT R [] []
 | cons {a:α} {b:β} {xs:List α} {ys:List β}:R a b->fT R xs ys->fT R (a::xs) (b::ys)
section
variable {α β:Type} {R R':α->β->Prop} {xs cs:List α} {ys ds:List β}
theorem fT.length (h:fT R xs ys):xs.length=ys.length:=by
 induction h with
 | nil=>rfl
 | cons _ _ ih=>rw[bc,bc,ih]
theorem fT.mono (h:fT R xs ys) (c:∀a∈xs,∀b,R a b->R' a b):fT R' xs ys:=by
 induction h with
 | nil=>exact .nil
 | cons h1 _ ih=>exact .cons (c _ aH _ h1) (ih λa d=>c a (aI _ d))
theorem fT.app (h:fT R xs ys) (h':fT R cs ds):fT R (xs++cs) (ys++ds):=by
 induction h with
 | nil=>exact h'
 | cons h1 _ ih=>exact .cons h1 ih
theorem fT.one {a:α} {b:β} (h:R a b):fT R [a] [b]:= .cons h .nil
theorem fT.perm (hp:cs.Perm xs) (h:fT R xs ys):∃ds,ds.Perm ys/\fT R cs ds:=by
 induction hp generalizing ys with
 | nil=>exact⟨ys,cS _,h⟩
 | cons x _ ih=>
   cases h with
   | cons b a=>
     obtain⟨ds,hd,e⟩ :=ih a;exact⟨_::ds,List.Perm.cons _ hd, .cons b e⟩
 | swap x y l=>
   cases h with
   | cons b a=>cases a with
     | cons f h4=>exact⟨_,List.Perm.swap _ _ _, .cons f (.cons b h4)⟩
 | trans _ _ ih1 ih2=>
   obtain⟨d1,p1,d⟩ :=ih2 h;obtain⟨d2,p2,c⟩ :=ih1 d;exact⟨d2,p2.trans p1,c⟩
theorem fT.mem (h:fT R xs ys):∀b∈ys,∃a∈xs,R a b:=by
 induction h with
 | nil=>intro b c;simp at c
 | cons h1 _ ih=>
   intro b c;rcases aY.1 c with rfl | c
   · exact⟨_,aH,h1⟩
   obtain⟨a,e,d⟩ :=ih b c;exact⟨a,aI _ e,d⟩
theorem fT.b16 (h:fT R xs ys):∀a∈xs,∃b∈ys,R a b:=by
 induction h with
 | nil=>intro b c;simp at c
 | cons h1 _ ih=>
   intro b c;rcases aY.1 c with rfl | c
   · exact⟨_,aH,h1⟩
   obtain⟨a,e,d⟩ :=ih b c;exact⟨a,aI _ e,d⟩
end
def mz (w:World) (B:Nat) (X:Nat->Prop) (e:El) (p:Pk):Prop:=e.1=p.w/\bT .i64 w B e.2.1 e.2.2.1 p.l/\(0<e.2.2.1->∀g,ak e.2.1=some g->¬X g)
def vy (w:World) (B:Nat) (X:Nat->Prop) (A:ay) (n:Nat) (L:List Pk):Prop:=∃D,yO w B A n D/\fT (mz w B X) D L
theorem vy.below {w w':World} {B n:Nat} {X:Nat->Prop} {A:ay} {L:List Pk} (h:vy w B X A n L) (b:Below B w w'):vy w' B X A n L:=by
 obtain⟨D,d,c⟩ :=h;exact⟨D,d.below b,c.mono λe _ p a=> ⟨a.1,a.2.1.below b,a.2.2⟩⟩
theorem vy.more {w:World} {B B' n:Nat} {X:Nat->Prop} {A:ay} {L:List Pk} (h:vy w B X A n L) (b:B<=B'):vy w B' X A n L:=by
 obtain⟨D,d,c⟩ :=h;exact⟨D,d.more b,c.mono λe _ p a=> ⟨a.1,a.2.1.more b,a.2.2⟩⟩
theorem Own.ar {w:World} {b0:Nat} {e:TypeId} {d n c g:Nat} {f:Nat->Value} (h:Own w b0 e d (some ⟨g,0,none⟩) n c f):Ar w g (n*d) f:=by
 rcases h with ⟨m,_⟩ | ⟨q,b,a,p,l,k,o,j,i⟩
 · cases m
 injection a with a;injection a with a;subst a;exact⟨b,e,(0,0),l, .inr rfl,by rw[j];exact eZ _ k,i⟩
theorem BM (w d:World) (g n c:Nat) (b:List El) (h:Dt d g n b w) (j:n<=1000) (a:Sm b) (f:OV b):
  Calls Tryz.prog 153 #[.slice (some ⟨g,0,none⟩) n c,tR] w (Tc d g n b):=by
 have i:=η (MJ w d g n c b h j a f);clear h a f;unfold tR at i⊢;go_enter Tryz.func153,Tryz.ntmps153
 go_wp2_with fail;refine i.out.mono ?_;rintro e k ⟨D,rfl,h⟩
 go_wp2_with fail;go_end0;exact⟨D,rfl,h⟩
theorem BN (w:World) (F:Value):
  Calls Tryz.prog 153 #[.slice none 0 0,F] w λe w'=>e= .returned (.tuple #[])/\w=w':=by
 have a:=η (MK w F);go_enter Tryz.func153,Tryz.ntmps153
 go_wp2_with fail;refine a.out.mono ?_;rintro e b ⟨rfl,rfl⟩
 go_wp2_with fail;go_end0;exact⟨rfl,rfl⟩
theorem yO.a0A {w:World} {g:Nat} (b:g=w.heap.size) (a:Int) (A:ay) (n c:Nat) (t:TypeId):yO (w.alloc (.cells #[.int .i64 a, .slice A n c] t)) (g+1) (some ⟨g,0,none⟩) 1 [(a,A,n,c)]:=by
 subst b;exact yO.lit w (a,A,n,c) t
theorem mz.fC {w w':World} {X k S:Nat->Prop} {e:El} {p:Pk} (h:mz w w.heap.size X e p) (j:bk w w' S) (q:∀g,S g->X g) (o:∀g,g<w.heap.size->k g->X g):mz w' w'.heap.size k e p:=by
 refine⟨h.1,(j.ri h.2.1 (ai _) (λa d b m=>h.2.2 a d.block (by rw[b];rfl) (q _ m))).more j.size,λa g f l=> ?_⟩;obtain⟨d,b,n, -⟩ :=h.2.1.at_ (i:=0) a;rw[b]at f;have c:d.block=g:=by simpa [ak] using f
 exact h.2.2 a g (by rw[b,<-c];rfl) (o g ω l)
theorem My {f:Int->Int} {L:List Pk} {S:aj} (h:L.Perm (fD f S)):∃S',S'.Perm S/\L=fD f S':=by
 refine⟨L.map λp=>p.l.headD 0, ?_, ?_⟩
 · have:=h.map (λp:Pk=>p.l.headD 0);refine this.trans ?_;unfold fD;rw[List.map_map];have e:((λp:Pk=>p.l.headD 0) ∘ λs=>(⟨f s,[s]⟩ :Pk))=id:=by funext s;rfl
   rw[e,List.map_id]
 unfold fD;rw[List.map_map]
 conv=>lhs;rw[<-List.map_id L]
 refine df λp hp=> ?_;obtain⟨s,d,b,a⟩ :=kB p (h.mem_iff.1 hp);obtain⟨pw,c⟩ :=p;simp only at b a;subst b a;rfl
def eo (f:aj):Nat->aj
 | 0=>[]
 | k+1=>eo f k++if 0<ix f k then [(k:Int)] else []
def qK (f:aj) (s:Int):Int:=ix f s.toNat
section
variable {α β:Type} {R R':α->β->Prop} {xs:List α} {ys:List β}
theorem fT.and (h:fT R xs ys) (h':fT R' xs ys):fT (λa b=>R a b/\R' a b) xs ys:=by
 induction h with
 | nil=>exact .nil
 | cons h1 _ ih=>cases h' with
   | cons d c=>exact .cons ⟨h1,d⟩ (ih c)
theorem fT.flip (h:fT R xs ys):fT (λb a=>R a b) ys xs:=by
 induction h with
 | nil=>exact .nil
 | cons h1 _ ih=>exact .cons h1 ih
theorem fT.pw {Q:α->α->Prop} {j:β->β->Prop} (h:fT R xs ys) (k:xs.Pairwise Q) (H:∀a∈xs,∀a'∈xs,∀b∈ys,∀c∈ys,R a b->R a' c->Q a a'->j b c):ys.Pairwise j:=by
 induction h with
 | nil=>exact List.Pairwise.nil
 | @cons a b xs ys h1 h2 ih=>
   obtain⟨s1,s2⟩ :=aW.1 k;refine aW.2 ⟨λq g=> ?_,ih s2 λa n a' f b m c d=>H a (aI _ n) a' (aI _ f) b (aI _ m) c (aI _ d)⟩;obtain⟨e,i,l⟩ :=h2.mem q g;exact H a aH e (aI _ i) b aH q (aI _ g) h1 l (s1 e i)
end
theorem xU {f:aj}:∀k:Nat,∀s∈eo f k,0<=s/\s<(k:Int)
 | 0,s,h=>by simp [eo]at h
 | k+1,s,h=>by
   rw[eo]at h;rcases aP.1 h with h | h
   · have:=xU k s h;omega
   split at h
   · have:=bf.1 h;omega
   simp at h
theorem FP {f:aj}:∀k:Nat,(eo f k).Pairwise (· < ·)
 | 0=>List.Pairwise.nil
 | k+1=>by
   rw[eo];refine List.pairwise_append.2 ⟨FP k, ?_,λs a t ht=> ?_⟩
   · split
     · exact ie _ _
     exact List.Pairwise.nil
   split at ht
   · rw[bf.1 ht];exact(xU k s a).2
   simp at ht
def a2q (N:Int->Nat) (e:El) (p:Pk):Prop:=ps e=N (p.l.headD 0)
def LvN (b:Nat) (f:aj) (i:Nat) (D:List El):Prop:=
 ∃N:Int->Nat,fT (a2q N) D (fD (qK f) (eo f i))/\(∀s∈eo f i,∀t∈eo f i,s<t->N s<N t)/\(∀s∈eo f i,N s<b)
theorem DF {N a:Int->Nat} {g:Int->Int}:∀{S:aj} {D:List El},(∀s∈S,a s=N s)->fT (a2q N) D (fD g S)->fT (a2q a) D (fD g S)
 | [],D,_,h=>by cases h;exact .nil
 | s::S,D,hs,h=>by
   cases h with
   | cons c b=>exact .cons (by show _=a s;rw[hs s aH];exact c) (DF (λt ht=>hs t (aI _ ht)) b)
theorem LvN.push {b j:Nat} {f:aj} {i:Nat} {D:List El} {v:Int} (h:LvN b f i D) (hv:ix f i=v) (hp:0<v) (k:b<j):LvN j f (i+1) (D++[(v,some ⟨b,0,none⟩,1,1)]):=by
 obtain⟨N,g,l,e⟩ :=h;have xK:eo f (i+1)=eo f i++[(i:Int)]:=by rw[eo,hv,af hp]
 refine⟨λs=>if s=(i:Int)then b else N s, ?_,λs a t ht d=> ?_,λs a=> ?_⟩
 · rw[xK];unfold fD at g⊢;rw[dR];refine fT.app (DF (λs a=> ?_) g) (fT.one ?_)
   · have:=xU i s a;exact aa ω
   show b=if(i:Int)=(i:Int)then b else _;rw[af rfl]
 · rw[xK]at a ht;have c:∀s,s∈eo f i->¬s=(i:Int):=λs a=>by have:=xU i s a;omega
   dsimp only;rcases aP.1 a with a | a <;> rcases aP.1 ht with ht | ht
   · rw[aa (c s a),aa (c t ht)];exact l s a t ht d
   · rw[aa (c s a),af (bf.1 ht)];exact e s a
   · have m:=bf.1 a;have:=xU i t ht;omega
   have m:=bf.1 a;have n:=bf.1 ht;omega
 dsimp only;rw[xK]at a;rcases aP.1 a with a | a
 · rw[aa (τ (xU i s a))];have:=e s a;omega
 rw[af (bf.1 a)];exact k
theorem VZ {g:Int->Int} {S:aj} {Q:Int->Int->Prop} {b:Pk->Pk->Prop} (h:S.Pairwise Q) (H:∀s t,Q s t->b ⟨g s,[s]⟩ ⟨g t,[t]⟩):(fD g S).Pairwise b:=by
 unfold fD;rw[List.pairwise_map];exact h.imp λa=>H _ _ a
theorem LvN.asc {b:Nat} {f:aj} {i:Nat} {D:List El} (h:LvN b f i D):OV D:=by
 obtain⟨N,w,v,z⟩ :=h;refine w.flip.pw (Q:=λp q=>p.l.headD 0<q.l.headD 0) (VZ (FP i) λs t c=>c) ?_;intro p hp q o e y x u r m a;have k:ps e=N (p.l.headD 0):=r;have j:ps x=N (q.l.headD 0):=m;obtain⟨s,n,B,g⟩ :=kB p hp;obtain⟨t,ht,A,d⟩ :=kB q o;rw[k,j,g,d];rw[g,d]at a;exact dh (v s n t ht a)
def zR (f:aj) (S:aj):Prop:=S.Pairwise λs t=>qK f s<qK f t\/(qK f s=qK f t/\s<=t)
theorem zR.le {f S:aj} (h:zR f S):S.Pairwise λs t=>qK f s<=qK f t:=h.imp λh=>by rcases h with h | h <;> omega
def LvR (w:World) (f:aj) (m:Nat) (k:Nat) (b a:Value) (wr:World):Prop:=
 ∃(i q c:Nat) (A:ay) (D:List El),b= .slice A q c/\a= .int .i64 i/\i<=m/\kI wr w.heap.size A q c D/\Below w.heap.size w wr/\Hid (fT (mz wr wr.heap.size λg=>ak A=some g\/g<w.heap.size) D (fD (qK f) (eo f i)))/\q<=i/\Hid (k=m-i)/\Hid (LvN wr.heap.size f i D)
theorem a0B {w wr d:World} {f:aj} {i q c:Nat} {A s:ay} {D:List El} {v:Int} (x:kI wr w.heap.size A q c D) (hA:fT (mz wr wr.heap.size λg=>ak A=some g\/g<w.heap.size) D (fD (qK f) (eo f i))) (t:w.heap.size<=wr.heap.size) (hv:ix f i=v) (hp:0<v)
  (b:((wr.alloc (.cells #[.int .i64 (i:Nat)] 3)).alloc (.cells #[.int .i64 v, .slice (some ⟨wr.heap.size,0,none⟩) 1 1] 180)).grownBy d (ak A)) (l:ak s=ak A\/ak s=some ((wr.alloc (.cells #[.int .i64 (i:Nat)] 3)).alloc (.cells #[.int .i64 v, .slice (some ⟨wr.heap.size,0,none⟩) 1 1] 180)).heap.size):
  fT (mz d d.heap.size λg=>ak s=some g\/g<w.heap.size) (D++[(v,some ⟨wr.heap.size,0,none⟩,1,1)]) (fD (qK f) (eo f (i+1))):=by
 have h:∀g,ak A=some g->g<wr.heap.size:=λg b=>(x.2.lt b).2;have j:bk (wr.alloc (.cells #[.int .i64 (i:Nat)] 3)) d (λg=>ak A=some g):=((bk.refl _ _).alloc _).grown b (λk m=> .inl m);have o:bk wr d (λg=>ak A=some g):=(((bk.refl _ _).alloc _).alloc _).grown b (λk m=> .inl m);rw[show eo f (i+1)=eo f i++[(i:Int)] by rw[eo,hv,af hp]];unfold fD at hA⊢;rw[dR];refine(hA.mono λe _ p y=>y.fC o (λg b=> .inl b) (λg b a=> ?_)).app (fT.one ?_)
 · rcases a with a | a
   · rcases l with e | e
     · left;rw[<-e];exact a
     rw[e]at a;injection a with a;simp at a;omega
   exact .inr a
 refine⟨?_, ?_,λ_ g n a=> ?_⟩
 · show v=qK f i;unfold qK;rw[aX,hv]
 · have z:=bT.lit .i64 wr [(i:Int)] 3;exact(j.ri z σ (λ_ C r u=>by injection r with r;subst r;exact absurd (h _ u) (Nat.lt_irrefl _))).more (by have:=j.size;simp at this;omega)
 have B:wr.heap.size=g:=by simpa [ak] using n
 rcases a with a | a
 · rcases l with e | e
   · rw[e]at a;have:=h _ a;omega
   rw[e]at a;injection a with a;simp at a;omega
 omega
def a2o (w:World) (f:aj) (m:Nat) (e:Ending) (w':World):Prop:=
 ∃A q c S,e= .returned (.slice A q c)/\Below w.heap.size w w'/\vy w' w'.heap.size (λg=>g<w.heap.size) A q (fD (qK f) S)/\((A=none/\q=0)\/∃g,A=some ⟨g,0,none⟩/\w.heap.size<=g/\g<w'.heap.size)/\S.Perm (eo f m)/\zR f S/\q<=c
theorem M4 (w:World) (C:ay) (m d:Nat) (f:aj) (hr:bT .i64 w w.heap.size C m f) (n:m<=1000) (hf:∀i,i<m->0<=ix f i/\ix f i<=1048576):
  Calls Tryz.prog 137 #[.slice C m d] w (a2o w f m):=by
 obtain⟨i0,hi,J,I,H⟩ :=aL wG;have Hi:=η hi;have i7:=η J;have gp:=η I;have i9:=η H;have Fj:(0:Int)<=m/\(m:Int)<=1000:=ω;have HF:=η hf;have HM:=η n;clear hi J I H hf n;go_enter Tryz.func137,Tryz.ntmps137
 go_wp2_with fail;go_loopg [3,8] m (LvR w f m)
 case atStart=>exact⟨0,0,0,none,[],rfl,rfl,aF _,kI.dN,ax _ _, .nil,ai _,rfl, ⟨λ_=>0, .nil,λs E=>by simp [eo]at E,λs E=>by simp [eo]at E⟩⟩
 obtain⟨i,q,c,A,D,rfl,rfl,ac,b,a,hA,hq,o,hN⟩ :=hrel;by_cases j:i<m
 · have vV:(i:Int)<(m:Int)/\(0:Int)<=i:=ω;obtain⟨v,hv⟩ :=ν (ix f i);obtain⟨ad,rfl,Y,y⟩ :=hr.at_ (i:=i) j;rw[hv]at y;have ah:wr.cell? (ad.add i)=some (.int .i64 v):=(a.cell (p:=ad.add i) (by rw[bG];exact Y)).trans y;have R:=HF.out i j;rw[hv]at R;have HV:=η (⟨hv,j⟩ :_/\_);clear y hv j;by_cases hp:0<v
   · have jB:=(b.alloc (.cells #[.int .i64 (i:Nat)] 3)).alloc (.cells #[.int .i64 v, .slice (some ⟨wr.heap.size,0,none⟩) 1 1] 180);have cQ:=yO.a0A (w:=wr.alloc (.cells #[.int .i64 (i:Nat)] 3)) (g:=wr.heap.size+1) σ v (some ⟨wr.heap.size,0,none⟩) 1 1 180;have z:Below w.heap.size w ((wr.alloc (.cells #[.int .i64 (i:Nat)] 3)).alloc (.cells #[.int .i64 v, .slice (some ⟨wr.heap.size,0,none⟩) 1 1] 180)):=(a.alloc a.size _).alloc (aw a.size σ) _;have O6:q+1<=1000000000000:=by have:=HM.out;omega
     go_wp2_with (at_builtin;(refine tA w.heap.size i0 rfl (.tmp 15) (.tmp 20) rfl Hi.out i7.out gp.out i9.out rfl jB rfl cQ O6 z.size ?_);intro A4 d4 w4 bL x dT)
     go_roundg (m-(i+1))
     case measure=>have:=o.out;have:=HV.out.2;omega
     case rel=>exact⟨i+1,q+1,d4,A4,_,rfl,by go_num,HV.out.2,bL,z.grown x z.size (λk o=>(b.2.lt o).1),a0B b hA.out a.size HV.out.1 hp x dT,ω,rfl,hN.out.push HV.out.1 hp (by have G:=x.size;simp at G;omega)⟩
   have xK:eo f (i+1)=eo f i:=by rw[eo,aa (by rw[HV.out.1];exact hp),aA]
   have O:=η xK;clear xK
   go_wp2_with fail;go_roundg (m-(i+1))
   case measure=>have:=o.out;have:=HV.out.2;omega
   case rel=>exact⟨i+1,q,c,A,D,rfl,by go_num,HV.out.2,b,a,by show fT _ _ _;rw[O.out];exact hA.out,ω,rfl,by have G:=hN.out;unfold LvN at G⊢;rw[O.out];exact G⟩
 obtain rfl:i=m:=ω;have vV:¬(i:Int)<(i:Int):=ω;have hA:=hA.out;have P:=b.2.jT
 have u:Sm D:=λe he=>by
  obtain⟨p,hp,n⟩ :=hA.b16 e he;obtain⟨s,E,G,h2⟩ :=kB p hp;rw[n.1,G];unfold qK;by_cases U:s.toNat<i
  · have:=HF.out _ U;omega
  have:ix f s.toNat=0:=by
   have hl:=hr.1;unfold ix;rw[aq,bw ω];rfl
  rw[this];omega
 rcases b.2 with ⟨p9,oA,zz⟩ | ⟨g,am,rfl,sL⟩
 · subst p9 oA zz;have hD:D=[]:=aG b.1.symm;subst hD
   have hS:eo f i=[]:=by
    have:=hA.length;rw[kA]at this;exact aG this.symm
   have HP:=η (⟨a,hS⟩ :_/\_);clear hA u b a
   go_wp2_with fail;refine(BN _ _).mono ?_;rintro e Q ⟨rfl,rfl⟩
   go_wp2_with fail;go_ret;exact⟨none,0,0,[],rfl,HP.out.1, ⟨[], ⟨rfl,λh0=>ω⟩, .nil⟩, .inl ⟨rfl,rfl⟩,by rw[HP.out.2],List.Pairwise.nil,ai _⟩
 have L:Dt wr g q D wr:= ⟨b.1.symm,bk.refl _ _,Own.ar b.2⟩;have HC:=η (BM wr wr g q c D L (τ HM.out) u hN.out.asc);have K:w.heap.size<=g:=(b.2.lt rfl).1;have HA:=η (⟨hA,P,K,a⟩ :_/\_/\_/\_);clear hA P K L u b a;unfold tR at HC
 go_wp2_with fail;refine HC.out.mono ?_;rintro e Q ⟨D',rfl,F,V,W⟩
 go_wp2_with fail;go_ret;obtain⟨hA,P,K,a⟩ :=HA.out;obtain⟨N,n1,n2,n3⟩ :=hN.out;obtain⟨L',gV,M⟩ :=fT.perm W (hA.and n1);obtain⟨S,B,rfl⟩ :=My gV;have ab:=M.mono λe _ p n=>n.1
 have T:(fD (qK f) S).Pairwise λp q=>p.w<q.w\/(p.w=q.w/\p.l.headD 0<=q.l.headD 0):=M.pw V λe he e' ae p hp q hq r r' X=>by
  obtain⟨s,E,e1,e2⟩ :=kB p hp;obtain⟨t,ht,e3,e4⟩ :=kB q hq;have r1:ps e=N (p.l.headD 0):=r.2;have r2:ps e'=N (q.l.headD 0):=r'.2;have w1:e.1=p.w:=r.1.1;have w2:e'.1=q.w:=r'.1.1;rcases X with h | ⟨h,h'⟩
  · left;omega
  right;refine⟨ω, ?_⟩;rw[e2,e4];rw[r1,r2,e2,e4]at h';rcases Int.lt_or_le t s with h9 | h9
  · have:=n2 t (B.mem_iff.1 ht) s (B.mem_iff.1 E) h9;have al:N s<=N t:=h';omega
  exact h9
 have Z:fT (mz Q Q.heap.size λg=>g<w.heap.size) D' (fD (qK f) S):=ab.mono λe _ p n=>n.fC F.fC (λk o=>by subst o;exact .inl rfl) (λ_ _ h=> .inr h);refine⟨some ⟨g,0,none⟩,q,c,S,rfl,a.trans (F.fC.below (λk o=>by subst o;exact K) a.size), ⟨D', ⟨F.len.symm, ?_⟩,Z⟩, .inr ⟨g,rfl,K,F.lt⟩,B, ?_,P⟩
 · exact F.ar.rd F.lt (ai _)
 unfold fD at T;rw[List.pairwise_map]at T;exact T
theorem fT.at_ {α β:Type} {R:α->β->Prop} {xs:List α} {ys:List β} (h:fT R xs ys) (a:α) (b:β):∀i,i<xs.length->R (xs.getD i a) (ys.getD i b):=by
 induction h with
 | nil=>intro i hi;simp at hi
 | cons h1 _ ih=>
   intro i hi;cases i with
   | zero=>exact h1
   | succ i=>exact ih i (by simpa using hi)
theorem WE (L:List Pk) (t:Nat) (h:2*t+1<L.length):(dv L).take (t+1)=(dv L).take t++[⟨(L.getD (2*t) ⟨0,[]⟩).w+(L.getD (2*t+1) ⟨0,[]⟩).w,(L.getD (2*t) ⟨0,[]⟩).l++(L.getD (2*t+1) ⟨0,[]⟩).l⟩]:=by
 induction L using dv.induct generalizing t with
 | case1 a b r ih=>
   rw[dv];cases t with
   | zero=>rfl
   | succ t=>
     have:=ih t (by simp only [List.length_cons]at h;omega);rw[cO,cO,this];rw[show 2*(t+1)=2*t+1+1 by omega,show 2*t+1+1+1=(2*t+1)+1+1 by omega];rfl
 | case2 u h'=>
   match u,h' with
   | [],_=>simp at h
   | [a],_=>simp at h
   | a::b::r,h'=>exact absurd rfl (h' a b r)
def pF (v:Int) (A:ay) (n c:Nat) (j:Nat):Value:=if j=0 then .int .i64 v else .slice A n c
def PdB (wr:World) (g c:Int) (j f:ay) (h i d e:Nat) (l k:Value) (wx:World):Prop:=
 ∃b a,l= .pointer (some ⟨b,0,none⟩)/\k= .pointer (some ⟨a,0,none⟩)/\Ar wx b 2 (pF g j h i)/\Ar wx a 2 (pF c f d e)/\wr.heap.size<=b/\wr.heap.size<=a/\Below wr.heap.size wr wx
theorem zo {w:World} {g:Nat} (a:g=w.heap.size) (v:Int) (A:ay) (n c:Nat) (t:TypeId):Ar (w.alloc (.cells #[.int .i64 v, .slice A n c] t)) g 2 (pF v A n c):=by
 subst a
 exact Ar.new w #[.int .i64 v, .slice A n c] t rfl (λi hi=>by
  obtain rfl | rfl:i=0\/i=1:=ω
  · rfl
  rfl)
theorem b1b (wr:World) (e a:Int) (h d:ay) (f g b c:Nat):PdB wr e a h d f g b c (.pointer (some ⟨wr.heap.size,0,none⟩)) (.pointer (some ⟨wr.heap.size+1,0,none⟩)) ((wr.alloc (.cells #[.int .i64 e, .slice h f g] 180)).alloc (.cells #[.int .i64 a, .slice d b c] 180)).drew:=
 ⟨_,_,rfl,rfl,((zo rfl e h f g _).alloc _).drew,(zo σ a d b c _).drew,ai _,fq _,(((ax _ wr).alloc (ai _) _).alloc σ _).drew⟩
theorem b1c (wr:World) (e a:Int) (h d:ay) (f g b c:Nat):PdB wr e a h d f g b c (.pointer (some ⟨wr.heap.size+1,0,none⟩)) (.pointer (some ⟨wr.heap.size,0,none⟩)) ((wr.alloc (.cells #[.int .i64 a, .slice d b c] 180)).alloc (.cells #[.int .i64 e, .slice h f g] 180)).drew:=
 ⟨_,_,rfl,rfl,(zo σ e h f g _).drew,((zo rfl a d b c _).alloc _).drew,fq _,ai _,(((ax _ wr).alloc (ai _) _).alloc σ _).drew⟩
def PdR (w:World) (L:List Pk) (k:Nat) (b a:Value) (wr:World):Prop:=
 ∃(t p q c:Nat) (A:ay) (D:List El),b= .slice A q c/\a= .int .i64 p/\Hid (p=2*t)/\kI wr w.heap.size A q c D/\Below w.heap.size w wr/\Hid (fT (mz wr wr.heap.size λg=>ak A=some g\/g<w.heap.size) D ((dv L).take t))/\Hid (k=L.length-p)/\p<=L.length+1
def EC (w:World) (X:Nat->Prop) (L:List Pk) (e:Ending) (w':World):Prop:=
 ∃g q c,e= .returned (.slice (some ⟨g,0,none⟩) q c)/\Below w.heap.size w w'/\vy w' w'.heap.size X (some ⟨g,0,none⟩) q L/\q<=c/\w.heap.size<=g/\g<w'.heap.size
theorem P4 {w':World} {b a:Nat} {g c:Int} {k f:ay} {h j d e:Nat} (h5:Ar w' b 2 (pF g k h j)) (h6:Ar w' a 2 (pF c f d e)):
  w'.cell? ⟨b,0,none⟩ =some (.int .i64 g)/\w'.cell? ⟨b,1,none⟩ =some (.slice k h j)/\w'.cell? ⟨a,0,none⟩ =some (.int .i64 c)/\w'.cell? ⟨a,1,none⟩ =some (.slice f d e):=
 ⟨h5.cell (i:=0) ω,h5.cell (i:=1) ω,h6.cell (i:=0) ω,h6.cell (i:=1) ω⟩
theorem Tr (wc:World) (A1 A2:ay) (b c1 a c2:Nat) (d c:aj) (l:bT .i64 wc wc.heap.size A1 b d) (k:bT .i64 wc wc.heap.size A2 a c) (h:b<=400000) (g:a<=400000):
  Calls Tryz.prog 155 #[.slice (some ⟨wc.heap.size,0,none⟩) 2 2] (wc.alloc (.cells #[.slice A1 b c1, .slice A2 a c2] 63)).drew (MkI (wc.alloc (.cells #[.slice A1 b c1, .slice A2 a c2] 63)).drew (d++c)):=by
 have e:=(Ar.new wc #[.slice A1 b c1, .slice A2 a c2] 63 (m:=2) (f:=λj=>if j=0 then .slice A1 b c1 else .slice A2 a c2) rfl (λi hi=>by
  obtain rfl | rfl:i=0\/i=1:=ω
  · rfl
  rfl)).drew
 refine KL _ wc.heap.size wc.heap.size (by simp [World.drew]) A1 A2 b c1 a c2 d c (e.cell (i:=0) ω) (e.cell (i:=1) ω) (l.alloc (ai _) _) (k.alloc (ai _) _) ?_ h g;show wc.heap.size<=(wc.alloc _).heap.size;simp
def SmP (L:List Pk):Prop:=∀p∈L,0<=p.w/\p.w<=1099511627776/\p.l.length<=400000
theorem Mv (w:World) (g n c B:Nat) (L:List Pk) (X:Nat->Prop) (hX:∀g,X g->g<w.heap.size) (hp:vy w B X (some ⟨g,0,none⟩) n L) (hB:B<=w.heap.size) (hn:n<=1000) (Z:SmP L) (h2:2<=n):
  Calls Tryz.prog 139 #[.slice (some ⟨g,0,none⟩) n c] w (EC w X (dv L)):=by
 obtain⟨i0,hi,W,V,U⟩ :=aL wG;have Hi:=η hi;have i7:=η W;have gp:=η V;have i9:=η U;obtain⟨E,pd,Vf⟩ :=hp;have ae:n=L.length:=pd.1.trans Vf.length;have x6:(0:Int)<=n/\(n:Int)<=1000:=ω;have YA:=η pd;have bo:=η hX;clear hX;have al:=η Vf;have yN:=η Z;have D:=η (⟨ae,h2,hB,hn⟩ :_/\_/\_/\_);clear hi W V U pd Vf Z ae h2 hB hn;go_enter Tryz.func139,Tryz.ntmps139
 go_wp2_with fail;go_loopg [3,4] n (PdR w L)
 case atStart=>exact⟨0,0,0,0,none,[],rfl,rfl,rfl,kI.dN,ax _ _,by rw[iE];exact .nil,by show n=_;have:=D.out.1;omega,ω⟩
 obtain⟨t,p,q,c2,A2,D2,rfl,rfl,G,C,M,hA,b,f⟩ :=hrel;have N:=D.out.1;obtain⟨p1,K⟩ :=ν (p+1);have am:(p:Int)+1=(p1:Int):=ω;have bL:(0:Int)<=p/\(p:Int)<=2000/\(0:Int)<=p1/\(p1:Int)<=2000:=by have:=D.out;omega
 by_cases d:p1<n
 rotate_left
 · have vV:¬(p1:Int)<(n:Int):=ω;have ID:(dv L).take t=dv L:=aC (by rw[kD];have:=G.out;have:=D.out;omega);have I:=hA.out;rw[ID]at I;have ab:q=(dv L).length:=by have h1:=C.1;have h2:=I.length;omega
   have O6:0<q:=by rw[ab,kD];have:=D.out;omega
   have fI:=C.2.jT;obtain⟨g2,rfl⟩ :=C.2.addr ω
   have cu:Hid (EC w X (dv L) (.returned (.slice (some ⟨g2,0,none⟩) q c2)) wr):=
    ⟨g2,q,c2,rfl,M, ⟨D2, ⟨C.1,C.2.rd⟩,I.mono λe _ pk hm=>hm.fC (S:=λ_=>False) (bk.refl _ _) (λk b=>b.elim) (λk _ b=> .inr (bo.out k b))⟩,fI,(C.2.lt rfl).1,(C.2.lt rfl).2⟩
   clear d ID I ab O6 fI N K
   go_wp2_with fail;go_ret;exact cu.out
 obtain⟨x,a⟩ :=ν (el E p);obtain⟨y,hy⟩ :=ν (el E p1);have bi:E.length=n:=YA.out.1.symm;have A:=al.out.at_ (0,none,0,0) ⟨0,[]⟩ p ω;have z:=al.out.at_ (0,none,0,0) ⟨0,[]⟩ p1 ω
 change mz _ _ _ (el E p) _ at A
 change mz _ _ _ (el E p1) _ at z
 rw[a]at A;rw[hy]at z;obtain⟨m,u,i,s⟩ :=x;obtain⟨l,r,h,o⟩ :=y;obtain⟨ad,H,Qa,mM⟩ :=YA.out.2 ω;obtain rfl:ad= ⟨g,0,none⟩ :=by injection H with H;exact H.symm
 have O:g<w.heap.size:=aB Qa D.out.2.2.1
 have cell:∀j,j<n*2->wr.cell? ⟨g,j,none⟩ =some (yJ E j):=λj hj=>by
  have:=mM j hj;rw[oh]at this;exact(M.cell (p:= ⟨g,j,none⟩) O).trans this
 have a0:=cell (p*2) ω;have a1:=cell (p*2+1) ω;have b0:=cell (p1*2) ω;have b1:=cell (p1*2+1) ω;rw[tG E rfl,a]at a0;rw[xq E rfl,a]at a1;rw[tG E rfl,hy]at b0;rw[xq E rfl,hy]at b1;replace a0:wr.cell? ⟨g,p*2,none⟩ =some (.int .i64 m):=a0;replace a1:wr.cell? ⟨g,p*2+1,none⟩ =some (.slice u i s):=a1;replace b0:wr.cell? ⟨g,p1*2,none⟩ =some (.int .i64 l):=b0;replace b1:wr.cell? ⟨g,p1*2+1,none⟩ =some (.slice r h o):=b1;have vV:(p1:Int)<(n:Int)/\(p:Int)<(n:Int):=ω;have w1:IntKind.i64.wrap ((p:Int)+1)=(p1:Int):=by rw[am];exact qm ω
 have w2:IntKind.i64.wrap (p1:Int)=(p1:Int):=qm ω;have aE:g<wr.heap.size:=aB O M.size;have ap:g<wr.heap.size+1:=ω;have ao:¬g=wr.heap.size:=ω;have an:¬g=wr.heap.size+1:=ω;have HP:=η (⟨A,z,K,d,N,O,f⟩ :_/\_/\_/\_/\_/\_/\_);clear cell mM a hy bi A z K d N O H Qa f;go_upto_region 5 with fail
 go_cut [5,6] (λv5 v6 wx=>PdB wr m l u r i s h o v5 v6 wx)
 case first=>
  go_region
  all_goals
   go_wp2_with fail;go_meet
   first
    | exact b1b wr m l u r i s h o
    | exact b1c wr m l u r i s h o
 clear a0 a1 b0 b1 w1 w2 aE ap ao an;obtain⟨g5,g6,rfl,rfl,h5,h6,l5,l6,P⟩ :=hcut;obtain⟨A,z,K,d,N,O,f⟩ :=HP.out;have uC:=M.trans (P.mono M.size);have ac:=C.keeps P;have nK:m=(L.getD p ⟨0,[]⟩).w/\l=(L.getD p1 ⟨0,[]⟩).w:= ⟨A.1,z.1⟩;have rx:=(A.2.1.more D.out.2.2.1).below uC;have ry:=(z.2.1.more D.out.2.2.1).below uC;have T:=yN.out (L.getD p ⟨0,[]⟩) (by rw[aq,br ω];exact bU _);have R:=yN.out (L.getD p1 ⟨0,[]⟩) (by rw[aq,br ω];exact bU _);have bx:(0:Int)<=m/\m<=1099511627776/\(0:Int)<=l/\l<=1099511627776:=ω;have Cp:i<=400000:=by have:i=_:=rx.1;rw[this];exact T.2.2
 have Y:h<=400000:=by have:h=_:=ry.1;rw[this];exact R.2.2
 have bp:=η (Tr wc u r i s h o _ _ (rx.more uC.size) (ry.more uC.size) Cp Y);obtain⟨v,F⟩ :=ν (m+l);have bB:(0:Int)<=v/\v<=2199023255552:=ω;have bv:IntKind.i64.wrap (m+l)=v:=by rw[F];exact aM _ ω
 have bt:IntKind.i64.wrap v=v:=aM _ ω;have HX:=η (⟨A,z,K,d,N,f,nK,F⟩ :_/\_/\_/\_/\_/\_/\_/\m+l=v)
 have O6:q+1<=1000000000000:=by
  have h1:=ac.1;have h2:=hA.out.length;have h3:((dv L).take t).length<=(dv L).length:=List.length_take_le' _ _;rw[kD]at h3;have:=D.out;omega
 have Kc:=uC.size;have rS:∀k,ak A2=some k->k<wr.heap.size:=λk b=>(C.2.lt b).2;have ub:=η (⟨rS,l5,l6,P⟩ :_/\_/\_/\_);clear A z K d N f nK T R Cp Y O HP rx ry rS l5 l6;go_upto_region 6 with fail
 go_region_held3 (λw'=>w'.cell? ⟨g5,0,none⟩ =some (.int .i64 m)/\w'.cell? ⟨g5,1,none⟩ =some (.slice u i s)/\w'.cell? ⟨g6,0,none⟩ =some (.int .i64 l)/\w'.cell? ⟨g6,1,none⟩ =some (.slice r h o))
  (first | exact P4 m5 m6 | exact P4 (k5.alloc _) (k6.alloc _) | exact P4 k5 k6 | exact P4 (h5.alloc _).drew (h6.alloc _).drew | exact P4 h5.drew h6.drew | exact P4 h5 h6)
  (first
    | (go_at_call 155;(refine bp.out.mono ?_);rintro e w5 ⟨A5,n5,Q,rfl,nV,mr⟩
       have k5:=((h5.alloc (.cells #[.slice u i s, .slice r h o] 63)).drew).keeps mr;have k6:=((h6.alloc (.cells #[.slice u i s, .slice r h o] 63)).drew).keeps mr;have o5:=((ac.alloc (.cells #[.slice u i s, .slice r h o] 63)).drew).keeps mr;have s5:wc.heap.size+1<=w5.heap.size:=by have:=mr.size;simpa [World.drew] using this)
    | (have _g:=o5;(refine xY w.heap.size i0 rfl (.tmp 23) (.tmp 36) rfl Hi.out i7.out gp.out i9.out rfl (o5.alloc _) rfl (yO.a0A rfl v A5 n5 Q 180) O6 ξ ?_);intro A6 d6 w6 nO mS iZ
       have m5:=(k5.alloc _).grown mS (λe=>by have:=ub.out.1 _ e.symm;have:=ub.out.2.1;omega);have m6:=(k6.alloc _).grown mS (λe=>by have:=ub.out.1 _ e.symm;have:=ub.out.2.2.1;omega)))
 obtain⟨p2,IJ⟩ :=ν (p+2);have bI:(p:Int)+2=(p2:Int):=ω;have Ex:=η IJ;clear IJ
 go_wp2_with fail;go_roundg (n-p2)
 case measure=>have:=b.out;have:=Ex.out;have:=HX.out;omega
 obtain⟨A,z,K,d,N,f,nK,F⟩ :=HX.out;obtain⟨rS,l5,l6,P⟩ :=ub.out;have c0:bk wr wc (λk=>ak A2=some k):=bk.bJ P;have bl:=((c0.alloc (.cells #[.slice u i s, .slice r h o] 63)).drew).trans (bk.bJ (S:=λ_=>False) mr) (λk b=>b.elim);have c3:=(bl.alloc (.cells #[.int .i64 v, .slice A5 n5 Q] 180)).grown mS (λk b=> .inl b);have Q:bk w5 w6 (λk=>ak A2=some k):=((bk.refl w5 _).alloc (.cells #[.int .i64 v, .slice A5 n5 Q] 180)).grown mS (λk b=> .inl b);have be:Below w.heap.size w w6:=M.trans (c3.below (λk b=>(C.2.lt b).1) M.size);have bs:=P.size
 have ah:∀k,ak A5=some k->wr.heap.size<=k/\k<w5.heap.size:=λk b=>by
  have h1:=(nV.2.lt b).1;have h2:=(nV.2.lt b).2;simp [World.drew]at h1;omega
 refine⟨t+1,p2,q+1,d6,A6,_,rfl,rfl,by have:=Ex.out;have:=G.out;show _=_;omega,nO,be, ?_,by show n-p2=_;have:=D.out.1;omega,τ Ex.out⟩;show fT _ _ _;rw[WE L t (τ G.out),<-G.out,K];refine(hA.out.mono λe _ pk hm=>hm.fC c3 (λk b=> .inl b) (λk b a=> ?_)).app (fT.one ⟨?_, ?_,λ_ k b a=> ?_⟩)
 · rcases a with a | a
   · rcases iZ with J | J
     · left;rw[<-J];exact a
     rw[J]at a;injection a with a;simp at a;omega
   exact .inr a
 · show v=_;rw[<-F,nK.1,nK.2]
 · exact(Q.ri nV.rd (ai _) (λ_ ad J hs=>by
    have h9:=(ah ad.block (by rw[J];rfl)).1;have h8:=rS _ hs;omega)).more Q.size
 have h9:=ah k b;have ca:=M.size;rcases a with a | a
 · rcases iZ with J | J
   · rw[J]at a;have h8:=rS _ a;omega
   rw[J]at a;injection a with a;simp at a;omega
 omega
def PA (A:ay) (c:Nat):ay:=if c=1 then A else A.map (·.add 2)
theorem CO {i:TypeInfo} (hi:Tryz.prog.info? 180 =some i) (b:i.size=2) (A:ay) (n c:Nat) (d:1<=n) (W:World):
  (Instr.slice 177 (.slice A n c) (some (.int .i64 1)) none none).run Tryz.prog W= .ok (.slice (PA A c) (n-1) (c-1)) W:=by
 have a:Tryz.prog.elem 177 = 180 :=by simp [Program.elem,Tryz.underlying177]
 rw[run_slice_l W 177 A n c (by rw[a];exact Tryz.underlying177) .i64 1 ω ω,a];simp [sizeOf,typeInfo,hi,b,sliced,PA]
theorem yO.tail {w:World} {B n c:Nat} {A:ay} {e:El} {D:List El} (h:yO w B A n (e::D)) (l:n<=c):yO w B (PA A c) (n-1) D:=by
 have k:n=D.length+1:=h.1;refine⟨ω,λm=> ?_⟩;obtain⟨a,j,d,b⟩ :=h.2 ω;refine⟨a.add 2,by unfold PA;rw[aa ω,j];rfl,by rw[bG];exact d,λi hi=> ?_⟩;have g:=b (2+i) ω
 have f:(a.add 2).add i=a.add (2+i):=by
  rw[GZ]
 rw[f,g]
 have:yJ (e::D) (2+i)=yJ D i:=by
  unfold yJ el;rw[show(2+i)%2=i%2 by omega,show(2+i)/2=i/2+1 by omega];rfl
 rw[this]
theorem add_zero' (a:Addr):a.add 0=a:=by unfold Addr.add;simp
theorem zU (a:Addr):a.add 1= ⟨a.block,a.off+1,none⟩ :=by unfold Addr.add;simp
def MgR (w:World) (B:Nat) (X:Nat->Prop) (f e:List Pk) (k:Nat) (d b a:Value) (wr:World):Prop:=
 ∃(A1 A2 A:ay) (n1 c1 n2 c2 q c:Nat) (E1 E2 D:List El) (M1 M2 M:List Pk),d= .slice A1 n1 c1/\b= .slice A2 n2 c2/\a= .slice A q c/\n1<=c1/\n2<=c2/\Hid (yO w B A1 n1 E1)/\Hid (yO w B A2 n2 E2)/\Hid (fT (mz w B X) E1 M1)/\Hid (fT (mz w B X) E2 M2)/\
  kI wr w.heap.size A q c D/\Below w.heap.size w wr/\Hid (fT (mz w B X) D M)/\Hid (M++Cq M1 M2=Cq f e)/\Hid (k=n1+n2)/\q+n1+n2<=3000
theorem Mf (w:World) (B a c1 b c2:Nat) (A1 A2:ay) (S R:List Pk) (X:Nat->Prop) (h1:vy w B X A1 a S) (h2:vy w B X A2 b R) (hB:B<=w.heap.size) (sJ:0<a) (p9:a<=1000) (oA:b<=1000) (s:a<=c1) (r:b<=c2):
  Calls Tryz.prog 138 #[.slice A1 a c1, .slice A2 b c2] w (EC w X (Cq S R)):=by
 obtain⟨i0,hi,K,F,J⟩ :=aL wG;have Hi:=η hi;have i7:=η K;have gp:=η F;have i9:=η J;have x6:(0:Int)<=a/\(a:Int)<=1000/\(0:Int)<=b/\(b:Int)<=1000:=ω;obtain⟨N,hN⟩ :=ν (a+b);have be:(a:Int)+(b:Int)=(N:Int):=ω;have oZ:=run_make (P:=Tryz.prog) w 177 180 i0 _ Tryz.underlying177 hi K .i64 .i64 0 (N:Int) (ez _) ω (by rw[J];omega) ω;rw[aX,F]at oZ;obtain⟨Zc,Q⟩ :=ν (madeCells (Value.agg #[.int .i64 0, .slice none 0 0]).cells (N*2));have ah:Zc.size=N*2:=by rw[<-Q];simp [madeCells]
 rw[Q]at oZ;have qN:(Instr.makeSlice 177 (.int .i64 0) (.int .i64 (N:Int))).run Tryz.prog w= .ok (.slice (some ⟨w.heap.size,0,none⟩) 0 N) (w.alloc (.cells Zc 180)):=oZ;have ab:kI (w.alloc (.cells Zc 180)) w.heap.size (some ⟨w.heap.size,0,none⟩) 0 N []:= ⟨rfl, .inr ⟨w.heap.size,Zc,rfl,ai _,dt w _,aF _,by unfold maxLen;omega,ah,λi hi=>ω⟩⟩;have oJ:=λ(A:ay) (n c:Nat) (hn:1<=n) W=>CO hi F A n c hn W;have CV:=η oJ;obtain⟨D1,f,G⟩ :=h1;obtain⟨D2,g,O⟩ :=h2
 have fy:Hid (MgR w B X S R N (.slice A1 a c1) (.slice A2 b c2) (.slice (some ⟨w.heap.size,0,none⟩) 0 N) (w.alloc (.cells Zc 180))):=
  ⟨A1,A2,_,a,c1,b,c2,0,N,D1,D2,[],S,R,[],rfl,rfl,rfl,s,r,f,g,G,O,ab,(ax _ w).alloc (ai _) _, .nil,rfl,hN.symm,ω⟩
 have o:=η hB;have ad:0<(Cq S R).length:=by rw[uM,<-G.length,<-f.1];omega
 have ap:=η ad;clear hi K F J oZ Q ah ab oJ f G g O hN sJ p9 oA s r hB ad;go_enter Tryz.func138,Tryz.ntmps138
 go_wp2_with fail;go_loopg [0,1,5] N (MgR w B X S R)
 case atStart=>exact fy.out
 clear fy qN x6;obtain⟨A1,A2,A,a,c1,b,c2,q,c,E1,E2,D,v,u,M,rfl,rfl,rfl,s,r,f,g,G,O,ho,H,L,hM,z,hq⟩ :=hrel;have x6:(0:Int)<=a/\(a:Int)<=3000/\(0:Int)<=b/\(b:Int)<=3000:=ω;by_cases CI:0<a/\0<b
 rotate_left
 · have ae:(a=0)\/(0<a/\b=0):=ω
   have pg:Cq v u=v++u:=by
    have l1:v.length=a:=by rw[<-G.out.length,<-f.out.1]
    have l2:u.length=b:=by rw[<-O.out.length,<-g.out.1]
    rcases ae with h | ⟨_,h⟩
    · have:v=[]:=aG ω;rw[this,zF];rfl
    have:u=[]:=aG ω;rw[this,zD,aA]
   have yr:=hM.out;rw[pg]at yr;have ra:=f.out.below (H.mono o.out);have Kc:=H.size;have al:q+a<=1000000000000:=ω;have Sw:q+a+b<=1000000000000:=ω
   have cu:Hid (∀A7 c7 w7,kI w7 w.heap.size A7 (q+a+b) c7 (D++E1++E2)->Below w.heap.size w w7->EC w X (Cq S R) (.returned (.slice A7 (q+a+b) c7)) w7):=λA7 c7 w7 h7 rJ=>by
    have S7:fT (mz w B X) (D++E1++E2) (M++v++u):=(L.out.app G.out).app O.out;rw[show M++v++u=M++(v++u) by simp,yr]at S7;have am:0<q+a+b:=by rw[h7.1,S7.length];exact ap.out
    obtain⟨g7,rfl⟩ :=h7.2.addr am;refine⟨g7,_,c7,rfl,rJ, ⟨_,h7.rd,S7.mono λe _ pk hm=> ⟨hm.1,(hm.2.1.below (rJ.mono o.out)).more (aw o.out rJ.size),hm.2.2⟩⟩,h7.2.jT,(h7.2.lt rfl).1,(h7.2.lt rfl).2⟩
   have ao:=η g.out;have F8:((a:Int)=0)\/((0:Int)<a/\(b:Int)=0):=ω;have HC:=η F8;have xF:¬(0:Int)<a\/((0:Int)<a/\¬(0:Int)<b):=ω;clear ae pg yr CI hq F8;rcases xF with xF | ⟨xF,bs⟩
   all_goals
    go_wp2_with (first
     | (at_builtin;(refine tA w.heap.size i0 rfl (.tmp 45) (.tmp 46) rfl Hi.out i7.out gp.out i9.out rfl ho rfl ra al Kc ?_);intro A6 d6 w6 nO mS iZ;have t:=H.grown mS Kc (λk z=>(ho.2.lt z).1);have rb:=ao.out.below (t.mono o.out))
     | (have _g:=t;at_builtin;(refine tA w.heap.size i0 rfl (.tmp 47) (.tmp 48) rfl Hi.out i7.out gp.out i9.out rfl nO rfl rb Sw t.size ?_);intro A7 d7 w7 O4 Ff tU;have rJ:=t.grown Ff t.size (λk z=>(nO.2.lt z).1)))
    all_goals go_ret
    all_goals exact cu.out _ _ _ O4 rJ
 have pN:(0:Int)<a/\(0:Int)<b:=ω;obtain⟨l,rfl,bv,ZX⟩ :=f.out.2 ω;obtain⟨j,rfl,bt,ZY⟩ :=g.out.2 ω;cases E1 with
 | nil=>have:=f.out.1;simp at this;omega
 | cons x E1=>
   cases E2 with
   | nil=>have:=g.out.1;simp at this;omega
   | cons y E2=>
     obtain⟨E,xA,Y,Z⟩ :=x;obtain⟨C,V,T,U⟩ :=y;have a0:=(H.cell (p:=l.add 0) (by rw[bG];have:=o.out;omega)).trans (ZX 0 ω);have a1:=(H.cell (p:=l.add 1) (by rw[bG];have:=o.out;omega)).trans (ZX 1 ω);have b0:=(H.cell (p:=j.add 0) (by rw[bG];have:=o.out;omega)).trans (ZY 0 ω);have b1:=(H.cell (p:=j.add 1) (by rw[bG];have:=o.out;omega)).trans (ZY 1 ω);rw[add_zero']at a0 b0;rw[zU]at a1 b1;replace a0:wr.cell? l=some (.int .i64 E):=a0;replace a1:wr.cell? ⟨l.block,l.off+1,none⟩ =some (.slice xA Y Z):=a1;replace b0:wr.cell? j=some (.int .i64 C):=b0;replace b1:wr.cell? ⟨j.block,j.off+1,none⟩ =some (.slice V T U):=b1
     go_wp2_with fail;go_quiet (fail);have d:=below_drewN H nq;have ac:=ho.drewN nq;have O6:q+1<=1000000000000:=ω;have aE:=CV.out (some l) a c1 ω;have uh:=CV.out (some j) b c2 ω;have bp:(0:Int)<a:=pN.1;have bo:(0:Int)<b:=pN.2;have bl:0<a:=CI.1;have bi:0<b:=CI.2;have I:=η (⟨CI,hq⟩ :_/\_);clear CI hq;by_cases an:C<E
     · have m:Hid (∀W,Below w.heap.size w W->W.cell? j=some (.int .i64 C)/\W.cell? ⟨j.block,j.off+1,none⟩ =some (.slice V T U)):=λW hW=>by
        have g0:=(hW.cell (p:=j.add 0) (by rw[bG];have:=o.out;omega)).trans (ZY 0 (τ I.out));have g1:=(hW.cell (p:=j.add 1) (by rw[bG];have:=o.out;omega)).trans (ZY 1 (τ I.out));rw[add_zero']at g0;rw[zU]at g1;exact⟨g0,g1⟩
       clear a0 a1 b0 b1
       go_wp2_with fail
       go_region_held3 (λw'=>w'.cell? j=some (.int .i64 C)/\w'.cell? ⟨j.block,j.off+1,none⟩ =some (.slice V T U))
        (first | exact m.out _ t | exact m.out _ (d.alloc d.size _) | exact m.out _ (d.drew.alloc d.drew.size _) | exact m.out _ (d.alloc d.size _).drew | exact m.out _ d | exact m.out _ d.drew)
        (first
          | ((refine xY w.heap.size i0 rfl (.tmp 29) (.tmp 33) rfl Hi.out i7.out gp.out i9.out rfl (ac.drew.alloc (.cells #[.int .i64 C, .slice V T U] 180)) rfl (yO.a0A (w:=(wr.drewN nq).drew) rfl C V T U 180) O6 (d.drew.alloc d.drew.size _).size ?_);intro A6 d6 w6 nO mS iZ
             have t:=(d.drew.alloc d.drew.size (.cells #[.int .i64 C, .slice V T U] 180)).grown mS (d.drew.alloc d.drew.size _).size (λk z=>(ho.2.lt z).1)))
       go_wp2_with fail;go_roundg (a+(b-1))
       case measure=>have:=z.out;have:=I.out;omega
       cases O.out with
       | cons k1 k2=>
         cases G.out with
         | cons k3 k4=>
           rename_i p2 u p1 v
           refine⟨some l,PA (some j) c2,A6,a,c1,b-1,c2-1,q+1,d6,_,E2,_,p1::v,u,M++[p2],rfl,rfl,rfl,s,ω,f.out,g.out.tail r, .cons k3 k4,k2,nO,t, ?_, ?_,rfl,τ I.out⟩
           · exact L.out.app (fT.one k1)
           have nW:p2.w<p1.w:=by
            rw[<-k1.1,<-k3.1];exact an
           show _=_;rw[<-hM.out,Cq,af nW,av];rfl
     have jE:decide (C<E)=false:=ξ
     have m:Hid (∀W,Below w.heap.size w W->W.cell? l=some (.int .i64 E)/\W.cell? ⟨l.block,l.off+1,none⟩ =some (.slice xA Y Z)):=λW hW=>by
      have g0:=(hW.cell (p:=l.add 0) (by rw[bG];have:=o.out;omega)).trans (ZX 0 (τ I.out));have g1:=(hW.cell (p:=l.add 1) (by rw[bG];have:=o.out;omega)).trans (ZX 1 (τ I.out));rw[add_zero']at g0;rw[zU]at g1;exact⟨g0,g1⟩
     clear a0 a1 b0 b1
     go_wp2_with fail
     go_region_held3 (λw'=>w'.cell? l=some (.int .i64 E)/\w'.cell? ⟨l.block,l.off+1,none⟩ =some (.slice xA Y Z))
      (first | exact m.out _ t | exact m.out _ (d.alloc d.size _) | exact m.out _ (d.drew.alloc d.drew.size _) | exact m.out _ (d.alloc d.size _).drew | exact m.out _ d | exact m.out _ d.drew)
      (first
        | ((refine xY w.heap.size i0 rfl (.tmp 37) (.tmp 41) rfl Hi.out i7.out gp.out i9.out rfl (ac.drew.alloc (.cells #[.int .i64 E, .slice xA Y Z] 180)) rfl (yO.a0A (w:=(wr.drewN nq).drew) rfl E xA Y Z 180) O6 (d.drew.alloc d.drew.size _).size ?_);intro A6 d6 w6 nO mS iZ
           have t:=(d.drew.alloc d.drew.size (.cells #[.int .i64 E, .slice xA Y Z] 180)).grown mS (d.drew.alloc d.drew.size _).size (λk z=>(ho.2.lt z).1)))
     go_wp2_with fail;go_roundg (a-1+b)
     case measure=>have:=z.out;have:=I.out;omega
     cases O.out with
     | cons k1 k2=>
       cases G.out with
       | cons k3 k4=>
         rename_i p2 u p1 v
         refine⟨PA (some l) c1,some j,A6,a-1,c1-1,b,c2,q+1,d6,E1,_,_,v,p2::u,M++[p1],rfl,rfl,rfl,ω,r,f.out.tail s,g.out,k4, .cons k1 k2,nO,t, ?_, ?_,rfl,τ I.out⟩
         · exact L.out.app (fT.one k3)
         have nW:¬p2.w<p1.w:=by
          rw[<-k1.1,<-k3.1];show¬C<E;omega
         show _=_;rw[<-hM.out,Cq,aa nW,av];rfl
def Pg (f:aj):Bool:=f.any λv=>decide (v<0)||decide (1048576<v)
def oN (f:aj) (m:Int):Int:=
 if 288<f.length\/m<1\/15<m then 1 else if Pg f=true then 1 else if 2 ^ m.toNat<(eo f f.length).length then 3 else 0
theorem Tk {f:aj} {i:Nat} (hi:i<f.length) (h:ix f i<0\/1048576<ix f i):Pg f=true:=by
 unfold Pg;rw[List.any_eq_true];exact⟨ix f i,Bh hi,by simpa using h⟩
theorem Nl {f:aj} (h:∀j,j<f.length->0<=ix f j/\ix f j<=1048576):Pg f=false:=by
 unfold Pg;rw[List.any_eq_false];intro v hv;obtain⟨i,hi,e⟩ :=gP hv;have:=h i hi;have a:ix f i=v:=by simp [ix,hi,e]
 rw[a]at this;simp;omega
theorem zG (f:aj) (k:Nat):(eo f k).length<=k:=by
 induction k with
 | zero=>exact ai _
 | succ k a=>rw[eo,ag];split <;> simp <;> omega
def CkR (w:World) (f:aj) (n:Nat) (k:Nat) (b a:Value) (wr:World):Prop:=
 ∃i c:Nat,b= .int .i64 c/\a= .int .i64 i/\wr=w/\i<=n/\Hid (c=(eo f i).length)/\Hid (∀j,j<i->0<=ix f j/\ix f j<=1048576)/\Hid (k=n-i)
theorem LZ (w:World) (B:Nat) (C:ay) (n d:Nat) (f:aj) (t:bT .i64 w B C n f) (m:Int) (W:(n:Int)<=4611686018427387904):
  Calls Tryz.prog 136 #[.slice C n d, .int .i64 m] w λe w'=>e= .returned (.int .i64 (oN f m))/\w=w':=by
 have u:=t.1;have Y:(0:Int)<=n:=ω;by_cases I:288<n\/m<1\/15<m
 · have hv:oN f m=1:=by unfold oN;rw[af ω]
   rw[hv];have k:(288:Int)<n\/(¬(288:Int)<n/\m<1)\/(¬(288:Int)<n/\¬m<1/\15<m):=ω;clear I hv u t;rcases k with E | ⟨E,J⟩ | ⟨E,J,S⟩
   all_goals
    go_enter Tryz.func136,Tryz.ntmps136
    go_wp2_with fail;go_ret;exact⟨rfl,rfl⟩
 have E:¬(288:Int)<n:=ω;have J:¬m<1:=ω;have S:¬15<m:=ω;have hv:oN f m=if Pg f=true then 1 else if 2 ^ m.toNat<(eo f f.length).length then 3 else 0:=by unfold oN;rw[aa ω]
 have HV:=η hv;have F:=η u;have X:(n:Int)<=288:=ω;obtain⟨p,rfl⟩ :=aJ (show 0<=m by omega);have M:p<=15:=ω;obtain⟨T,r⟩ :=ν (2 ^ p)
 have Z:1<=T/\T<=32768:=by
  rw[<-r];exact⟨fQ _,aw (bC ω M) δ⟩
 have R:(2:Int) ^ p=(T:Int):=by rw[<-r];simp
 have Q:IntKind.i64.wrap (T:Int)=(T:Int):=aM _ ω;have V:=η r;clear I hv u r;go_enter Tryz.func136,Tryz.ntmps136
 go_wp2_with fail;go_loopg [5,21] n (CkR w f n)
 case atStart=>exact⟨0,0,rfl,rfl,rfl,aF _,rfl,λj H=>ω,rfl⟩
 obtain⟨i,c,rfl,rfl,L,hi,k,a,G⟩ :=hrel;obtain rfl:=L.symm;by_cases g:i<n
 rotate_left
 · obtain rfl:i=n:=ω;have N:¬(i:Int)<(i:Int):=ω
   have q:oN f (p:Int)=if T<c then 3 else 0:=by
    rw[HV.out,aa (by rw[Nl (by rw[<-F.out];exact a.out)];decide),aX,V.out,<-F.out,<-k.out]
   have s:=η q;have O:(0:Int)<=c/\(c:Int)<=288:=by have:=k.out;have:=zG f i;omega
   clear q g;by_cases h:T<c
   · have D:(T:Int)<(c:Int):=ω;have l:=η h;clear h
     go_wp2_with fail;go_ret;exact⟨bZ (by rw[s.out,af l.out]),rfl⟩
   have D:¬(T:Int)<(c:Int):=ω;have l:=η h;clear h
   go_wp2_with fail;go_ret;exact⟨bZ (by rw[s.out,aa l.out]),rfl⟩
 have N:(i:Int)<(n:Int)/\(0:Int)<=i:=ω;obtain⟨v,hv⟩ :=ν (ix f i);obtain⟨ad,rfl,P,x⟩ :=t.at_ (i:=i) g;rw[hv]at x;have y:c<=288:=by have:=k.out;have:=zG f i;omega
 have O:(0:Int)<=c/\(c:Int)<=288:=ω;have b:=η (⟨hv,g⟩ :_/\_);clear hv g y;by_cases z:v<0\/1048576<v
 · have q:oN f (p:Int)=1:=by rw[HV.out,af (Tk (by rw[<-F.out];exact b.out.2) (by rw[b.out.1];exact z))]
   have s:=η q;have A:v<0\/(¬v<0/\1048576<v):=ω;clear z q;rcases A with K | ⟨K,U⟩
   all_goals
    go_wp2_with fail;go_ret;exact⟨bZ s.out.symm,rfl⟩
 have K:¬v<0:=ω;have U:¬1048576<v:=ω;clear z;by_cases hp:0<v
 · have xK:eo f (i+1)=eo f i++[(i:Int)]:=by rw[eo,af (by rw[b.out.1];exact hp)]
   have o:=η xK;clear xK
   go_wp2_with fail;go_roundg (n-(i+1))
   case measure=>have:=G.out;have:=b.out.2;omega
   case rel=>exact⟨i+1,c+1,by go_num,by go_num,rfl,b.out.2,by show _=_;rw[o.out,ag,<-k.out];rfl,λj H=>by
    by_cases e:j=i
    · subst e;rw[b.out.1];omega
    exact a.out j ω,rfl⟩
 have xK:eo f (i+1)=eo f i:=by rw[eo,aa (by rw[b.out.1];exact hp),aA]
 have o:=η xK;clear xK
 go_wp2_with fail;go_roundg (n-(i+1))
 case measure=>have:=G.out;have:=b.out.2;omega
 case rel=>exact⟨i+1,c,rfl,by go_num,rfl,b.out.2,by show _=_;rw[o.out];exact k.out,λj H=>by
  by_cases e:j=i
  · subst e;rw[b.out.1];omega
  exact a.out j ω,rfl⟩
end Go.Proofs.YtdhmnlpfhfmpfaaGreat
