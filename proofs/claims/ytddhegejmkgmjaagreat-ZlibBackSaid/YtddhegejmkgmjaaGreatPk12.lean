/-
  part
-/
import Derived.Test.YtddhegejmkgmjaaGreatPk11
import Derived.Test.YtddhegejmkgmjaaGreatLimG
set_option linter.unusedVariables false
set_option maxRecDepth 100000
set_option maxHeartbeats 8000000
namespace Go.Proofs.YtddhegejmkgmjaaGreat
open Go.RowKit
inductive cC {α β:Type} (R:α->β->Prop):List α->List β->Prop
 | nil:cC R [] []
 | cons {a:α} {b:β} {xs:List α} {ys:List β}:R a b->cC R xs ys->cC R (a::xs) (b::ys)
section
variable {α β:Type} {R R':α->β->Prop} {xs cs:List α} {ys ds:List β}
theorem cC.length (h:cC R xs ys):xs.length=ys.length:=by
 induction h with
 | nil=>rfl
 | cons _ _ ih=>rw[List.length_cons,List.length_cons,ih]
theorem cC.mono (h:cC R xs ys) (c:∀a∈xs,∀b,R a b->R' a b):cC R' xs ys:=by
 induction h with
 | nil=>exact .nil
 | cons h1 _ ih=>exact .cons (c _ List.mem_cons_self _ h1) (ih λa d=>c a (List.mem_cons_of_mem _ d))
theorem cC.app (h:cC R xs ys) (a:cC R cs ds):cC R (xs++cs) (ys++ds):=by
 induction h with
 | nil=>exact a
 | cons h1 _ ih=>exact .cons h1 ih
theorem cC.one {a:α} {b:β} (h:R a b):cC R [a] [b]:= .cons h .nil
theorem cC.perm (hp:cs.Perm xs) (h:cC R xs ys):∃ds,ds.Perm ys/\cC R cs ds:=by
 induction hp generalizing ys with
 | nil=>exact⟨ys,List.Perm.refl _,h⟩
 | cons x _ ih=>
   cases h with
   | cons b a=>
     obtain⟨ds,hd,g⟩ :=ih a;exact⟨_::ds,List.Perm.cons _ hd, .cons b g⟩
 | swap x y l=>
   cases h with
   | cons b a=>cases a with
     | cons i h4=>exact⟨_,List.Perm.swap _ _ _, .cons i (.cons b h4)⟩
 | trans _ _ ih1 ih2=>
   obtain⟨d1,f,d⟩ :=ih2 h;obtain⟨d2,e,c⟩ :=ih1 d;exact⟨d2,e.trans f,c⟩
theorem cC.mem (h:cC R xs ys):∀b∈ys,∃a∈xs,R a b:=by
 induction h with
 | nil=>intro b c;simp at c
 | cons h1 _ ih=>
   intro b c;rcases List.mem_cons.1 c with rfl | c
   · exact⟨_,List.mem_cons_self,h1⟩
   · obtain⟨a,e,d⟩ :=ih b c;exact⟨a,List.mem_cons_of_mem _ e,d⟩
theorem cC.a5t (h:cC R xs ys):∀a∈xs,∃b∈ys,R a b:=by
 induction h with
 | nil=>intro b c;simp at c
 | cons h1 _ ih=>
   intro b c;rcases List.mem_cons.1 c with rfl | c
   · exact⟨_,List.mem_cons_self,h1⟩
   · obtain⟨a,e,d⟩ :=ih b c;exact⟨a,List.mem_cons_of_mem _ e,d⟩
end
def ik (w:World) (B:Nat) (X:Nat->Prop) (e:El) (p:Pk):Prop:=e.1=p.w/\aT .i64 w B e.2.1 e.2.2.1 p.l/\(0<e.2.2.1->∀g,aa e.2.1=some g->¬X g)
def pQ (w:World) (B:Nat) (X:Nat->Prop) (A:Option Addr) (n:Nat) (L:List Pk):Prop:=∃D,sQ w B A n D/\cC (ik w B X) D L
theorem pQ.below {w w':World} {B n:Nat} {X:Nat->Prop} {A:Option Addr} {L:List Pk} (h:pQ w B X A n L) (b:Below B w w'):pQ w' B X A n L:=by
 obtain⟨D,d,c⟩ :=h;exact⟨D,d.below b,c.mono λe _ p a=> ⟨a.1,a.2.1.below b,a.2.2⟩⟩
theorem pQ.more {w:World} {B B' n:Nat} {X:Nat->Prop} {A:Option Addr} {L:List Pk} (h:pQ w B X A n L) (b:B<=B'):pQ w B' X A n L:=by
 obtain⟨D,d,c⟩ :=h;exact⟨D,d.more b,c.mono λe _ p a=> ⟨a.1,a.2.1.more b,a.2.2⟩⟩
theorem Own.ar {w:World} {b0:Nat} {e:TypeId} {d n c g:Nat} {f:Nat->Value} (h:Own w b0 e d (some ⟨g,0,none⟩) n c f):Ar w g (n*d) f:=by
 rcases h with ⟨m,_⟩ | ⟨q,b,a,p,l,k,o,j,i⟩
 · cases m
 · injection a with a;injection a with a;subst a;exact⟨b,e,(0,0),l, .inr rfl,by rw[j];exact Nat.mul_le_mul_right _ k,i⟩
theorem vH (w d:World) (g n c:Nat) (b:List El) (h:Dt d g n b w) (j:n<=1000) (a:Sm b) (f:J1 b):
  Calls Tryz.prog 130 #[.slice (some ⟨g,0,none⟩) n c,ov] w (LY d g n b):=by
 have i:=η (GJ w d g n c b h j a f);clear h a f;unfold ov at i⊢;go_enter Tryz.func130,Tryz.ntmps130
 go_wp2_with fail
 refine i.out.mono ?_;rintro e k ⟨D,rfl,h⟩
 go_wp2_with fail
 go_end0
 exact⟨D,rfl,h⟩
theorem vI (w:World) (F:Value):
  Calls Tryz.prog 130 #[.slice none 0 0,F] w λe w'=>e= .returned (.tuple #[])/\w=w':=by
 have a:=η (GK w F);go_enter Tryz.func130,Tryz.ntmps130
 go_wp2_with fail
 refine a.out.mono ?_;rintro e b ⟨rfl,rfl⟩
 go_wp2_with fail
 go_end0
 exact⟨rfl,rfl⟩
theorem sQ.SM {w:World} {g:Nat} (b:g=w.heap.size) (a:Int) (A:Option Addr) (n c:Nat) (t:TypeId):sQ (w.alloc (.cells #[.int .i64 a, .slice A n c] t)) (g+1) (some ⟨g,0,none⟩) 1 [(a,A,n,c)]:=by
 subst b;exact sQ.lit w (a,A,n,c) t
theorem ik.cv {w w':World} {X k S:Nat->Prop} {e:El} {p:Pk} (h:ik w w.heap.size X e p) (j:aq w w' S) (q:∀g,S g->X g) (o:∀g,g<w.heap.size->k g->X g):ik w' w'.heap.size k e p:=by
 refine⟨h.1,(j.oH h.2.1 (Nat.le_refl _) (λa d b m=>h.2.2 a d.block (by rw[b];rfl) (q _ m))).more j.size,λa g f l=> ?_⟩;obtain⟨d,b,n, -⟩ :=h.2.1.at_ (i:=0) a;rw[b]at f;have c:d.block=g:=by simpa [aa] using f
 exact h.2.2 a g (by rw[b,<-c];rfl) (o g ω l)
theorem Gw {f:Int->Int} {L:List Pk} {S:List Int} (h:L.Perm (bj f S)):∃S',S'.Perm S/\L=bj f S':=by
 refine⟨L.map λp=>p.l.headD 0, ?_, ?_⟩
 · have:=h.map (λp:Pk=>p.l.headD 0);refine this.trans ?_;unfold bj;rw[List.map_map];have e:((λp:Pk=>p.l.headD 0) ∘ λs=>(⟨f s,[s]⟩ :Pk))=id:=by funext s;rfl
   rw[e,List.map_id]
 · unfold bj;rw[List.map_map]
   conv=>lhs;rw[<-List.map_id L]
   refine List.map_congr_left λp hp=> ?_
   obtain⟨s,d,b,a⟩ :=fx p (h.mem_iff.1 hp);obtain⟨pw,c⟩ :=p;simp only at b a;subst b a;rfl
def aW (f:List Int):Nat->List Int
 | 0=>[]
 | k+1=>aW f k++if 0<ix f k then [(k:Int)] else []
def iV (f:List Int) (s:Int):Int:=ix f s.toNat
section
variable {α β:Type} {R R':α->β->Prop} {xs:List α} {ys:List β}
theorem cC.and (h:cC R xs ys) (e:cC R' xs ys):cC (λa b=>R a b/\R' a b) xs ys:=by
 induction h with
 | nil=>exact .nil
 | cons h1 _ ih=>cases e with
   | cons d c=>exact .cons ⟨h1,d⟩ (ih c)
theorem cC.flip (h:cC R xs ys):cC (λb a=>R a b) ys xs:=by
 induction h with
 | nil=>exact .nil
 | cons h1 _ ih=>exact .cons h1 ih
theorem cC.pw {Q:α->α->Prop} {j:β->β->Prop} (h:cC R xs ys) (m:xs.Pairwise Q) (H:∀a∈xs,∀a'∈xs,∀b∈ys,∀c∈ys,R a b->R a' c->Q a a'->j b c):ys.Pairwise j:=by
 induction h with
 | nil=>exact List.Pairwise.nil
 | @cons a b xs ys h1 h2 ih=>
   obtain⟨l,k⟩ :=List.pairwise_cons.1 m;refine List.pairwise_cons.2 ⟨λq g=> ?_,ih k λa p a' f b o c d=>H a (List.mem_cons_of_mem _ p) a' (List.mem_cons_of_mem _ f) b (List.mem_cons_of_mem _ o) c (List.mem_cons_of_mem _ d)⟩;obtain⟨e,i,n⟩ :=h2.mem q g;exact H a List.mem_cons_self e (List.mem_cons_of_mem _ i) b List.mem_cons_self q (List.mem_cons_of_mem _ g) h1 n (l e i)
end
theorem rQ {f:List Int}:∀k:Nat,∀s∈aW f k,0<=s/\s<(k:Int)
 | 0,s,h=>by simp [aW]at h
 | k+1,s,h=>by
   rw[aW]at h;rcases List.mem_append.1 h with h | h
   · have:=rQ k s h;omega
   · split at h
     · have:=List.mem_singleton.1 h;omega
     · simp at h
theorem AK {f:List Int}:∀k:Nat,(aW f k).Pairwise (· < ·)
 | 0=>List.Pairwise.nil
 | k+1=>by
   rw[aW];refine List.pairwise_append.2 ⟨AK k, ?_,λs a t ht=> ?_⟩
   · split
     · exact List.pairwise_singleton _ _
     · exact List.Pairwise.nil
   · split at ht
     · rw[List.mem_singleton.1 ht];exact(rQ k s a).2
     · simp at ht
def Vu (N:Int->Nat) (e:El) (p:Pk):Prop:=ps e=N (p.l.headD 0)
def Q7 (b:Nat) (f:List Int) (i:Nat) (D:List El):Prop:=
 ∃N:Int->Nat,cC (Vu N) D (bj (iV f) (aW f i))/\(∀s∈aW f i,∀t∈aW f i,s<t->N s<N t)/\(∀s∈aW f i,N s<b)
theorem Q7.mono {b a:Nat} {f:List Int} {i:Nat} {D:List El} (h:Q7 b f i D) (d:b<=a):Q7 a f i D:=by
 obtain⟨N,j,g,e⟩ :=h;exact⟨N,j,g,λs c=>Nat.lt_of_lt_of_le (e s c) d⟩
theorem xR {N a:Int->Nat} {g:Int->Int}:∀{S:List Int} {D:List El},(∀s∈S,a s=N s)->cC (Vu N) D (bj g S)->cC (Vu a) D (bj g S)
 | [],D,_,h=>by cases h;exact .nil
 | s::S,D,hs,h=>by
   cases h with
   | cons c b=>exact .cons (by show _=a s;rw[hs s List.mem_cons_self];exact c) (xR (λt ht=>hs t (List.mem_cons_of_mem _ ht)) b)
theorem Q7.push {b k:Nat} {f:List Int} {i:Nat} {D:List El} {v:Int} (h:Q7 b f i D) (hv:ix f i=v) (hp:0<v) (l:b<k):Q7 k f (i+1) (D++[(v,some ⟨b,0,none⟩,1,1)]):=by
 obtain⟨N,j,m,g⟩ :=h;have e:aW f (i+1)=aW f i++[(i:Int)]:=by rw[aW,hv,if_pos hp]
 refine⟨λs=>if s=(i:Int)then b else N s, ?_,λs a t ht d=> ?_,λs a=> ?_⟩
 · rw[e];unfold bj at j⊢;rw[List.map_append];refine cC.app (xR (λs a=> ?_) j) (cC.one ?_)
   · have:=rQ i s a;exact if_neg ω
   · show b=if(i:Int)=(i:Int)then b else _
     rw[if_pos rfl]
 · rw[e]at a ht;have c:∀s,s∈aW f i->¬s=(i:Int):=λs a=>by have:=rQ i s a;omega
   dsimp only;rcases List.mem_append.1 a with a | a <;> rcases List.mem_append.1 ht with ht | ht
   · rw[if_neg (c s a),if_neg (c t ht)];exact m s a t ht d
   · rw[if_neg (c s a),if_pos (List.mem_singleton.1 ht)];exact g s a
   · have n:=List.mem_singleton.1 a;have:=rQ i t ht;omega
   · have n:=List.mem_singleton.1 a;have o:=List.mem_singleton.1 ht;omega
 · dsimp only;rw[e]at a;rcases List.mem_append.1 a with a | a
   · rw[if_neg (by have:=rQ i s a;omega)];have:=g s a;omega
   · rw[if_pos (List.mem_singleton.1 a)];exact l
theorem Oz {g:Int->Int} {S:List Int} {Q:Int->Int->Prop} {b:Pk->Pk->Prop} (h:S.Pairwise Q) (H:∀s t,Q s t->b ⟨g s,[s]⟩ ⟨g t,[t]⟩):(bj g S).Pairwise b:=by
 unfold bj;rw[List.pairwise_map];exact h.imp λa=>H _ _ a
theorem Q7.asc {b:Nat} {f:List Int} {i:Nat} {D:List El} (h:Q7 b f i D):J1 D:=by
 obtain⟨N,w,v,z⟩ :=h;refine w.flip.pw (Q:=λp q=>p.l.headD 0<q.l.headD 0) (Oz (AK i) λs t a=>a) ?_;intro p hp q o e y x u r m c;have k:ps e=N (p.l.headD 0):=r;have j:ps x=N (q.l.headD 0):=m;obtain⟨s,n,B,g⟩ :=fx p hp;obtain⟨t,ht,A,d⟩ :=fx q o;rw[k,j,g,d];rw[g,d]at c;exact Nat.le_of_lt (v s n t ht c)
def tZ (f:List Int) (S:List Int):Prop:=S.Pairwise λs t=>iV f s<iV f t\/(iV f s=iV f t/\s<=t)
theorem tZ.le {f S:List Int} (h:tZ f S):S.Pairwise λs t=>iV f s<=iV f t:=h.imp λh=>by rcases h with h | h <;> omega
def LvR (w:World) (f:List Int) (m:Nat) (k:Nat) (b a:Value) (wr:World):Prop:=
 ∃(i q c:Nat) (A:Option Addr) (D:List El),b= .slice A q c/\a= .int .i64 i/\i<=m/\eV wr w.heap.size A q c D/\Below w.heap.size w wr/\Hid (cC (ik wr wr.heap.size λg=>aa A=some g\/g<w.heap.size) D (bj (iV f) (aW f i)))/\q<=i/\Hid (k=m-i)/\Hid (Q7 wr.heap.size f i D)
theorem SN {w wr d:World} {f:List Int} {i q c:Nat} {A s:Option Addr} {D:List El} {v:Int} (x:eV wr w.heap.size A q c D) (hA:cC (ik wr wr.heap.size λg=>aa A=some g\/g<w.heap.size) D (bj (iV f) (aW f i))) (t:w.heap.size<=wr.heap.size) (hv:ix f i=v) (hp:0<v)
  (b:((wr.alloc (.cells #[.int .i64 (i:Nat)] 3)).alloc (.cells #[.int .i64 v, .slice (some ⟨wr.heap.size,0,none⟩) 1 1] 155)).grownBy d (aa A)) (l:aa s=aa A\/aa s=some ((wr.alloc (.cells #[.int .i64 (i:Nat)] 3)).alloc (.cells #[.int .i64 v, .slice (some ⟨wr.heap.size,0,none⟩) 1 1] 155)).heap.size):
  cC (ik d d.heap.size λg=>aa s=some g\/g<w.heap.size) (D++[(v,some ⟨wr.heap.size,0,none⟩,1,1)]) (bj (iV f) (aW f (i+1))):=by
 have h:∀g,aa A=some g->g<wr.heap.size:=λg b=>(x.2.lt b).2
 have j:aq (wr.alloc (.cells #[.int .i64 (i:Nat)] 3)) d (λg=>aa A=some g):=((aq.refl _ _).alloc _).grown b (λk m=> .inl m);have o:aq wr d (λg=>aa A=some g):=(((aq.refl _ _).alloc _).alloc _).grown b (λk m=> .inl m);rw[show aW f (i+1)=aW f i++[(i:Int)] by rw[aW,hv,if_pos hp]];unfold bj at hA⊢;rw[List.map_append];refine(hA.mono λe _ p y=>y.cv o (λg b=> .inl b) (λg b a=> ?_)).app (cC.one ?_)
 · rcases a with a | a
   · rcases l with e | e
     · left;rw[<-e];exact a
     · rw[e]at a;injection a with a;simp at a;omega
   · exact .inr a
 · refine⟨?_, ?_,λ_ g n a=> ?_⟩
   · show v=iV f i
     unfold iV;rw[Int.toNat_natCast,hv]
   · have z:=aT.lit .i64 wr [(i:Int)] 3;exact(j.oH z σ (λ_ C r u=>by injection r with r;subst r;exact absurd (h _ u) (Nat.lt_irrefl _))).more (by have:=j.size;simp at this;omega)
   · have B:wr.heap.size=g:=by simpa [aa] using n
     rcases a with a | a
     · rcases l with e | e
       · rw[e]at a;have:=h _ a;omega
       · rw[e]at a;injection a with a;simp at a;omega
     · omega
def Vs (w:World) (f:List Int) (m:Nat) (e:Ending) (w':World):Prop:=
 ∃A q c S,e= .returned (.slice A q c)/\Below w.heap.size w w'/\pQ w' w'.heap.size (λg=>g<w.heap.size) A q (bj (iV f) S)/\((A=none/\q=0)\/∃g,A=some ⟨g,0,none⟩/\w.heap.size<=g/\g<w'.heap.size)/\S.Perm (aW f m)/\tZ f S/\q<=c
theorem Gc (w:World) (C:Option Addr) (m d:Nat) (f:List Int) (hr:aT .i64 w w.heap.size C m f) (n:m<=1000) (hf:∀i,i<m->0<=ix f i/\ix f i<=1048576):
  Calls Tryz.prog 114 #[.slice C m d] w (Vs w f m):=by
 obtain⟨i0,hi,K,J,I⟩ :=info_parts qA;have Hi:=η hi;have dM:=η K;have cV:=η J;have dN:=η I;have K4:(0:Int)<=m/\(m:Int)<=1000:=ω;have HF:=η hf;have HM:=η n;clear hi K J I hf n;go_enter Tryz.func114,Tryz.ntmps114
 go_wp2_with fail
 go_loopg [3,8] m (LvR w f m)
 case atStart=>exact⟨0,0,0,none,[],rfl,rfl,Nat.zero_le _,eV.br,Below.refl _ _, .nil,Nat.le_refl _,rfl, ⟨λ_=>0, .nil,λs F=>by simp [aW]at F,λs F=>by simp [aW]at F⟩⟩
 case round=>
  obtain⟨i,q,c,A,D,rfl,rfl,ab,b,a,hA,hq,o,Q⟩ :=hrel;by_cases j:i<m
  · have rD:(i:Int)<(m:Int)/\(0:Int)<=i:=ω;obtain⟨v,hv⟩ :=ν (ix f i);obtain⟨ad,rfl,JR,y⟩ :=hr.at_ (i:=i) j;rw[hv]at y;have ah:wr.cell? (ad.add i)=some (.int .i64 v):=(a.cell (p:=ad.add i) (by rw[aw];exact JR)).trans y;have Z8:=HF.out i j;rw[hv]at Z8;have E:=η (⟨hv,j⟩ :_/\_);clear y hv j;by_cases hp:0<v
    · have fP:=(b.alloc (.cells #[.int .i64 (i:Nat)] 3)).alloc (.cells #[.int .i64 v, .slice (some ⟨wr.heap.size,0,none⟩) 1 1] 155);have aS:=sQ.SM (w:=wr.alloc (.cells #[.int .i64 (i:Nat)] 3)) (g:=wr.heap.size+1) σ v (some ⟨wr.heap.size,0,none⟩) 1 1 155;have z:Below w.heap.size w ((wr.alloc (.cells #[.int .i64 (i:Nat)] 3)).alloc (.cells #[.int .i64 v, .slice (some ⟨wr.heap.size,0,none⟩) 1 1] 155)):=(a.alloc a.size _).alloc (Nat.le_trans a.size σ) _;have Ip:q+1<=1000000000000:=by have:=HM.out;omega
      go_wp2_with (at_builtin;(refine nP w.heap.size i0 rfl (.tmp 15) (.tmp 20) rfl Hi.out dM.out cV.out dN.out rfl fP rfl aS Ip z.size ?_);intro A4 d4 w4 aC x bG)
      go_roundg (m-(i+1))
      case measure=>have:=o.out;have:=E.out.2;omega
      case rel=>exact⟨i+1,q+1,d4,A4,_,rfl,by go_num,E.out.2,aC,z.grown x z.size (λk o=>(b.2.lt o).1),SN b hA.out a.size E.out.1 hp x bG,ω,rfl,Q.out.push E.out.1 hp (by have H:=x.size;simp at H;omega)⟩
    · have BA:aW f (i+1)=aW f i:=by rw[aW,if_neg (by rw[E.out.1];exact hp),List.append_nil]
      have Ys:=η BA;clear BA
      go_wp2_with fail
      go_roundg (m-(i+1))
      case measure=>have:=o.out;have:=E.out.2;omega
      case rel=>exact⟨i+1,q,c,A,D,rfl,by go_num,E.out.2,b,a,by show cC _ _ _;rw[Ys.out];exact hA.out,ω,rfl,by have H:=Q.out;unfold Q7 at H⊢;rw[Ys.out];exact H⟩
  · obtain rfl:i=m:=ω;have rD:¬(i:Int)<(i:Int):=ω;have hA:=hA.out;have P:=b.2.fD
    have u:Sm D:=λe he=>by
     obtain⟨p,hp,n⟩ :=hA.a5t e he;obtain⟨s,F,H,h2⟩ :=fx p hp;rw[n.1,H];unfold iV;by_cases U:s.toNat<i
     · have:=HF.out _ U;omega
     · have:ix f s.toNat=0:=by
        have hl:=hr.1;unfold ix;rw[List.getD_eq_getElem?_getD,List.getElem?_eq_none ω];rfl
       rw[this];omega
    rcases b.2 with ⟨kW,jh,zP⟩ | ⟨g,am,rfl,Ir⟩
    · subst kW jh zP;have hD:D=[]:=List.eq_nil_of_length_eq_zero b.1.symm;subst hD
      have hS:aW f i=[]:=by
       have:=hA.length;rw[ei]at this;exact List.eq_nil_of_length_eq_zero this.symm
      have HP:=η (⟨a,hS⟩ :_/\_);clear hA u b a
      go_wp2_with fail
      refine(vI _ _).mono ?_;rintro e R ⟨rfl,rfl⟩
      go_wp2_with fail
      go_ret
      exact⟨none,0,0,[],rfl,HP.out.1, ⟨[], ⟨rfl,λh0=>ω⟩, .nil⟩, .inl ⟨rfl,rfl⟩,by rw[HP.out.2],List.Pairwise.nil,Nat.le_refl _⟩
    · have M:Dt wr g q D wr:= ⟨b.1.symm,aq.refl _ _,Own.ar b.2⟩;have HC:=η (vH wr wr g q c D M (by have:=HM.out;omega) u Q.out.asc);have L:w.heap.size<=g:=(b.2.lt rfl).1;have HA:=η (⟨hA,P,L,a⟩ :_/\_/\_/\_);clear hA P L M u b a;unfold ov at HC
      go_wp2_with fail
      refine HC.out.mono ?_;rintro e R ⟨D',rfl,G,V,Xl⟩
      go_wp2_with fail
      go_ret
      obtain⟨hA,P,L,a⟩ :=HA.out;obtain⟨N,n1,n2,n3⟩ :=Q.out;obtain⟨L',cZ,O⟩ :=cC.perm Xl (hA.and n1);obtain⟨S,B,rfl⟩ :=Gw cZ;have X:=O.mono λe _ p n=>n.1
      have T:(bj (iV f) S).Pairwise λp q=>p.w<q.w\/(p.w=q.w/\p.l.headD 0<=q.l.headD 0):=O.pw V λe he e' ac p hp q hq r Z WH=>by
       obtain⟨s,F,e1,e2⟩ :=fx p hp;obtain⟨t,ht,e3,e4⟩ :=fx q hq;have r1:ps e=N (p.l.headD 0):=r.2;have r2:ps e'=N (q.l.headD 0):=Z.2;have w1:e.1=p.w:=r.1.1;have w2:e'.1=q.w:=Z.1.1;rcases WH with h | ⟨h,h'⟩
       · left;omega
       · right
         refine⟨ω, ?_⟩;rw[e2,e4];rw[r1,r2,e2,e4]at h';rcases Int.lt_or_le t s with Y | Y
         · have:=n2 t (B.mem_iff.1 ht) s (B.mem_iff.1 F) Y;have al:N s<=N t:=h';omega
         · exact Y
      have W:cC (ik R R.heap.size λg=>g<w.heap.size) D' (bj (iV f) S):=X.mono λe _ p n=>n.cv G.cv (λk o=>by subst o;exact .inl rfl) (λ_ _ h=> .inr h)
      refine⟨some ⟨g,0,none⟩,q,c,S,rfl,a.trans (G.cv.below (λk o=>by subst o;exact L) a.size), ⟨D', ⟨G.len.symm, ?_⟩,W⟩, .inr ⟨g,rfl,L,G.lt⟩,B, ?_,P⟩
      · exact G.ar.rd G.lt (Nat.le_refl _)
      · unfold bj at T;rw[List.pairwise_map]at T;exact T
theorem cC.at_ {α β:Type} {R:α->β->Prop} {xs:List α} {ys:List β} (h:cC R xs ys) (a:α) (b:β):∀i,i<xs.length->R (xs.getD i a) (ys.getD i b):=by
 induction h with
 | nil=>intro i hi;simp at hi
 | cons h1 _ ih=>
   intro i hi;cases i with
   | zero=>exact h1
   | succ i=>exact ih i (by simpa using hi)
theorem P5 (L:List Pk) (t:Nat) (h:2*t+1<L.length):(aU L).take (t+1)=(aU L).take t++[⟨(L.getD (2*t) ⟨0,[]⟩).w+(L.getD (2*t+1) ⟨0,[]⟩).w,(L.getD (2*t) ⟨0,[]⟩).l++(L.getD (2*t+1) ⟨0,[]⟩).l⟩]:=by
 induction L using aU.induct generalizing t with
 | case1 a b r ih=>
   rw[aU];cases t with
   | zero=>rfl
   | succ t=>
     have:=ih t (by simp only [List.length_cons]at h;omega);rw[List.take_succ_cons,List.take_succ_cons,this];rw[show 2*(t+1)=2*t+1+1 by omega,show 2*t+1+1+1=(2*t+1)+1+1 by omega];rfl
 | case2 u h'=>
   match u,h' with
   | [],_=>simp at h
   | [a],_=>simp at h
   | a::b::r,h'=>exact absurd rfl (h' a b r)
def pF (v:Int) (A:Option Addr) (n c:Nat) (j:Nat):Value:=if j=0 then .int .i64 v else .slice A n c
def PdB (wr:World) (g c:Int) (j f:Option Addr) (h i d e:Nat) (l k:Value) (wx:World):Prop:=
 ∃b a,l= .pointer (some ⟨b,0,none⟩)/\k= .pointer (some ⟨a,0,none⟩)/\Ar wx b 2 (pF g j h i)/\Ar wx a 2 (pF c f d e)/\wr.heap.size<=b/\wr.heap.size<=a/\Below wr.heap.size wr wx
theorem tC {w:World} {g:Nat} (a:g=w.heap.size) (v:Int) (A:Option Addr) (n c:Nat) (t:TypeId):Ar (w.alloc (.cells #[.int .i64 v, .slice A n c] t)) g 2 (pF v A n c):=by
 subst a
 exact Ar.new w #[.int .i64 v, .slice A n c] t rfl (λi hi=>by
  obtain rfl | rfl:i=0\/i=1:=ω
  · rfl
  · rfl)
theorem a5y (wr:World) (e a:Int) (h d:Option Addr) (f g b c:Nat):PdB wr e a h d f g b c (.pointer (some ⟨wr.heap.size,0,none⟩)) (.pointer (some ⟨wr.heap.size+1,0,none⟩)) ((wr.alloc (.cells #[.int .i64 e, .slice h f g] 155)).alloc (.cells #[.int .i64 a, .slice d b c] 155)).drew:=
 ⟨_,_,rfl,rfl,((tC rfl e h f g _).alloc _).drew,(tC σ a d b c _).drew,Nat.le_refl _,Nat.le_succ _,(((Below.refl _ wr).alloc (Nat.le_refl _) _).alloc σ _).drew⟩
theorem a5z (wr:World) (e a:Int) (h d:Option Addr) (f g b c:Nat):PdB wr e a h d f g b c (.pointer (some ⟨wr.heap.size+1,0,none⟩)) (.pointer (some ⟨wr.heap.size,0,none⟩)) ((wr.alloc (.cells #[.int .i64 a, .slice d b c] 155)).alloc (.cells #[.int .i64 e, .slice h f g] 155)).drew:=
 ⟨_,_,rfl,rfl,(tC σ e h f g _).drew,((tC rfl a d b c _).alloc _).drew,Nat.le_succ _,Nat.le_refl _,(((Below.refl _ wr).alloc (Nat.le_refl _) _).alloc σ _).drew⟩
def PdR (w:World) (L:List Pk) (k:Nat) (b a:Value) (wr:World):Prop:=
 ∃(t p q c:Nat) (A:Option Addr) (D:List El),b= .slice A q c/\a= .int .i64 p/\Hid (p=2*t)/\eV wr w.heap.size A q c D/\Below w.heap.size w wr/\Hid (cC (ik wr wr.heap.size λg=>aa A=some g\/g<w.heap.size) D ((aU L).take t))/\Hid (k=L.length-p)/\p<=L.length+1
def yM (w:World) (X:Nat->Prop) (L:List Pk) (e:Ending) (w':World):Prop:=
 ∃g q c,e= .returned (.slice (some ⟨g,0,none⟩) q c)/\Below w.heap.size w w'/\pQ w' w'.heap.size X (some ⟨g,0,none⟩) q L/\q<=c/\w.heap.size<=g/\g<w'.heap.size
theorem P4 {w':World} {b a:Nat} {g c:Int} {k f:Option Addr} {h j d e:Nat} (h5:Ar w' b 2 (pF g k h j)) (h6:Ar w' a 2 (pF c f d e)):
  w'.cell? ⟨b,0,none⟩ =some (.int .i64 g)/\w'.cell? ⟨b,1,none⟩ =some (.slice k h j)/\w'.cell? ⟨a,0,none⟩ =some (.int .i64 c)/\w'.cell? ⟨a,1,none⟩ =some (.slice f d e):=
 ⟨h5.cell (i:=0) ω,h5.cell (i:=1) ω,h6.cell (i:=0) ω,h6.cell (i:=1) ω⟩
theorem Mm (wc:World) (A1 c:Option Addr) (b c1 a c2:Nat) (e d:List Int) (n:aT .i64 wc wc.heap.size A1 b e) (l:aT .i64 wc wc.heap.size c a d) (k:b<=400000) (h:a<=400000):
  Calls Tryz.prog 132 #[.slice (some ⟨wc.heap.size,0,none⟩) 2 2] (wc.alloc (.cells #[.slice A1 b c1, .slice c a c2] 51)).drew (MkI (wc.alloc (.cells #[.slice A1 b c1, .slice c a c2] 51)).drew (e++d)):=by
 have g:=(Ar.new wc #[.slice A1 b c1, .slice c a c2] 51 (m:=2) (f:=λj=>if j=0 then .slice A1 b c1 else .slice c a c2) rfl (λi hi=>by
  obtain rfl | rfl:i=0\/i=1:=ω
  · rfl
  · rfl)).drew
 refine F4 _ wc.heap.size wc.heap.size (by simp [World.drew]) A1 c b c1 a c2 e d (g.cell (i:=0) ω) (g.cell (i:=1) ω) (n.alloc (Nat.le_refl _) _) (l.alloc (Nat.le_refl _) _) ?_ k h;show wc.heap.size<=(wc.alloc _).heap.size
 simp
def SmP (L:List Pk):Prop:=∀p∈L,0<=p.w/\p.w<=1099511627776/\p.l.length<=400000
theorem Gv (w:World) (g n c B:Nat) (L:List Pk) (X:Nat->Prop) (hX:∀g,X g->g<w.heap.size) (hp:pQ w B X (some ⟨g,0,none⟩) n L) (hB:B<=w.heap.size) (hn:n<=1000) (ab:SmP L) (h2:2<=n):
  Calls Tryz.prog 116 #[.slice (some ⟨g,0,none⟩) n c] w (yM w X (aU L)):=by
 obtain⟨i0,hi,Y,W,V⟩ :=info_parts qA;have Hi:=η hi;have dM:=η Y;have cV:=η W;have dN:=η V;obtain⟨F,rF,NN⟩ :=hp;have al:n=L.length:=rF.1.trans NN.length;have rE:(0:Int)<=n/\(n:Int)<=1000:=ω;have Lg:=η rF;have bd:=η hX;clear hX;have an:=η NN;have sP:=η ab;have E:=η (⟨al,h2,hB,hn⟩ :_/\_/\_/\_);clear hi Y W V rF NN ab al h2 hB hn;go_enter Tryz.func116,Tryz.ntmps116
 go_wp2_with fail
 go_loopg [3,4] n (PdR w L)
 case atStart=>exact⟨0,0,0,0,none,[],rfl,rfl,rfl,eV.br,Below.refl _ _,by rw[List.take_zero];exact .nil,by show n=_;have:=E.out.1;omega,ω⟩
 case round=>
  obtain⟨t,p,q,c2,A2,D2,rfl,rfl,H,D,N,hA,b,h⟩ :=hrel;have O:=E.out.1;obtain⟨d,M⟩ :=ν (p+1);have ao:(p:Int)+1=(d:Int):=ω;have YY:(0:Int)<=p/\(p:Int)<=2000/\(0:Int)<=d/\(d:Int)<=2000:=by have:=E.out;omega
  by_cases f:d<n
  · obtain⟨x,a⟩ :=ν (el F p);obtain⟨y,hy⟩ :=ν (el F d);have aS:F.length=n:=Lg.out.1.symm;have C:=an.out.at_ (0,none,0,0) ⟨0,[]⟩ p ω;have A:=an.out.at_ (0,none,0,0) ⟨0,[]⟩ d ω
    change ik _ _ _ (el F p) _ at C
    change ik _ _ _ (el F d) _ at A
    rw[a]at C;rw[hy]at A;obtain⟨o,v,l,u⟩ :=x;obtain⟨m,s,i,r⟩ :=y;obtain⟨ad,I,JQ,iA⟩ :=Lg.out.2 ω;obtain rfl:ad= ⟨g,0,none⟩ :=by injection I with I;exact I.symm
    have P:g<w.heap.size:=Nat.lt_of_lt_of_le JQ E.out.2.2.1
    have cell:∀j,j<n*2->wr.cell? ⟨g,j,none⟩ =some (sK F j):=λj hj=>by
     have:=iA j hj;rw[kA]at this;exact(N.cell (p:= ⟨g,j,none⟩) P).trans this
    have a0:=cell (p*2) ω;have a1:=cell (p*2+1) ω;have b0:=cell (d*2) ω;have b1:=cell (d*2+1) ω;rw[nT F rfl,a]at a0;rw[rh F rfl,a]at a1;rw[nT F rfl,hy]at b0;rw[rh F rfl,hy]at b1;replace a0:wr.cell? ⟨g,p*2,none⟩ =some (.int .i64 o):=a0;replace a1:wr.cell? ⟨g,p*2+1,none⟩ =some (.slice v l u):=a1;replace b0:wr.cell? ⟨g,d*2,none⟩ =some (.int .i64 m):=b0;replace b1:wr.cell? ⟨g,d*2+1,none⟩ =some (.slice s i r):=b1;have rD:(d:Int)<(n:Int)/\(p:Int)<(n:Int):=ω;have w1:IntKind.i64.wrap ((p:Int)+1)=(d:Int):=by rw[ao];exact kR ω
    have w2:IntKind.i64.wrap (d:Int)=(d:Int):=kR ω;have aI:g<wr.heap.size:=Nat.lt_of_lt_of_le P N.size;have aE:g<wr.heap.size+1:=ω;have aC:¬g=wr.heap.size:=ω;have ap:¬g=wr.heap.size+1:=ω;have HP:=η (⟨C,A,M,f,O,P,h⟩ :_/\_/\_/\_/\_/\_/\_);clear cell iA a hy aS C A M f O P I JQ h
    go_upto_region 5 with fail
    go_cut [5,6] (λv5 v6 wx=>PdB wr o m v s l u i r v5 v6 wx)
    case first=>
     go_region
     all_goals
      go_wp2_with fail
      go_meet
      first
       | exact a5y wr o m v s l u i r
       | exact a5z wr o m v s l u i r
    case rest=>
     clear a0 a1 b0 b1 w1 w2 aI aE aC ap;obtain⟨g5,g6,rfl,rfl,h5,h6,l5,l6,Q⟩ :=hcut;obtain⟨C,A,M,f,O,P,h⟩ :=HP.out;have Bv:=N.trans (Q.mono N.size);have ah:=D.keeps Q;have jK:o=(L.getD p ⟨0,[]⟩).w/\m=(L.getD d ⟨0,[]⟩).w:= ⟨C.1,A.1⟩;have rx:=(C.2.1.more E.out.2.2.1).below Bv;have ry:=(A.2.1.more E.out.2.2.1).below Bv;have U:=sP.out (L.getD p ⟨0,[]⟩) (by rw[List.getD_eq_getElem?_getD,List.getElem?_eq_getElem ω];exact List.getElem_mem _);have T:=sP.out (L.getD d ⟨0,[]⟩) (by rw[List.getD_eq_getElem?_getD,List.getElem?_eq_getElem ω];exact List.getElem_mem _);have bl:(0:Int)<=o/\o<=1099511627776/\(0:Int)<=m/\m<=1099511627776:=ω;have wE:l<=400000:=by have:l=_:=rx.1;rw[this];exact U.2.2
     have Z:i<=400000:=by have:i=_:=ry.1;rw[this];exact T.2.2
     have Zk:=η (Mm wc v s l u i r _ _ (rx.more Bv.size) (ry.more Bv.size) wE Z);obtain⟨z,G⟩ :=ν (o+m);have bn:(0:Int)<=z/\z<=2199023255552:=ω;have bk:IntKind.i64.wrap (o+m)=z:=by rw[G];exact IntWalk.i64_in _ ω
     have bi:IntKind.i64.wrap z=z:=IntWalk.i64_in _ ω;have HX:=η (⟨C,A,M,f,O,h,jK,G⟩ :_/\_/\_/\_/\_/\_/\_/\o+m=z)
     have Ip:q+1<=1000000000000:=by
      have h1:=ah.1;have h2:=hA.out.length;have h3:((aU L).take t).length<=(aU L).length:=List.length_take_le' _ _;rw[ep]at h3;have:=E.out;omega
     have zG:=Bv.size;have oT:∀k,aa A2=some k->k<wr.heap.size:=λk b=>(D.2.lt b).2
     have QH:=η (⟨oT,l5,l6,Q⟩ :_/\_/\_/\_);clear C A M f O h jK U T wE Z P HP rx ry oT l5 l6
     go_upto_region 6 with fail
     go_region_held3 (λw'=>w'.cell? ⟨g5,0,none⟩ =some (.int .i64 o)/\w'.cell? ⟨g5,1,none⟩ =some (.slice v l u)/\w'.cell? ⟨g6,0,none⟩ =some (.int .i64 m)/\w'.cell? ⟨g6,1,none⟩ =some (.slice s i r))
      (first | exact P4 m5 m6 | exact P4 (k5.alloc _) (k6.alloc _) | exact P4 k5 k6 | exact P4 (h5.alloc _).drew (h6.alloc _).drew | exact P4 h5.drew h6.drew | exact P4 h5 h6)
      (first
        | (go_at_call 132;(refine Zk.out.mono ?_);rintro e w5 ⟨A5,n5,R,rfl,fF,fN⟩
           have k5:=((h5.alloc (.cells #[.slice v l u, .slice s i r] 51)).drew).keeps fN;have k6:=((h6.alloc (.cells #[.slice v l u, .slice s i r] 51)).drew).keeps fN;have o5:=((ah.alloc (.cells #[.slice v l u, .slice s i r] 51)).drew).keeps fN;have s5:wc.heap.size+1<=w5.heap.size:=by have:=fN.size;simpa [World.drew] using this)
        | (have _g:=o5;(refine rS w.heap.size i0 rfl (.tmp 23) (.tmp 36) rfl Hi.out dM.out cV.out dN.out rfl (o5.alloc _) rfl (sQ.SM rfl z A5 n5 R 155) Ip ξ ?_);intro A6 d6 w6 jb gL dc
           have m5:=(k5.alloc _).grown gL (λe=>by have:=QH.out.1 _ e.symm;have:=QH.out.2.1;omega);have m6:=(k6.alloc _).grown gL (λe=>by have:=QH.out.1 _ e.symm;have:=QH.out.2.2.1;omega)))
     obtain⟨p2,CM⟩ :=ν (p+2);have bo:(p:Int)+2=(p2:Int):=ω;have BL:=η CM;clear CM
     go_wp2_with fail
     go_roundg (n-p2)
     case measure=>have:=b.out;have:=BL.out;have:=HX.out;omega
     case rel=>
      obtain⟨C,A,M,f,O,h,jK,G⟩ :=HX.out;obtain⟨oT,l5,l6,Q⟩ :=QH.out;have c0:aq wr wc (λk=>aa A2=some k):=aq.aB Q;have bb:=((c0.alloc (.cells #[.slice v l u, .slice s i r] 51)).drew).trans (aq.aB (S:=λ_=>False) fN) (λk b=>b.elim);have c3:=(bb.alloc (.cells #[.int .i64 z, .slice A5 n5 R] 155)).grown gL (λk b=> .inl b);have R:aq w5 w6 (λk=>aa A2=some k):=((aq.refl w5 _).alloc (.cells #[.int .i64 z, .slice A5 n5 R] 155)).grown gL (λk b=> .inl b);have Ws:Below w.heap.size w w6:=N.trans (c3.below (λk b=>(D.2.lt b).1) N.size);have be:=Q.size
      have am:∀k,aa A5=some k->wr.heap.size<=k/\k<w5.heap.size:=λk b=>by
       have h1:=(fF.2.lt b).1;have h2:=(fF.2.lt b).2;simp [World.drew]at h1
       omega
      refine⟨t+1,p2,q+1,d6,A6,_,rfl,rfl,by have:=BL.out;have:=H.out;show _=_;omega,jb,Ws, ?_,by show n-p2=_;have:=E.out.1;omega,by have:=BL.out;omega⟩;show cC _ _ _
      rw[P5 L t (by have:=H.out;omega),<-H.out,M];refine(hA.out.mono λe _ pk hm=>hm.cv c3 (λk b=> .inl b) (λk b a=> ?_)).app (cC.one ⟨?_, ?_,λ_ k b a=> ?_⟩)
      · rcases a with a | a
        · rcases dc with K | K
          · left;rw[<-K];exact a
          · rw[K]at a;injection a with a;simp at a;omega
        · exact .inr a
      · show z=_
        rw[<-G,jK.1,jK.2]
      · exact(R.oH fF.rd (Nat.le_refl _) (λ_ ad K hs=>by
         have h9:=(am ad.block (by rw[K];rfl)).1;have h8:=oT _ hs;omega)).more R.size
      · have h9:=am k b;have bp:=N.size;rcases a with a | a
        · rcases dc with K | K
          · rw[K]at a;have h8:=oT _ a;omega
          · rw[K]at a;injection a with a;simp at a;omega
        · omega
  · have rD:¬(d:Int)<(n:Int):=ω;have CF:(aU L).take t=aU L:=List.take_of_length_le (by rw[ep];have:=H.out;have:=E.out;omega);have J:=hA.out;rw[CF]at J;have ac:q=(aU L).length:=by have h1:=D.1;have h2:=J.length;omega
    have Ip:0<q:=by rw[ac,ep];have:=E.out;omega
    have df:=D.2.fD;obtain⟨g2,rfl⟩ :=D.2.addr ω
    have aA:Hid (yM w X (aU L) (.returned (.slice (some ⟨g2,0,none⟩) q c2)) wr):=
     ⟨g2,q,c2,rfl,N, ⟨D2, ⟨D.1,D.2.rd⟩,J.mono λe _ pk hm=>hm.cv (S:=λ_=>False) (aq.refl _ _) (λk b=>b.elim) (λk _ b=> .inr (bd.out k b))⟩,df,(D.2.lt rfl).1,(D.2.lt rfl).2⟩
    clear f CF J ac Ip df O M
    go_wp2_with fail
    go_ret
    exact aA.out
def Ju (A:Option Addr) (c:Nat):Option Addr:=if c=1 then A else A.map (·.add 2)
theorem xg {i:TypeInfo} (hi:Tryz.prog.info? 155 =some i) (b:i.size=2) (A:Option Addr) (n c:Nat) (d:1<=n) (W:World):
  (Instr.slice 152 (.slice A n c) (some (.int .i64 1)) none none).run Tryz.prog W= .ok (.slice (Ju A c) (n-1) (c-1)) W:=by
 have a:Tryz.prog.elem 152 = 155 :=by simp [Program.elem,Tryz.underlying152]
 rw[run_slice_l W 152 A n c (by rw[a];exact Tryz.underlying152) .i64 1 ω ω,a];simp [sizeOf,typeInfo,hi,b,sliced,Ju]
theorem sQ.tail {w:World} {B n c:Nat} {A:Option Addr} {e:El} {D:List El} (h:sQ w B A n (e::D)) (l:n<=c):sQ w B (Ju A c) (n-1) D:=by
 have k:n=D.length+1:=h.1;refine⟨ω,λm=> ?_⟩;obtain⟨a,j,d,b⟩ :=h.2 ω;refine⟨a.add 2,by unfold Ju;rw[if_neg ω,j];rfl,by rw[aw];exact d,λi hi=> ?_⟩;have g:=b (2+i) ω
 have f:(a.add 2).add i=a.add (2+i):=by
  rw[BS]
 rw[f,g]
 have:sK (e::D) (2+i)=sK D i:=by
  unfold sK el;rw[show(2+i)%2=i%2 by omega,show(2+i)/2=i/2+1 by omega];rfl
 rw[this]
theorem add_zero' (a:Addr):a.add 0=a:=by unfold Addr.add;simp
theorem ua (a:Addr):a.add 1= ⟨a.block,a.off+1,none⟩ :=by unfold Addr.add;simp
def MgR (w:World) (B:Nat) (X:Nat->Prop) (g f:List Pk) (k:Nat) (e d b:Value) (wr:World):Prop:=
 ∃(A1 a A:Option Addr) (n1 c1 n2 c2 q c:Nat) (E1 E2 D:List El) (M1 M2 M:List Pk),e= .slice A1 n1 c1/\d= .slice a n2 c2/\b= .slice A q c/\n1<=c1/\n2<=c2/\Hid (sQ w B A1 n1 E1)/\Hid (sQ w B a n2 E2)/\Hid (cC (ik w B X) E1 M1)/\Hid (cC (ik w B X) E2 M2)/\
  eV wr w.heap.size A q c D/\Below w.heap.size w wr/\Hid (cC (ik w B X) D M)/\Hid (M++tM M1 M2=tM g f)/\Hid (k=n1+n2)/\q+n1+n2<=3000
theorem Gg (w:World) (B a c1 b c2:Nat) (A1 A2:Option Addr) (S R:List Pk) (X:Nat->Prop) (h1:pQ w B X A1 a S) (h2:pQ w B X A2 b R) (hB:B<=w.heap.size) (jU:0<a) (kW:a<=1000) (jh:b<=1000) (s:a<=c1) (r:b<=c2):
  Calls Tryz.prog 115 #[.slice A1 a c1, .slice A2 b c2] w (yM w X (tM S R)):=by
 obtain⟨i0,hi,K,F,J⟩ :=info_parts qA;have Hi:=η hi;have dM:=η K;have cV:=η F;have dN:=η J;have rE:(0:Int)<=a/\(a:Int)<=1000/\(0:Int)<=b/\(b:Int)<=1000:=ω;obtain⟨N,hN⟩ :=ν (a+b);have aI:(a:Int)+(b:Int)=(N:Int):=ω;have jT:=run_make (P:=Tryz.prog) w 152 155 i0 _ Tryz.underlying152 hi K .i64 .i64 0 (N:Int) (Int.le_refl _) ω (by rw[J];omega) ω;rw[Int.toNat_natCast,F]at jT;obtain⟨Zc,Q⟩ :=ν (madeCells (Value.agg #[.int .i64 0, .slice none 0 0]).cells (N*2));have ah:Zc.size=N*2:=by rw[<-Q];simp [madeCells]
 rw[Q]at jT;have lD:(Instr.makeSlice 152 (.int .i64 0) (.int .i64 (N:Int))).run Tryz.prog w= .ok (.slice (some ⟨w.heap.size,0,none⟩) 0 N) (w.alloc (.cells Zc 155)):=jT;have Uu:eV (w.alloc (.cells Zc 155)) w.heap.size (some ⟨w.heap.size,0,none⟩) 0 N []:= ⟨rfl, .inr ⟨w.heap.size,Zc,rfl,Nat.le_refl _,heap_alloc_new w _,Nat.zero_le _,by unfold maxLen;omega,ah,λi hi=>ω⟩⟩;have lG:=λ(A:Option Addr) (n c:Nat) (hn:1<=n) W=>xg hi F A n c hn W
 have Q3:=η lG;obtain⟨D1,f,G⟩ :=h1;obtain⟨D2,g,O⟩ :=h2
 have bS:Hid (MgR w B X S R N (.slice A1 a c1) (.slice A2 b c2) (.slice (some ⟨w.heap.size,0,none⟩) 0 N) (w.alloc (.cells Zc 155))):=
  ⟨A1,A2,_,a,c1,b,c2,0,N,D1,D2,[],S,R,[],rfl,rfl,rfl,s,r,f,g,G,O,Uu,(Below.refl _ w).alloc (Nat.le_refl _) _, .nil,rfl,hN.symm,ω⟩
 have o:=η hB;have ac:0<(tM S R).length:=by rw[pn,<-G.length,<-f.1];omega
 have aC:=η ac;clear hi K F J jT Q ah Uu lG f G g O hN jU kW jh s r hB ac;go_enter Tryz.func115,Tryz.ntmps115
 go_wp2_with fail
 go_loopg [0,1,5] N (MgR w B X S R)
 case atStart=>exact bS.out
 case round=>
  clear bS lD rE;obtain⟨A1,A2,A,a,c1,b,c2,q,c,E1,E2,D,v,u,M,rfl,rfl,rfl,s,r,f,g,G,O,ho,H,L,hM,z,hq⟩ :=hrel;have rE:(0:Int)<=a/\(a:Int)<=3000/\(0:Int)<=b/\(b:Int)<=3000:=ω;by_cases xb:0<a/\0<b
  · have pN:(0:Int)<a/\(0:Int)<b:=ω;obtain⟨l,rfl,bl,RS⟩ :=f.out.2 ω;obtain⟨j,rfl,bk,RT⟩ :=g.out.2 ω;cases E1 with
    | nil=>have:=f.out.1;simp at this;omega
    | cons x E1=>
      cases E2 with
      | nil=>have:=g.out.1;simp at this;omega
      | cons y E2=>
        obtain⟨E,xA,Y,Z⟩ :=x;obtain⟨C,V,T,U⟩ :=y;have a0:=(H.cell (p:=l.add 0) (by rw[aw];have:=o.out;omega)).trans (RS 0 ω);have a1:=(H.cell (p:=l.add 1) (by rw[aw];have:=o.out;omega)).trans (RS 1 ω);have b0:=(H.cell (p:=j.add 0) (by rw[aw];have:=o.out;omega)).trans (RT 0 ω);have b1:=(H.cell (p:=j.add 1) (by rw[aw];have:=o.out;omega)).trans (RT 1 ω);rw[add_zero']at a0 b0;rw[ua]at a1 b1;replace a0:wr.cell? l=some (.int .i64 E):=a0;replace a1:wr.cell? ⟨l.block,l.off+1,none⟩ =some (.slice xA Y Z):=a1;replace b0:wr.cell? j=some (.int .i64 C):=b0;replace b1:wr.cell? ⟨j.block,j.off+1,none⟩ =some (.slice V T U):=b1
        go_wp2_with fail
        go_quiet (fail)
        have d:=below_drewN H nq;have ab:=ho.drewN nq;have Ip:q+1<=1000000000000:=ω;have aE:=Q3.out (some l) a c1 ω;have nY:=Q3.out (some j) b c2 ω;have be:(0:Int)<a:=pN.1;have bd:(0:Int)<b:=pN.2;have bb:0<a:=xb.1;have aS:0<b:=xb.2;have I:=η (⟨xb,hq⟩ :_/\_);clear xb hq;by_cases ao:C<E
        · have m:Hid (∀W,Below w.heap.size w W->W.cell? j=some (.int .i64 C)/\W.cell? ⟨j.block,j.off+1,none⟩ =some (.slice V T U)):=λW hW=>by
           have g0:=(hW.cell (p:=j.add 0) (by rw[aw];have:=o.out;omega)).trans (RT 0 (by have:=I.out;omega));have g1:=(hW.cell (p:=j.add 1) (by rw[aw];have:=o.out;omega)).trans (RT 1 (by have:=I.out;omega));rw[add_zero']at g0;rw[ua]at g1;exact⟨g0,g1⟩
          clear a0 a1 b0 b1
          go_wp2_with fail
          go_region_held3 (λw'=>w'.cell? j=some (.int .i64 C)/\w'.cell? ⟨j.block,j.off+1,none⟩ =some (.slice V T U))
           (first | exact m.out _ t | exact m.out _ (d.alloc d.size _) | exact m.out _ (d.drew.alloc d.drew.size _) | exact m.out _ (d.alloc d.size _).drew | exact m.out _ d | exact m.out _ d.drew)
           (first
             | ((refine rS w.heap.size i0 rfl (.tmp 29) (.tmp 33) rfl Hi.out dM.out cV.out dN.out rfl (ab.drew.alloc (.cells #[.int .i64 C, .slice V T U] 155)) rfl (sQ.SM (w:=(wr.drewN nq).drew) rfl C V T U 155) Ip (d.drew.alloc d.drew.size _).size ?_);intro A6 d6 w6 jb gL dc
                have t:=(d.drew.alloc d.drew.size (.cells #[.int .i64 C, .slice V T U] 155)).grown gL (d.drew.alloc d.drew.size _).size (λk z=>(ho.2.lt z).1)))
          go_wp2_with fail
          go_roundg (a+(b-1))
          case measure=>have:=z.out;have:=I.out;omega
          case rel=>
           cases O.out with
           | cons k1 k2=>
             cases G.out with
             | cons k3 k4=>
               rename_i p2 u p1 v
               refine⟨some l,Ju (some j) c2,A6,a,c1,b-1,c2-1,q+1,d6,_,E2,_,p1::v,u,M++[p2],rfl,rfl,rfl,s,ω,f.out,g.out.tail r, .cons k3 k4,k2,jb,t, ?_, ?_,rfl,by have:=I.out;omega⟩
               · exact L.out.app (cC.one k1)
               · have jD:p2.w<p1.w:=by
                  rw[<-k1.1,<-k3.1];exact ao
                 show _=_
                 rw[<-hM.out,tM,if_pos jD,List.append_assoc];rfl
        · have gH:decide (C<E)=false:=ξ
          have m:Hid (∀W,Below w.heap.size w W->W.cell? l=some (.int .i64 E)/\W.cell? ⟨l.block,l.off+1,none⟩ =some (.slice xA Y Z)):=λW hW=>by
           have g0:=(hW.cell (p:=l.add 0) (by rw[aw];have:=o.out;omega)).trans (RS 0 (by have:=I.out;omega));have g1:=(hW.cell (p:=l.add 1) (by rw[aw];have:=o.out;omega)).trans (RS 1 (by have:=I.out;omega));rw[add_zero']at g0;rw[ua]at g1;exact⟨g0,g1⟩
          clear a0 a1 b0 b1
          go_wp2_with fail
          go_region_held3 (λw'=>w'.cell? l=some (.int .i64 E)/\w'.cell? ⟨l.block,l.off+1,none⟩ =some (.slice xA Y Z))
           (first | exact m.out _ t | exact m.out _ (d.alloc d.size _) | exact m.out _ (d.drew.alloc d.drew.size _) | exact m.out _ (d.alloc d.size _).drew | exact m.out _ d | exact m.out _ d.drew)
           (first
             | ((refine rS w.heap.size i0 rfl (.tmp 37) (.tmp 41) rfl Hi.out dM.out cV.out dN.out rfl (ab.drew.alloc (.cells #[.int .i64 E, .slice xA Y Z] 155)) rfl (sQ.SM (w:=(wr.drewN nq).drew) rfl E xA Y Z 155) Ip (d.drew.alloc d.drew.size _).size ?_);intro A6 d6 w6 jb gL dc
                have t:=(d.drew.alloc d.drew.size (.cells #[.int .i64 E, .slice xA Y Z] 155)).grown gL (d.drew.alloc d.drew.size _).size (λk z=>(ho.2.lt z).1)))
          go_wp2_with fail
          go_roundg (a-1+b)
          case measure=>have:=z.out;have:=I.out;omega
          case rel=>
           cases O.out with
           | cons k1 k2=>
             cases G.out with
             | cons k3 k4=>
               rename_i p2 u p1 v
               refine⟨Ju (some l) c1,some j,A6,a-1,c1-1,b,c2,q+1,d6,E1,_,_,v,p2::u,M++[p1],rfl,rfl,rfl,ω,r,f.out.tail s,g.out,k4, .cons k1 k2,jb,t, ?_, ?_,rfl,by have:=I.out;omega⟩
               · exact L.out.app (cC.one k3)
               · have jD:¬p2.w<p1.w:=by
                  rw[<-k1.1,<-k3.1];show¬C<E;omega
                 show _=_
                 rw[<-hM.out,tM,if_neg jD,List.append_assoc];rfl
  · have ad:(a=0)\/(0<a/\b=0):=ω
    have jV:tM v u=v++u:=by
     have l1:v.length=a:=by rw[<-G.out.length,<-f.out.1]
     have l2:u.length=b:=by rw[<-O.out.length,<-g.out.1]
     rcases ad with h | ⟨_,h⟩
     · have:v=[]:=List.eq_nil_of_length_eq_zero ω;rw[this,tP];rfl
     · have:u=[]:=List.eq_nil_of_length_eq_zero ω;rw[this,tN,List.append_nil]
    have wM:=hM.out;rw[jV]at wM;have ra:=f.out.below (H.mono o.out);have zG:=H.size;have al:q+a<=1000000000000:=ω;have UB:q+a+b<=1000000000000:=ω
    have aA:Hid (∀A7 c7 w7,eV w7 w.heap.size A7 (q+a+b) c7 (D++E1++E2)->Below w.heap.size w w7->yM w X (tM S R) (.returned (.slice A7 (q+a+b) c7)) w7):=λA7 c7 w7 h7 ly=>by
     have Qd:cC (ik w B X) (D++E1++E2) (M++v++u):=(L.out.app G.out).app O.out;rw[show M++v++u=M++(v++u) by simp,wM]at Qd;have am:0<q+a+b:=by rw[h7.1,Qd.length];exact aC.out
     obtain⟨g7,rfl⟩ :=h7.2.addr am;refine⟨g7,_,c7,rfl,ly, ⟨_,h7.rd,Qd.mono λe _ pk hm=> ⟨hm.1,(hm.2.1.below (ly.mono o.out)).more (Nat.le_trans o.out ly.size),hm.2.2⟩⟩,h7.2.fD,(h7.2.lt rfl).1,(h7.2.lt rfl).2⟩
    have ap:=η g.out;have Ex:((a:Int)=0)\/((0:Int)<a/\(b:Int)=0):=ω;have HC:=η Ex;have tH:¬(0:Int)<a\/((0:Int)<a/\¬(0:Int)<b):=ω;clear ad jV wM xb hq Ex;rcases tH with tH | ⟨tH,bi⟩
    all_goals
     go_wp2_with (first
      | (at_builtin;(refine nP w.heap.size i0 rfl (.tmp 45) (.tmp 46) rfl Hi.out dM.out cV.out dN.out rfl ho rfl ra al zG ?_);intro A6 d6 w6 jb gL dc;have t:=H.grown gL zG (λk z=>(ho.2.lt z).1);have rb:=ap.out.below (t.mono o.out))
      | (have _g:=t;at_builtin;(refine nP w.heap.size i0 rfl (.tmp 47) (.tmp 48) rfl Hi.out dM.out cV.out dN.out rfl jb rfl rb UB t.size ?_);intro A7 d7 w7 an Qn FE;have ly:=t.grown Qn t.size (λk z=>(jb.2.lt z).1)))
     all_goals go_ret
     all_goals exact aA.out _ _ _ an ly
def Jf (f:List Int):Bool:=f.any λv=>decide (v<0)||decide (1048576<v)
def iP (f:List Int) (m:Int):Int:=
 if 288<f.length\/m<1\/15<m then 1 else if Jf f=true then 1 else if 2 ^ m.toNat<(aW f f.length).length then 3 else 0
theorem Mg {f:List Int} {i:Nat} (hi:i<f.length) (h:ix f i<0\/1048576<ix f i):Jf f=true:=by
 unfold Jf;rw[List.any_eq_true];exact⟨ix f i,lJ hi,by simpa using h⟩
theorem Ht {f:List Int} (h:∀j,j<f.length->0<=ix f j/\ix f j<=1048576):Jf f=false:=by
 unfold Jf;rw[List.any_eq_false];intro v hv;obtain⟨i,hi,e⟩ :=List.getElem_of_mem hv;have:=h i hi;have a:ix f i=v:=by simp [ix,hi,e]
 rw[a]at this;simp;omega
theorem tQ (f:List Int) (k:Nat):(aW f k).length<=k:=by
 induction k with
 | zero=>exact Nat.le_refl _
 | succ k a=>rw[aW,List.length_append];split <;> simp <;> omega
def CkR (w:World) (f:List Int) (n:Nat) (k:Nat) (b a:Value) (wr:World):Prop:=
 ∃i c:Nat,b= .int .i64 c/\a= .int .i64 i/\wr=w/\i<=n/\Hid (c=(aW f i).length)/\Hid (∀j,j<i->0<=ix f j/\ix f j<=1048576)/\Hid (k=n-i)
theorem Gb (w:World) (B:Nat) (C:Option Addr) (n d:Nat) (f:List Int) (t:aT .i64 w B C n f) (m:Int) (W:(n:Int)<=4611686018427387904):
  Calls Tryz.prog 113 #[.slice C n d, .int .i64 m] w λe w'=>e= .returned (.int .i64 (iP f m))/\w=w':=by
 have u:=t.1;have Y:(0:Int)<=n:=ω;by_cases J:288<n\/m<1\/15<m
 · have hv:iP f m=1:=by unfold iP;rw[if_pos ω]
   rw[hv];have k:(288:Int)<n\/(¬(288:Int)<n/\m<1)\/(¬(288:Int)<n/\¬m<1/\15<m):=ω;clear J hv u t;rcases k with E | ⟨E,K⟩ | ⟨E,K,S⟩
   all_goals
    go_enter Tryz.func113,Tryz.ntmps113
    go_wp2_with fail
    go_ret
    exact⟨rfl,rfl⟩
 · have E:¬(288:Int)<n:=ω;have K:¬m<1:=ω;have S:¬15<m:=ω;have hv:iP f m=if Jf f=true then 1 else if 2 ^ m.toNat<(aW f f.length).length then 3 else 0:=by unfold iP;rw[if_neg ω]
   have M:=η hv;have G:=η u;have X:(n:Int)<=288:=ω;obtain⟨o,rfl⟩ :=Int.eq_ofNat_of_zero_le (show 0<=m by omega);have O:o<=15:=ω;obtain⟨T,r⟩ :=ν (2 ^ o)
   have FB:1<=T/\T<=32768:=by
    rw[<-r];exact⟨Nat.two_pow_pos _,Nat.le_trans (Nat.pow_le_pow_right ω O) δ⟩
   have Wf:(2:Int) ^ o=(T:Int):=by rw[<-r];simp
   have R:IntKind.i64.wrap (T:Int)=(T:Int):=IntWalk.i64_in _ ω;have V:=η r;clear J hv u r;go_enter Tryz.func113,Tryz.ntmps113
   go_wp2_with fail
   go_loopg [5,21] n (CkR w f n)
   case atStart=>exact⟨0,0,rfl,rfl,rfl,Nat.zero_le _,rfl,λj I=>ω,rfl⟩
   case round=>
    obtain⟨i,c,rfl,rfl,N,hi,k,a,H⟩ :=hrel;obtain rfl:=N.symm;by_cases g:i<n
    · have P:(i:Int)<(n:Int)/\(0:Int)<=i:=ω;obtain⟨v,hv⟩ :=ν (ix f i);obtain⟨ad,rfl,Z,x⟩ :=t.at_ (i:=i) g;rw[hv]at x;have y:c<=288:=by have:=k.out;have:=tQ f i;omega
      have Q:(0:Int)<=c/\(c:Int)<=288:=ω;have b:=η (⟨hv,g⟩ :_/\_);clear hv g y;by_cases z:v<0\/1048576<v
      · have q:iP f (o:Int)=1:=by rw[M.out,if_pos (Mg (by rw[<-G.out];exact b.out.2) (by rw[b.out.1];exact z))]
        have s:=η q;have A:v<0\/(¬v<0/\1048576<v):=ω;clear z q;rcases A with L | ⟨L,U⟩
        all_goals
         go_wp2_with fail
         go_ret
         exact⟨aK s.out.symm,rfl⟩
      · have L:¬v<0:=ω;have U:¬1048576<v:=ω;clear z;by_cases hp:0<v
        · have p:aW f (i+1)=aW f i++[(i:Int)]:=by rw[aW,if_pos (by rw[b.out.1];exact hp)]
          have F:=η p;clear p
          go_wp2_with fail
          go_roundg (n-(i+1))
          case measure=>have:=H.out;have:=b.out.2;omega
          case rel=>exact⟨i+1,c+1,by go_num,by go_num,rfl,b.out.2,by show _=_;rw[F.out,List.length_append,<-k.out];rfl,λj I=>by
           by_cases e:j=i
           · subst e;rw[b.out.1];omega
           · exact a.out j ω,rfl⟩
        · have p:aW f (i+1)=aW f i:=by rw[aW,if_neg (by rw[b.out.1];exact hp),List.append_nil]
          have F:=η p;clear p
          go_wp2_with fail
          go_roundg (n-(i+1))
          case measure=>have:=H.out;have:=b.out.2;omega
          case rel=>exact⟨i+1,c,rfl,by go_num,rfl,b.out.2,by show _=_;rw[F.out];exact k.out,λj I=>by
           by_cases e:j=i
           · subst e;rw[b.out.1];omega
           · exact a.out j ω,rfl⟩
    · obtain rfl:i=n:=ω;have P:¬(i:Int)<(i:Int):=ω
      have q:iP f (o:Int)=if T<c then 3 else 0:=by
       rw[M.out,if_neg (by rw[Ht (by rw[<-G.out];exact a.out)];decide),Int.toNat_natCast,V.out,<-G.out,<-k.out]
      have s:=η q;have Q:(0:Int)<=c/\(c:Int)<=288:=by have:=k.out;have:=tQ f i;omega
      clear q g;by_cases h:T<c
      · have D:(T:Int)<(c:Int):=ω;have l:=η h;clear h
        go_wp2_with fail
        go_ret
        exact⟨aK (by rw[s.out,if_pos l.out]),rfl⟩
      · have D:¬(T:Int)<(c:Int):=ω;have l:=η h;clear h
        go_wp2_with fail
        go_ret
        exact⟨aK (by rw[s.out,if_neg l.out]),rfl⟩
end Go.Proofs.YtddhegejmkgmjaaGreat
