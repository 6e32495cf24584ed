/-
  part
-/
import Derived.Test.YtdhmnlpfhfmpfaaGreatPk2
import Derived.Maps.AppendAt
import Derived.OwnWalk
set_option linter.unusedVariables false
set_option maxRecDepth 100000
set_option maxHeartbeats 4000000
namespace Go.Proofs.YtdhmnlpfhfmpfaaGreat
open Go.RowKit
def cat {α:Type} (n:Nat) (f g:Nat->α):Nat->α:=λi=>if i<n then f i else g (i-n)
def ai (A:Option Addr):Option Nat:=A.map (·.block)
def Own (w:World) (b0:Nat) (e:TypeId) (sz:Nat) (A:Option Addr) (n c:Nat) (f:Nat->Value):Prop:=
 (A=none/\n=0/\c=0)\/∃(g:Nat) (cur:Array Value),A=some ⟨g,0,none⟩/\b0<=g/\w.heap[g]?=some (.cells cur e (0,0))/\n<=c/\c<=maxLen/\cur.size=c*sz/\∀i,i<n*sz->cur[i]?=some (f i)
section
variable {w w':World} {b0:Nat} {e:TypeId} {sz n c:Nat} {A:Option Addr} {f:Nat->Value}
theorem Own.dK:Own w b0 e sz none 0 0 f:= .inl ⟨rfl,rfl,rfl⟩
theorem Own.keep (h:Own w b0 e sz A n c f) (d:∀g,ai A=some g->g<w.heap.size->w'.heap[g]?=w.heap[g]?):Own w' b0 e sz A n c f:=by
 rcases h with h | ⟨g,a,rfl,i,b,r⟩
 · exact .inl h
 exact .inr ⟨g,a,rfl,i,(d g rfl (fW b)).trans b,r⟩
theorem Own.alloc (h:Own w b0 e sz A n c f) (o:Obj):Own (w.alloc o) b0 e sz A n c f:=h.keep λg _ a=>eI w o g a
theorem Own.drewN (h:Own w b0 e sz A n c f) (k:Nat):Own (w.drewN k) b0 e sz A n c f:=h
theorem Own.far (h:Own w b0 e sz A n c f) {p:Addr} (hp:ai A≠some p.block) (u:Value):Own (w.setCell p u) b0 e sz A n c f:=
 h.keep λg a _=>cR w p u g (λe=>hp (by rw[a,e]))
theorem Own.below {B:Nat} (h:Own w b0 e sz A n c f) (b:Below B w w') (d:∀g,ai A=some g->g<B):Own w' b0 e sz A n c f:=h.keep λg a _=>b.block g (d g a)
theorem Own.grown {row:Option Nat} (h:Own w b0 e sz A n c f) (i:w.grownBy w' row) (b:ai A≠row\/ai A=none):Own w' b0 e sz A n c f:=
 h.keep λg a d=>i.block g d (λe=>by
  rcases b with b | b
  · exact b (a.trans e)
  rw[b]at a;cases a)
theorem Own.lt (h:Own w b0 e sz A n c f) {g:Nat} (a:ai A=some g):b0<=g/\g<w.heap.size:=by
 rcases h with ⟨rfl,_⟩ | ⟨j,i,rfl,d,b,_⟩
 · simp [ai]at a
 simp [ai]at a;subst a;exact⟨d,fW b⟩
theorem Own.congr {f':Nat->Value} (h:Own w b0 e sz A n c f) (hf:∀i,i<n*sz->f i=f' i):Own w b0 e sz A n c f':=by
 rcases h with h | ⟨g,a,m,l,k,j,d,b,h7⟩
 · exact .inl h
 exact .inr ⟨g,a,m,l,k,j,d,b,λi hi=>by rw[h7 i hi,hf i hi]⟩
theorem Own.more {b1:Nat} (h:Own w b0 e sz A n c f) (i:b1<=b0):Own w b1 e sz A n c f:=by
 rcases h with h | ⟨g,a,d,b,r⟩
 · exact .inl h
 exact .inr ⟨g,a,d,au i b,r⟩
theorem Own.rd (h:Own w b0 e sz A n c f):Rd w w.heap.size A (n*sz) f:=λd=>by
 rcases h with ⟨_,rfl,_⟩ | ⟨g,a,rfl,_,b,j,_,h5,h6⟩
 · simp at d
 refine⟨_,rfl,fW b,λi hi=> ?_⟩;have:(⟨g,0,none⟩ :Addr).add i= ⟨g,i,none⟩ :=by unfold Addr.add;split <;> simp_all
 rw[this,iT w g i a e (0,0) b,h6 i hi]
theorem Own.jD (h:Own w b0 e sz A n c f):n<=c:=by
 rcases h with ⟨_,rfl,rfl⟩ | ⟨g,b,_,_,_,a,_⟩
 · exact ag _
 exact a
theorem Own.owns (h:Own w b0 e sz A n c f):w.ownsRow b0 e sz (.slice A n c) n ((List.range (n*sz)).map f):=by
 refine⟨σ, ?_⟩;rcases h with ⟨rfl,rfl,rfl⟩ | ⟨g,a,rfl,j,d,b,h4,h5,h6⟩
 · exact .inl ⟨rfl,rfl⟩
 refine .inr ⟨g,c,a,rfl,j,d,b,h4,h5, ?_⟩
 apply List.ext_getElem?
 intro i;rw[ib];by_cases hi:i<n*sz
 · rw[ae hi];have:=h6 i hi;simp [hi,this]
 rw[aa hi];simp [hi]
theorem yb {v:Value} {d:List Value} (h:w.ownsRow b0 e sz v n d) (j:∀i,i<n*sz->d[i]?=some (f i)):∃A c,v= .slice A n c/\Own w b0 e sz A n c f/\v.ownBlock=ai A:=by
 obtain⟨m,a⟩ :=h;rcases a with ⟨rfl,rfl⟩ | ⟨g,cap,b,rfl,l,a,k,h4,h5,h6⟩
 · exact⟨none,0,rfl, .inl ⟨rfl,rfl,rfl⟩,rfl⟩
 refine⟨_,_,rfl, .inr ⟨g,b,rfl,l,a,k,h4,h5,λi hi=> ?_⟩,rfl⟩;have:=j i hi;rw[<-h6,ib,ae hi]at this
 simpa using this
theorem Own.lit {g:Nat} (b:g=w.heap.size) (cs:Array Value) (e:TypeId) {n:Nat} (c:b0<=w.heap.size) (a:n<=maxLen) (hs:cs.size=n*sz) (hf:∀i,i<n*sz->cs[i]?=some (f i)):
  Own (w.alloc (.cells cs e)) b0 e sz (some ⟨g,0,none⟩) n n f:=by
 subst b;exact .inr ⟨_,cs,rfl,c,dr w _,ag _,a,hs,hf⟩
theorem Own.bC {g:Nat} (h:Own w b0 e sz (some ⟨g,0,none⟩) n c f) {i:Nat} (hi:i<n*sz) (u:Value):Own (w.setCell ⟨g,i,none⟩ u) b0 e sz (some ⟨g,0,none⟩) n c (upd f i u):=by
 rcases h with ⟨h,_⟩ | ⟨o,a,hA,m,l,k,h4,h5,h6⟩
 · cases h
 cases hA;refine .inr ⟨_,a.setIfInBounds i u,rfl,m, ?_,k,h4,by simpa using h5,λj b=> ?_⟩
 · simp [World.setCell,Array.getElem?_modify,l]
 rw[fE];by_cases d:i=j
 · subst d;have:i<a.size:=by rw[h5];exact aD b (fc _ k)
   rw[ae rfl,ae this,upd_same]
 rw[aa d,h6 j b,dL _ _ ω]
theorem Own.cell {g:Nat} (h:Own w b0 e sz (some ⟨g,0,none⟩) n c f) {i:Nat} (hi:i<n*sz):w.cell? ⟨g,i,none⟩ =some (f i):=by
 rcases h with ⟨h,_⟩ | ⟨k,a,hA,j,b,d,h4,h5,h6⟩
 · cases h
 cases hA;rw[iT w _ i a e (0,0) b,h6 i hi]
theorem Own.frozen {g:Nat} (h:Own w b0 e sz (some ⟨g,0,none⟩) n c f) (i:Nat):w.frozen? ⟨g,i,none⟩ =false:=by
 rcases h with ⟨h,_⟩ | ⟨j,b,hA,d,a,_⟩
 · cases h
 cases hA;simp [World.frozen?,a]
theorem Own.addr (h:Own w b0 e sz A n c f) (b:0<n):∃g,A=some ⟨g,0,none⟩ :=by
 rcases h with ⟨_,h,_⟩ | ⟨d,a,hA,_⟩
 · omega
 exact⟨_,hA⟩
end
section
variable {P:Program} (w:World)
theorem iP (b0:Nat) (t D e:TypeId) (i:TypeInfo) (z:Value) (sz bytes:Nat) (ht:P.underlying t=some (.slice e)) (hi:P.info? e=some i) (hz:i.zero=some z)
  (d:i.size=sz) (s:i.bytes=bytes) (r:z.cells.size=sz) (o:0<sz)
  (A:Option Addr) (n c:Nat) (f:Nat->Value) (a:Own w b0 e sz A n c f)
  (B:Nat) (A':Option Addr) (m c':Nat) (f':Nat->Value) (E:Rd w B A' (m*sz) f') (R:∀j,j<m*sz->(f' j).oneCell'=true)
  (x:n+m<=1000000000000) (N:bytes<=100) (k:b0<=w.heap.size):
  ∃A2 c2 w2,(Builtin.append_ #[t,t] D #[.slice A n c, .slice A' m c']).run P w= .ok (.slice A2 (n+m) c2) w2/\Own w2 b0 e sz A2 (n+m) c2 (cat (n*sz) f f')/\w.grownBy w2 (ai A)/\
   (ai A2=ai A\/ai A2=some w.heap.size):=by
 have K:m=0->Own w b0 e sz A (n+m) c (cat (n*sz) f f'):=by
  rintro rfl;exact a.congr λj b=>by unfold cat;rw[ae b]
 have q:(Value.slice A n c).ownBlock=ai A:=by cases A <;> rfl
 rcases A' with _ | C
 · have I:m=0:=by
    rcases cS m with y | y
    · exact y
    obtain⟨C,h,_⟩ :=E (Nat.mul_pos y o);cases h
   subst I;refine⟨A,c,w, ?_,K rfl,World.grownBy.refl w _, .inl rfl⟩;rcases a with ⟨rfl,rfl,rfl⟩ | ⟨g,S,rfl,_,_,H,_⟩
   · simp [Builtin.append_,run_underlying ht,sizeOf,typeInfo,hi,Builtin.lenOf,Builtin.firstCells]
   simp [Builtin.append_,run_underlying ht,sizeOf,typeInfo,hi,Builtin.lenOf,Builtin.firstCells,H,storeCells]
 have J:∀j u,((List.range (m*sz)).map f')[j]?=some u->w.cell? (C.add j)=some u:=by
  intro j u l
  have b:j<m*sz:=by
   rcases aZ j (m*sz)with h' | h'
   · exact h'
   rw[br (by simpa using h')]at l;cases l
  obtain⟨U,h,_,L⟩ :=E ω;injection h with h;subst h;rw[L j b]
  simpa [b] using l
 have F:∀u∈(List.range (m*sz)).map f',u.oneCell'=true:=by
  intro u l;obtain⟨j,b,rfl⟩ :=gF.1 l;exact R j (by simpa using b)
 have M:(n+m)*bytes<=140737488355328:=by
  calc (n+m)*bytes<=1000000000000*100:=gB x N
   _<=140737488355328:=ω
 obtain⟨T,w',p,Q,O,_,h5⟩ :=run_append_own_at (P:=P) w b0 t D e i z sz bytes ht hi hz d s r o _ n _ a.owns C m c' _ σ J F (by unfold maxLen;omega) M k
 obtain⟨A2,c2,rfl,G,v⟩ :=yb (f:=cat (n*sz) f f') Q (λj b=>by
  unfold cat;rw[dD]at b;by_cases h':j<n*sz
  · rw[ae h',bJ (by simpa using h')];simp [h']
  rw[aa h',bF ξ];have:j-n*sz<m*sz:=ω;simp [this])
 refine⟨A2,c2,w',p,G,by rw[<-q];exact O, ?_⟩;rw[<-v,<-q];exact h5
end
def aW (k:IntKind) (w:World) (b0:Nat) (e:TypeId) (A:Option Addr) (n c:Nat) (l:List Int):Prop:=n=l.length/\Own w b0 e 1 A n c (λi=> .int k (ix l i))
section
variable {k:IntKind} {w w':World} {b0:Nat} {e:TypeId} {n c:Nat} {A:Option Addr} {l:List Int}
theorem aW.dK:aW k w b0 e none 0 0 []:= ⟨rfl,Own.dK⟩
theorem aW.alloc (h:aW k w b0 e A n c l) (o:Obj):aW k (w.alloc o) b0 e A n c l:= ⟨h.1,h.2.alloc o⟩
theorem aW.drewN (h:aW k w b0 e A n c l) (j:Nat):aW k (w.drewN j) b0 e A n c l:=h
theorem aW.drew (h:aW k w b0 e A n c l):aW k w.drew b0 e A n c l:=h
theorem aW.far (h:aW k w b0 e A n c l) {p:Addr} (hp:ai A≠some p.block) (u:Value):aW k (w.setCell p u) b0 e A n c l:= ⟨h.1,h.2.far hp u⟩
theorem aW.below {B:Nat} (h:aW k w b0 e A n c l) (a:Below B w w') (b:∀g,ai A=some g->g<B):aW k w' b0 e A n c l:= ⟨h.1,h.2.below a b⟩
theorem aW.keeps (h:aW k w b0 e A n c l) (b:Below w.heap.size w w'):aW k w' b0 e A n c l:=h.below b λ_ a=>(h.2.lt a).2
theorem aW.grown {row:Option Nat} (h:aW k w b0 e A n c l) (b:w.grownBy w' row) (a:ai A≠row\/ai A=none):aW k w' b0 e A n c l:= ⟨h.1,h.2.grown b a⟩
theorem aW.more {b1:Nat} (h:aW k w b0 e A n c l) (a:b1<=b0):aW k w b1 e A n c l:= ⟨h.1,h.2.more a⟩
theorem aW.rd (h:aW k w b0 e A n c l):bU k w w.heap.size A n l:= ⟨h.1,by simpa using h.2.rd⟩
theorem aW.lit {g:Nat} (b:g=w.heap.size) (l:List Int) (e:TypeId) (c:b0<=w.heap.size) (a:l.length<=maxLen):aW k (w.alloc (.cells (l.map (Value.int k)).toArray e)) b0 e (some ⟨g,0,none⟩) l.length l.length l:=
 ⟨rfl,Own.lit b _ e c a σ λi hi=>by rw[dG]at hi;simp [ix,hi]⟩
end
theorem dn (l l':List Int) (i:Nat):ix (l++l') i=if i<l.length then ix l i else ix l' (i-l.length):=by
 unfold ix;simp only [List.getD_eq_getElem?_getD];split
 · rw[bJ (by assumption)]
 rw[bF ω]
section
variable {P:Program} {w:World}
theorem FX (k:IntKind) (b0:Nat) (t h e:TypeId) (i:TypeInfo) (bytes:Nat) (ht:P.underlying t=some (.slice e)) (hi:P.info? e=some i) (hz:i.zero=some (.int k 0))
  (b:i.size=1) (f:i.bytes=bytes) {A:Option Addr} {n c:Nat} {l:List Int} (a:aW k w b0 e A n c l) {B:Nat} {A':Option Addr} {m c':Nat} {l':List Int} (o:bU k w B A' m l')
  (g:n+m<=1000000000000) (p:bytes<=100) (d:b0<=w.heap.size):
  ∃A2 c2 w2,(Builtin.append_ #[t,t] h #[.slice A n c, .slice A' m c']).run P w= .ok (.slice A2 (n+m) c2) w2/\aW k w2 b0 e A2 (n+m) c2 (l++l')/\w.grownBy w2 (ai A)/\
   (ai A2=ai A\/ai A2=some w.heap.size):=by
 obtain⟨A2,c2,w2,s,r,q,h4⟩ :=iP (P:=P) w b0 t h e i (.int k 0) 1 bytes ht hi hz b f rfl ω A n c _ a.2 B A' m c' _ (by rw[dG];exact o.2) (λ_ _=>rfl) g p d;refine⟨A2,c2,w2,s, ⟨by rw[af,<-a.1,<-o.1],r.congr λj u=> ?_⟩,q,h4⟩;unfold cat;rw[dn,<-a.1,dG];split <;> rfl
theorem ba {b:Array Oper} {rest:List Oper} {o:Oper} {a:Act} {Q:Exit->Act->World->Prop} (k:IntKind) (b0:Nat) (e:TypeId) (i:TypeInfo) (bytes:Nat) (p:Region.wanted o (yielded b a.tmps)=true) (s x:Operand) (t:TypeId)
  (y:o.op= .call { callee:= .builtin .append,args:= #[s,x],argTypes:= #[t,t] }) (ht:P.underlying t=some (.slice e)) (hi:P.info? e=some i) (hz:i.zero=some (.int k 0))
  (d:i.size=1) (q:i.bytes=bytes) {A:Option Addr} {n c:Nat} {l:List Int} (hs:a.eval s= .slice A n c) (j:aW k w b0 e A n c l)
  {B:Nat} {A':Option Addr} {m c':Nat} {l':List Int} (u:a.eval x= .slice A' m c') (v:bU k w B A' m l')
  (r:n+m<=1000000000000) (z:bytes<=100) (f:b0<=w.heap.size)
  (h:∀A2 c2 w2,aW k w2 b0 e A2 (n+m) c2 (l++l')->w.grownBy w2 (ai A)->(ai A2=ai A\/ai A2=some w.heap.size)->wpList P b Q rest (a.put o.dst (.slice A2 (n+m) c2)) w2):wpList P b Q (o::rest) a w:=by
 refine iU λK C=> ?_;rw[ae p];obtain⟨A2,c2,w2,g,E,D,h4⟩ :=FX (P:=P) (w:=w) k b0 t o.type e i bytes ht hi hz d q j (c':=c') v r z f;unfold Oper.wp execOp;simp only [y,resolve,invoke,builtin,Sem.run_bind,Sem.run_pure,Result.andThen_ok,List.map_toArray,List.map_cons,List.map_nil,hs,u,g];exact C _ _ (h A2 c2 w2 E D h4)
end
theorem GU {b0:Nat} {w0 w w':World} {A:Option Addr} (b:Below b0 w0 w) (a:w.grownBy w' (ai A)) (c:b0<=w.heap.size) (hA:∀g,ai A=some g->b0<=g):Below b0 w0 w':=b.grown a c hA
theorem nY (g i:Nat):(⟨g,0,none⟩ :Addr).add i= ⟨g,i,none⟩ :=by unfold Addr.add;split <;> simp_all
def foot (A:Option Addr) (g:Nat) (k:Nat):Prop:=k=g\/ai A=some k
structure bj (w w':World) (S:Nat->Prop):Prop where
 os:w'.os=w.os
 tape:w'.tape=w.tape
 output:w'.output=w.output
 size:w.heap.size<=w'.heap.size
 block:∀k,k<w.heap.size->¬S k->w'.heap[k]?=w.heap[k]?
section
variable {w w' w'':World} {S S':Nat->Prop}
theorem bj.refl (w:World) (S:Nat->Prop):bj w w S:= ⟨rfl,rfl,rfl,ag _,λ_ _ _=>rfl⟩
theorem bj.trans (h:bj w w' S) (h':bj w' w'' S') (hs:∀k,S' k->S k\/w.heap.size<=k):bj w w'' S:=
 ⟨h'.os.trans h.os,h'.tape.trans h.tape,h'.output.trans h.output,au h.size h'.size,λk a b=>
   (h'.block k (aD a h.size) (λd=>by rcases hs k d with c | c;exact b c;omega)).trans (h.block k a b)⟩
theorem bj.more (h:bj w w' S) (hs:∀k,S k->S' k):bj w w' S':= ⟨h.os,h.tape,h.output,h.size,λk a b=>h.block k a λc=>b (hs k c)⟩
theorem bj.drew (h:bj w w' S):bj w w'.drew S:= ⟨h.os,h.tape,h.output,h.size,h.block⟩
theorem bj.drewN (h:bj w w' S) (n:Nat):bj w (w'.drewN n) S:= ⟨h.os,h.tape,h.output,h.size,h.block⟩
theorem bj.alloc (h:bj w w' S) (o:Obj):bj w (w'.alloc o) S:=
 ⟨h.os,h.tape,h.output,au h.size σ,λk a b=>(eI w' o k (aD a h.size)).trans (h.block k a b)⟩
theorem bj.setCell (h:bj w w' S) {p:Addr} (hp:S p.block\/w.heap.size<=p.block) (u:Value):bj w (w'.setCell p u) S:=
 ⟨h.os,h.tape,h.output,by simpa [World.setCell] using h.size,λk b a=>(cR w' p u k (by
   rintro rfl;rcases hp with hp | hp
   · exact a hp
   omega)).trans (h.block k b a)⟩
theorem bj.grown (h:bj w w' S) {row:Option Nat} (a:w'.grownBy w'' row) (f:∀k,row=some k->S k\/w.heap.size<=k):bj w w'' S:=
 ⟨a.os.trans h.os,a.tape.trans h.tape,a.output.trans h.output,au h.size a.size,λk b c=>
   (a.block k (aD b h.size) (λe=>by rcases f k e.symm with d | d;exact c d;omega)).trans (h.block k b c)⟩
theorem bj.bA (h:Below w.heap.size w w'):bj w w' S:= ⟨h.os,h.tape,h.output,h.size,λk a _=>h.block k a⟩
theorem bj.below {b0:Nat} (h:bj w w' S) (hs:∀k,S k->b0<=k) (c:b0<=w.heap.size):Below b0 w w':=
 ⟨h.os,h.tape,h.output,h.size,λk b=>h.block k ω λa=>by have:=hs k a;omega⟩
theorem bj.cell (h:bj w w' S) {p:Addr} (hp:p.block<w.heap.size) (a:¬S p.block):w'.cell? p=w.cell? p:=fe (w:=w) (h.block p.block hp a)
theorem bj.ar {g m:Nat} {f:Nat->Value} (h:bj w w' S) (a:Ar w g m f) (b:¬S g):Ar w' g m f:=a.same (h.block g a.lt b)
theorem bj.own {b0:Nat} {e:TypeId} {sz n c:Nat} {A:Option Addr} {f:Nat->Value} (h:bj w w' S) (d:Own w b0 e sz A n c f) (i:∀g,ai A=some g->¬S g):Own w' b0 e sz A n c f:=
 d.keep λg b a=>h.block g a (i g b)
theorem bj.eH {k:IntKind} {b0:Nat} {e:TypeId} {n c:Nat} {A:Option Addr} {l:List Int} (h:bj w w' S) (a:aW k w b0 e A n c l) (b:∀g,ai A=some g->¬S g):aW k w' b0 e A n c l:=
 ⟨a.1,h.own a.2 b⟩
theorem bj.rA {k:IntKind} {B n:Nat} {A:Option Addr} {l:List Int} (h:bj w w' S) (c:bU k w B A n l) (j:B<=w.heap.size) (g:0<n->∀a,A=some a->¬S a.block):bU k w' B A n l:=
 ⟨c.1,λb=>by
   obtain⟨a,e,f,d⟩ :=c.2 b;exact⟨a,e,f,λi hi=>(h.cell (by rw[bH];omega) (by rw[bH];exact g b a e)).trans (d i hi)⟩⟩
end
theorem lQ (l:List Int) (k i:Nat):ix (l.drop k) i=ix l (k+i):=by
 unfold ix;simp only [List.getD_eq_getElem?_getD,List.getElem?_drop]
theorem bU.cut {k:IntKind} {w:World} {B n:Nat} {A:Option Addr} {l:List Int} (h:bU k w B A n l) {j:Nat} (e:j<=n) {A':Option Addr} (hA:j<n->A'=A.map (·.add j)):bU k w B A' (n-j) (l.drop j):=by
 refine⟨by rw[av,h.1],λd=> ?_⟩;obtain⟨c,rfl,b,a⟩ :=h.2 ω;refine⟨c.add j,hA ω,by rw[bH];exact b,λi hi=> ?_⟩;rw[GM,a (j+i) ω];show some (Value.int k (ix l (j+i)))=some (Value.int k (ix (List.drop j l) i));rw[lQ]
def zD (l b:List Int):List Int:=if 65536<(l++b).length then(l++b).drop ((l++b).length-32768)else l++b
theorem MU (l b:List Int):(zD l b).length<=65536:=by
 unfold zD;split
 · simp;omega
 omega
def ve (all l:List Int):Prop:=∃k,l=all.drop k/\k<=all.length/\(k=0\/32768<=all.length-k)
theorem ve.dK:ve [] []:= ⟨0,rfl,σ, .inl rfl⟩
theorem ve.add {all l:List Int} (h:ve all l) (b:List Int):ve (all++b) (zD l b):=by
 obtain⟨k,rfl,f,d⟩ :=h;have e:all.drop k++b=(all++b).drop k:=by rw[dW f]
 unfold zD;rw[e];have a:((all++b).drop k).length=all.length+b.length-k:=σ;have c:(all++b).length=all.length+b.length:=σ;split
 · rename_i h
   rw[a]at h;rw[a,bm];exact⟨k+(all.length+b.length-k-32768),rfl,ω, .inr ω⟩
 exact⟨k,rfl,ω,ω⟩
theorem ve.len {all l:List Int} (h:ve all l):min l.length 32768=min all.length 32768:=by
 obtain⟨k,rfl,b,a⟩ :=h;simp;omega
theorem ve.back {all l:List Int} (h:ve all l) {d:Nat} (hd:d<=l.length):l.drop (l.length-d)=all.drop (all.length-d):=by
 obtain⟨k,rfl,b,a⟩ :=h;rw[bm,av]at*;congr 1;omega
structure cu where
 lit:Int
 len:Int
 bk:Int
def cC (t:cu):Prop:=if t.len=0 then t.bk=0 else t.lit=0/\3<=t.len/\t.len<=258/\1<=t.bk/\t.bk<=32768
instance (t:cu):Decidable (cC t):=by unfold cC;infer_instance
def again (l:List Int) (D N:Nat):List Int:=(List.range N).map λi=>ix l (l.length-D+i%D)
theorem cG (l:List Int) (D N:Nat):(again l D N).length=N:=by simp [again]
theorem Iy (l:List Int) (D N:Nat) {i:Nat} (h:i<N):ix (again l D N) i=ix l (l.length-D+i%D):=by simp [ix,again,h]
theorem Kp (l:List Int) (D:Nat):again l D 0=[]:=rfl
theorem Kn (l:List Int) (D N:Nat) (hD:1<=D) (b:D<=l.length):again l D (N+1)=again l D N++[ix (l++again l D N) (l.length+N-D)]:=by
 have a:again l D (N+1)=again l D N++[ix l (l.length-D+N%D)]:=by unfold again;rw[jr,dt];rfl
 rw[a];congr 2;by_cases h:N<D
 · rw[dU h,dn,ae ω];congr 1;omega
 rw[dn,aa ω,Iy _ _ _ ω,show l.length+N-D-l.length=N-D by omega,<-Nat.mod_eq_sub_mod ω]
def step (out:List Int) (t:cu):Int×List Int:=
 if¬cC t then(1,[])
 else if 16777216<(out.length:Int)+max t.len 1 then(6,[])
 else if t.len=0 then(0,out++[t.lit])
 else if(out.length:Int)<t.bk then(3,[])
 else(0,out++again out t.bk.toNat t.len.toNat)
def expand (out:List Int):List cu->Int×List Int
 | []=>(0,out)
 | t::l=>if(step out t).1=0 then expand (step out t).2 l else step out t
theorem jQ (out:List Int) (t:cu) (l:List cu):expand out (t::l)=if(step out t).1=0 then expand (step out t).2 l else step out t:=rfl
theorem WB {out:List Int} {t:cu} (h:(step out t).1=0):(step out t).2.length<=16777216/\out.length<=(step out t).2.length:=by
 unfold step at h⊢;by_cases c:cC t
 · rw[aa (by simpa using c)]at h⊢;by_cases b:16777216<(out.length:Int)+max t.len 1
   · rw[ae b]at h;simp at h
   rw[aa b]at h⊢;by_cases a:t.len=0
   · rw[ae a];simp;omega
   rw[aa a]at h⊢;by_cases h4:(out.length:Int)<t.bk
   · rw[ae h4]at h;simp at h
   rw[aa h4];simp [cG];omega
 rw[ae (by simpa using c)]at h;simp at h
def dx (A:Option Addr) (c j:Nat):Option Addr:=if c=j then A else A.map (·.add j)
theorem bU.dx {k:IntKind} {w:World} {B n c:Nat} {A:Option Addr} {l:List Int} (h:bU k w B A n l) {j:Nat} (b:j<=n) (d:n<=c):bU k w B (dx A c j) (n-j) (l.drop j):=
 h.cut b λa=>by unfold Go.Proofs.YtdhmnlpfhfmpfaaGreat.dx;rw[aa ω]
theorem bU.pre {k:IntKind} {w:World} {B n:Nat} {A:Option Addr} {l:List Int} (h:bU k w B A n l) {j:Nat} (d:j<=n):bU k w B A j (l.take j):=by
 refine⟨by rw[aA,<-h.1];omega,λf=> ?_⟩;obtain⟨c,e,b,a⟩ :=h.2 ω;refine⟨c,e,b,λi hi=> ?_⟩;rw[a i ω];simp [ix,hi]
section
variable {P:Program} (t e:TypeId) (ht:P.underlying t=some (.slice e)) {i:TypeInfo} (hi:P.info? e=some i) (hs:i.size=1)
include ht hi hs
theorem dc (A:Option Addr) (n c:Nat) {j:Nat} (b:j<=n) (W:World):
  (Instr.slice t (.slice A n c) (some (.int .i64 (j:Int))) none none).run P W= .ok (.slice (dx A c j) (n-j) (c-j)) W:=by
 have a:P.elem t=e:=by simp [Program.elem,ht]
 rw[run_slice_l W t A n c (by rw[a];exact ht) .i64 j ω ω,a];simp [sizeOf,typeInfo,hi,hs,sliced,dx]
theorem dV (A:Option Addr) (n c:Nat) {j:Nat} (b:j<=c) (W:World):
  (Instr.slice t (.slice A n c) none (some (.int .i64 (j:Int))) none).run P W= .ok (.slice A j c) W:=by
 have a:P.elem t=e:=by simp [Program.elem,ht]
 rw[run_slice_h W t A n c (by rw[a];exact ht) .i64 j ω ω,a];simp [sizeOf,typeInfo,hi,hs,sliced];cases A <;> simp [Addr.add]
theorem fR (A:Option Addr) (n c:Nat) {a b:Nat} (f:a<=b) (g:b<=c) (W:World):
  (Instr.slice t (.slice A n c) (some (.int .i64 (a:Int))) (some (.int .i64 (b:Int))) none).run P W= .ok (.slice (dx A c a) (b-a) (c-a)) W:=by
 have d:P.elem t=e:=by simp [Program.elem,ht]
 rw[run_slice_lh W t A n c (by rw[d];exact ht) .i64 .i64 a b ω ω ω,d];simp [sizeOf,typeInfo,hi,hs,sliced,dx]
end
theorem aW.put {k:IntKind} {w:World} {b0 g n c i:Nat} {e:TypeId} {l:List Int} (h:aW k w b0 e (some ⟨g,0,none⟩) n c l) (hi:i<n) (v:Int):aW k (w.setCell ⟨g,i,none⟩ (.int k v)) b0 e (some ⟨g,0,none⟩) n c (l.set i v):=by
 refine⟨by rw[eo];exact h.1, ?_⟩;rcases h.2 with ⟨u,_⟩ | ⟨x,d,a,r,q,p,o,f,m⟩
 · cases u
 injection a with a;injection a with a;subst a;refine .inr ⟨g,d.setIfInBounds i (.int k v),rfl,r, ?_,p,o,by simpa using f,λj t=> ?_⟩
 · simp [World.setCell,Array.getElem?_modify,q]
 rw[fE];have s:=h.1;by_cases b:i=j
 · subst b;rw[ae rfl,ae (by rw[f];omega)];simp [ix,<-s,hi]
 rw[aa b,m j t];simp [ix,b]
structure Rn where
 c:Int
 v:Int
 e:Int
def ij (k:Int) (n:Nat):List Rn:=
 if h0:n=0 then []
 else if k=0/\11<=n then⟨18,((min n 138:Nat):Int)-11,7⟩ ::ij k (n-min n 138)
 else if k=0/\3<=n then [⟨17,(n:Int)-3,3⟩]
 else if 0<k/\3<=n then⟨16,((min n 6:Nat):Int)-3,2⟩ ::ij k (n-min n 6)
 else⟨k,0,0⟩ ::ij k (n-1)
termination_by n
decreasing_by all_goals omega
theorem tF (k:Int):ij k 0=[]:=by rw[ij,dif_pos rfl]
theorem DU {n:Nat} (h:11<=n):ij 0 n= ⟨18,((min n 138:Nat):Int)-11,7⟩ ::ij 0 (n-min n 138):=by rw[ij,dif_neg ω,ae ⟨rfl,h⟩]
theorem Bu {n:Nat} (h:3<=n) (h':¬11<=n):ij 0 n=[⟨17,(n:Int)-3,3⟩]:=by rw[ij,dif_neg ω,aa ω,ae ⟨rfl,h⟩]
theorem Br {k:Int} {n:Nat} (a:0<k) (h:3<=n):ij k n= ⟨16,((min n 6:Nat):Int)-3,2⟩ ::ij k (n-min n 6):=by rw[ij,dif_neg ω,aa ω,aa ω,ae ⟨a,h⟩]
theorem vY {k:Int} {n:Nat} (a:n≠0) (h:n<3\/k<0):ij k n= ⟨k,0,0⟩ ::ij k (n-1):=by rw[ij,dif_neg a,aa ω,aa ω,aa ω]
def runN (k:Int):List Int->Nat
 | []=>0
 | x::r=>if x=k then runN k r+1 else 0
theorem FW (k:Int):∀r,runN k r<=r.length
 | []=>ag _
 | x::r=>by
   unfold runN;have:=FW k r;split <;> simp <;> omega
theorem Oe (k:Int):∀(r:List Int) (m:Nat),m<=runN k r->(m<runN k r↔m<r.length/\ix r m=k)
 | [],m,h=>by simp [runN]
 | x::r,m,h=>by
   unfold runN at h⊢;by_cases a:x=k
   · rw[ae a]at h⊢;cases m with
     | zero=>exact⟨λ_=> ⟨σ,by simpa [ix] using a⟩,λ_=>ω⟩
     | succ m=>
       have:=Oe k r m ω;rw[bc,show ix (x::r) (m+1)=ix r m from by simp [ix]];constructor
       · intro b;have:=this.1 ω;exact⟨ω,this.2⟩
       intro b;have:=this.2 ⟨ω,b.2⟩;omega
   rw[aa a]at h⊢;obtain rfl:m=0:=ω;exact⟨λh=>absurd h ω,λh=>absurd (by simpa [ix] using h.2) a⟩
def jH (l:List Int):List Rn:=
 match l with
 | []=>[]
 | k::r=>(if 0<k then⟨k,0,0⟩ ::ij k (runN k r)else ij k (runN k r+1))++jH (r.drop (runN k r))
termination_by l.length
decreasing_by simp;omega
theorem tG:jH []=[]:=by rw[jH]
theorem ov (k:Int) (r:List Int):jH (k::r)=(if 0<k then⟨k,0,0⟩ ::ij k (runN k r)else ij k (runN k r+1))++jH (r.drop (runN k r)):=by rw[jH]
theorem Yk {l:List Int} {i:Nat} (h:i<l.length):l.drop i=ix l i::l.drop (i+1):=by
 rw[bT h];simp [ix,h]
theorem Wn {l:List Int} {i m:Nat} (h:i<l.length) (a:runN (ix l i) (l.drop (i+1))=m):jH (l.drop i)=(if 0<ix l i then⟨ix l i,0,0⟩ ::ij (ix l i) m else ij (ix l i) (m+1))++jH (l.drop (i+(m+1))):=by
 rw[Yk h,ov,a,bm,show i+1+m=i+(m+1) by omega]
theorem vX (k:Int) (n:Nat):(ij k n).length<=n:=by
 induction n using Nat.strongRecOn with
 | _ n ih=>
   rw[ij];by_cases a:n=0
   · rw[dif_pos a];simp
   rw[dif_neg a];split
   · have:=ih (n-min n 138) ω;simp;omega
   split
   · simp;omega
   split
   · have:=ih (n-min n 6) ω;simp;omega
   have:=ih (n-1) ω;simp;omega
theorem DW (l:List Int):(jH l).length<=l.length:=by
 generalize a:l.length=n;induction n using Nat.strongRecOn generalizing l with
 | _ n ih=>
   cases l with
   | nil=>rw[tG];simp
   | cons k r=>
     rw[ov,af];have b:=ih (r.drop (runN k r)).length (by simp at a⊢;omega) _ rfl;have c:=FW k r;rw[av]at b;simp only [List.length_cons]at a;split
     · have:=vX k (runN k r);simp;omega
     have:=vX k (runN k r+1);omega
def yu (r:Rn):Prop:=(0<=r.c/\r.c<=18)/\(0<=r.v/\r.v<128)/\(0<=r.e/\r.e<=7)/\r.v<2 ^ r.e.toNat/\(r.c<=15->r.v=0/\r.e=0)/\(r.c=16->r.e=2)/\(r.c=17->r.e=3)/\(r.c=18->r.e=7)
theorem FN {k:Int} (b:0<=k/\k<=15) (n:Nat):∀r∈ij k n,yu r:=by
 induction n using Nat.strongRecOn with
 | _ n ih=>
   rw[ij];by_cases c:n=0
   · rw[dif_pos c];intro r a;simp at a
   rw[dif_neg c];split
   · intro r a;rcases aV.1 a with rfl | a
     · refine⟨?_, ?_, ?_, ?_, ?_, ?_, ?_, ?_⟩ <;> dsimp only <;> first | omega | (show((min n 138:Nat):Int)-11<128;omega)
     exact ih _ ω r a
   split
   · intro r a;rcases aV.1 a with rfl | a
     · refine⟨?_, ?_, ?_, ?_, ?_, ?_, ?_, ?_⟩ <;> dsimp only <;> first | omega | (show(n:Int)-3<8;omega)
     simp at a
   split
   · intro r a;rcases aV.1 a with rfl | a
     · refine⟨?_, ?_, ?_, ?_, ?_, ?_, ?_, ?_⟩ <;> dsimp only <;> first | omega | (show((min n 6:Nat):Int)-3<4;omega)
     exact ih _ ω r a
   intro r a;rcases aV.1 a with rfl | a
   · exact⟨⟨b.1,Int.le_trans b.2 δ⟩,σ,σ,σ,σ,by dsimp only;omega,by dsimp only;omega,by dsimp only;omega⟩
   exact ih _ ω r a
theorem Wo (l:List Int) (h:∀i,i<l.length->0<=ix l i/\ix l i<=15):∀r∈jH l,yu r:=by
 generalize d:l.length=n;induction n using Nat.strongRecOn generalizing l with
 | _ n ih=>
   cases l with
   | nil=>rw[tG];intro r c;simp at c
   | cons k r=>
     have b:0<=k/\k<=15:=by have:=h 0 σ;simpa [ix] using this
     rw[ov];intro x a;rcases aN.1 a with a | a
     · split at a
       · rcases aV.1 a with rfl | a
         · exact⟨⟨b.1,Int.le_trans b.2 δ⟩,σ,σ,σ,σ,by dsimp only;omega,by dsimp only;omega,by dsimp only;omega⟩
         exact FN b _ x a
       exact FN b _ x a
     refine ih (r.drop (runN k r)).length (by simp at d⊢;omega) _ (λi hi=> ?_) rfl x a;rw[lQ];have:=h (runN k r+i+1) (by rw[av]at hi;simp;omega)
     simpa [ix] using this
open Go
structure oW where
 chain:Nat
 nice:Nat
 lazy:Bool
def gP (level:Int):oW:=
 if level<=0 then⟨0,0,false⟩else if level=1 then⟨4,8,false⟩else if level=2 then⟨8,16,false⟩else if level=3 then⟨16,32,false⟩
 else if level=4 then⟨16,16,true⟩else if level=5 then⟨24,32,true⟩else if level=6 then⟨32,128,true⟩else if level=7 then⟨64,128,true⟩
 else if level=8 then⟨128,258,true⟩else⟨256,258,true⟩
theorem Te (level:Int):(gP level).chain<=256/\(gP level).nice<=258:=by
 unfold gP
 repeat' split
 all_goals exact⟨δ,δ⟩
structure ja where
 D:List Int
 P:List Int
 base:Nat
 at_:Nat
 head:Int->Option Int
def hs3 (a b c:Int):Int:=(a*65536+b*256+c)*2654435761%4294967296/131072
theorem V3 (a b c:Int):0<=hs3 a b c/\hs3 a b c<32768:=by unfold hs3;omega
def mC (D:List Int) (p:Nat):Int:=hs3 (ix D p) (ix D (p+1)) (ix D (p+2))
def Oh (D:List Int) (a b:Nat):Nat->Nat->Nat
 | 0,n=>n
 | f+1,n=>if ix D (a+n)=ix D (b+n)then Oh D a b f (n+1)else n
def kE (D:List Int) (a b:Nat):Nat:=Oh D a b (min 258 (D.length-b)) 0
theorem a4h (D:List Int) (a b f n:Nat):n<=Oh D a b f n/\Oh D a b f n<=n+f:=by
 induction f generalizing n with
 | zero=>exact⟨ag _,by simp [Oh]⟩
 | succ f c=>
   unfold Oh;split
   · have:=c (n+1);omega
   omega
theorem QR (D:List Int) (a b f n:Nat) (h:∀i,i<n->ix D (a+i)=ix D (b+i)):∀i,i<Oh D a b f n->ix D (a+i)=ix D (b+i):=by
 induction f generalizing n with
 | zero=>exact h
 | succ f c=>
   unfold Oh;split
   · rename_i e
     exact c (n+1) λi hi=>by
      by_cases d:i=n
      · subst d;exact e
      exact h i ω
   exact h
theorem Jk (D:List Int) (a b:Nat):kE D a b<=258/\kE D a b<=D.length-b:=by
 have:=(a4h D a b (min 258 (D.length-b)) 0).2;unfold kE;omega
theorem Jj (D:List Int) (a b:Nat):∀i,i<kE D a b->ix D (a+i)=ix D (b+i):=QR D a b _ 0 λi hi=>ω
def nZ (D P:List Int) (base p nice:Nat):Nat->Int->Nat×Nat->Nat×Nat
 | 0,_,t=>t
 | tries+1,k,t=>
   if(base:Int)<=k/\(p:Int)-32768<=k then
    if 3<=kE D k.toNat p/\t.1<kE D k.toNat p then
     if nice<=kE D k.toNat p then(kE D k.toNat p,p-k.toNat)else nZ D P base p nice tries (ix P k.toNat) (kE D k.toNat p,p-k.toNat)
    else nZ D P base p nice tries (ix P k.toNat) t
   else t
def dw (e:oW) (st:ja) (p:Nat):Nat×Nat:=
 if e.chain=0\/st.D.length<p+3 then(0,0)
 else match st.head (mC st.D p)with
  | none=>(0,0)
  | some k=>nZ st.D st.P st.base p e.nice e.chain k (0,0)
theorem xL {e:oW} {st:ja} {p:Nat} (h:e.chain=0\/st.D.length<p+3):dw e st p=(0,0):=by unfold dw;rw[ae h]
theorem GW {e:oW} {st:ja} {p:Nat} (h:st.head (mC st.D p)=none):dw e st p=(0,0):=by
 unfold dw;split
 · rfl
 rw[h]
theorem GX {e:oW} {st:ja} {p:Nat} {k:Int} (b:e.chain≠0) (a:p+3<=st.D.length) (h:st.head (mC st.D p)=some k):dw e st p=nZ st.D st.P st.base p e.nice e.chain k (0,0):=by
 unfold dw;rw[aa ω,h]
def was (st:ja) (h:Int):Int:=(st.head h).getD (-1)
def bW (e:oW) (st:ja) (p:Nat):ja:=
 if e.chain=0\/st.D.length<p+3 then st
 else { st with P:=st.P.set p (was st (mC st.D p)),head:=λx=>if x=mC st.D p then some (p:Int)else st.head x }
def moved (st:ja):ja:={ st with at_:=st.at_+1 }
def dY (e:oW):Nat->ja->ja
 | 0,st=>st
 | n+1,st=>dY e n (moved (bW e st st.at_))
def rv (st:ja):cu:= ⟨ix st.D st.at_,0,0⟩
def fN (e:oW) (st:ja):cu×ja:=
 if(dw e st st.at_).1=0 then(rv st,dY e 1 st)
 else if e.lazy=true/\(dw e st st.at_).1<e.nice/\st.at_+1<st.D.length then
  if(dw e st st.at_).1<(dw e (bW e st st.at_) (st.at_+1)).1 then(rv st,moved (bW e st st.at_))
  else(⟨0,(dw e st st.at_).1,(dw e st st.at_).2⟩,dY e ((dw e st st.at_).1-1) (moved (bW e st st.at_)))
 else(⟨0,(dw e st st.at_).1,(dw e st st.at_).2⟩,dY e (dw e st st.at_).1 st)
inductive yQ (e:oW) (left:Nat):ja->List cu->ja->Prop
 | nil (st:ja):yQ e left st [] st
 | snoc {st st1:ja} {l:List cu}:yQ e left st l st1->left<st1.D.length-st1.at_->yQ e left st (l++[(fN e st1).1]) (fN e st1).2
def jo (st:ja) (b:List Int):ja:=
 { D:=st.D++b,P:=st.P++List.replicate b.length 0,at_:=st.at_,head:=st.head,
   base:=if 131072<(st.D++b).length-st.base/\32768<st.at_-st.base then st.at_-32768 else st.base }
def IQ:ja:= ⟨[],[],0,0,λ_=>none⟩
structure ja.Ok (st:ja) (b:Nat):Prop where
 len:st.P.length=st.D.length
 lo:st.base<=st.at_
 hi:st.at_<=st.D.length
 bl:b<=st.D.length
 prev:∀q, -1<=ix st.P q/\ix st.P q<=q
 hd:∀h k,st.head h=some k->0<=k/\k<(b:Int)
theorem Vm (l:List Int) (p q:Nat) (v:Int) (hp:p<l.length):ix (l.set p v) q=if q=p then v else ix l q:=by
 unfold ix;simp only [List.getD_eq_getElem?_getD,List.getElem?_set];by_cases h:q=p
 · subst h;rw[ae rfl,ae rfl,ae hp];rfl
 rw[aa h,aa (λe=>h e.symm)]
theorem a3O (l:List Int) {q:Nat} (h:l.length<=q):ix l q=0:=by
 unfold ix;rw[aq,br h];rfl
theorem Vl (n q:Nat):ix (List.replicate n 0) q=0:=by
 by_cases h:q<n
 · simp [ix,h]
 exact a3O _ ξ
theorem Ok.new:ja.Ok IQ 0:= ⟨rfl,ag _,ag _,ag _,λq=>by simp [IQ,ix],λh k a=>by simp [IQ]at a⟩
theorem ja.Ok.write {st:ja} {b:Nat} (h:st.Ok b) (x:List Int):(jo st x).Ok b:=by
 refine⟨?_, ?_, ?_, ?_,λq=> ?_,h.hd⟩
 · simp [jo,h.len]
 · have:=h.lo;unfold jo;dsimp only;split <;> omega
 · have:=h.hi;unfold jo;simp;omega
 · have:=h.bl;unfold jo;simp;omega
 unfold jo;dsimp only;rw[dn];split
 · exact h.prev q
 rw[Vl];omega
theorem a4n {st:ja} {b:Nat} (h:st.Ok b) (x:Int): -1<=was st x/\was st x<(b:Int):=by
 unfold was;cases e:st.head x with
 | none=>simp;omega
 | some k=>have:=h.hd x k e;simp;omega
theorem ja.Ok.enter {e:oW} {st:ja} {p:Nat} (h:st.Ok p) (hp:p<st.D.length):(bW e st p).Ok (p+1):=by
 unfold bW;split
 · exact⟨h.len,h.lo,h.hi,hp,h.prev,λx k a=>by have:=h.hd x k a;omega⟩
 rename_i b
 refine⟨by simp [h.len],h.lo,h.hi,hp,λq=> ?_,λx k a=> ?_⟩
 · dsimp only;rw[Vm _ _ _ _ (by rw[h.len];exact hp)];split
   · have:=a4n h (mC st.D p);omega
   exact h.prev q
 dsimp only at a;split at a
 · injection a with a;omega
 have:=h.hd x k a;omega
theorem yY (e:oW) (st:ja) (p:Nat):(bW e st p).D=st.D/\(bW e st p).at_=st.at_/\(bW e st p).base=st.base:=by
 unfold bW;split <;> exact⟨rfl,rfl,rfl⟩
theorem ja.Ok.moved {st:ja} (h:st.Ok (st.at_+1)):(moved st).Ok (Go.Proofs.YtdhmnlpfhfmpfaaGreat.moved st).at_:=
 ⟨h.len,Nat.le_succ_of_le h.lo,h.bl,h.bl,h.prev,h.hd⟩
theorem qM {e:oW} {st:ja} {n:Nat} (h:st.Ok st.at_) (r:st.at_+n<=st.D.length):(dY e n st).Ok (st.at_+n)/\(dY e n st).D=st.D/\(dY e n st).at_=st.at_+n/\(dY e n st).base=st.base:=by
 induction n generalizing st with
 | zero=>exact⟨h,rfl,rfl,rfl⟩
 | succ n j=>
   have m:=h.enter (e:=e) (p:=st.at_) ω;obtain⟨q,f,o⟩ :=yY e st st.at_;have l:(bW e st st.at_).Ok ((bW e st st.at_).at_+1):=by rw[f];exact m
   have k:=l.moved;have d:(moved (bW e st st.at_)).at_=st.at_+1:=by show(bW e st st.at_).at_+1=_;rw[f]
   have c:(moved (bW e st st.at_)).D=st.D:=q;obtain⟨b,i,a,g⟩ :=j (st:=moved (bW e st st.at_)) k (by rw[d,c];omega);rw[d]at b a;refine⟨by rw[show st.at_+(n+1)=st.at_+1+n by omega];exact b,by rw[show dY e (n+1) st=dY e n (moved (bW e st st.at_)) from rfl,i,c],by rw[show dY e (n+1) st=dY e n (moved (bW e st st.at_)) from rfl,a];omega,by rw[show dY e (n+1) st=dY e n (moved (bW e st st.at_)) from rfl,g];exact o⟩
def Good (D:List Int) (p:Nat) (t:Nat×Nat):Prop:=t.1=0/\t.2=0\/(3<=t.1/\t.1<=258/\p+t.1<=D.length/\1<=t.2/\t.2<=32768/\t.2<=p/\∀i,i<t.1->ix D (p-t.2+i)=ix D (p+i))
theorem Kt {D P:List Int} {base p nice:Nat} (hp:p<=D.length) (d:∀q, -1<=ix P q/\ix P q<=q) (n:Nat) (k:Int) (t:Nat×Nat) (f:k<p) (ht:Good D p t):Good D p (nZ D P base p nice n k t):=by
 induction n generalizing k t with
 | zero=>exact ht
 | succ n a=>
   unfold nZ;split
   · rename_i g
     obtain⟨K,rfl⟩ :=aG (show 0<=k by omega);have e:=d K
     have b:3<=kE D K p/\t.1<kE D K p->Good D p (kE D K p,p-K):=λh=>by
      have c:=Jk D K p;refine .inr ⟨h.1,c.1,by simp only;omega,by simp only;omega,by simp only;omega,by simp only;omega,λi hi=> ?_⟩;have:=Jj D K p i hi;rw[show p-(p-K)=K by omega];exact this
     simp only [Int.toNat_natCast];split
     · rename_i hs
       split
       · exact b hs
       exact a _ _ ω (b hs)
     exact a _ _ ω ht
   exact ht
theorem wR {e:oW} {st:ja} {p:Nat} (h:st.Ok p):Good st.D p (dw e st p):=by
 unfold dw;split
 · exact .inl ⟨rfl,rfl⟩
 split
 · exact .inl ⟨rfl,rfl⟩
 rename_i k a
 exact Kt h.bl h.prev _ _ _ (h.hd _ _ a).2 (.inl ⟨rfl,rfl⟩)
theorem OV {e:oW} {st:ja} {p:Nat} (h:(dw e st p).1≠0):e.chain≠0/\p+3<=st.D.length:=by
 unfold dw at h;split at h
 · simp at h
 omega
theorem oU {e:oW} {st:ja} (h:st.Ok st.at_) (k:st.at_<st.D.length):∃N,1<=N/\N<=258/\st.at_+N<=st.D.length/\(fN e st).2.Ok (st.at_+N)/\(fN e st).2.D=st.D/\(fN e st).2.at_=st.at_+N/\(fN e st).2.base=st.base/\
  (((fN e st).1=rv st/\N=1)\/∃bk:Nat,(fN e st).1= ⟨0,N,bk⟩/\Good st.D st.at_ (N,bk)/\e.chain≠0/\3<=N):=by
 have s:=wR (e:=e) h;unfold fN;split
 · obtain⟨c,g,b,f⟩ :=qM (e:=e) (n:=1) h ω;exact⟨1,ag _,ω,ω,c,g,b,f, .inl ⟨rfl,rfl⟩⟩
 rename_i m
 have a:=OV m;obtain⟨B,v⟩ :=ν (dw e st st.at_);rw[v]at s m⊢;obtain⟨N,bk⟩ :=B;rcases s with ⟨hz,_⟩ | ⟨i,q,d,o⟩
 · exact absurd hz m
 dsimp only at i q d o⊢;have x:=h.enter (e:=e) (p:=st.at_) k;obtain⟨y,u,t⟩ :=yY e st st.at_;have w:(bW e st st.at_).Ok ((bW e st st.at_).at_+1):=by rw[u];exact x
 have l:=w.moved;have j:(moved (bW e st st.at_)).at_=st.at_+1:=by show(bW e st st.at_).at_+1=_;rw[u]
 have r:(moved (bW e st st.at_)).D=st.D:=y;split
 · split
   · refine⟨1,ag _,ω,ω, ?_,r,j,t, .inl ⟨rfl,rfl⟩⟩;rw[j]at l;exact l
   obtain⟨c,g,b,f⟩ :=qM (e:=e) (n:=N-1) l (by rw[j,r];omega);rw[j]at c b;rw[show st.at_+1+(N-1)=st.at_+N by omega]at c b;exact⟨N,ω,ω,d,c,by rw[g,r],b,by rw[f];exact t, .inr ⟨bk,rfl, .inr ⟨i,q,d,o⟩,a.1,i⟩⟩
 obtain⟨c,g,b,f⟩ :=qM (e:=e) (n:=N) h d;exact⟨N,ω,ω,d,c,g,b,f, .inr ⟨bk,rfl, .inr ⟨i,q,d,o⟩,a.1,i⟩⟩
theorem FY {e:oW} {left:Nat} {st st':ja} {l:List cu} (h:yQ e left st l st') (k:st.Ok st.at_):st'.Ok st'.at_/\st'.D=st.D/\st.at_+l.length<=st'.at_/\st'.base=st.base:=by
 induction h with
 | nil=>exact⟨k,rfl,ag _,rfl⟩
 | snoc p o f=>
   obtain⟨j,i,n,g⟩ :=f;obtain⟨N,m, -, -,d,c,a,b, -⟩ :=oU (e:=e) j ω;refine⟨by rw[a];exact d,by rw[c,i],by rw[a];simp;omega,by rw[b,g]⟩
section
variable {w w' w0:World} {b0 g:Nat} {c c0:Nat->Nat}
def DE (b0:Nat) (w0:World) (c0:Nat->Nat) (w:World) (c:Nat->Nat):Prop:=Below b0 w0 w/\bj w0 w (λk=>c0 k≠0)/\∀k,k<w0.heap.size->c k=c0 k
open Classical in
noncomputable def cT (c:Nat->Nat) (n:Nat) (F:Nat->Prop) (i:Nat):Nat->Nat:=λk=>if k<n then c k else if F k then i else 0
theorem cy {c:Nat->Nat} {n:Nat} {F:Nat->Prop} {i k:Nat} (h:k<n):cT c n F i k=c k:=by unfold cT;rw[ae h]
theorem fI {c:Nat->Nat} {n:Nat} {F:Nat->Prop} {i k:Nat} (h:n<=k) (hF:F k):cT c n F i k=i:=by unfold cT;rw[aa ω,ae hF]
theorem fZ {c:Nat->Nat} {n:Nat} {F:Nat->Prop} {i k:Nat} (h:cT c n F i k≠0):(k<n/\c k≠0)\/(n<=k/\F k):=by
 unfold cT at h;split at h
 · exact .inl ⟨by assumption,h⟩
 split at h
 · exact .inr ⟨ω,by assumption⟩
 exact absurd rfl h
theorem DE.step {c':Nat->Nat} (h:DE b0 w0 c0 w c) (g:b0<=w.heap.size) (b:∀k,c k≠0->b0<=k) (e:bj w w' (λk=>c k≠0)) (f:∀k,k<w.heap.size->c' k=c k):DE b0 w0 c0 w' c':=
 ⟨h.1.trans (e.below b g),h.2.1.trans e (λk a=>by
   rcases aZ k w0.heap.size with d | d
   · exact .inl (by rw[<-h.2.2 k d];exact a)
   exact .inr d),λk a=>(f k (aD a h.2.1.size)).trans (h.2.2 k a)⟩
end
def Ext (b0:Nat) (w w':World) (E E':Nat->Prop):Prop:=Below b0 w w'/\bj w w' E/\∀k,E' k->E k\/w.heap.size<=k
section
variable {w w' w'':World} {b0:Nat} {E E' E'':Nat->Prop}
theorem Ext.refl (b0:Nat) (w:World) (E:Nat->Prop):Ext b0 w w E E:= ⟨aw _ _,bj.refl _ _,λk h=> .inl h⟩
theorem Ext.trans (h:Ext b0 w w' E E') (h':Ext b0 w' w'' E' E''):Ext b0 w w'' E E'':=
 ⟨h.1.trans h'.1,h.2.1.trans h'.2.1 h.2.2,λk b=>by
   rcases h'.2.2 k b with a | a
   · exact h.2.2 k a
   exact .inr (au h.1.size a)⟩
theorem Ext.of (a:bj w w' E) (hE:∀k,E k->b0<=k) (c:b0<=w.heap.size) (b:∀k,E' k->E k\/w.heap.size<=k):Ext b0 w w' E E':= ⟨a.below hE c,a,b⟩
end
theorem Ext.dis {b0:Nat} {w w':World} {E E' X:Nat->Prop} (h:Ext b0 w w' E E') (c:∀k,X k->k<w.heap.size) (hd:∀k,E k->¬X k):∀k,E' k->¬X k:=λk d a=>by
 rcases h.2.2 k d with b | b
 · exact hd k b a
 have:=c k a;omega
structure Gy where
 A:Option Addr
 n:Nat
 c:Nat
 l:List Int
def rM:Gy:= ⟨none,0,0,[]⟩
theorem Hg (x:Int) (a b:List Int) (k:Nat):lW x (a++b) (a.length+k)=lW (lW x a a.length) b k:=by
 have d:∀m,m<=a.length->lW x (a++b) m=lW x a m:=by
  intro m;induction m with
  | zero=>intro _;rfl
  | succ m c=>intro e;simp only [lW];rw[c ω,dn,ae ω]
 induction k with
 | zero=>rw[Nat.add_zero,d _ (ag _)];rfl
 | succ k c=>
   rw[<-eZ];simp only [lW];rw[c,dn,aa ω,show a.length+k-a.length=k by omega]
end Go.Proofs.YtdhmnlpfhfmpfaaGreat
