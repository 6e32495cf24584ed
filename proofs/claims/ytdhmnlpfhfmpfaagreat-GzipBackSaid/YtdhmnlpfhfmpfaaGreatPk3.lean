/-
  part
-/
import Derived.Test.YtdhmnlpfhfmpfaaGreatPk2
import Derived.Maps.AppendAt
import Derived.OwnWalk
set_option linter.unusedVariables false
set_option maxRecDepth 100000
set_option maxHeartbeats 4000000
namespace Go.Proofs.YtdhmnlpfhfmpfaaGreat
open Go.RowKit
def cat {α:Type} (n:Nat) (f g:Nat->α):Nat->α:=λi=>if i<n then f i else g (i-n)
def ak (A:ay):Option Nat:=A.map (·.block)
def Own (w:World) (b0:Nat) (e:TypeId) (sz:Nat) (A:ay) (n c:Nat) (f:Nat->Value):Prop:=
 (A=none/\n=0/\c=0)\/∃(g:Nat) (cur:Array Value),A=some ⟨g,0,none⟩/\b0<=g/\w.heap[g]?=some (.cells cur e (0,0))/\n<=c/\c<=maxLen/\cur.size=c*sz/\∀i,i<n*sz->cur[i]?=some (f i)
section
variable {w w':World} {b0:Nat} {e:TypeId} {sz n c:Nat} {A:ay} {f:Nat->Value}
theorem Own.dN:Own w b0 e sz none 0 0 f:= .inl ⟨rfl,rfl,rfl⟩
theorem Own.keep (h:Own w b0 e sz A n c f) (d:∀g,ak A=some g->g<w.heap.size->w'.heap[g]?=w.heap[g]?):Own w' b0 e sz A n c f:=by
 rcases h with h | ⟨g,a,rfl,i,b,r⟩
 · exact .inl h
 exact .inr ⟨g,a,rfl,i,(d g rfl (gg b)).trans b,r⟩
theorem Own.alloc (h:Own w b0 e sz A n c f) (o:Obj):Own (w.alloc o) b0 e sz A n c f:=h.keep λg _ a=>dC w o g a
theorem Own.drewN (h:Own w b0 e sz A n c f) (k:Nat):Own (w.drewN k) b0 e sz A n c f:=h
theorem Own.far (h:Own w b0 e sz A n c f) {p:Addr} (hp:ak A≠some p.block) (u:Value):Own (w.setCell p u) b0 e sz A n c f:=
 h.keep λg a _=>cV w p u g (λe=>hp (by rw[a,e]))
theorem Own.below {B:Nat} (h:Own w b0 e sz A n c f) (b:Below B w w') (d:∀g,ak A=some g->g<B):Own w' b0 e sz A n c f:=h.keep λg a _=>b.block g (d g a)
theorem Own.grown {row:Option Nat} (h:Own w b0 e sz A n c f) (i:w.grownBy w' row) (b:ak A≠row\/ak A=none):Own w' b0 e sz A n c f:=
 h.keep λg a d=>i.block g d (λe=>by
  rcases b with b | b
  · exact b (a.trans e)
  rw[b]at a;cases a)
theorem Own.lt (h:Own w b0 e sz A n c f) {g:Nat} (a:ak A=some g):b0<=g/\g<w.heap.size:=by
 rcases h with ⟨rfl,_⟩ | ⟨j,i,rfl,d,b,_⟩
 · simp [ak]at a
 simp [ak]at a;subst a;exact⟨d,gg b⟩
theorem Own.congr {f':Nat->Value} (h:Own w b0 e sz A n c f) (hf:∀i,i<n*sz->f i=f' i):Own w b0 e sz A n c f':=by
 rcases h with h | ⟨g,a,m,l,k,j,d,b,h7⟩
 · exact .inl h
 exact .inr ⟨g,a,m,l,k,j,d,b,λi hi=>by rw[h7 i hi,hf i hi]⟩
theorem Own.more {b1:Nat} (h:Own w b0 e sz A n c f) (i:b1<=b0):Own w b1 e sz A n c f:=by
 rcases h with h | ⟨g,a,d,b,r⟩
 · exact .inl h
 exact .inr ⟨g,a,d,aw i b,r⟩
theorem Own.rd (h:Own w b0 e sz A n c f):Rd w w.heap.size A (n*sz) f:=λd=>by
 rcases h with ⟨_,rfl,_⟩ | ⟨g,a,rfl,_,b,j,_,h5,h6⟩
 · simp at d
 refine⟨_,rfl,gg b,λi hi=> ?_⟩;have:(⟨g,0,none⟩ :Addr).add i= ⟨g,i,none⟩ :=by unfold Addr.add;split <;> simp_all
 rw[this,iY w g i a e (0,0) b,h6 i hi]
theorem Own.jT (h:Own w b0 e sz A n c f):n<=c:=by
 rcases h with ⟨_,rfl,rfl⟩ | ⟨g,b,_,_,_,a,_⟩
 · exact ai _
 exact a
theorem Own.owns (h:Own w b0 e sz A n c f):w.ownsRow b0 e sz (.slice A n c) n ((List.range (n*sz)).map f):=by
 refine⟨σ, ?_⟩;rcases h with ⟨rfl,rfl,rfl⟩ | ⟨g,a,rfl,j,d,b,h4,h5,h6⟩
 · exact .inl ⟨rfl,rfl⟩
 refine .inr ⟨g,c,a,rfl,j,d,b,h4,h5, ?_⟩
 apply List.ext_getElem?
 intro i;rw[fN];by_cases hi:i<n*sz
 · rw[af hi];have:=h6 i hi;simp [hi,this]
 rw[aa hi];simp [hi]
theorem yE {v:Value} {d:List Value} (h:w.ownsRow b0 e sz v n d) (j:∀i,i<n*sz->d[i]?=some (f i)):∃A c,v= .slice A n c/\Own w b0 e sz A n c f/\v.ownBlock=ak A:=by
 obtain⟨m,a⟩ :=h;rcases a with ⟨rfl,rfl⟩ | ⟨g,cap,b,rfl,l,a,k,h4,h5,h6⟩
 · exact⟨none,0,rfl, .inl ⟨rfl,rfl,rfl⟩,rfl⟩
 refine⟨_,_,rfl, .inr ⟨g,b,rfl,l,a,k,h4,h5,λi hi=> ?_⟩,rfl⟩;have:=j i hi;rw[<-h6,fN,af hi]at this
 simpa using this
theorem Own.lit {g:Nat} (b:g=w.heap.size) (cs:Array Value) (e:TypeId) {n:Nat} (c:b0<=w.heap.size) (a:n<=maxLen) (hs:cs.size=n*sz) (hf:∀i,i<n*sz->cs[i]?=some (f i)):
  Own (w.alloc (.cells cs e)) b0 e sz (some ⟨g,0,none⟩) n n f:=by
 subst b;exact .inr ⟨_,cs,rfl,c,dt w _,ai _,a,hs,hf⟩
theorem Own.bK {g:Nat} (h:Own w b0 e sz (some ⟨g,0,none⟩) n c f) {i:Nat} (hi:i<n*sz) (u:Value):Own (w.setCell ⟨g,i,none⟩ u) b0 e sz (some ⟨g,0,none⟩) n c (upd f i u):=by
 rcases h with ⟨h,_⟩ | ⟨o,a,hA,m,l,k,h4,h5,h6⟩
 · cases h
 cases hA;refine .inr ⟨_,a.setIfInBounds i u,rfl,m, ?_,k,h4,by simpa using h5,λj b=> ?_⟩
 · simp [World.setCell,Array.getElem?_modify,l]
 rw[fJ];by_cases d:i=j
 · subst d;have:i<a.size:=by rw[h5];exact aB b (eZ _ k)
   rw[af rfl,af this,upd_same]
 rw[aa d,h6 j b,dx _ _ ω]
theorem Own.cell {g:Nat} (h:Own w b0 e sz (some ⟨g,0,none⟩) n c f) {i:Nat} (hi:i<n*sz):w.cell? ⟨g,i,none⟩ =some (f i):=by
 rcases h with ⟨h,_⟩ | ⟨k,a,hA,j,b,d,h4,h5,h6⟩
 · cases h
 cases hA;rw[iY w _ i a e (0,0) b,h6 i hi]
theorem Own.frozen {g:Nat} (h:Own w b0 e sz (some ⟨g,0,none⟩) n c f) (i:Nat):w.frozen? ⟨g,i,none⟩ =false:=by
 rcases h with ⟨h,_⟩ | ⟨j,b,hA,d,a,_⟩
 · cases h
 cases hA;simp [World.frozen?,a]
theorem Own.addr (h:Own w b0 e sz A n c f) (b:0<n):∃g,A=some ⟨g,0,none⟩ :=by
 rcases h with ⟨_,h,_⟩ | ⟨d,a,hA,_⟩
 · omega
 exact⟨_,hA⟩
end
section
variable {P:Program} (w:World)
theorem ia (b0:Nat) (t D e:TypeId) (i:TypeInfo) (z:Value) (sz bytes:Nat) (ht:P.underlying t=some (.slice e)) (hi:P.info? e=some i) (hz:i.zero=some z)
  (d:i.size=sz) (s:i.bytes=bytes) (r:z.cells.size=sz) (o:0<sz)
  (A:ay) (n c:Nat) (f:Nat->Value) (a:Own w b0 e sz A n c f)
  (B:Nat) (A':ay) (m c':Nat) (f':Nat->Value) (E:Rd w B A' (m*sz) f') (R:∀j,j<m*sz->(f' j).oneCell'=true)
  (x:n+m<=1000000000000) (N:bytes<=100) (k:b0<=w.heap.size):
  ∃A2 c2 w2,(Builtin.append_ #[t,t] D #[.slice A n c, .slice A' m c']).run P w= .ok (.slice A2 (n+m) c2) w2/\Own w2 b0 e sz A2 (n+m) c2 (cat (n*sz) f f')/\w.grownBy w2 (ak A)/\
   (ak A2=ak A\/ak A2=some w.heap.size):=by
 have K:m=0->Own w b0 e sz A (n+m) c (cat (n*sz) f f'):=by
  rintro rfl;exact a.congr λj b=>by unfold cat;rw[af b]
 have q:(Value.slice A n c).ownBlock=ak A:=by cases A <;> rfl
 rcases A' with _ | C
 · have I:m=0:=by
    rcases bY m with y | y
    · exact y
    obtain⟨C,h,_⟩ :=E (Nat.mul_pos y o);cases h
   subst I;refine⟨A,c,w, ?_,K rfl,World.grownBy.refl w _, .inl rfl⟩;rcases a with ⟨rfl,rfl,rfl⟩ | ⟨g,S,rfl,_,_,H,_⟩
   · simp [Builtin.append_,run_underlying ht,sizeOf,typeInfo,hi,Builtin.lenOf,Builtin.firstCells]
   simp [Builtin.append_,run_underlying ht,sizeOf,typeInfo,hi,Builtin.lenOf,Builtin.firstCells,H,storeCells]
 have J:∀j u,((List.range (m*sz)).map f')[j]?=some u->w.cell? (C.add j)=some u:=by
  intro j u l
  have b:j<m*sz:=by
   rcases aV j (m*sz)with h' | h'
   · exact h'
   rw[bw (by simpa using h')]at l;cases l
  obtain⟨U,h,_,L⟩ :=E ω;injection h with h;subst h;rw[L j b]
  simpa [b] using l
 have F:∀u∈(List.range (m*sz)).map f',u.oneCell'=true:=by
  intro u l;obtain⟨j,b,rfl⟩ :=gJ.1 l;exact R j (by simpa using b)
 have M:(n+m)*bytes<=140737488355328:=by
  calc (n+m)*bytes<=1000000000000*100:=gG x N
   _<=140737488355328:=ω
 obtain⟨T,w',p,Q,O,_,h5⟩ :=run_append_own_at (P:=P) w b0 t D e i z sz bytes ht hi hz d s r o _ n _ a.owns C m c' _ σ J F (by unfold maxLen;omega) M k
 obtain⟨A2,c2,rfl,G,v⟩ :=yE (f:=cat (n*sz) f f') Q (λj b=>by
  unfold cat;rw[eD]at b;by_cases h':j<n*sz
  · rw[af h',bE (by simpa using h')];simp [h']
  rw[aa h',bA ξ];have:j-n*sz<m*sz:=ω;simp [this])
 refine⟨A2,c2,w',p,G,by rw[<-q];exact O, ?_⟩;rw[<-v,<-q];exact h5
end
def ba (k:IntKind) (w:World) (b0:Nat) (e:TypeId) (A:ay) (n c:Nat) (l:aj):Prop:=n=l.length/\Own w b0 e 1 A n c (λi=> .int k (ix l i))
section
variable {k:IntKind} {w w':World} {b0:Nat} {e:TypeId} {n c:Nat} {A:ay} {l:aj}
theorem ba.dN:ba k w b0 e none 0 0 []:= ⟨rfl,Own.dN⟩
theorem ba.alloc (h:ba k w b0 e A n c l) (o:Obj):ba k (w.alloc o) b0 e A n c l:= ⟨h.1,h.2.alloc o⟩
theorem ba.drewN (h:ba k w b0 e A n c l) (j:Nat):ba k (w.drewN j) b0 e A n c l:=h
theorem ba.drew (h:ba k w b0 e A n c l):ba k w.drew b0 e A n c l:=h
theorem ba.far (h:ba k w b0 e A n c l) {p:Addr} (hp:ak A≠some p.block) (u:Value):ba k (w.setCell p u) b0 e A n c l:= ⟨h.1,h.2.far hp u⟩
theorem ba.below {B:Nat} (h:ba k w b0 e A n c l) (a:Below B w w') (b:∀g,ak A=some g->g<B):ba k w' b0 e A n c l:= ⟨h.1,h.2.below a b⟩
theorem ba.keeps (h:ba k w b0 e A n c l) (b:Below w.heap.size w w'):ba k w' b0 e A n c l:=h.below b λ_ a=>(h.2.lt a).2
theorem ba.grown {row:Option Nat} (h:ba k w b0 e A n c l) (b:w.grownBy w' row) (a:ak A≠row\/ak A=none):ba k w' b0 e A n c l:= ⟨h.1,h.2.grown b a⟩
theorem ba.more {b1:Nat} (h:ba k w b0 e A n c l) (a:b1<=b0):ba k w b1 e A n c l:= ⟨h.1,h.2.more a⟩
theorem ba.rd (h:ba k w b0 e A n c l):bT k w w.heap.size A n l:= ⟨h.1,by simpa using h.2.rd⟩
theorem ba.lit {g:Nat} (b:g=w.heap.size) (l:aj) (e:TypeId) (c:b0<=w.heap.size) (a:l.length<=maxLen):ba k (w.alloc (.cells (l.map (Value.int k)).toArray e)) b0 e (some ⟨g,0,none⟩) l.length l.length l:=
 ⟨rfl,Own.lit b _ e c a σ λi hi=>by rw[dJ]at hi;simp [ix,hi]⟩
end
theorem dg (l l':aj) (i:Nat):ix (l++l') i=if i<l.length then ix l i else ix l' (i-l.length):=by
 unfold ix;simp only [List.getD_eq_getElem?_getD];split
 · rw[bE (by assumption)]
 rw[bA ω]
section
variable {P:Program} {w:World}
theorem G3 (k:IntKind) (b0:Nat) (t h e:TypeId) (i:TypeInfo) (bytes:Nat) (ht:P.underlying t=some (.slice e)) (hi:P.info? e=some i) (hz:i.zero=some (.int k 0))
  (b:i.size=1) (f:i.bytes=bytes) {A:ay} {n c:Nat} {l:aj} (a:ba k w b0 e A n c l) {B:Nat} {A':ay} {m c':Nat} {l':aj} (o:bT k w B A' m l')
  (g:n+m<=1000000000000) (p:bytes<=100) (d:b0<=w.heap.size):
  ∃A2 c2 w2,(Builtin.append_ #[t,t] h #[.slice A n c, .slice A' m c']).run P w= .ok (.slice A2 (n+m) c2) w2/\ba k w2 b0 e A2 (n+m) c2 (l++l')/\w.grownBy w2 (ak A)/\
   (ak A2=ak A\/ak A2=some w.heap.size):=by
 obtain⟨A2,c2,w2,s,r,q,h4⟩ :=ia (P:=P) w b0 t h e i (.int k 0) 1 bytes ht hi hz b f rfl ω A n c _ a.2 B A' m c' _ (by rw[dJ];exact o.2) (λ_ _=>rfl) g p d;refine⟨A2,c2,w2,s, ⟨by rw[ag,<-a.1,<-o.1],r.congr λj u=> ?_⟩,q,h4⟩;unfold cat;rw[dg,<-a.1,dJ];split <;> rfl
theorem bq {b:Array Oper} {rest:List Oper} {o:Oper} {a:Act} {Q:Exit->Act->World->Prop} (k:IntKind) (b0:Nat) (e:TypeId) (i:TypeInfo) (bytes:Nat) (p:Region.wanted o (yielded b a.tmps)=true) (s x:Operand) (t:TypeId)
  (y:o.op= .call { callee:= .builtin .append,args:= #[s,x],argTypes:= #[t,t] }) (ht:P.underlying t=some (.slice e)) (hi:P.info? e=some i) (hz:i.zero=some (.int k 0))
  (d:i.size=1) (q:i.bytes=bytes) {A:ay} {n c:Nat} {l:aj} (hs:a.eval s= .slice A n c) (j:ba k w b0 e A n c l)
  {B:Nat} {A':ay} {m c':Nat} {l':aj} (u:a.eval x= .slice A' m c') (v:bT k w B A' m l')
  (r:n+m<=1000000000000) (z:bytes<=100) (f:b0<=w.heap.size)
  (h:∀A2 c2 w2,ba k w2 b0 e A2 (n+m) c2 (l++l')->w.grownBy w2 (ak A)->(ak A2=ak A\/ak A2=some w.heap.size)->wpList P b Q rest (a.put o.dst (.slice A2 (n+m) c2)) w2):wpList P b Q (o::rest) a w:=by
 refine ig λK C=> ?_;rw[af p];obtain⟨A2,c2,w2,g,E,D,h4⟩ :=G3 (P:=P) (w:=w) k b0 t o.type e i bytes ht hi hz d q j (c':=c') v r z f;unfold Oper.wp execOp;simp only [y,resolve,invoke,builtin,Sem.run_bind,Sem.run_pure,Result.andThen_ok,List.map_toArray,List.map_cons,List.map_nil,hs,u,g];exact C _ _ (h A2 c2 w2 E D h4)
end
theorem Hd {b0:Nat} {w0 w w':World} {A:ay} (b:Below b0 w0 w) (a:w.grownBy w' (ak A)) (c:b0<=w.heap.size) (hA:∀g,ak A=some g->b0<=g):Below b0 w0 w':=b.grown a c hA
theorem oh (g i:Nat):(⟨g,0,none⟩ :Addr).add i= ⟨g,i,none⟩ :=by unfold Addr.add;split <;> simp_all
def foot (A:ay) (g:Nat) (k:Nat):Prop:=k=g\/ak A=some k
structure bk (w w':World) (S:Nat->Prop):Prop where
 os:w'.os=w.os
 tape:w'.tape=w.tape
 output:w'.output=w.output
 size:w.heap.size<=w'.heap.size
 block:∀k,k<w.heap.size->¬S k->w'.heap[k]?=w.heap[k]?
section
variable {w w' w'':World} {S S':Nat->Prop}
theorem bk.refl (w:World) (S:Nat->Prop):bk w w S:= ⟨rfl,rfl,rfl,ai _,λ_ _ _=>rfl⟩
theorem bk.trans (h:bk w w' S) (h':bk w' w'' S') (hs:∀k,S' k->S k\/w.heap.size<=k):bk w w'' S:=
 ⟨h'.os.trans h.os,h'.tape.trans h.tape,h'.output.trans h.output,aw h.size h'.size,λk a b=>
   (h'.block k (aB a h.size) (λd=>by rcases hs k d with c | c;exact b c;omega)).trans (h.block k a b)⟩
theorem bk.more (h:bk w w' S) (hs:∀k,S k->S' k):bk w w' S':= ⟨h.os,h.tape,h.output,h.size,λk a b=>h.block k a λc=>b (hs k c)⟩
theorem bk.drew (h:bk w w' S):bk w w'.drew S:= ⟨h.os,h.tape,h.output,h.size,h.block⟩
theorem bk.drewN (h:bk w w' S) (n:Nat):bk w (w'.drewN n) S:= ⟨h.os,h.tape,h.output,h.size,h.block⟩
theorem bk.alloc (h:bk w w' S) (o:Obj):bk w (w'.alloc o) S:=
 ⟨h.os,h.tape,h.output,aw h.size σ,λk a b=>(dC w' o k (aB a h.size)).trans (h.block k a b)⟩
theorem bk.setCell (h:bk w w' S) {p:Addr} (hp:S p.block\/w.heap.size<=p.block) (u:Value):bk w (w'.setCell p u) S:=
 ⟨h.os,h.tape,h.output,by simpa [World.setCell] using h.size,λk b a=>(cV w' p u k (by
   rintro rfl;rcases hp with hp | hp
   · exact a hp
   omega)).trans (h.block k b a)⟩
theorem bk.grown (h:bk w w' S) {row:Option Nat} (a:w'.grownBy w'' row) (f:∀k,row=some k->S k\/w.heap.size<=k):bk w w'' S:=
 ⟨a.os.trans h.os,a.tape.trans h.tape,a.output.trans h.output,aw h.size a.size,λk b c=>
   (a.block k (aB b h.size) (λe=>by rcases f k e.symm with d | d;exact c d;omega)).trans (h.block k b c)⟩
theorem bk.bJ (h:Below w.heap.size w w'):bk w w' S:= ⟨h.os,h.tape,h.output,h.size,λk a _=>h.block k a⟩
theorem bk.below {b0:Nat} (h:bk w w' S) (hs:∀k,S k->b0<=k) (c:b0<=w.heap.size):Below b0 w w':=
 ⟨h.os,h.tape,h.output,h.size,λk b=>h.block k ω λa=>τ (hs k a)⟩
theorem bk.cell (h:bk w w' S) {p:Addr} (hp:p.block<w.heap.size) (a:¬S p.block):w'.cell? p=w.cell? p:=dL (w:=w) (h.block p.block hp a)
theorem bk.ar {g m:Nat} {f:Nat->Value} (h:bk w w' S) (a:Ar w g m f) (b:¬S g):Ar w' g m f:=a.same (h.block g a.lt b)
theorem bk.own {b0:Nat} {e:TypeId} {sz n c:Nat} {A:ay} {f:Nat->Value} (h:bk w w' S) (d:Own w b0 e sz A n c f) (i:∀g,ak A=some g->¬S g):Own w' b0 e sz A n c f:=
 d.keep λg b a=>h.block g a (i g b)
theorem bk.dX {k:IntKind} {b0:Nat} {e:TypeId} {n c:Nat} {A:ay} {l:aj} (h:bk w w' S) (a:ba k w b0 e A n c l) (b:∀g,ak A=some g->¬S g):ba k w' b0 e A n c l:=
 ⟨a.1,h.own a.2 b⟩
theorem bk.ri {k:IntKind} {B n:Nat} {A:ay} {l:aj} (h:bk w w' S) (c:bT k w B A n l) (j:B<=w.heap.size) (g:0<n->∀a,A=some a->¬S a.block):bT k w' B A n l:=
 ⟨c.1,λb=>by
   obtain⟨a,e,f,d⟩ :=c.2 b;exact⟨a,e,f,λi hi=>(h.cell (by rw[bG];omega) (by rw[bG];exact g b a e)).trans (d i hi)⟩⟩
end
theorem mg (l:aj) (k i:Nat):ix (l.drop k) i=ix l (k+i):=by
 unfold ix;simp only [List.getD_eq_getElem?_getD,List.getElem?_drop]
theorem bT.cut {k:IntKind} {w:World} {B n:Nat} {A:ay} {l:aj} (h:bT k w B A n l) {j:Nat} (e:j<=n) {A':ay} (hA:j<n->A'=A.map (·.add j)):bT k w B A' (n-j) (l.drop j):=by
 refine⟨by rw[az,h.1],λd=> ?_⟩;obtain⟨c,rfl,b,a⟩ :=h.2 ω;refine⟨c.add j,hA ω,by rw[bG];exact b,λi hi=> ?_⟩;rw[GZ,a (j+i) ω];show some (Value.int k (ix l (j+i)))=some (Value.int k (ix (List.drop j l) i));rw[mg]
def zT (l b:aj):aj:=if 65536<(l++b).length then(l++b).drop ((l++b).length-32768)else l++b
theorem Nh (l b:aj):(zT l b).length<=65536:=by
 unfold zT;split
 · simp;omega
 omega
def vB (all l:aj):Prop:=∃k,l=all.drop k/\k<=all.length/\(k=0\/32768<=all.length-k)
theorem vB.dN:vB [] []:= ⟨0,rfl,σ, .inl rfl⟩
theorem vB.add {all l:aj} (h:vB all l) (b:aj):vB (all++b) (zT l b):=by
 obtain⟨k,rfl,f,d⟩ :=h;have e:all.drop k++b=(all++b).drop k:=by rw[dY f]
 unfold zT;rw[e];have a:((all++b).drop k).length=all.length+b.length-k:=σ;have c:(all++b).length=all.length+b.length:=σ;split
 · rename_i h
   rw[a]at h;rw[a,bn];exact⟨k+(all.length+b.length-k-32768),rfl,ω, .inr ω⟩
 exact⟨k,rfl,ω,ω⟩
theorem vB.len {all l:aj} (h:vB all l):min l.length 32768=min all.length 32768:=by
 obtain⟨k,rfl,b,a⟩ :=h;simp;omega
theorem vB.back {all l:aj} (h:vB all l) {d:Nat} (hd:d<=l.length):l.drop (l.length-d)=all.drop (all.length-d):=by
 obtain⟨k,rfl,b,a⟩ :=h;rw[bn,az]at*;congr 1;omega
structure cy where
 lit:Int
 len:Int
 bm:Int
def cF (t:cy):Prop:=if t.len=0 then t.bm=0 else t.lit=0/\3<=t.len/\t.len<=258/\1<=t.bm/\t.bm<=32768
instance (t:cy):Decidable (cF t):=by unfold cF;infer_instance
def again (l:aj) (D N:Nat):aj:=(List.range N).map λi=>ix l (l.length-D+i%D)
theorem cK (l:aj) (D N:Nat):(again l D N).length=N:=by simp [again]
theorem IU (l:aj) (D N:Nat) {i:Nat} (h:i<N):ix (again l D N) i=ix l (l.length-D+i%D):=by simp [ix,again,h]
theorem KC (l:aj) (D:Nat):again l D 0=[]:=rfl
theorem KA (l:aj) (D N:Nat) (hD:1<=D) (b:D<=l.length):again l D (N+1)=again l D N++[ix (l++again l D N) (l.length+N-D)]:=by
 have a:again l D (N+1)=again l D N++[ix l (l.length-D+N%D)]:=by unfold again;rw[jv,dR];rfl
 rw[a];congr 2;by_cases h:N<D
 · rw[dW h,dg,af ω];congr 1;omega
 rw[dg,aa ω,IU _ _ _ ω,show l.length+N-D-l.length=N-D by omega,<-Nat.mod_eq_sub_mod ω]
def step (out:aj) (t:cy):Int×aj:=
 if¬cF t then(1,[])
 else if 16777216<(out.length:Int)+max t.len 1 then(6,[])
 else if t.len=0 then(0,out++[t.lit])
 else if(out.length:Int)<t.bm then(3,[])
 else(0,out++again out t.bm.toNat t.len.toNat)
def expand (out:aj):List cy->Int×aj
 | []=>(0,out)
 | t::l=>if(step out t).1=0 then expand (step out t).2 l else step out t
theorem jV (out:aj) (t:cy) (l:List cy):expand out (t::l)=if(step out t).1=0 then expand (step out t).2 l else step out t:=rfl
theorem Xj {out:aj} {t:cy} (h:(step out t).1=0):(step out t).2.length<=16777216/\out.length<=(step out t).2.length:=by
 unfold step at h⊢;by_cases c:cF t
 · rw[aa (by simpa using c)]at h⊢;by_cases b:16777216<(out.length:Int)+max t.len 1
   · rw[af b]at h;simp at h
   rw[aa b]at h⊢;by_cases a:t.len=0
   · rw[af a];simp;omega
   rw[aa a]at h⊢;by_cases h4:(out.length:Int)<t.bm
   · rw[af h4]at h;simp at h
   rw[aa h4];simp [cK];omega
 rw[af (by simpa using c)]at h;simp at h
def dr (A:ay) (c j:Nat):ay:=if c=j then A else A.map (·.add j)
theorem bT.dr {k:IntKind} {w:World} {B n c:Nat} {A:ay} {l:aj} (h:bT k w B A n l) {j:Nat} (b:j<=n) (d:n<=c):bT k w B (dr A c j) (n-j) (l.drop j):=
 h.cut b λa=>by unfold Go.Proofs.YtdhmnlpfhfmpfaaGreat.dr;rw[aa ω]
theorem bT.pre {k:IntKind} {w:World} {B n:Nat} {A:ay} {l:aj} (h:bT k w B A n l) {j:Nat} (d:j<=n):bT k w B A j (l.take j):=by
 refine⟨by rw[aD,<-h.1];omega,λf=> ?_⟩;obtain⟨c,e,b,a⟩ :=h.2 ω;refine⟨c,e,b,λi hi=> ?_⟩;rw[a i ω];simp [ix,hi]
section
variable {P:Program} (t e:TypeId) (ht:P.underlying t=some (.slice e)) {i:TypeInfo} (hi:P.info? e=some i) (hs:i.size=1)
include ht hi hs
theorem cZ (A:ay) (n c:Nat) {j:Nat} (b:j<=n) (W:World):
  (Instr.slice t (.slice A n c) (some (.int .i64 (j:Int))) none none).run P W= .ok (.slice (dr A c j) (n-j) (c-j)) W:=by
 have a:P.elem t=e:=by simp [Program.elem,ht]
 rw[run_slice_l W t A n c (by rw[a];exact ht) .i64 j ω ω,a];simp [sizeOf,typeInfo,hi,hs,sliced,dr]
theorem dQ (A:ay) (n c:Nat) {j:Nat} (b:j<=c) (W:World):
  (Instr.slice t (.slice A n c) none (some (.int .i64 (j:Int))) none).run P W= .ok (.slice A j c) W:=by
 have a:P.elem t=e:=by simp [Program.elem,ht]
 rw[run_slice_h W t A n c (by rw[a];exact ht) .i64 j ω ω,a];simp [sizeOf,typeInfo,hi,hs,sliced];cases A <;> simp [Addr.add]
theorem fW (A:ay) (n c:Nat) {a b:Nat} (f:a<=b) (g:b<=c) (W:World):
  (Instr.slice t (.slice A n c) (some (.int .i64 (a:Int))) (some (.int .i64 (b:Int))) none).run P W= .ok (.slice (dr A c a) (b-a) (c-a)) W:=by
 have d:P.elem t=e:=by simp [Program.elem,ht]
 rw[run_slice_lh W t A n c (by rw[d];exact ht) .i64 .i64 a b ω ω ω,d];simp [sizeOf,typeInfo,hi,hs,sliced,dr]
end
theorem ba.put {k:IntKind} {w:World} {b0 g n c i:Nat} {e:TypeId} {l:aj} (h:ba k w b0 e (some ⟨g,0,none⟩) n c l) (hi:i<n) (v:Int):ba k (w.setCell ⟨g,i,none⟩ (.int k v)) b0 e (some ⟨g,0,none⟩) n c (l.set i v):=by
 refine⟨by rw[eB];exact h.1, ?_⟩;rcases h.2 with ⟨u,_⟩ | ⟨x,d,a,r,q,p,o,f,m⟩
 · cases u
 injection a with a;injection a with a;subst a;refine .inr ⟨g,d.setIfInBounds i (.int k v),rfl,r, ?_,p,o,by simpa using f,λj t=> ?_⟩
 · simp [World.setCell,Array.getElem?_modify,q]
 rw[fJ];have s:=h.1;by_cases b:i=j
 · subst b;rw[af rfl,af (by rw[f];omega)];simp [ix,<-s,hi]
 rw[aa b,m j t];simp [ix,b]
structure Rn where
 c:Int
 v:Int
 e:Int
def iq (k:Int) (n:Nat):List Rn:=
 if h0:n=0 then []
 else if k=0/\11<=n then⟨18,((min n 138:Nat):Int)-11,7⟩ ::iq k (n-min n 138)
 else if k=0/\3<=n then [⟨17,(n:Int)-3,3⟩]
 else if 0<k/\3<=n then⟨16,((min n 6:Nat):Int)-3,2⟩ ::iq k (n-min n 6)
 else⟨k,0,0⟩ ::iq k (n-1)
termination_by n
decreasing_by all_goals omega
theorem tO (k:Int):iq k 0=[]:=by rw[iq,dif_pos rfl]
theorem DY {n:Nat} (h:11<=n):iq 0 n= ⟨18,((min n 138:Nat):Int)-11,7⟩ ::iq 0 (n-min n 138):=by rw[iq,dif_neg ω,af ⟨rfl,h⟩]
theorem BD {n:Nat} (h:3<=n) (h':¬11<=n):iq 0 n=[⟨17,(n:Int)-3,3⟩]:=by rw[iq,dif_neg ω,aa ω,af ⟨rfl,h⟩]
theorem BC {k:Int} {n:Nat} (a:0<k) (h:3<=n):iq k n= ⟨16,((min n 6:Nat):Int)-3,2⟩ ::iq k (n-min n 6):=by rw[iq,dif_neg ω,aa ω,aa ω,af ⟨a,h⟩]
theorem wI {k:Int} {n:Nat} (a:n≠0) (h:n<3\/k<0):iq k n= ⟨k,0,0⟩ ::iq k (n-1):=by rw[iq,dif_neg a,aa ω,aa ω,aa ω]
def runN (k:Int):aj->Nat
 | []=>0
 | x::r=>if x=k then runN k r+1 else 0
theorem G2 (k:Int):∀r,runN k r<=r.length
 | []=>ai _
 | x::r=>by
   unfold runN;have:=G2 k r;split <;> simp <;> omega
theorem OG (k:Int):∀(r:aj) (m:Nat),m<=runN k r->(m<runN k r↔m<r.length/\ix r m=k)
 | [],m,h=>by simp [runN]
 | x::r,m,h=>by
   unfold runN at h⊢;by_cases a:x=k
   · rw[af a]at h⊢;cases m with
     | zero=>exact⟨λ_=> ⟨σ,by simpa [ix] using a⟩,λ_=>ω⟩
     | succ m=>
       have:=OG k r m ω;rw[bc,show ix (x::r) (m+1)=ix r m from by simp [ix]];constructor
       · intro b;have:=this.1 ω;exact⟨ω,this.2⟩
       intro b;have:=this.2 ⟨ω,b.2⟩;omega
   rw[aa a]at h⊢;obtain rfl:m=0:=ω;exact⟨λh=>absurd h ω,λh=>absurd (by simpa [ix] using h.2) a⟩
def jL (l:aj):List Rn:=
 match l with
 | []=>[]
 | k::r=>(if 0<k then⟨k,0,0⟩ ::iq k (runN k r)else iq k (runN k r+1))++jL (r.drop (runN k r))
termination_by l.length
decreasing_by simp;omega
theorem tP:jL []=[]:=by rw[jL]
theorem oC (k:Int) (r:aj):jL (k::r)=(if 0<k then⟨k,0,0⟩ ::iq k (runN k r)else iq k (runN k r+1))++jL (r.drop (runN k r)):=by rw[jL]
theorem Z4 {l:aj} {i:Nat} (h:i<l.length):l.drop i=ix l i::l.drop (i+1):=by
 rw[bR h];simp [ix,h]
theorem X3 {l:aj} {i m:Nat} (h:i<l.length) (a:runN (ix l i) (l.drop (i+1))=m):jL (l.drop i)=(if 0<ix l i then⟨ix l i,0,0⟩ ::iq (ix l i) m else iq (ix l i) (m+1))++jL (l.drop (i+(m+1))):=by
 rw[Z4 h,oC,a,bn,show i+1+m=i+(m+1) by omega]
theorem wH (k:Int) (n:Nat):(iq k n).length<=n:=by
 induction n using Nat.strongRecOn with
 | _ n ih=>
   rw[iq];by_cases a:n=0
   · rw[dif_pos a];simp
   rw[dif_neg a];split
   · have:=ih (n-min n 138) ω;simp;omega
   split
   · simp;omega
   split
   · have:=ih (n-min n 6) ω;simp;omega
   have:=ih (n-1) ω;simp;omega
theorem E0 (l:aj):(jL l).length<=l.length:=by
 generalize a:l.length=n;induction n using Nat.strongRecOn generalizing l with
 | _ n ih=>
   cases l with
   | nil=>rw[tP];simp
   | cons k r=>
     rw[oC,ag];have b:=ih (r.drop (runN k r)).length (by simp at a⊢;omega) _ rfl;have c:=G2 k r;rw[az]at b;simp only [List.length_cons]at a;split
     · have:=wH k (runN k r);simp;omega
     have:=wH k (runN k r+1);omega
def yQ (r:Rn):Prop:=(0<=r.c/\r.c<=18)/\(0<=r.v/\r.v<128)/\(0<=r.e/\r.e<=7)/\r.v<2 ^ r.e.toNat/\(r.c<=15->r.v=0/\r.e=0)/\(r.c=16->r.e=2)/\(r.c=17->r.e=3)/\(r.c=18->r.e=7)
theorem FU {k:Int} (b:0<=k/\k<=15) (n:Nat):∀r∈iq k n,yQ r:=by
 induction n using Nat.strongRecOn with
 | _ n ih=>
   rw[iq];by_cases c:n=0
   · rw[dif_pos c];intro r a;simp at a
   rw[dif_neg c];split
   · intro r a;rcases aY.1 a with rfl | a
     · refine⟨?_, ?_, ?_, ?_, ?_, ?_, ?_, ?_⟩ <;> dsimp only <;> first | omega | (show((min n 138:Nat):Int)-11<128;omega)
     exact ih _ ω r a
   split
   · intro r a;rcases aY.1 a with rfl | a
     · refine⟨?_, ?_, ?_, ?_, ?_, ?_, ?_, ?_⟩ <;> dsimp only <;> first | omega | (show(n:Int)-3<8;omega)
     simp at a
   split
   · intro r a;rcases aY.1 a with rfl | a
     · refine⟨?_, ?_, ?_, ?_, ?_, ?_, ?_, ?_⟩ <;> dsimp only <;> first | omega | (show((min n 6:Nat):Int)-3<4;omega)
     exact ih _ ω r a
   intro r a;rcases aY.1 a with rfl | a
   · exact⟨⟨b.1,Int.le_trans b.2 δ⟩,σ,σ,σ,σ,by dsimp only;omega,by dsimp only;omega,by dsimp only;omega⟩
   exact ih _ ω r a
theorem X4 (l:aj) (h:∀i,i<l.length->0<=ix l i/\ix l i<=15):∀r∈jL l,yQ r:=by
 generalize d:l.length=n;induction n using Nat.strongRecOn generalizing l with
 | _ n ih=>
   cases l with
   | nil=>rw[tP];intro r c;simp at c
   | cons k r=>
     have b:0<=k/\k<=15:=by have:=h 0 σ;simpa [ix] using this
     rw[oC];intro x a;rcases aP.1 a with a | a
     · split at a
       · rcases aY.1 a with rfl | a
         · exact⟨⟨b.1,Int.le_trans b.2 δ⟩,σ,σ,σ,σ,by dsimp only;omega,by dsimp only;omega,by dsimp only;omega⟩
         exact FU b _ x a
       exact FU b _ x a
     refine ih (r.drop (runN k r)).length (by simp at d⊢;omega) _ (λi hi=> ?_) rfl x a;rw[mg];have:=h (runN k r+i+1) (by rw[az]at hi;simp;omega)
     simpa [ix] using this
open Go
structure px where
 chain:Nat
 nice:Nat
 lazy:Bool
def gS (level:Int):px:=
 if level<=0 then⟨0,0,false⟩else if level=1 then⟨4,8,false⟩else if level=2 then⟨8,16,false⟩else if level=3 then⟨16,32,false⟩
 else if level=4 then⟨16,16,true⟩else if level=5 then⟨24,32,true⟩else if level=6 then⟨32,128,true⟩else if level=7 then⟨64,128,true⟩
 else if level=8 then⟨128,258,true⟩else⟨256,258,true⟩
theorem TK (level:Int):(gS level).chain<=256/\(gS level).nice<=258:=by
 unfold gS
 repeat' split
 all_goals exact⟨δ,δ⟩
structure jf where
 D:aj
 P:aj
 base:Nat
 at_:Nat
 head:Int->Option Int
def hs3 (a b c:Int):Int:=(a*65536+b*256+c)*2654435761%4294967296/131072
theorem VC (a b c:Int):0<=hs3 a b c/\hs3 a b c<32768:=by unfold hs3;omega
def mL (D:aj) (p:Nat):Int:=hs3 (ix D p) (ix D (p+1)) (ix D (p+2))
def OI (D:aj) (a b:Nat):Nat->Nat->Nat
 | 0,n=>n
 | f+1,n=>if ix D (a+n)=ix D (b+n)then OI D a b f (n+1)else n
def kR (D:aj) (a b:Nat):Nat:=OI D a b (min 258 (D.length-b)) 0
theorem a4M (D:aj) (a b f n:Nat):n<=OI D a b f n/\OI D a b f n<=n+f:=by
 induction f generalizing n with
 | zero=>exact⟨ai _,by simp [OI]⟩
 | succ f c=>
   unfold OI;split
   · have:=c (n+1);omega
   omega
theorem Rs (D:aj) (a b f n:Nat) (h:∀i,i<n->ix D (a+i)=ix D (b+i)):∀i,i<OI D a b f n->ix D (a+i)=ix D (b+i):=by
 induction f generalizing n with
 | zero=>exact h
 | succ f c=>
   unfold OI;split
   · rename_i e
     exact c (n+1) λi hi=>by
      by_cases d:i=n
      · subst d;exact e
      exact h i ω
   exact h
theorem JA (D:aj) (a b:Nat):kR D a b<=258/\kR D a b<=D.length-b:=by
 have:=(a4M D a b (min 258 (D.length-b)) 0).2;unfold kR;omega
theorem Jz (D:aj) (a b:Nat):∀i,i<kR D a b->ix D (a+i)=ix D (b+i):=Rs D a b _ 0 λi hi=>ω
def om (D P:aj) (base p nice:Nat):Nat->Int->Nat×Nat->Nat×Nat
 | 0,_,t=>t
 | tries+1,k,t=>
   if(base:Int)<=k/\(p:Int)-32768<=k then
    if 3<=kR D k.toNat p/\t.1<kR D k.toNat p then
     if nice<=kR D k.toNat p then(kR D k.toNat p,p-k.toNat)else om D P base p nice tries (ix P k.toNat) (kR D k.toNat p,p-k.toNat)
    else om D P base p nice tries (ix P k.toNat) t
   else t
def dy (e:px) (st:jf) (p:Nat):Nat×Nat:=
 if e.chain=0\/st.D.length<p+3 then(0,0)
 else match st.head (mL st.D p)with
  | none=>(0,0)
  | some k=>om st.D st.P st.base p e.nice e.chain k (0,0)
theorem yg {e:px} {st:jf} {p:Nat} (h:e.chain=0\/st.D.length<p+3):dy e st p=(0,0):=by unfold dy;rw[af h]
theorem Hf {e:px} {st:jf} {p:Nat} (h:st.head (mL st.D p)=none):dy e st p=(0,0):=by
 unfold dy;split
 · rfl
 rw[h]
theorem Hg {e:px} {st:jf} {p:Nat} {k:Int} (b:e.chain≠0) (a:p+3<=st.D.length) (h:st.head (mL st.D p)=some k):dy e st p=om st.D st.P st.base p e.nice e.chain k (0,0):=by
 unfold dy;rw[aa ω,h]
def was (st:jf) (h:Int):Int:=(st.head h).getD (-1)
def bW (e:px) (st:jf) (p:Nat):jf:=
 if e.chain=0\/st.D.length<p+3 then st
 else { st with P:=st.P.set p (was st (mL st.D p)),head:=λx=>if x=mL st.D p then some (p:Int)else st.head x }
def moved (st:jf):jf:={ st with at_:=st.at_+1 }
def eh (e:px):Nat->jf->jf
 | 0,st=>st
 | n+1,st=>eh e n (moved (bW e st st.at_))
def rO (st:jf):cy:= ⟨ix st.D st.at_,0,0⟩
def fS (e:px) (st:jf):cy×jf:=
 if(dy e st st.at_).1=0 then(rO st,eh e 1 st)
 else if e.lazy=true/\(dy e st st.at_).1<e.nice/\st.at_+1<st.D.length then
  if(dy e st st.at_).1<(dy e (bW e st st.at_) (st.at_+1)).1 then(rO st,moved (bW e st st.at_))
  else(⟨0,(dy e st st.at_).1,(dy e st st.at_).2⟩,eh e ((dy e st st.at_).1-1) (moved (bW e st st.at_)))
 else(⟨0,(dy e st st.at_).1,(dy e st st.at_).2⟩,eh e (dy e st st.at_).1 st)
inductive zm (e:px) (left:Nat):jf->List cy->jf->Prop
 | nil (st:jf):zm e left st [] st
 | snoc {st st1:jf} {l:List cy}:zm e left st l st1->left<st1.D.length-st1.at_->zm e left st (l++[(fS e st1).1]) (fS e st1).2
def js (st:jf) (b:aj):jf:=
 { D:=st.D++b,P:=st.P++List.replicate b.length 0,at_:=st.at_,head:=st.head,
   base:=if 131072<(st.D++b).length-st.base/\32768<st.at_-st.base then st.at_-32768 else st.base }
def J9:jf:= ⟨[],[],0,0,λ_=>none⟩
structure jf.Ok (st:jf) (b:Nat):Prop where
 len:st.P.length=st.D.length
 lo:st.base<=st.at_
 hi:st.at_<=st.D.length
 bl:b<=st.D.length
 prev:∀q, -1<=ix st.P q/\ix st.P q<=q
 hd:∀h k,st.head h=some k->0<=k/\k<(b:Int)
theorem VU (l:aj) (p q:Nat) (v:Int) (hp:p<l.length):ix (l.set p v) q=if q=p then v else ix l q:=by
 unfold ix;simp only [List.getD_eq_getElem?_getD,List.getElem?_set];by_cases h:q=p
 · subst h;rw[af rfl,af rfl,af hp];rfl
 rw[aa h,aa (λe=>h e.symm)]
theorem a4l (l:aj) {q:Nat} (h:l.length<=q):ix l q=0:=by
 unfold ix;rw[aq,bw h];rfl
theorem VT (n q:Nat):ix (List.replicate n 0) q=0:=by
 by_cases h:q<n
 · simp [ix,h]
 exact a4l _ ξ
theorem Ok.new:jf.Ok J9 0:= ⟨rfl,ai _,ai _,ai _,λq=>by simp [J9,ix],λh k a=>by simp [J9]at a⟩
theorem jf.Ok.write {st:jf} {b:Nat} (h:st.Ok b) (x:aj):(js st x).Ok b:=by
 refine⟨?_, ?_, ?_, ?_,λq=> ?_,h.hd⟩
 · simp [js,h.len]
 · have:=h.lo;unfold js;dsimp only;split <;> omega
 · have:=h.hi;unfold js;simp;omega
 · have:=h.bl;unfold js;simp;omega
 unfold js;dsimp only;rw[dg];split
 · exact h.prev q
 rw[VT];omega
theorem a4S {st:jf} {b:Nat} (h:st.Ok b) (x:Int): -1<=was st x/\was st x<(b:Int):=by
 unfold was;cases e:st.head x with
 | none=>simp;omega
 | some k=>have:=h.hd x k e;simp;omega
theorem jf.Ok.enter {e:px} {st:jf} {p:Nat} (h:st.Ok p) (hp:p<st.D.length):(bW e st p).Ok (p+1):=by
 unfold bW;split
 · exact⟨h.len,h.lo,h.hi,hp,h.prev,λx k a=>τ (h.hd x k a)⟩
 rename_i b
 refine⟨by simp [h.len],h.lo,h.hi,hp,λq=> ?_,λx k a=> ?_⟩
 · dsimp only;rw[VU _ _ _ _ (by rw[h.len];exact hp)];split
   · have:=a4S h (mL st.D p);omega
   exact h.prev q
 dsimp only at a;split at a
 · injection a with a;omega
 have:=h.hd x k a;omega
theorem zv (e:px) (st:jf) (p:Nat):(bW e st p).D=st.D/\(bW e st p).at_=st.at_/\(bW e st p).base=st.base:=by
 unfold bW;split <;> exact⟨rfl,rfl,rfl⟩
theorem jf.Ok.moved {st:jf} (h:st.Ok (st.at_+1)):(moved st).Ok (Go.Proofs.YtdhmnlpfhfmpfaaGreat.moved st).at_:=
 ⟨h.len,Nat.le_succ_of_le h.lo,h.bl,h.bl,h.prev,h.hd⟩
theorem qY {e:px} {st:jf} {n:Nat} (h:st.Ok st.at_) (r:st.at_+n<=st.D.length):(eh e n st).Ok (st.at_+n)/\(eh e n st).D=st.D/\(eh e n st).at_=st.at_+n/\(eh e n st).base=st.base:=by
 induction n generalizing st with
 | zero=>exact⟨h,rfl,rfl,rfl⟩
 | succ n j=>
   have m:=h.enter (e:=e) (p:=st.at_) ω;obtain⟨q,f,o⟩ :=zv e st st.at_;have l:(bW e st st.at_).Ok ((bW e st st.at_).at_+1):=by rw[f];exact m
   have k:=l.moved;have d:(moved (bW e st st.at_)).at_=st.at_+1:=by show(bW e st st.at_).at_+1=_;rw[f]
   have c:(moved (bW e st st.at_)).D=st.D:=q;obtain⟨b,i,a,g⟩ :=j (st:=moved (bW e st st.at_)) k (by rw[d,c];omega);rw[d]at b a;refine⟨by rw[show st.at_+(n+1)=st.at_+1+n by omega];exact b,by rw[show eh e (n+1) st=eh e n (moved (bW e st st.at_)) from rfl,i,c],by rw[show eh e (n+1) st=eh e n (moved (bW e st st.at_)) from rfl,a];omega,by rw[show eh e (n+1) st=eh e n (moved (bW e st st.at_)) from rfl,g];exact o⟩
def Good (D:aj) (p:Nat) (t:Nat×Nat):Prop:=t.1=0/\t.2=0\/(3<=t.1/\t.1<=258/\p+t.1<=D.length/\1<=t.2/\t.2<=32768/\t.2<=p/\∀i,i<t.1->ix D (p-t.2+i)=ix D (p+i))
theorem KF {D P:aj} {base p nice:Nat} (hp:p<=D.length) (d:∀q, -1<=ix P q/\ix P q<=q) (n:Nat) (k:Int) (t:Nat×Nat) (f:k<p) (ht:Good D p t):Good D p (om D P base p nice n k t):=by
 induction n generalizing k t with
 | zero=>exact ht
 | succ n a=>
   unfold om;split
   · rename_i g
     obtain⟨K,rfl⟩ :=aJ (show 0<=k by omega);have e:=d K
     have b:3<=kR D K p/\t.1<kR D K p->Good D p (kR D K p,p-K):=λh=>by
      have c:=JA D K p;refine .inr ⟨h.1,c.1,by simp only;omega,by simp only;omega,by simp only;omega,by simp only;omega,λi hi=> ?_⟩;have:=Jz D K p i hi;rw[show p-(p-K)=K by omega];exact this
     simp only [Int.toNat_natCast];split
     · rename_i hs
       split
       · exact b hs
       exact a _ _ ω (b hs)
     exact a _ _ ω ht
   exact ht
theorem xo {e:px} {st:jf} {p:Nat} (h:st.Ok p):Good st.D p (dy e st p):=by
 unfold dy;split
 · exact .inl ⟨rfl,rfl⟩
 split
 · exact .inl ⟨rfl,rfl⟩
 rename_i k a
 exact KF h.bl h.prev _ _ _ (h.hd _ _ a).2 (.inl ⟨rfl,rfl⟩)
theorem Po {e:px} {st:jf} {p:Nat} (h:(dy e st p).1≠0):e.chain≠0/\p+3<=st.D.length:=by
 unfold dy at h;split at h
 · simp at h
 omega
theorem po {e:px} {st:jf} (h:st.Ok st.at_) (k:st.at_<st.D.length):∃N,1<=N/\N<=258/\st.at_+N<=st.D.length/\(fS e st).2.Ok (st.at_+N)/\(fS e st).2.D=st.D/\(fS e st).2.at_=st.at_+N/\(fS e st).2.base=st.base/\
  (((fS e st).1=rO st/\N=1)\/∃bm:Nat,(fS e st).1= ⟨0,N,bm⟩/\Good st.D st.at_ (N,bm)/\e.chain≠0/\3<=N):=by
 have s:=xo (e:=e) h;unfold fS;split
 · obtain⟨c,g,b,f⟩ :=qY (e:=e) (n:=1) h ω;exact⟨1,ai _,ω,ω,c,g,b,f, .inl ⟨rfl,rfl⟩⟩
 rename_i m
 have a:=Po m;obtain⟨B,v⟩ :=ν (dy e st st.at_);rw[v]at s m⊢;obtain⟨N,bm⟩ :=B;rcases s with ⟨hz,_⟩ | ⟨i,q,d,o⟩
 · exact absurd hz m
 dsimp only at i q d o⊢;have x:=h.enter (e:=e) (p:=st.at_) k;obtain⟨y,u,t⟩ :=zv e st st.at_;have w:(bW e st st.at_).Ok ((bW e st st.at_).at_+1):=by rw[u];exact x
 have l:=w.moved;have j:(moved (bW e st st.at_)).at_=st.at_+1:=by show(bW e st st.at_).at_+1=_;rw[u]
 have r:(moved (bW e st st.at_)).D=st.D:=y;split
 · split
   · refine⟨1,ai _,ω,ω, ?_,r,j,t, .inl ⟨rfl,rfl⟩⟩;rw[j]at l;exact l
   obtain⟨c,g,b,f⟩ :=qY (e:=e) (n:=N-1) l (by rw[j,r];omega);rw[j]at c b;rw[show st.at_+1+(N-1)=st.at_+N by omega]at c b;exact⟨N,ω,ω,d,c,by rw[g,r],b,by rw[f];exact t, .inr ⟨bm,rfl, .inr ⟨i,q,d,o⟩,a.1,i⟩⟩
 obtain⟨c,g,b,f⟩ :=qY (e:=e) (n:=N) h d;exact⟨N,ω,ω,d,c,g,b,f, .inr ⟨bm,rfl, .inr ⟨i,q,d,o⟩,a.1,i⟩⟩
theorem G4 {e:px} {left:Nat} {st st':jf} {l:List cy} (h:zm e left st l st') (k:st.Ok st.at_):st'.Ok st'.at_/\st'.D=st.D/\st.at_+l.length<=st'.at_/\st'.base=st.base:=by
 induction h with
 | nil=>exact⟨k,rfl,ai _,rfl⟩
 | snoc p o f=>
   obtain⟨j,i,n,g⟩ :=f;obtain⟨N,m, -, -,d,c,a,b, -⟩ :=po (e:=e) j ω;refine⟨by rw[a];exact d,by rw[c,i],by rw[a];simp;omega,by rw[b,g]⟩
section
variable {w w' w0:World} {b0 g:Nat} {c c0:Nat->Nat}
def DE (b0:Nat) (w0:World) (c0:Nat->Nat) (w:World) (c:Nat->Nat):Prop:=Below b0 w0 w/\bk w0 w (λk=>c0 k≠0)/\∀k,k<w0.heap.size->c k=c0 k
open Classical in
noncomputable def cW (c:Nat->Nat) (n:Nat) (F:Nat->Prop) (i:Nat):Nat->Nat:=λk=>if k<n then c k else if F k then i else 0
theorem cC {c:Nat->Nat} {n:Nat} {F:Nat->Prop} {i k:Nat} (h:k<n):cW c n F i k=c k:=by unfold cW;rw[af h]
theorem fO {c:Nat->Nat} {n:Nat} {F:Nat->Prop} {i k:Nat} (h:n<=k) (hF:F k):cW c n F i k=i:=by unfold cW;rw[aa ω,af hF]
theorem gq {c:Nat->Nat} {n:Nat} {F:Nat->Prop} {i k:Nat} (h:cW c n F i k≠0):(k<n/\c k≠0)\/(n<=k/\F k):=by
 unfold cW at h;split at h
 · exact .inl ⟨by assumption,h⟩
 split at h
 · exact .inr ⟨ω,by assumption⟩
 exact absurd rfl h
theorem DE.step {c':Nat->Nat} (h:DE b0 w0 c0 w c) (g:b0<=w.heap.size) (b:∀k,c k≠0->b0<=k) (e:bk w w' (λk=>c k≠0)) (f:∀k,k<w.heap.size->c' k=c k):DE b0 w0 c0 w' c':=
 ⟨h.1.trans (e.below b g),h.2.1.trans e (λk a=>by
   rcases aV k w0.heap.size with d | d
   · exact .inl (by rw[<-h.2.2 k d];exact a)
   exact .inr d),λk a=>(f k (aB a h.2.1.size)).trans (h.2.2 k a)⟩
end
def Ext (b0:Nat) (w w':World) (E E':Nat->Prop):Prop:=Below b0 w w'/\bk w w' E/\∀k,E' k->E k\/w.heap.size<=k
section
variable {w w' w'':World} {b0:Nat} {E E' E'':Nat->Prop}
theorem Ext.refl (b0:Nat) (w:World) (E:Nat->Prop):Ext b0 w w E E:= ⟨ax _ _,bk.refl _ _,λk h=> .inl h⟩
theorem Ext.trans (h:Ext b0 w w' E E') (h':Ext b0 w' w'' E' E''):Ext b0 w w'' E E'':=
 ⟨h.1.trans h'.1,h.2.1.trans h'.2.1 h.2.2,λk b=>by
   rcases h'.2.2 k b with a | a
   · exact h.2.2 k a
   exact .inr (aw h.1.size a)⟩
theorem Ext.of (a:bk w w' E) (hE:∀k,E k->b0<=k) (c:b0<=w.heap.size) (b:∀k,E' k->E k\/w.heap.size<=k):Ext b0 w w' E E':= ⟨a.below hE c,a,b⟩
end
structure GH where
 A:ay
 n:Nat
 c:Nat
 l:aj
def rX:GH:= ⟨none,0,0,[]⟩
theorem Hs (x:Int) (a b:aj) (k:Nat):mq x (a++b) (a.length+k)=mq (mq x a a.length) b k:=by
 have d:∀m,m<=a.length->mq x (a++b) m=mq x a m:=by
  intro m;induction m with
  | zero=>intro _;rfl
  | succ m c=>intro e;simp only [mq];rw[c ω,dg,af ω]
 induction k with
 | zero=>rw[jC,d _ (ai _)];rfl
 | succ k c=>
   rw[<-eY];simp only [mq];rw[c,dg,aa ω,show a.length+k-a.length=k by omega]
end Go.Proofs.YtdhmnlpfhfmpfaaGreat
