/-
  part
-/
import Derived.Maps.AppendAt
import Derived.OwnWalk
import Derived.Test.YtddhegejmkgmjaaGreatPk2
set_option linter.unusedVariables false
set_option maxRecDepth 100000
set_option maxHeartbeats 4000000
namespace Go.Proofs.YtddhegejmkgmjaaGreat
open Go.RowKit
def cat {α:Type} (n:Nat) (f g:Nat->α):Nat->α:=λi=>if i<n then f i else g (i-n)
def aa (A:Option Addr):Option Nat:=A.map (·.block)
def Own (w:World) (b0:Nat) (e:TypeId) (sz:Nat) (A:Option Addr) (n c:Nat) (f:Nat->Value):Prop:=
 (A=none/\n=0/\c=0)\/∃(g:Nat) (cur:Array Value),A=some ⟨g,0,none⟩/\b0<=g/\w.heap[g]?=some (.cells cur e (0,0))/\n<=c/\c<=maxLen/\cur.size=c*sz/\∀i,i<n*sz->cur[i]?=some (f i)
section
variable {w w':World} {b0:Nat} {e:TypeId} {sz n c:Nat} {A:Option Addr} {f:Nat->Value}
theorem Own.br:Own w b0 e sz none 0 0 f:= .inl ⟨rfl,rfl,rfl⟩
theorem Own.keep (h:Own w b0 e sz A n c f) (d:∀g,aa A=some g->g<w.heap.size->w'.heap[g]?=w.heap[g]?):Own w' b0 e sz A n c f:=by
 rcases h with h | ⟨g,a,rfl,i,b,r⟩
 · exact .inl h
 · exact .inr ⟨g,a,rfl,i,(d g rfl (lt_of_block b)).trans b,r⟩
theorem Own.alloc (h:Own w b0 e sz A n c f) (o:Obj):Own (w.alloc o) b0 e sz A n c f:=h.keep λg _ a=>Below.heap_alloc w o g a
theorem Own.drewN (h:Own w b0 e sz A n c f) (k:Nat):Own (w.drewN k) b0 e sz A n c f:=h
theorem Own.drew (h:Own w b0 e sz A n c f):Own w.drew b0 e sz A n c f:=h
theorem Own.far (h:Own w b0 e sz A n c f) {p:Addr} (hp:aa A≠some p.block) (u:Value):Own (w.setCell p u) b0 e sz A n c f:=
 h.keep λg a _=>Below.heap_setCell w p u g (λe=>hp (by rw[a,e]))
theorem Own.below {B:Nat} (h:Own w b0 e sz A n c f) (b:Below B w w') (d:∀g,aa A=some g->g<B):Own w' b0 e sz A n c f:=h.keep λg a _=>b.block g (d g a)
theorem Own.grown {row:Option Nat} (h:Own w b0 e sz A n c f) (i:w.grownBy w' row) (a:aa A≠row\/aa A=none):Own w' b0 e sz A n c f:=
 h.keep λg d b=>i.block g b (λe=>by
  rcases a with a | a
  · exact a (d.trans e)
  · rw[a]at d;cases d)
theorem Own.lt (h:Own w b0 e sz A n c f) {g:Nat} (a:aa A=some g):b0<=g/\g<w.heap.size:=by
 rcases h with ⟨rfl,_⟩ | ⟨j,i,rfl,d,b,_⟩
 · simp [aa]at a
 · simp [aa]at a;subst a;exact⟨d,lt_of_block b⟩
theorem Own.congr {f':Nat->Value} (h:Own w b0 e sz A n c f) (o:∀i,i<n*sz->f i=f' i):Own w b0 e sz A n c f':=by
 rcases h with h | ⟨g,a,m,l,k,j,d,b,h7⟩
 · exact .inl h
 · exact .inr ⟨g,a,m,l,k,j,d,b,λi hi=>by rw[h7 i hi,o i hi]⟩
theorem Own.more {b1:Nat} (h:Own w b0 e sz A n c f) (i:b1<=b0):Own w b1 e sz A n c f:=by
 rcases h with h | ⟨g,a,d,b,r⟩
 · exact .inl h
 · exact .inr ⟨g,a,d,Nat.le_trans i b,r⟩
theorem Own.rd (h:Own w b0 e sz A n c f):Rd w w.heap.size A (n*sz) f:=λd=>by
 rcases h with ⟨_,rfl,_⟩ | ⟨g,a,rfl,_,b,j,_,h5,h6⟩
 · simp at d
 · refine⟨_,rfl,lt_of_block b,λi hi=> ?_⟩;have:(⟨g,0,none⟩ :Addr).add i= ⟨g,i,none⟩ :=by unfold Addr.add;split <;> simp_all
   rw[this,cell_of_row w g i a e (0,0) b,h6 i hi]
theorem Own.fD (h:Own w b0 e sz A n c f):n<=c:=by
 rcases h with ⟨_,rfl,rfl⟩ | ⟨g,b,_,_,_,a,_⟩
 · exact Nat.le_refl _
 · exact a
theorem Own.owns (h:Own w b0 e sz A n c f):w.ownsRow b0 e sz (.slice A n c) n ((List.range (n*sz)).map f):=by
 refine⟨σ, ?_⟩;rcases h with ⟨rfl,rfl,rfl⟩ | ⟨g,a,rfl,j,d,b,h4,h5,h6⟩
 · exact .inl ⟨rfl,rfl⟩
 · refine .inr ⟨g,c,a,rfl,j,d,b,h4,h5, ?_⟩
   apply List.ext_getElem?
   intro i;rw[List.getElem?_take];by_cases hi:i<n*sz
   · rw[if_pos hi];have:=h6 i hi;simp [hi,this]
   · rw[if_neg hi];simp [hi]
theorem Dl {v:Value} {d:List Value} (h:w.ownsRow b0 e sz v n d) (j:∀i,i<n*sz->d[i]?=some (f i)):∃A c,v= .slice A n c/\Own w b0 e sz A n c f/\v.ownBlock=aa A:=by
 obtain⟨m,a⟩ :=h;rcases a with ⟨rfl,rfl⟩ | ⟨g,cap,b,rfl,l,a,k,h4,h5,h6⟩
 · exact⟨none,0,rfl, .inl ⟨rfl,rfl,rfl⟩,rfl⟩
 · refine⟨_,_,rfl, .inr ⟨g,b,rfl,l,a,k,h4,h5,λi hi=> ?_⟩,rfl⟩;have:=j i hi;rw[<-h6,List.getElem?_take,if_pos hi]at this
   simpa using this
theorem Own.lit {g:Nat} (b:g=w.heap.size) (cs:Array Value) (e:TypeId) {n:Nat} (d:b0<=w.heap.size) (a:n<=maxLen) (hs:cs.size=n*sz) (c:∀i,i<n*sz->cs[i]?=some (f i)):
  Own (w.alloc (.cells cs e)) b0 e sz (some ⟨g,0,none⟩) n n f:=by
 subst b;exact .inr ⟨_,cs,rfl,d,heap_alloc_new w _,Nat.le_refl _,a,hs,c⟩
theorem Own.aQ {g:Nat} (h:Own w b0 e sz (some ⟨g,0,none⟩) n c f) {i:Nat} (hi:i<n*sz) (u:Value):Own (w.setCell ⟨g,i,none⟩ u) b0 e sz (some ⟨g,0,none⟩) n c (upd f i u):=by
 rcases h with ⟨h,_⟩ | ⟨o,a,hA,m,l,k,h4,h5,h6⟩
 · cases h
 · cases hA;refine .inr ⟨_,a.setIfInBounds i u,rfl,m, ?_,k,h4,by simpa using h5,λj b=> ?_⟩
   · simp [World.setCell,Array.getElem?_modify,l]
   · rw[Array.getElem?_setIfInBounds];by_cases d:i=j
     · subst d;have:i<a.size:=by rw[h5];exact Nat.lt_of_lt_of_le b (Nat.mul_le_mul_right _ k)
       rw[if_pos rfl,if_pos this,upd_same]
     · rw[if_neg d,h6 j b,bm _ _ ω]
theorem Own.cell {g:Nat} (h:Own w b0 e sz (some ⟨g,0,none⟩) n c f) {i:Nat} (hi:i<n*sz):w.cell? ⟨g,i,none⟩ =some (f i):=by
 rcases h with ⟨h,_⟩ | ⟨k,a,hA,j,b,d,h4,h5,h6⟩
 · cases h
 · cases hA;rw[cell_of_row w _ i a e (0,0) b,h6 i hi]
theorem Own.frozen {g:Nat} (h:Own w b0 e sz (some ⟨g,0,none⟩) n c f) (i:Nat):w.frozen? ⟨g,i,none⟩ =false:=by
 rcases h with ⟨h,_⟩ | ⟨j,b,hA,d,a,_⟩
 · cases h
 · cases hA;simp [World.frozen?,a]
theorem Own.addr (h:Own w b0 e sz A n c f) (b:0<n):∃g,A=some ⟨g,0,none⟩ :=by
 rcases h with ⟨_,h,_⟩ | ⟨d,a,hA,_⟩
 · omega
 · exact⟨_,hA⟩
end
section
variable {P:Program} (w:World)
theorem fj (b0:Nat) (t F e:TypeId) (i:TypeInfo) (z:Value) (sz bytes:Nat) (ht:P.underlying t=some (.slice e)) (hi:P.info? e=some i) (H:i.zero=some z)
  (k:i.size=sz) (x:i.bytes=bytes) (v:z.cells.size=sz) (q:0<sz)
  (A:Option Addr) (n c:Nat) (f:Nat->Value) (a:Own w b0 e sz A n c f)
  (B:Nat) (A':Option Addr) (m c':Nat) (f':Nat->Value) (G:Rd w B A' (m*sz) f') (U:∀j,j<m*sz->(f' j).oneCell'=true)
  (C:n+m<=1000000000000) (R:bytes<=100) (l:b0<=w.heap.size):
  ∃o c2 w2,(Builtin.append_ #[t,t] F #[.slice A n c, .slice A' m c']).run P w= .ok (.slice o (n+m) c2) w2/\Own w2 b0 e sz o (n+m) c2 (cat (n*sz) f f')/\w.grownBy w2 (aa A)/\
   (aa o=aa A\/aa o=some w.heap.size):=by
 have N:m=0->Own w b0 e sz A (n+m) c (cat (n*sz) f f'):=by
  rintro rfl;exact a.congr λj b=>by unfold cat;rw[if_pos b]
 have s:(Value.slice A n c).ownBlock=aa A:=by cases A <;> rfl
 rcases A' with _ | E
 · have L:m=0:=by
    rcases Nat.eq_zero_or_pos m with D | D
    · exact D
    · obtain⟨E,h,_⟩ :=G (Nat.mul_pos D q);cases h
   subst L;refine⟨A,c,w, ?_,N rfl,World.grownBy.refl w _, .inl rfl⟩;rcases a with ⟨rfl,rfl,rfl⟩ | ⟨g,V,rfl,_,_,K,_⟩
   · simp [Builtin.append_,run_underlying ht,sizeOf,typeInfo,hi,Builtin.lenOf,Builtin.firstCells]
   · simp [Builtin.append_,run_underlying ht,sizeOf,typeInfo,hi,Builtin.lenOf,Builtin.firstCells,K,storeCells]
 · have M:∀j u,((List.range (m*sz)).map f')[j]?=some u->w.cell? (E.add j)=some u:=by
    intro j u p
    have b:j<m*sz:=by
     rcases Nat.lt_or_ge j (m*sz)with d | d
     · exact d
     · rw[List.getElem?_eq_none (by simpa using d)]at p;cases p
    obtain⟨X,h,_,O⟩ :=G ω;injection h with h;subst h;rw[O j b]
    simpa [b] using p
   have I:∀u∈(List.range (m*sz)).map f',u.oneCell'=true:=by
    intro u p;obtain⟨j,b,rfl⟩ :=List.mem_map.1 p;exact U j (by simpa using b)
   have Q:(n+m)*bytes<=140737488355328:=by
    calc (n+m)*bytes<=1000000000000*100:=Nat.mul_le_mul C R
     _<=140737488355328:=ω
   obtain⟨W,w',r,T,S,_,h5⟩ :=run_append_own_at (P:=P) w b0 t F e i z sz bytes ht hi H k x v q _ n _ a.owns E m c' _ σ M I (by unfold maxLen;omega) Q l
   obtain⟨o,c2,rfl,J,y⟩ :=Dl (f:=cat (n*sz) f f') T (λj b=>by
    unfold cat;rw[Nat.add_mul]at b;by_cases d:j<n*sz
    · rw[if_pos d,List.getElem?_append_left (by simpa using d)];simp [d]
    · rw[if_neg d,List.getElem?_append_right ξ];have:j-n*sz<m*sz:=ω;simp [this])
   refine⟨o,c2,w',r,J,by rw[<-s];exact S, ?_⟩;rw[<-y,<-s];exact h5
end
def ag (k:IntKind) (w:World) (b0:Nat) (e:TypeId) (A:Option Addr) (n c:Nat) (l:List Int):Prop:=n=l.length/\Own w b0 e 1 A n c (λi=> .int k (ix l i))
section
variable {k:IntKind} {w w':World} {b0:Nat} {e:TypeId} {n c:Nat} {A:Option Addr} {l:List Int}
theorem ag.br:ag k w b0 e none 0 0 []:= ⟨rfl,Own.br⟩
theorem ag.alloc (h:ag k w b0 e A n c l) (o:Obj):ag k (w.alloc o) b0 e A n c l:= ⟨h.1,h.2.alloc o⟩
theorem ag.drewN (h:ag k w b0 e A n c l) (j:Nat):ag k (w.drewN j) b0 e A n c l:=h
theorem ag.drew (h:ag k w b0 e A n c l):ag k w.drew b0 e A n c l:=h
theorem ag.far (h:ag k w b0 e A n c l) {p:Addr} (hp:aa A≠some p.block) (u:Value):ag k (w.setCell p u) b0 e A n c l:= ⟨h.1,h.2.far hp u⟩
theorem ag.below {B:Nat} (h:ag k w b0 e A n c l) (a:Below B w w') (b:∀g,aa A=some g->g<B):ag k w' b0 e A n c l:= ⟨h.1,h.2.below a b⟩
theorem ag.keeps (h:ag k w b0 e A n c l) (b:Below w.heap.size w w'):ag k w' b0 e A n c l:=h.below b λ_ a=>(h.2.lt a).2
theorem ag.grown {row:Option Nat} (h:ag k w b0 e A n c l) (b:w.grownBy w' row) (a:aa A≠row\/aa A=none):ag k w' b0 e A n c l:= ⟨h.1,h.2.grown b a⟩
theorem ag.more {b1:Nat} (h:ag k w b0 e A n c l) (a:b1<=b0):ag k w b1 e A n c l:= ⟨h.1,h.2.more a⟩
theorem ag.rd (h:ag k w b0 e A n c l):aT k w w.heap.size A n l:= ⟨h.1,by simpa using h.2.rd⟩
theorem ag.lit {g:Nat} (b:g=w.heap.size) (l:List Int) (e:TypeId) (c:b0<=w.heap.size) (a:l.length<=maxLen):ag k (w.alloc (.cells (l.map (Value.int k)).toArray e)) b0 e (some ⟨g,0,none⟩) l.length l.length l:=
 ⟨rfl,Own.lit b _ e c a σ λi hi=>by rw[Nat.mul_one]at hi;simp [ix,hi]⟩
end
theorem aL (l l':List Int) (i:Nat):ix (l++l') i=if i<l.length then ix l i else ix l' (i-l.length):=by
 unfold ix;simp only [List.getD_eq_getElem?_getD]
 split
 · rw[List.getElem?_append_left (by assumption)]
 · rw[List.getElem?_append_right ω]
section
variable {P:Program} {w:World}
theorem B3 (k:IntKind) (b0:Nat) (t o e:TypeId) (i:TypeInfo) (bytes:Nat) (ht:P.underlying t=some (.slice e)) (hi:P.info? e=some i) (q:i.zero=some (.int k 0))
  (b:i.size=1) (g:i.bytes=bytes) {A:Option Addr} {n c:Nat} {l:List Int} (a:ag k w b0 e A n c l) {B:Nat} {A':Option Addr} {m c':Nat} {l':List Int} (p:aT k w B A' m l')
  (h:n+m<=1000000000000) (r:bytes<=100) (d:b0<=w.heap.size):
  ∃f c2 w2,(Builtin.append_ #[t,t] o #[.slice A n c, .slice A' m c']).run P w= .ok (.slice f (n+m) c2) w2/\ag k w2 b0 e f (n+m) c2 (l++l')/\w.grownBy w2 (aa A)/\
   (aa f=aa A\/aa f=some w.heap.size):=by
 obtain⟨f,c2,w2,v,u,s,h4⟩ :=fj (P:=P) w b0 t o e i (.int k 0) 1 bytes ht hi q b g rfl ω A n c _ a.2 B A' m c' _ (by rw[Nat.mul_one];exact p.2) (λ_ _=>rfl) h r d;refine⟨f,c2,w2,v, ⟨by rw[List.length_append,<-a.1,<-p.1],u.congr λj x=> ?_⟩,s,h4⟩;unfold cat;rw[aL,<-a.1,Nat.mul_one]
 split <;> rfl
theorem au {b:Array Oper} {rest:List Oper} {o:Oper} {a:Act} {Q:Exit->Act->World->Prop} (k:IntKind) (b0:Nat) (e:TypeId) (i:TypeInfo) (bytes:Nat) (q:Region.wanted o (yielded b a.tmps)=true) (s x:Operand) (t:TypeId)
  (C:o.op= .call { callee:= .builtin .append,args:= #[s,x],argTypes:= #[t,t] }) (ht:P.underlying t=some (.slice e)) (hi:P.info? e=some i) (v:i.zero=some (.int k 0))
  (d:i.size=1) (r:i.bytes=bytes) {A:Option Addr} {n c:Nat} {l:List Int} (hs:a.eval s= .slice A n c) (p:ag k w b0 e A n c l)
  {B:Nat} {A':Option Addr} {m c':Nat} {l':List Int} (y:a.eval x= .slice A' m c') (z:aT k w B A' m l')
  (u:n+m<=1000000000000) (D:bytes<=100) (f:b0<=w.heap.size)
  (h:∀g c2 w2,ag k w2 b0 e g (n+m) c2 (l++l')->w.grownBy w2 (aa A)->(aa g=aa A\/aa g=some w.heap.size)->wpList P b Q rest (a.put o.dst (.slice g (n+m) c2)) w2):wpList P b Q (o::rest) a w:=by
 refine wpList_step λK E=> ?_
 rw[if_pos q];obtain⟨g,c2,w2,j,G,F,h4⟩ :=B3 (P:=P) (w:=w) k b0 t o.type e i bytes ht hi v d r p (c':=c') z u D f;unfold Oper.wp execOp;simp only [C,resolve,invoke,builtin,Sem.run_bind,Sem.run_pure,Result.andThen_ok,List.map_toArray,List.map_cons,List.map_nil,hs,y,j];exact E _ _ (h g c2 w2 G F h4)
end
theorem kA (g i:Nat):(⟨g,0,none⟩ :Addr).add i= ⟨g,i,none⟩ :=by unfold Addr.add;split <;> simp_all
def foot (A:Option Addr) (g:Nat) (k:Nat):Prop:=k=g\/aa A=some k
structure aq (w w':World) (S:Nat->Prop):Prop where
 os:w'.os=w.os
 tape:w'.tape=w.tape
 output:w'.output=w.output
 size:w.heap.size<=w'.heap.size
 block:∀k,k<w.heap.size->¬S k->w'.heap[k]?=w.heap[k]?
section
variable {w w' w'':World} {S S':Nat->Prop}
theorem aq.refl (w:World) (S:Nat->Prop):aq w w S:= ⟨rfl,rfl,rfl,Nat.le_refl _,λ_ _ _=>rfl⟩
theorem aq.trans (h:aq w w' S) (a:aq w' w'' S') (hs:∀k,S' k->S k\/w.heap.size<=k):aq w w'' S:=
 ⟨a.os.trans h.os,a.tape.trans h.tape,a.output.trans h.output,Nat.le_trans h.size a.size,λk b c=>
   (a.block k (Nat.lt_of_lt_of_le b h.size) (λe=>by rcases hs k e with d | d;exact c d;omega)).trans (h.block k b c)⟩
theorem aq.more (h:aq w w' S) (hs:∀k,S k->S' k):aq w w' S':= ⟨h.os,h.tape,h.output,h.size,λk a b=>h.block k a λc=>b (hs k c)⟩
theorem aq.drew (h:aq w w' S):aq w w'.drew S:= ⟨h.os,h.tape,h.output,h.size,h.block⟩
theorem aq.drewN (h:aq w w' S) (n:Nat):aq w (w'.drewN n) S:= ⟨h.os,h.tape,h.output,h.size,h.block⟩
theorem aq.alloc (h:aq w w' S) (o:Obj):aq w (w'.alloc o) S:=
 ⟨h.os,h.tape,h.output,Nat.le_trans h.size σ,λk a b=>(Below.heap_alloc w' o k (Nat.lt_of_lt_of_le a h.size)).trans (h.block k a b)⟩
theorem aq.setCell (h:aq w w' S) {p:Addr} (hp:S p.block\/w.heap.size<=p.block) (u:Value):aq w (w'.setCell p u) S:=
 ⟨h.os,h.tape,h.output,by simpa [World.setCell] using h.size,λk b a=>(Below.heap_setCell w' p u k (by
   rintro rfl;rcases hp with hp | hp
   · exact a hp
   · omega)).trans (h.block k b a)⟩
theorem aq.grown (h:aq w w' S) {row:Option Nat} (a:w'.grownBy w'' row) (f:∀k,row=some k->S k\/w.heap.size<=k):aq w w'' S:=
 ⟨a.os.trans h.os,a.tape.trans h.tape,a.output.trans h.output,Nat.le_trans h.size a.size,λk b c=>
   (a.block k (Nat.lt_of_lt_of_le b h.size) (λe=>by rcases f k e.symm with d | d;exact c d;omega)).trans (h.block k b c)⟩
theorem aq.aB (h:Below w.heap.size w w'):aq w w' S:= ⟨h.os,h.tape,h.output,h.size,λk a _=>h.block k a⟩
theorem aq.below {b0:Nat} (h:aq w w' S) (hs:∀k,S k->b0<=k) (c:b0<=w.heap.size):Below b0 w w':=
 ⟨h.os,h.tape,h.output,h.size,λk b=>h.block k ω λa=>by have:=hs k a;omega⟩
theorem aq.cell (h:aq w w' S) {p:Addr} (hp:p.block<w.heap.size) (a:¬S p.block):w'.cell? p=w.cell? p:=World.cell?_of_block (w:=w) (h.block p.block hp a)
theorem aq.ar {g m:Nat} {f:Nat->Value} (h:aq w w' S) (a:Ar w g m f) (b:¬S g):Ar w' g m f:=a.same (h.block g a.lt b)
theorem aq.own {b0:Nat} {e:TypeId} {sz n c:Nat} {A:Option Addr} {f:Nat->Value} (h:aq w w' S) (d:Own w b0 e sz A n c f) (i:∀g,aa A=some g->¬S g):Own w' b0 e sz A n c f:=
 d.keep λg b a=>h.block g a (i g b)
theorem aq.bf {k:IntKind} {b0:Nat} {e:TypeId} {n c:Nat} {A:Option Addr} {l:List Int} (h:aq w w' S) (a:ag k w b0 e A n c l) (b:∀g,aa A=some g->¬S g):ag k w' b0 e A n c l:=
 ⟨a.1,h.own a.2 b⟩
theorem aq.oH {k:IntKind} {B n:Nat} {A:Option Addr} {l:List Int} (h:aq w w' S) (c:aT k w B A n l) (j:B<=w.heap.size) (g:0<n->∀a,A=some a->¬S a.block):aT k w' B A n l:=
 ⟨c.1,λb=>by
   obtain⟨a,e,f,d⟩ :=c.2 b;exact⟨a,e,f,λi hi=>(h.cell (by rw[aw];omega) (by rw[aw];exact g b a e)).trans (d i hi)⟩⟩
end
theorem ia (l:List Int) (k i:Nat):ix (l.drop k) i=ix l (k+i):=by
 unfold ix;simp only [List.getD_eq_getElem?_getD,List.getElem?_drop]
theorem aT.cut {k:IntKind} {w:World} {B n:Nat} {A:Option Addr} {l:List Int} (h:aT k w B A n l) {j:Nat} (e:j<=n) {A':Option Addr} (hA:j<n->A'=A.map (·.add j)):aT k w B A' (n-j) (l.drop j):=by
 refine⟨by rw[List.length_drop,h.1],λd=> ?_⟩;obtain⟨c,rfl,b,a⟩ :=h.2 ω;refine⟨c.add j,hA ω,by rw[aw];exact b,λi hi=> ?_⟩;rw[BS,a (j+i) ω];show some (Value.int k (ix l (j+i)))=some (Value.int k (ix (List.drop j l) i))
 rw[ia]
def u9 (l b:List Int):List Int:=if 65536<(l++b).length then(l++b).drop ((l++b).length-32768)else l++b
theorem Hq (l b:List Int):(u9 l b).length<=65536:=by
 unfold u9;split
 · simp;omega
 · omega
def pS (all l:List Int):Prop:=∃k,l=all.drop k/\k<=all.length/\(k=0\/32768<=all.length-k)
theorem pS.br:pS [] []:= ⟨0,rfl,σ, .inl rfl⟩
theorem pS.add {all l:List Int} (h:pS all l) (b:List Int):pS (all++b) (u9 l b):=by
 obtain⟨k,rfl,f,d⟩ :=h;have e:all.drop k++b=(all++b).drop k:=by rw[List.drop_append_of_le_length f]
 unfold u9;rw[e];have a:((all++b).drop k).length=all.length+b.length-k:=σ;have c:(all++b).length=all.length+b.length:=σ
 split
 · rename_i h
   rw[a]at h;rw[a,List.drop_drop];exact⟨k+(all.length+b.length-k-32768),rfl,ω, .inr ω⟩
 · exact⟨k,rfl,ω,ω⟩
theorem pS.len {all l:List Int} (h:pS all l):min l.length 32768=min all.length 32768:=by
 obtain⟨k,rfl,b,a⟩ :=h;simp;omega
theorem pS.back {all l:List Int} (h:pS all l) {d:Nat} (hd:d<=l.length):l.drop (l.length-d)=all.drop (all.length-d):=by
 obtain⟨k,rfl,b,a⟩ :=h;rw[List.drop_drop,List.length_drop]at*;congr 1;omega
structure aF where
 lit:Int
 len:Int
 ak:Int
def aH (t:aF):Prop:=if t.len=0 then t.ak=0 else t.lit=0/\3<=t.len/\t.len<=258/\1<=t.ak/\t.ak<=32768
instance (t:aF):Decidable (aH t):=by unfold aH;infer_instance
def again (l:List Int) (D N:Nat):List Int:=(List.range N).map λi=>ix l (l.length-D+i%D)
theorem aJ (l:List Int) (D N:Nat):(again l D N).length=N:=by simp [again]
theorem CT (l:List Int) (D N:Nat) {i:Nat} (h:i<N):ix (again l D N) i=ix l (l.length-D+i%D):=by simp [ix,again,h]
theorem ES (l:List Int) (D:Nat):again l D 0=[]:=rfl
theorem EP (l:List Int) (D N:Nat) (hD:1<=D) (b:D<=l.length):again l D (N+1)=again l D N++[ix (l++again l D N) (l.length+N-D)]:=by
 have a:again l D (N+1)=again l D N++[ix l (l.length-D+N%D)]:=by unfold again;rw[List.range_succ,List.map_append];rfl
 rw[a];congr 2;by_cases h:N<D
 · rw[Nat.mod_eq_of_lt h,aL,if_pos ω];congr 1;omega
 · rw[aL,if_neg ω,CT _ _ _ ω,show l.length+N-D-l.length=N-D by omega,<-Nat.mod_eq_sub_mod ω]
def step (out:List Int) (t:aF):Int×List Int:=
 if¬aH t then(1,[])
 else if 16777216<(out.length:Int)+max t.len 1 then(6,[])
 else if t.len=0 then(0,out++[t.lit])
 else if(out.length:Int)<t.ak then(3,[])
 else(0,out++again out t.ak.toNat t.len.toNat)
def expand (out:List Int):List aF->Int×List Int
 | []=>(0,out)
 | t::l=>if(step out t).1=0 then expand (step out t).2 l else step out t
theorem eY (out:List Int) (t:aF) (l:List aF):expand out (t::l)=if(step out t).1=0 then expand (step out t).2 l else step out t:=rfl
theorem PD {out:List Int} {t:aF} (h:(step out t).1=0):(step out t).2.length<=16777216/\out.length<=(step out t).2.length:=by
 unfold step at h⊢;by_cases c:aH t
 · rw[if_neg (by simpa using c)]at h⊢;by_cases b:16777216<(out.length:Int)+max t.len 1
   · rw[if_pos b]at h;simp at h
   · rw[if_neg b]at h⊢;by_cases a:t.len=0
     · rw[if_pos a];simp;omega
     · rw[if_neg a]at h⊢;by_cases h4:(out.length:Int)<t.ak
       · rw[if_pos h4]at h;simp at h
       · rw[if_neg h4];simp [aJ];omega
 · rw[if_pos (by simpa using c)]at h;simp at h
def bY (A:Option Addr) (c j:Nat):Option Addr:=if c=j then A else A.map (·.add j)
theorem aT.bY {k:IntKind} {w:World} {B n c:Nat} {A:Option Addr} {l:List Int} (h:aT k w B A n l) {j:Nat} (b:j<=n) (d:n<=c):aT k w B (bY A c j) (n-j) (l.drop j):=
 h.cut b λa=>by unfold Go.Proofs.YtddhegejmkgmjaaGreat.bY;rw[if_neg ω]
theorem aT.pre {k:IntKind} {w:World} {B n:Nat} {A:Option Addr} {l:List Int} (h:aT k w B A n l) {j:Nat} (d:j<=n):aT k w B A j (l.take j):=by
 refine⟨by rw[List.length_take,<-h.1];omega,λf=> ?_⟩;obtain⟨c,e,b,a⟩ :=h.2 ω;refine⟨c,e,b,λi hi=> ?_⟩;rw[a i ω];simp [ix,hi]
section
variable {P:Program} (t e:TypeId) (ht:P.underlying t=some (.slice e)) {i:TypeInfo} (hi:P.info? e=some i) (hs:i.size=1)
include ht hi hs
theorem bE (A:Option Addr) (n c:Nat) {j:Nat} (b:j<=n) (W:World):
  (Instr.slice t (.slice A n c) (some (.int .i64 (j:Int))) none none).run P W= .ok (.slice (bY A c j) (n-j) (c-j)) W:=by
 have a:P.elem t=e:=by simp [Program.elem,ht]
 rw[run_slice_l W t A n c (by rw[a];exact ht) .i64 j ω ω,a];simp [sizeOf,typeInfo,hi,hs,sliced,bY]
theorem dr (A:Option Addr) (n c:Nat) {j:Nat} (b:j<=c) (W:World):
  (Instr.slice t (.slice A n c) none (some (.int .i64 (j:Int))) none).run P W= .ok (.slice A j c) W:=by
 have a:P.elem t=e:=by simp [Program.elem,ht]
 rw[run_slice_h W t A n c (by rw[a];exact ht) .i64 j ω ω,a];simp [sizeOf,typeInfo,hi,hs,sliced]
 cases A <;> simp [Addr.add]
theorem oK (A:Option Addr) (n c:Nat) {a b:Nat} (f:a<=b) (g:b<=c) (W:World):
  (Instr.slice t (.slice A n c) (some (.int .i64 (a:Int))) (some (.int .i64 (b:Int))) none).run P W= .ok (.slice (bY A c a) (b-a) (c-a)) W:=by
 have d:P.elem t=e:=by simp [Program.elem,ht]
 rw[run_slice_lh W t A n c (by rw[d];exact ht) .i64 .i64 a b ω ω ω,d];simp [sizeOf,typeInfo,hi,hs,sliced,bY]
end
theorem ag.put {k:IntKind} {w:World} {b0 g n c i:Nat} {e:TypeId} {l:List Int} (h:ag k w b0 e (some ⟨g,0,none⟩) n c l) (hi:i<n) (v:Int):ag k (w.setCell ⟨g,i,none⟩ (.int k v)) b0 e (some ⟨g,0,none⟩) n c (l.set i v):=by
 refine⟨by rw[List.length_set];exact h.1, ?_⟩;rcases h.2 with ⟨u,_⟩ | ⟨x,d,a,r,q,p,o,f,m⟩
 · cases u
 · injection a with a;injection a with a;subst a;refine .inr ⟨g,d.setIfInBounds i (.int k v),rfl,r, ?_,p,o,by simpa using f,λj t=> ?_⟩
   · simp [World.setCell,Array.getElem?_modify,q]
   · rw[Array.getElem?_setIfInBounds];have s:=h.1;by_cases b:i=j
     · subst b;rw[if_pos rfl,if_pos (by rw[f];omega)];simp [ix,<-s,hi]
     · rw[if_neg b,m j t];simp [ix,b]
structure Rn where
 c:Int
 v:Int
 e:Int
def dg (k:Int) (n:Nat):List Rn:=
 if h0:n=0 then []
 else if k=0/\11<=n then⟨18,((min n 138:Nat):Int)-11,7⟩ ::dg k (n-min n 138)
 else if k=0/\3<=n then [⟨17,(n:Int)-3,3⟩]
 else if 0<k/\3<=n then⟨16,((min n 6:Nat):Int)-3,2⟩ ::dg k (n-min n 6)
 else⟨k,0,0⟩ ::dg k (n-1)
termination_by n
decreasing_by all_goals omega
theorem oh (k:Int):dg k 0=[]:=by rw[dg,dif_pos rfl]
theorem ye {n:Nat} (h:11<=n):dg 0 n= ⟨18,((min n 138:Nat):Int)-11,7⟩ ::dg 0 (n-min n 138):=by rw[dg,dif_neg ω,if_pos ⟨rfl,h⟩]
theorem vy {n:Nat} (h:3<=n) (a:¬11<=n):dg 0 n=[⟨17,(n:Int)-3,3⟩]:=by rw[dg,dif_neg ω,if_neg ω,if_pos ⟨rfl,h⟩]
theorem vx {k:Int} {n:Nat} (a:0<k) (h:3<=n):dg k n= ⟨16,((min n 6:Nat):Int)-3,2⟩ ::dg k (n-min n 6):=by rw[dg,dif_neg ω,if_neg ω,if_neg ω,if_pos ⟨a,h⟩]
theorem qC {k:Int} {n:Nat} (a:n≠0) (h:n<3\/k<0):dg k n= ⟨k,0,0⟩ ::dg k (n-1):=by rw[dg,dif_neg a,if_neg ω,if_neg ω,if_neg ω]
def runN (k:Int):List Int->Nat
 | []=>0
 | x::r=>if x=k then runN k r+1 else 0
theorem B2 (k:Int):∀r,runN k r<=r.length
 | []=>Nat.le_refl _
 | x::r=>by
   unfold runN;have:=B2 k r
   split <;> simp <;> omega
theorem IV (k:Int):∀(r:List Int) (m:Nat),m<=runN k r->(m<runN k r↔m<r.length/\ix r m=k)
 | [],m,h=>by simp [runN]
 | x::r,m,h=>by
   unfold runN at h⊢;by_cases a:x=k
   · rw[if_pos a]at h⊢;cases m with
     | zero=>exact⟨λ_=> ⟨σ,by simpa [ix] using a⟩,λ_=>ω⟩
     | succ m=>
       have:=IV k r m ω;rw[List.length_cons,show ix (x::r) (m+1)=ix r m from by simp [ix]];constructor
       · intro b;have:=this.1 ω;exact⟨ω,this.2⟩
       · intro b;have:=this.2 ⟨ω,b.2⟩;omega
   · rw[if_neg a]at h⊢;obtain rfl:m=0:=ω;exact⟨λh=>absurd h ω,λh=>absurd (by simpa [ix] using h.2) a⟩
def eQ (l:List Int):List Rn:=
 match l with
 | []=>[]
 | k::r=>(if 0<k then⟨k,0,0⟩ ::dg k (runN k r)else dg k (runN k r+1))++eQ (r.drop (runN k r))
termination_by l.length
decreasing_by simp;omega
theorem om:eQ []=[]:=by rw[eQ]
theorem jF (k:Int) (r:List Int):eQ (k::r)=(if 0<k then⟨k,0,0⟩ ::dg k (runN k r)else dg k (runN k r+1))++eQ (r.drop (runN k r)):=by rw[eQ]
theorem Ri {l:List Int} {i:Nat} (h:i<l.length):l.drop i=ix l i::l.drop (i+1):=by
 rw[List.drop_eq_getElem_cons h];simp [ix,h]
theorem Pq {l:List Int} {i m:Nat} (h:i<l.length) (a:runN (ix l i) (l.drop (i+1))=m):eQ (l.drop i)=(if 0<ix l i then⟨ix l i,0,0⟩ ::dg (ix l i) m else dg (ix l i) (m+1))++eQ (l.drop (i+(m+1))):=by
 rw[Ri h,jF,a,List.drop_drop,show i+1+m=i+(m+1) by omega]
theorem qB (k:Int) (n:Nat):(dg k n).length<=n:=by
 induction n using Nat.strongRecOn with
 | _ n ih=>
   rw[dg];by_cases a:n=0
   · rw[dif_pos a];simp
   · rw[dif_neg a]
     split
     · have:=ih (n-min n 138) ω;simp;omega
     · split
       · simp;omega
       · split
         · have:=ih (n-min n 6) ω;simp;omega
         · have:=ih (n-1) ω;simp;omega
theorem yf (l:List Int):(eQ l).length<=l.length:=by
 generalize a:l.length=n
 induction n using Nat.strongRecOn generalizing l with
 | _ n ih=>
   cases l with
   | nil=>rw[om];simp
   | cons k r=>
     rw[jF,List.length_append];have b:=ih (r.drop (runN k r)).length (by simp at a⊢;omega) _ rfl;have c:=B2 k r;rw[List.length_drop]at b;simp only [List.length_cons]at a
     split
     · have:=qB k (runN k r);simp;omega
     · have:=qB k (runN k r+1);omega
def sS (r:Rn):Prop:=(0<=r.c/\r.c<=18)/\(0<=r.v/\r.v<128)/\(0<=r.e/\r.e<=7)/\r.v<2 ^ r.e.toNat/\(r.c<=15->r.v=0/\r.e=0)/\(r.c=16->r.e=2)/\(r.c=17->r.e=3)/\(r.c=18->r.e=7)
theorem AR {k:Int} (b:0<=k/\k<=15) (n:Nat):∀r∈dg k n,sS r:=by
 induction n using Nat.strongRecOn with
 | _ n ih=>
   rw[dg];by_cases c:n=0
   · rw[dif_pos c];intro r a;simp at a
   · rw[dif_neg c]
     split
     · intro r a;rcases List.mem_cons.1 a with rfl | a
       · refine⟨?_, ?_, ?_, ?_, ?_, ?_, ?_, ?_⟩ <;> dsimp only <;> first | omega | (show((min n 138:Nat):Int)-11<128;omega)
       · exact ih _ ω r a
     · split
       · intro r a;rcases List.mem_cons.1 a with rfl | a
         · refine⟨?_, ?_, ?_, ?_, ?_, ?_, ?_, ?_⟩ <;> dsimp only <;> first | omega | (show(n:Int)-3<8;omega)
         · simp at a
       · split
         · intro r a;rcases List.mem_cons.1 a with rfl | a
           · refine⟨?_, ?_, ?_, ?_, ?_, ?_, ?_, ?_⟩ <;> dsimp only <;> first | omega | (show((min n 6:Nat):Int)-3<4;omega)
           · exact ih _ ω r a
         · intro r a;rcases List.mem_cons.1 a with rfl | a
           · exact⟨⟨b.1,Int.le_trans b.2 δ⟩,σ,σ,σ,σ,by dsimp only;omega,by dsimp only;omega,by dsimp only;omega⟩
           · exact ih _ ω r a
theorem Pr (l:List Int) (h:∀i,i<l.length->0<=ix l i/\ix l i<=15):∀r∈eQ l,sS r:=by
 generalize d:l.length=n
 induction n using Nat.strongRecOn generalizing l with
 | _ n ih=>
   cases l with
   | nil=>rw[om];intro r c;simp at c
   | cons k r=>
     have b:0<=k/\k<=15:=by have:=h 0 σ;simpa [ix] using this
     rw[jF];intro x a;rcases List.mem_append.1 a with a | a
     · split at a
       · rcases List.mem_cons.1 a with rfl | a
         · exact⟨⟨b.1,Int.le_trans b.2 δ⟩,σ,σ,σ,σ,by dsimp only;omega,by dsimp only;omega,by dsimp only;omega⟩
         · exact AR b _ x a
       · exact AR b _ x a
     · refine ih (r.drop (runN k r)).length (by simp at d⊢;omega) _ (λi hi=> ?_) rfl x a;rw[ia];have:=h (runN k r+i+1) (by rw[List.length_drop]at hi;simp;omega)
       simpa [ix] using this
open Go
structure jY where
 chain:Nat
 nice:Nat
 lazy:Bool
def cT (level:Int):jY:=
 if level<=0 then⟨0,0,false⟩else if level=1 then⟨4,8,false⟩else if level=2 then⟨8,16,false⟩else if level=3 then⟨16,32,false⟩
 else if level=4 then⟨16,16,true⟩else if level=5 then⟨24,32,true⟩else if level=6 then⟨32,128,true⟩else if level=7 then⟨64,128,true⟩
 else if level=8 then⟨128,258,true⟩else⟨256,258,true⟩
theorem MF (level:Int):(cT level).chain<=256/\(cT level).nice<=258:=by
 unfold cT
 repeat' split
 all_goals exact⟨δ,δ⟩
structure ed where
 D:List Int
 P:List Int
 base:Nat
 at_:Nat
 head:Int->Option Int
def hs3 (a b c:Int):Int:=(a*65536+b*256+c)*2654435761%4294967296/131072
theorem O6 (a b c:Int):0<=hs3 a b c/\hs3 a b c<32768:=by unfold hs3;omega
def iz (D:List Int) (p:Nat):Int:=hs3 (ix D p) (ix D (p+1)) (ix D (p+2))
def IX (D:List Int) (a b:Nat):Nat->Nat->Nat
 | 0,n=>n
 | f+1,n=>if ix D (a+n)=ix D (b+n)then IX D a b f (n+1)else n
def fL (D:List Int) (a b:Nat):Nat:=IX D a b (min 258 (D.length-b)) 0
theorem Y7 (D:List Int) (a b f n:Nat):n<=IX D a b f n/\IX D a b f n<=n+f:=by
 induction f generalizing n with
 | zero=>exact⟨Nat.le_refl _,by simp [IX]⟩
 | succ f c=>
   unfold IX
   split
   · have:=c (n+1);omega
   · omega
theorem KU (D:List Int) (a b f n:Nat) (h:∀i,i<n->ix D (a+i)=ix D (b+i)):∀i,i<IX D a b f n->ix D (a+i)=ix D (b+i):=by
 induction f generalizing n with
 | zero=>exact h
 | succ f c=>
   unfold IX
   split
   · rename_i e
     exact c (n+1) λi hi=>by
      by_cases d:i=n
      · subst d;exact e
      · exact h i ω
   · exact h
theorem DG (D:List Int) (a b:Nat):fL D a b<=258/\fL D a b<=D.length-b:=by
 have:=(Y7 D a b (min 258 (D.length-b)) 0).2;unfold fL;omega
theorem DF (D:List Int) (a b:Nat):∀i,i<fL D a b->ix D (a+i)=ix D (b+i):=KU D a b _ 0 λi hi=>ω
def js (D P:List Int) (base p nice:Nat):Nat->Int->Nat×Nat->Nat×Nat
 | 0,_,t=>t
 | tries+1,k,t=>
   if(base:Int)<=k/\(p:Int)-32768<=k then
    if 3<=fL D k.toNat p/\t.1<fL D k.toNat p then
     if nice<=fL D k.toNat p then(fL D k.toNat p,p-k.toNat)else js D P base p nice tries (ix P k.toNat) (fL D k.toNat p,p-k.toNat)
    else js D P base p nice tries (ix P k.toNat) t
   else t
def ba (e:jY) (st:ed) (p:Nat):Nat×Nat:=
 if e.chain=0\/st.D.length<p+3 then(0,0)
 else match st.head (iz st.D p)with
  | none=>(0,0)
  | some k=>js st.D st.P st.base p e.nice e.chain k (0,0)
theorem rZ {e:jY} {st:ed} {p:Nat} (h:e.chain=0\/st.D.length<p+3):ba e st p=(0,0):=by unfold ba;rw[if_pos h]
theorem C3 {e:jY} {st:ed} {p:Nat} (h:st.head (iz st.D p)=none):ba e st p=(0,0):=by
 unfold ba
 split
 · rfl
 · rw[h]
theorem C4 {e:jY} {st:ed} {p:Nat} {k:Int} (b:e.chain≠0) (a:p+3<=st.D.length) (h:st.head (iz st.D p)=some k):ba e st p=js st.D st.P st.base p e.nice e.chain k (0,0):=by
 unfold ba;rw[if_neg ω,h]
def was (st:ed) (h:Int):Int:=(st.head h).getD (-1)
def aD (e:jY) (st:ed) (p:Nat):ed:=
 if e.chain=0\/st.D.length<p+3 then st
 else { st with P:=st.P.set p (was st (iz st.D p)),head:=λx=>if x=iz st.D p then some (p:Int)else st.head x }
def moved (st:ed):ed:={ st with at_:=st.at_+1 }
def bw (e:jY):Nat->ed->ed
 | 0,st=>st
 | n+1,st=>bw e n (moved (aD e st st.at_))
def mj (st:ed):aF:= ⟨ix st.D st.at_,0,0⟩
def cy (e:jY) (st:ed):aF×ed:=
 if(ba e st st.at_).1=0 then(mj st,bw e 1 st)
 else if e.lazy=true/\(ba e st st.at_).1<e.nice/\st.at_+1<st.D.length then
  if(ba e st st.at_).1<(ba e (aD e st st.at_) (st.at_+1)).1 then(mj st,moved (aD e st st.at_))
  else(⟨0,(ba e st st.at_).1,(ba e st st.at_).2⟩,bw e ((ba e st st.at_).1-1) (moved (aD e st st.at_)))
 else(⟨0,(ba e st st.at_).1,(ba e st st.at_).2⟩,bw e (ba e st st.at_).1 st)
inductive tA (e:jY) (left:Nat):ed->List aF->ed->Prop
 | nil (st:ed):tA e left st [] st
 | snoc {st st1:ed} {l:List aF}:tA e left st l st1->left<st1.D.length-st1.at_->tA e left st (l++[(cy e st1).1]) (cy e st1).2
def eC (st:ed) (b:List Int):ed:=
 { D:=st.D++b,P:=st.P++List.replicate b.length 0,at_:=st.at_,head:=st.head,
   base:=if 131072<(st.D++b).length-st.base/\32768<st.at_-st.base then st.at_-32768 else st.base }
def Dc:ed:= ⟨[],[],0,0,λ_=>none⟩
structure ed.Ok (st:ed) (b:Nat):Prop where
 len:st.P.length=st.D.length
 lo:st.base<=st.at_
 hi:st.at_<=st.D.length
 bl:b<=st.D.length
 prev:∀q, -1<=ix st.P q/\ix st.P q<=q
 hd:∀h k,st.head h=some k->0<=k/\k<(b:Int)
theorem Ga (l:List Int) (p q:Nat) (v:Int) (hp:p<l.length):ix (l.set p v) q=if q=p then v else ix l q:=by
 unfold ix;simp only [List.getD_eq_getElem?_getD,List.getElem?_set];by_cases h:q=p
 · subst h;rw[if_pos rfl,if_pos rfl,if_pos hp];rfl
 · rw[if_neg h,if_neg (λe=>h e.symm)]
theorem XO (l:List Int) {q:Nat} (h:l.length<=q):ix l q=0:=by
 unfold ix;rw[List.getD_eq_getElem?_getD,List.getElem?_eq_none h];rfl
theorem Ow (n q:Nat):ix (List.replicate n 0) q=0:=by
 by_cases h:q<n
 · simp [ix,h]
 · exact XO _ ξ
theorem Ok.new:ed.Ok Dc 0:= ⟨rfl,Nat.le_refl _,Nat.le_refl _,Nat.le_refl _,λq=>by simp [Dc,ix],λh k a=>by simp [Dc]at a⟩
theorem ed.Ok.write {st:ed} {b:Nat} (h:st.Ok b) (x:List Int):(eC st x).Ok b:=by
 refine⟨?_, ?_, ?_, ?_,λq=> ?_,h.hd⟩
 · simp [eC,h.len]
 · have:=h.lo;unfold eC;dsimp only;split <;> omega
 · have:=h.hi;unfold eC;simp;omega
 · have:=h.bl;unfold eC;simp;omega
 · unfold eC;dsimp only;rw[aL]
   split
   · exact h.prev q
   · rw[Ow];omega
theorem Yg {st:ed} {b:Nat} (h:st.Ok b) (x:Int): -1<=was st x/\was st x<(b:Int):=by
 unfold was;cases e:st.head x with
 | none=>simp;omega
 | some k=>have:=h.hd x k e;simp;omega
theorem ed.Ok.enter {e:jY} {st:ed} {p:Nat} (h:st.Ok p) (hp:p<st.D.length):(aD e st p).Ok (p+1):=by
 unfold aD
 split
 · exact⟨h.len,h.lo,h.hi,hp,h.prev,λx k a=>by have:=h.hd x k a;omega⟩
 · rename_i b
   refine⟨by simp [h.len],h.lo,h.hi,hp,λq=> ?_,λx k a=> ?_⟩
   · dsimp only;rw[Ga _ _ _ _ (by rw[h.len];exact hp)]
     split
     · have:=Yg h (iz st.D p);omega
     · exact h.prev q
   · dsimp only at a
     split at a
     · injection a with a;omega
     · have:=h.hd x k a;omega
theorem tF (e:jY) (st:ed) (p:Nat):(aD e st p).D=st.D/\(aD e st p).at_=st.at_/\(aD e st p).base=st.base:=by
 unfold aD;split <;> exact⟨rfl,rfl,rfl⟩
theorem ed.Ok.moved {st:ed} (h:st.Ok (st.at_+1)):(moved st).Ok (Go.Proofs.YtddhegejmkgmjaaGreat.moved st).at_:=
 ⟨h.len,Nat.le_succ_of_le h.lo,h.bl,h.bl,h.prev,h.hd⟩
theorem lS {e:jY} {st:ed} {n:Nat} (h:st.Ok st.at_) (r:st.at_+n<=st.D.length):(bw e n st).Ok (st.at_+n)/\(bw e n st).D=st.D/\(bw e n st).at_=st.at_+n/\(bw e n st).base=st.base:=by
 induction n generalizing st with
 | zero=>exact⟨h,rfl,rfl,rfl⟩
 | succ n j=>
   have m:=h.enter (e:=e) (p:=st.at_) ω;obtain⟨q,f,o⟩ :=tF e st st.at_;have l:(aD e st st.at_).Ok ((aD e st st.at_).at_+1):=by rw[f];exact m
   have k:=l.moved;have d:(moved (aD e st st.at_)).at_=st.at_+1:=by show(aD e st st.at_).at_+1=_;rw[f]
   have c:(moved (aD e st st.at_)).D=st.D:=q;obtain⟨b,i,a,g⟩ :=j (st:=moved (aD e st st.at_)) k (by rw[d,c];omega);rw[d]at b a;refine⟨by rw[show st.at_+(n+1)=st.at_+1+n by omega];exact b,by rw[show bw e (n+1) st=bw e n (moved (aD e st st.at_)) from rfl,i,c],by rw[show bw e (n+1) st=bw e n (moved (aD e st st.at_)) from rfl,a];omega,by rw[show bw e (n+1) st=bw e n (moved (aD e st st.at_)) from rfl,g];exact o⟩
def Good (D:List Int) (p:Nat) (t:Nat×Nat):Prop:=t.1=0/\t.2=0\/(3<=t.1/\t.1<=258/\p+t.1<=D.length/\1<=t.2/\t.2<=32768/\t.2<=p/\∀i,i<t.1->ix D (p-t.2+i)=ix D (p+i))
theorem EW {D P:List Int} {base p nice:Nat} (hp:p<=D.length) (d:∀q, -1<=ix P q/\ix P q<=q) (n:Nat) (k:Int) (t:Nat×Nat) (f:k<p) (ht:Good D p t):Good D p (js D P base p nice n k t):=by
 induction n generalizing k t with
 | zero=>exact ht
 | succ n a=>
   unfold js
   split
   · rename_i g
     obtain⟨K,rfl⟩ :=Int.eq_ofNat_of_zero_le (show 0<=k by omega);have e:=d K
     have b:3<=fL D K p/\t.1<fL D K p->Good D p (fL D K p,p-K):=λh=>by
      have c:=DG D K p;refine .inr ⟨h.1,c.1,by simp only;omega,by simp only;omega,by simp only;omega,by simp only;omega,λi hi=> ?_⟩;have:=DF D K p i hi;rw[show p-(p-K)=K by omega];exact this
     simp only [Int.toNat_natCast]
     split
     · rename_i hs
       split
       · exact b hs
       · exact a _ _ ω (b hs)
     · exact a _ _ ω ht
   · exact ht
theorem qY {e:jY} {st:ed} {p:Nat} (h:st.Ok p):Good st.D p (ba e st p):=by
 unfold ba
 split
 · exact .inl ⟨rfl,rfl⟩
 · split
   · exact .inl ⟨rfl,rfl⟩
   · rename_i k a
     exact EW h.bl h.prev _ _ _ (h.hd _ _ a).2 (.inl ⟨rfl,rfl⟩)
theorem Jj {e:jY} {st:ed} {p:Nat} (h:(ba e st p).1≠0):e.chain≠0/\p+3<=st.D.length:=by
 unfold ba at h
 split at h
 · simp at h
 · omega
theorem jX {e:jY} {st:ed} (h:st.Ok st.at_) (k:st.at_<st.D.length):∃N,1<=N/\N<=258/\st.at_+N<=st.D.length/\(cy e st).2.Ok (st.at_+N)/\(cy e st).2.D=st.D/\(cy e st).2.at_=st.at_+N/\(cy e st).2.base=st.base/\
  (((cy e st).1=mj st/\N=1)\/∃ak:Nat,(cy e st).1= ⟨0,N,ak⟩/\Good st.D st.at_ (N,ak)/\e.chain≠0/\3<=N):=by
 have s:=qY (e:=e) h;unfold cy
 split
 · obtain⟨c,g,b,f⟩ :=lS (e:=e) (n:=1) h ω;exact⟨1,Nat.le_refl _,ω,ω,c,g,b,f, .inl ⟨rfl,rfl⟩⟩
 · rename_i m
   have a:=Jj m;obtain⟨B,w⟩ :=ν (ba e st st.at_);rw[w]at s m⊢;obtain⟨N,ak⟩ :=B;rcases s with ⟨v,_⟩ | ⟨i,q,d,o⟩
   · exact absurd v m
   dsimp only at i q d o⊢;have y:=h.enter (e:=e) (p:=st.at_) k;obtain⟨z,u,t⟩ :=tF e st st.at_;have x:(aD e st st.at_).Ok ((aD e st st.at_).at_+1):=by rw[u];exact y
   have l:=x.moved;have j:(moved (aD e st st.at_)).at_=st.at_+1:=by show(aD e st st.at_).at_+1=_;rw[u]
   have r:(moved (aD e st st.at_)).D=st.D:=z
   split
   · split
     · refine⟨1,Nat.le_refl _,ω,ω, ?_,r,j,t, .inl ⟨rfl,rfl⟩⟩;rw[j]at l;exact l
     · obtain⟨c,g,b,f⟩ :=lS (e:=e) (n:=N-1) l (by rw[j,r];omega);rw[j]at c b;rw[show st.at_+1+(N-1)=st.at_+N by omega]at c b;exact⟨N,ω,ω,d,c,by rw[g,r],b,by rw[f];exact t, .inr ⟨ak,rfl, .inr ⟨i,q,d,o⟩,a.1,i⟩⟩
   · obtain⟨c,g,b,f⟩ :=lS (e:=e) (n:=N) h d;exact⟨N,ω,ω,d,c,g,b,f, .inr ⟨ak,rfl, .inr ⟨i,q,d,o⟩,a.1,i⟩⟩
theorem B4 {e:jY} {left:Nat} {st st':ed} {l:List aF} (h:tA e left st l st') (k:st.Ok st.at_):st'.Ok st'.at_/\st'.D=st.D/\st.at_+l.length<=st'.at_/\st'.base=st.base:=by
 induction h with
 | nil=>exact⟨k,rfl,Nat.le_refl _,rfl⟩
 | snoc p o f=>
   obtain⟨j,i,n,g⟩ :=f;obtain⟨N,m, -, -,d,c,a,b, -⟩ :=jX (e:=e) j ω;refine⟨by rw[a];exact d,by rw[c,i],by rw[a];simp;omega,by rw[b,g]⟩
section
variable {w w' w0:World} {b0 g:Nat} {c c0:Nat->Nat}
def DE (b0:Nat) (w0:World) (c0:Nat->Nat) (w:World) (c:Nat->Nat):Prop:=Below b0 w0 w/\aq w0 w (λk=>c0 k≠0)/\∀k,k<w0.heap.size->c k=c0 k
open Classical in
noncomputable def aN (c:Nat->Nat) (n:Nat) (F:Nat->Prop) (i:Nat):Nat->Nat:=λk=>if k<n then c k else if F k then i else 0
theorem aG {c:Nat->Nat} {n:Nat} {F:Nat->Prop} {i k:Nat} (h:k<n):aN c n F i k=c k:=by unfold aN;rw[if_pos h]
theorem bX {c:Nat->Nat} {n:Nat} {F:Nat->Prop} {i k:Nat} (h:n<=k) (hF:F k):aN c n F i k=i:=by unfold aN;rw[if_neg ω,if_pos hF]
theorem cJ {c:Nat->Nat} {n:Nat} {F:Nat->Prop} {i k:Nat} (h:aN c n F i k≠0):(k<n/\c k≠0)\/(n<=k/\F k):=by
 unfold aN at h
 split at h
 · exact .inl ⟨by assumption,h⟩
 · split at h
   · exact .inr ⟨ω,by assumption⟩
   · exact absurd rfl h
theorem DE.step {c':Nat->Nat} (h:DE b0 w0 c0 w c) (g:b0<=w.heap.size) (b:∀k,c k≠0->b0<=k) (e:aq w w' (λk=>c k≠0)) (f:∀k,k<w.heap.size->c' k=c k):DE b0 w0 c0 w' c':=
 ⟨h.1.trans (e.below b g),h.2.1.trans e (λk a=>by
   rcases Nat.lt_or_ge k w0.heap.size with d | d
   · exact .inl (by rw[<-h.2.2 k d];exact a)
   · exact .inr d),λk a=>(f k (Nat.lt_of_lt_of_le a h.2.1.size)).trans (h.2.2 k a)⟩
end
theorem u7 (x:Int) (a b:List Int) (k:Nat):pU x (a++b) (a.length+k)=pU (pU x a a.length) b k:=by
 have d:∀m,m<=a.length->pU x (a++b) m=pU x a m:=by
  intro m
  induction m with
  | zero=>intro _;rfl
  | succ m c=>intro e;simp only [pU];rw[c ω,aL,if_pos ω]
 induction k with
 | zero=>rw[Nat.add_zero,d _ (Nat.le_refl _)];rfl
 | succ k c=>
   rw[<-Nat.add_assoc];simp only [pU];rw[c,aL,if_neg ω,show a.length+k-a.length=k by omega]
theorem QV (x:Int) (a b:List Int) (m:Nat):m<=a.length->pU x (a++b) m=pU x a m:=by
 induction m with
 | zero=>intro _;rfl
 | succ m c=>intro d;simp only [pU];rw[c ω,aL,if_pos ω]
theorem EO (x y:Int) (a b:List Int) (k:Nat):wm x y (a++b) (a.length+k)=wm (pU x a a.length) (wm x y a a.length) b k:=by
 have e:∀m,m<=a.length->wm x y (a++b) m=wm x y a m:=by
  intro m
  induction m with
  | zero=>intro _;rfl
  | succ m c=>intro d;simp only [wm];rw[c ω,QV x a b (m+1) d]
 induction k with
 | zero=>rw[Nat.add_zero,e _ (Nat.le_refl _)];rfl
 | succ k c=>
   rw[<-Nat.add_assoc];simp only [wm];rw[c,Nat.add_assoc,u7]
end Go.Proofs.YtddhegejmkgmjaaGreat
