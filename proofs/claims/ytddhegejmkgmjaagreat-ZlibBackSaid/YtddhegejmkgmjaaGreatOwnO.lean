/-
  part
-/
import Derived.Test.YtddhegejmkgmjaaGreatPk3
import Derived.Laws.AppendOwn
namespace Go.Proofs.YtddhegejmkgmjaaGreat
open Go.RowKit
set_option linter.unusedVariables false
set_option maxRecDepth 100000
set_option maxHeartbeats 4000000
def bP (k:IntKind) (w:World) (b0:Nat) (e:TypeId) (A:Option Addr) (n c:Nat) (l:List Int):Prop:=
 n=l.length/\((A=none/\n=0/\c=0)\/∃(g off:Nat) (cur:Array Value),A=some ⟨g,off,none⟩/\b0<=g/\w.heap[g]?=some (.cells cur e (0,0))/\n<=c/\c<=maxLen/\off+c<=cur.size/\∀i,i<n->cur[off+i]?=some (.int k (ix l i)))
section
variable {k:IntKind} {w w':World} {b0:Nat} {e:TypeId} {n c:Nat} {A:Option Addr} {l:List Int}
theorem ag.up (h:ag k w b0 e A n c l):bP k w b0 e A n c l:=by
 refine⟨h.1, ?_⟩;rcases h.2 with a | ⟨g,b,rfl,f,a,d,h4,h5,h6⟩
 · exact .inl a
 · exact .inr ⟨g,0,b,rfl,f,a,d,h4,ω,λi hi=>by rw[Nat.zero_add];exact h6 i ω⟩
theorem bP.br:bP k w b0 e none 0 0 []:= ⟨rfl, .inl ⟨rfl,rfl,rfl⟩⟩
theorem bP.keep (h:bP k w b0 e A n c l) (d:∀g,aa A=some g->g<w.heap.size->w'.heap[g]?=w.heap[g]?):bP k w' b0 e A n c l:=by
 refine⟨h.1, ?_⟩;rcases h.2 with h | ⟨g,off,a,rfl,f,b,r⟩
 · exact .inl h
 · exact .inr ⟨g,off,a,rfl,f,(d g rfl (lt_of_block b)).trans b,r⟩
theorem bP.alloc (h:bP k w b0 e A n c l) (o:Obj):bP k (w.alloc o) b0 e A n c l:=h.keep λg _ a=>Below.heap_alloc w o g a
theorem bP.drewN (h:bP k w b0 e A n c l) (j:Nat):bP k (w.drewN j) b0 e A n c l:=h
theorem bP.drew (h:bP k w b0 e A n c l):bP k w.drew b0 e A n c l:=h
theorem bP.lt (h:bP k w b0 e A n c l) {g:Nat} (a:aa A=some g):b0<=g/\g<w.heap.size:=by
 rcases h.2 with ⟨rfl,_⟩ | ⟨i,off,f,rfl,d,b,_⟩
 · simp [aa]at a
 · simp [aa]at a;subst a;exact⟨d,lt_of_block b⟩
theorem bP.below {B:Nat} (h:bP k w b0 e A n c l) (b:Below B w w') (d:∀g,aa A=some g->g<B):bP k w' b0 e A n c l:=h.keep λg a _=>b.block g (d g a)
theorem bP.keeps (h:bP k w b0 e A n c l) (b:Below w.heap.size w w'):bP k w' b0 e A n c l:=h.below b λ_ a=>(h.lt a).2
theorem bP.grown {row:Option Nat} (h:bP k w b0 e A n c l) (f:w.grownBy w' row) (a:aa A≠row\/aa A=none):bP k w' b0 e A n c l:=
 h.keep λg d b=>f.block g b (λe=>by
  rcases a with a | a
  · exact a (d.trans e)
  · rw[a]at d;cases d)
theorem bP.far (h:bP k w b0 e A n c l) {p:Addr} (hp:aa A≠some p.block) (u:Value):bP k (w.setCell p u) b0 e A n c l:=
 h.keep λg a _=>Below.heap_setCell w p u g (λe=>hp (by rw[a,e]))
theorem bP.more {b1:Nat} (h:bP k w b0 e A n c l) (f:b1<=b0):bP k w b1 e A n c l:=by
 refine⟨h.1, ?_⟩;rcases h.2 with h | ⟨g,off,a,d,b,r⟩
 · exact .inl h
 · exact .inr ⟨g,off,a,d,Nat.le_trans f b,r⟩
theorem bP.fD (h:bP k w b0 e A n c l):n<=c:=by
 rcases h.2 with ⟨_,rfl,rfl⟩ | ⟨g,off,b,_,_,_,a,_⟩
 · exact Nat.le_refl _
 · exact a
theorem bP.rd (h:bP k w b0 e A n c l):aT k w w.heap.size A n l:=by
 refine⟨h.1,λd=> ?_⟩;rcases h.2 with ⟨_,rfl,_⟩ | ⟨g,off,a,rfl,_,b,f,_,h5,h6⟩
 · simp at d
 · refine⟨_,rfl,lt_of_block b,λi hi=> ?_⟩;have:(⟨g,off,none⟩ :Addr).add i= ⟨g,off+i,none⟩ :=by unfold Addr.add;split <;> simp_all
   rw[this,cell_of_row w g (off+i) a e (0,0) b,h6 i hi]
theorem bP.cut (h:bP k w b0 e A n c l) {j:Nat} (m:j<=n):bP k w b0 e (bY A c j) (n-j) (c-j) (l.drop j):=by
 refine⟨by rw[List.length_drop,h.1], ?_⟩;rcases h.2 with ⟨rfl,rfl,rfl⟩ | ⟨g,off,a,rfl,f,d,o,h4,h5,h6⟩
 · refine .inl ⟨?_,ω,ω⟩;unfold bY;split <;> rfl
 · by_cases b:c=j
   · refine .inr ⟨g,off,a,by unfold bY;rw[if_pos b],f,d,ω,ω,ω,λi hi=>ω⟩
   · refine .inr ⟨g,off+j,a, ?_,f,d,ω,ω,ω,λi hi=> ?_⟩
     · unfold bY;rw[if_neg b];show some ((⟨g,off,none⟩ :Addr).add j)=_
       unfold Addr.add
       split
       · simp_all
       · rfl
     · rw[ia,Nat.add_assoc];exact h6 (j+i) ω
theorem bP.pre (h:bP k w b0 e A n c l) {j:Nat} (f:j<=n):bP k w b0 e A j c (l.take j):=by
 refine⟨by rw[List.length_take,<-h.1];omega, ?_⟩;rcases h.2 with ⟨rfl,rfl,rfl⟩ | ⟨g,off,a,rfl,d,b,m,h4,h5,h6⟩
 · exact .inl ⟨rfl,ω,rfl⟩
 · exact .inr ⟨g,off,a,rfl,d,b,ω,h4,h5,λi hi=>by rw[h6 i ω];simp [ix,hi]⟩
theorem bP.blk (h:bP k w b0 e A n c l) (j:Nat):aa (bY A c j)=aa A:=by
 unfold bY
 split
 · rfl
 · cases A with
   | none=>rfl
   | some x=>simp [aa,aw]
theorem bP.addr (h:bP k w b0 e A n c l) (b:0<n):∃g off,A=some ⟨g,off,none⟩ :=by
 rcases h.2 with ⟨_,h,_⟩ | ⟨d,off,a,hA,_⟩
 · omega
 · exact⟨_,_,hA⟩
theorem bP.cell {g off:Nat} (h:bP k w b0 e (some ⟨g,off,none⟩) n c l) {i:Nat} (hi:i<n):w.cell? ⟨g,off+i,none⟩ =some (.int k (ix l i)):=by
 rcases h.2 with ⟨h,_⟩ | ⟨m,b,a,hA,j,d,f,h4,h5,h6⟩
 · cases h
 · cases hA;rw[cell_of_row w _ _ a e (0,0) d,h6 i hi]
theorem bP.cv {S:Nat->Prop} (d:bP k w b0 e A n c l) (h:aq w w' S) (f:∀g,aa A=some g->¬S g):bP k w' b0 e A n c l:=
 d.keep λg b a=>h.block g a (f g b)
end
section
variable {P:Program} {w:World}
theorem Pm (k:IntKind) (b0:Nat) (t I e:TypeId) (i:TypeInfo) (bytes:Nat) (ht:P.underlying t=some (.slice e)) (hi:P.info? e=some i) (Q:i.zero=some (.int k 0))
  (b:i.size=1) (E:i.bytes=bytes) {A:Option Addr} {n c:Nat} {l:List Int} (a:bP k w b0 e A n c l) {B:Nat} {A':Option Addr} {m c':Nat} {l':List Int} (C:aT k w B A' m l')
  (F:n+m<=1000000000000) (U:bytes<=100) (o:b0<=w.heap.size):
  ∃y c2 w2,(Builtin.append_ #[t,t] I #[.slice A n c, .slice A' m c']).run P w= .ok (.slice y (n+m) c2) w2/\bP k w2 b0 e y (n+m) c2 (l++l')/\w.grownBy w2 (aa A)/\
   (aa y=aa A\/aa y=some w.heap.size):=by
 rcases a.2 with G | ⟨g,off,d,rfl,h1,V,h3,h4,h5,h6⟩
 · have hI:ag k w b0 e A n c l:= ⟨a.1, .inl G⟩;obtain⟨y,c2,w2,Z,Y,X,W⟩ :=B3 (P:=P) k b0 t I e i bytes ht hi Q b E hI (c':=c') C F U o;exact⟨y,c2,w2,Z,Y.up,X,W⟩
 · have q:(l++l').length=n+m:=by rw[List.length_append,<-a.1,<-C.1]
   rcases A' with _ | H
   · have hm:m=0:=by
      rcases Nat.eq_zero_or_pos m with G | G
      · exact G
      · obtain⟨H,h,_⟩ :=C.2 G;cases h
     subst hm;have L:l'=[]:=List.eq_nil_of_length_eq_zero C.1.symm;subst L;refine⟨some ⟨g,off,none⟩,c,w, ?_,by rw[List.append_nil];exact a,World.grownBy.refl w _, .inl rfl⟩;simp [Builtin.append_,run_underlying ht,sizeOf,typeInfo,hi,Builtin.lenOf,Builtin.firstCells,h3,storeCells]
   · have T:∀j u,((List.range m).map λi=>Value.int k (ix l' i))[j]?=some u->w.cell? (H.add j)=some u:=by
      intro j u p
      have v:j<m:=by
       rcases Nat.lt_or_ge j m with x | x
       · exact x
       · rw[List.getElem?_eq_none (by simpa using x)]at p;cases p
      obtain⟨EN,h,_,hc⟩ :=C.2 ω;injection h with h;subst h;rw[hc j v]
      simpa [v] using p
     have R:((List.range m).map λi=>Value.int k (ix l' i)).length=m*i.size:=by simp [b]
     by_cases f:n+m<=c
     · have S:=run_firstCells_some (P:=P) w i.size m H m c' _ R T;have z:=run_storeCells_at P g (off+n) e ((List.range m).map λi=>Value.int k (ix l' i)) 0 d w V ξ (λu p=>by obtain⟨j,_,rfl⟩ :=List.mem_map.1 p;rfl);simp only [Nat.add_zero]at z;have O:(⟨g,off,none⟩ :Addr).add n= ⟨g,off+n,none⟩ :=by unfold Addr.add;split <;> simp_all
       refine⟨some ⟨g,off,none⟩,c,w.setRow g (d.toList.take (off+n)++((List.range m).map λi=>Value.int k (ix l' i))++d.toList.drop (off+n+((List.range m).map λi=>Value.int k (ix l' i)).length)).toArray, ?_, ⟨q.symm, .inr ⟨g,off,_,rfl,h1,setRow_heap w g d _ e _ V,f,h4, ?_,λj v=> ?_⟩⟩, ⟨rfl,rfl,rfl,σ,λk _ M=>setRow_other w g k _ (λe=>M (by simp [aa,e]))⟩, .inl rfl⟩
       · rw[b]at S;simp [Builtin.append_,run_underlying ht,sizeOf,typeInfo,hi,b,Builtin.lenOf,f,S,O,z]
       · simp;omega
       · have ab:off+n<=d.size:=ω;by_cases r:j<n
         · have:=h6 j r;have J:ix (l++l') j=ix l j:=by rw[aL,if_pos (by rw[<-a.1];exact r)]
           rw[J,<-this];simp [List.getElem?_append,List.length_take]
           rw[if_pos ω,List.getElem?_take,if_pos ω];simp
         · have J:ix (l++l') j=ix l' (j-n):=by rw[aL,if_neg (by rw[<-a.1];exact r),<-a.1]
           rw[J];simp [List.getElem?_append,List.length_take]
           rw[if_neg ω,if_pos ω];have:off+j-min (off+n) d.size=j-n:=ω;have s:j-n<m:=ω;rw[this];simp [s]
     · have ja:∀j u,((List.range n).map λi=>Value.int k (ix l i))[j]?=some u->w.cell? ((⟨g,off,none⟩ :Addr).add j)=some u:=by
        intro j u p
        have v:j<n:=by
         rcases Nat.lt_or_ge j n with x | x
         · exact x
         · rw[List.getElem?_eq_none (by simpa using x)]at p;cases p
        have:(⟨g,off,none⟩ :Addr).add j= ⟨g,off+j,none⟩ :=by unfold Addr.add;split <;> simp_all
        rw[this,a.cell v]
        simpa [v] using p
       have D:n+m<=maxLen:=by unfold maxLen;omega
       have uz:(n+m)*i.bytes<=140737488355328:=by
        rw[E]
        calc (n+m)*bytes<=1000000000000*100:=Nat.mul_le_mul F U
         _<=140737488355328:=ω
       have K:=run_append_grow (P:=P) w t I e i _ ht hi Q ⟨g,off,none⟩ n c ((List.range n).map λi=>Value.int k (ix l i)) (by simp [b]) ja H m c' _ R T ω (by simp only [maxLen]at D;omega) (growslice_fits ω uz);have wT:=grownCap_ge w (n+m) c e;have N:=grownCap_le_maxLen w (n+m) c e D;refine⟨_,_,_,K, ⟨q.symm, .inr ⟨w.heap.size,0,_,rfl,o,heap_alloc_new w.drew _,wT,N, ?_,λj v=> ?_⟩⟩, ⟨rfl,rfl,rfl,σ,λk M _=>Below.heap_alloc w.drew _ k M⟩, .inr rfl⟩
       · have e1:(Value.int k 0).cells.size=1:=rfl;simp [size_zeroCells,e1]
         omega
       · rw[Nat.zero_add,aL,<-a.1];by_cases r:j<n
         · rw[if_pos r,Array.getElem?_append_left ξ,Array.getElem?_append_left (by simpa using r)];simp [r]
         · rw[if_neg r,Array.getElem?_append_left ξ,Array.getElem?_append_right ξ];have s:j-n<m:=ω;simp [s]
theorem Ef {b:Array Oper} {rest:List Oper} {o:Oper} {a:Act} {Q:Exit->Act->World->Prop} (k:IntKind) (b0:Nat) (e:TypeId) (i:TypeInfo) (bytes:Nat) (q:Region.wanted o (yielded b a.tmps)=true) (s x:Operand) (t:TypeId)
  (D:o.op= .call { callee:= .builtin .append,args:= #[s,x],argTypes:= #[t,t] }) (ht:P.underlying t=some (.slice e)) (hi:P.info? e=some i) (v:i.zero=some (.int k 0))
  (d:i.size=1) (r:i.bytes=bytes) {A:Option Addr} {n c:Nat} {l:List Int} (z:a.eval s= .slice A n c) (p:bP k w b0 e A n c l)
  {B:Nat} {A':Option Addr} {m c':Nat} {l':List Int} (y:a.eval x= .slice A' m c') (C:aT k w B A' m l')
  (u:n+m<=1000000000000) (E:bytes<=100) (f:b0<=w.heap.size)
  (h:∀g c2 w2,bP k w2 b0 e g (n+m) c2 (l++l')->w.grownBy w2 (aa A)->(aa g=aa A\/aa g=some w.heap.size)->wpList P b Q rest (a.put o.dst (.slice g (n+m) c2)) w2):wpList P b Q (o::rest) a w:=by
 refine wpList_step λK F=> ?_
 rw[if_pos q];obtain⟨g,c2,w2,j,H,G,h4⟩ :=Pm (P:=P) (w:=w) k b0 t o.type e i bytes ht hi v d r p (c':=c') C u E f;unfold Oper.wp execOp;simp only [D,resolve,invoke,builtin,Sem.run_bind,Sem.run_pure,Result.andThen_ok,List.map_toArray,List.map_cons,List.map_nil,z,y,j];exact F _ _ (h g c2 w2 H G h4)
end
end Go.Proofs.YtddhegejmkgmjaaGreat
