/-
  part
-/
import Derived.Test.YtgiimmkmjpbecaaGreatPk3
import Derived.Lib.AppendZerosOnto
import Derived.Deep.AppendSrc
namespace Go.Proofs.YtgiimmkmjpbecaaGreat
open Go.RowKit Go.Lib
set_option linter.unusedVariables false
set_option maxRecDepth 100000
set_option maxHeartbeats 4000000
theorem kH (z:Value) (k:Nat):Builtin.zeroCells #[z] k=(List.replicate k z).toArray:=by
 apply Array.ext
 · simp [Builtin.zeroCells]
 intro i b a;simp [Builtin.zeroCells,Nat.mod_one]
section
variable {P:Program} (w:World)
theorem tY (k:IntKind) (b0:Nat) (t H I e:TypeId) (i:TypeInfo) (bytes:Nat) (K J:IntKind) (ht:P.underlying t=some (.slice e)) (h:P.underlying H=some (.int K)) (hi:P.info? e=some i) (hz:i.zero=some (.int k 0))
  (a:i.size=1) (f:i.bytes=bytes) {A:ax} {n c:Nat} {l:ag} (b:aT k w b0 e A n c l) (m:Nat)
  (T:n+m<=1000000000000) (rE:bytes<=100) (B:b0<=w.heap.size):
  ∃A2 c2 w2,(Builtin.append_ #[t,H] I #[.slice A n c, .int J m]).run P w= .ok (.slice A2 (n+m) c2) w2/\aT k w2 b0 e A2 (n+m) c2 (l++List.replicate m 0)/\w.grownBy w2 (ai A)/\
   (ai A2=ai A\/ai A2=some w.heap.size):=by
 have hw:IntKind.i64.wrap (m:Int)=m:=by rw[IntKind.wrap_i64];omega
 have R4:¬((m:Int)<0):=ω;have E:IntKind.i64.wrap 0=0:=δ
 have ac:m*bytes<=100000000000000:=by
  calc m*bytes<=1000000000000*100:=gD ω rE
   _=_:=rfl
 have ab:(n+m)*bytes<=100000000000000:=by
  calc (n+m)*bytes<=1000000000000*100:=gD T rE
   _=_:=rfl
 have U:¬(281474976710656<(m:Int)*(bytes:Int)):=by rw[<-ek];omega
 have y:(Value.int k 0).cells= #[.int k 0]:=rfl
 have V:∀i,i<n+m->(.int k (ix (l++List.replicate m 0) i):Value)=if i<n then .int k (ix l i)else .int k 0:=λi hi=>by
  rw[dy,<-b.1];split
  · rfl
  unfold ix;rw[au,dC];split <;> rfl
 by_cases Y:m=0
 · subst Y;refine⟨A,c,w, ?_,by rw[List.replicate_zero,ak];exact b,World.grownBy.refl w _, .inl rfl⟩;rcases b.2 with ⟨rfl,rfl,rfl⟩ | ⟨g,p,rfl,_,_,X,_⟩
   · simp [Builtin.append_,run_underlying ht,run_underlying h,sizeOf,typeInfo,hi,f,asInt,asIntOf,E]
   simp [Builtin.append_,run_underlying ht,run_underlying h,sizeOf,typeInfo,hi,f,asInt,asIntOf,E,X,storeCells]
 have O:¬(m*i.size=0):=Nat.mul_ne_zero Y ω
 have grown:∀(old:Nat),old<n+m->∀(row:Option Nat) (D:List Value),D.length=n->(∀j,j<n->D[j]?=some (.int k (ix l j)))->
   aT k (w.drew.alloc (.cells (D.toArray++Builtin.zeroCells (Value.int k 0).cells m++Builtin.zeroCells (Value.int k 0).cells (grownCap w (n+m) old e-(n+m))) e)) b0 e (some ⟨w.heap.size,0,none⟩) (n+m) (grownCap w (n+m) old e) (l++List.replicate m 0)/\
   w.grownBy (w.drew.alloc (.cells (D.toArray++Builtin.zeroCells (Value.int k 0).cells m++Builtin.zeroCells (Value.int k 0).cells (grownCap w (n+m) old e-(n+m))) e)) row:=by
  intro old ho row D C L;have CN:=grownCap_ge w (n+m) old e;have z:grownCap w (n+m) old e<=maxLen:=grownCap_le_maxLen w (n+m) old e (by unfold maxLen;omega);refine⟨⟨by rw[ae,aS,<-b.1], .inr ⟨w.heap.size,_,rfl,B,cR w.drew _,CN,z, ?_,λj r=> ?_⟩⟩, ⟨rfl,rfl,rfl,σ,λq W _=>eE w.drew _ q W⟩⟩
  · rw[y,kH,kH];simp [C];omega
  rw[dK]at r;show _=some (Value.int k (ix (l++List.replicate m 0) j));rw[V j r,y,kH,kH];by_cases s:j<n
  · rw[aa s,dh (by simp [C];omega),dh (by simp [C];exact s)]
    simpa using L j s
  rw[a8 s,dh (by simp [C];omega),Array.getElem?_append_right (by simp [C];omega)];simp [C,show j-n<m by omega]
 rcases b.2 with ⟨rfl,nG,rfl⟩ | ⟨g,p,rfl,S,hg,X,z,x,Q⟩
 · subst nG;have N:=run_append_nil_zeros (P:=P) w t H I e i _ J K ht h hi hz m ω ω ω (by rw[f];omega);have d:=grown 0 ω (ai none) [] rfl (λj r=>ω);have e0:∀Z:Array Value,([]:List Value).toArray++Z=Z:=λZ=>σ;simp only [Nat.zero_add,e0]at d⊢;exact⟨_,_,_,N,d.1,d.2, .inr rfl⟩
 rw[dK]at x;by_cases o:n+m<=c
 · have F:=run_storeCells_at P g (n*i.size) e (List.replicate m (Value.int k 0)) 0 p w hg (by rw[a];simp;omega) (λv hv=>by rw[gO hv];rfl);simp only [Nat.add_zero]at F;refine⟨_,c,w.setRow g (p.toList.take (n*i.size)++List.replicate m (Value.int k 0)++p.toList.drop (n*i.size+(List.replicate m (Value.int k 0)).length)).toArray, ?_, ⟨by rw[ae,aS,<-b.1], .inr ⟨g,_,rfl,S,setRow_heap w g p _ e _ hg,o,z, ?_,λj r=> ?_⟩⟩, ⟨rfl,rfl,rfl,σ,λq W h2=>setRow_other w g q _ (λe=>h2 (by simp [ai,e]))⟩, .inl rfl⟩
   · simp [Builtin.append_,run_underlying ht,run_underlying h,sizeOf,typeInfo,zeroValue,hi,hz,f,asInt,asIntOf,hw,R4,O,U,o,Addr.add_lit,y,kH];have:=F;rw[a,dK]at this;have G:=this;simp at G;rw[a,dK,G];rfl
   · rw[a];simp [x];omega
   rw[dK]at r;show _=some (Value.int k (ix (l++List.replicate m 0) j));rw[V j r,a,dK];by_cases s:j<n
   · rw[aa s];have G:=Q j ω;rw[Array.getElem?_eq_getElem ω]at G;simp [List.getElem?_append,List.length_take,x,s,show min n c=n by omega]
     simpa using G
   rw[a8 s];simp [List.getElem?_append,List.length_take,x,s,show min n c=n by omega,show j-n<m by omega]
 have vI:∀j u,((List.range n).map λj=>(Value.int k (ix l j)))[j]?=some u->w.cell? ((⟨g,0,none⟩ :Addr).add j)=some u:=λj u M=>by
  have r:j<n:=by
   rcases aU j n with h' | h'
   · exact h'
   rw[bq (by simpa using h')]at M;cases M
  have R:=b.2.cell (i:=j) ω;have ha:(⟨g,0,none⟩ :Addr).add j= ⟨g,j,none⟩ :=by unfold Addr.add;split <;> simp_all
  rw[ha,R]
  simpa [r] using M
 have hf:=run_firstCells_some (P:=P) w.drew i.size n ⟨g,0,none⟩ n c ((List.range n).map λj=>(Value.int k (ix l j))) (by simp [a]) vI
 have N:=run_append_grow_zeros (P:=P) w t H I e i _ J K ht h hi hz (some ⟨g,0,none⟩) n c _ hf m ω ω ω ω (by rw[f];omega) (by
  rw[f];exact growslice_fits ω ω)
 have d:=grown c ω (ai (some ⟨g,0,none⟩)) ((List.range n).map λj=>(Value.int k (ix l j))) σ (λj r=>by simp [r]);exact⟨_,_,_,N,d.1,d.2, .inr rfl⟩
end
end Go.Proofs.YtgiimmkmjpbecaaGreat
