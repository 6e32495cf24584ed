/-
  part
-/
import Derived.Test.YtddhegejmkgmjaaGreatPk3
import Derived.Lib.AppendZerosOnto
import Derived.Deep.AppendSrc
namespace Go.Proofs.YtddhegejmkgmjaaGreat
open Go.RowKit Go.Lib
set_option linter.unusedVariables false
set_option maxRecDepth 100000
set_option maxHeartbeats 4000000
theorem fM (z:Value) (k:Nat):Builtin.zeroCells #[z] k=(List.replicate k z).toArray:=by
 apply Array.ext
 · simp [Builtin.zeroCells]
 · intro i b a;simp [Builtin.zeroCells,Nat.mod_one]
section
variable {P:Program} (w:World)
theorem oI (k:IntKind) (b0:Nat) (t G I e:TypeId) (i:TypeInfo) (bytes:Nat) (K J:IntKind) (ht:P.underlying t=some (.slice e)) (h:P.underlying G=some (.int K)) (hi:P.info? e=some i) (M:i.zero=some (.int k 0))
  (a:i.size=1) (f:i.bytes=bytes) {A:Option Addr} {n c:Nat} {l:List Int} (b:ag k w b0 e A n c l) (m:Nat)
  (V:n+m<=1000000000000) (kx:bytes<=100) (z:b0<=w.heap.size):
  ∃H c2 w2,(Builtin.append_ #[t,G] I #[.slice A n c, .int J m]).run P w= .ok (.slice H (n+m) c2) w2/\ag k w2 b0 e H (n+m) c2 (l++List.replicate m 0)/\w.grownBy w2 (aa A)/\
   (aa H=aa A\/aa H=some w.heap.size):=by
 have hw:IntKind.i64.wrap (m:Int)=m:=by rw[IntKind.wrap_i64];omega
 have K7:¬((m:Int)<0):=ω;have D:IntKind.i64.wrap 0=0:=δ
 have ac:m*bytes<=100000000000000:=by
  calc m*bytes<=1000000000000*100:=Nat.mul_le_mul ω kx
   _=_:=rfl
 have ab:(n+m)*bytes<=100000000000000:=by
  calc (n+m)*bytes<=1000000000000*100:=Nat.mul_le_mul V kx
   _=_:=rfl
 have W:¬(281474976710656<(m:Int)*(bytes:Int)):=by rw[<-Int.natCast_mul];omega
 have L:(Value.int k 0).cells= #[.int k 0]:=rfl
 have Y:∀i,i<n+m->(.int k (ix (l++List.replicate m 0) i):Value)=if i<n then .int k (ix l i)else .int k 0:=λi hi=>by
  rw[aL,<-b.1]
  split
  · rfl
  · unfold ix;rw[List.getD_eq_getElem?_getD,List.getElem?_replicate]
    split <;> rfl
 by_cases hm:m=0
 · subst hm;refine⟨A,c,w, ?_,by rw[List.replicate_zero,List.append_nil];exact b,World.grownBy.refl w _, .inl rfl⟩;rcases b.2 with ⟨rfl,rfl,rfl⟩ | ⟨g,p,rfl,_,_,NP,_⟩
   · simp [Builtin.append_,run_underlying ht,run_underlying h,sizeOf,typeInfo,hi,f,asInt,asIntOf,D]
   · simp [Builtin.append_,run_underlying ht,run_underlying h,sizeOf,typeInfo,hi,f,asInt,asIntOf,D,NP,storeCells]
 · have R:¬(m*i.size=0):=Nat.mul_ne_zero hm ω
   have grown:∀(old:Nat),old<n+m->∀(row:Option Nat) (C:List Value),C.length=n->(∀j,j<n->C[j]?=some (.int k (ix l j)))->
     ag k (w.drew.alloc (.cells (C.toArray++Builtin.zeroCells (Value.int k 0).cells m++Builtin.zeroCells (Value.int k 0).cells (grownCap w (n+m) old e-(n+m))) e)) b0 e (some ⟨w.heap.size,0,none⟩) (n+m) (grownCap w (n+m) old e) (l++List.replicate m 0)/\
     w.grownBy (w.drew.alloc (.cells (C.toArray++Builtin.zeroCells (Value.int k 0).cells m++Builtin.zeroCells (Value.int k 0).cells (grownCap w (n+m) old e-(n+m))) e)) row:=by
    intro old ho row C B N;have wT:=grownCap_ge w (n+m) old e;have y:grownCap w (n+m) old e<=maxLen:=grownCap_le_maxLen w (n+m) old e (by unfold maxLen;omega);refine⟨⟨by rw[List.length_append,List.length_replicate,<-b.1], .inr ⟨w.heap.size,_,rfl,z,heap_alloc_new w.drew _,wT,y, ?_,λj r=> ?_⟩⟩, ⟨rfl,rfl,rfl,σ,λq hq _=>Below.heap_alloc w.drew _ q hq⟩⟩
    · rw[L,fM,fM];simp [B]
      omega
    · rw[Nat.mul_one]at r;show _=some (Value.int k (ix (l++List.replicate m 0) j))
      rw[Y j r,L,fM,fM];by_cases s:j<n
      · rw[if_pos s,Array.getElem?_append_left (by simp [B];omega),Array.getElem?_append_left (by simp [B];exact s)]
        simpa using N j s
      · rw[if_neg s,Array.getElem?_append_left (by simp [B];omega),Array.getElem?_append_right (by simp [B];omega)];simp [B,show j-n<m by omega]
   rcases b.2 with ⟨rfl,jU,rfl⟩ | ⟨g,p,rfl,U,hg,NP,y,x,S⟩
   · subst jU;have Q:=run_append_nil_zeros (P:=P) w t G I e i _ J K ht h hi M m ω ω ω (by rw[f];omega);have d:=grown 0 ω (aa none) [] rfl (λj r=>ω);have e0:∀Z:Array Value,([]:List Value).toArray++Z=Z:=λZ=>σ
     simp only [Nat.zero_add,e0]at d⊢;exact⟨_,_,_,Q,d.1,d.2, .inr rfl⟩
   · rw[Nat.mul_one]at x;by_cases o:n+m<=c
     · have E:=run_storeCells_at P g (n*i.size) e (List.replicate m (Value.int k 0)) 0 p w hg (by rw[a];simp;omega) (λv hv=>by rw[List.eq_of_mem_replicate hv];rfl);simp only [Nat.add_zero]at E;refine⟨_,c,w.setRow g (p.toList.take (n*i.size)++List.replicate m (Value.int k 0)++p.toList.drop (n*i.size+(List.replicate m (Value.int k 0)).length)).toArray, ?_, ⟨by rw[List.length_append,List.length_replicate,<-b.1], .inr ⟨g,_,rfl,U,setRow_heap w g p _ e _ hg,o,y, ?_,λj r=> ?_⟩⟩, ⟨rfl,rfl,rfl,σ,λq hq h2=>setRow_other w g q _ (λe=>h2 (by simp [aa,e]))⟩, .inl rfl⟩
       · simp [Builtin.append_,run_underlying ht,run_underlying h,sizeOf,typeInfo,zeroValue,hi,M,f,asInt,asIntOf,hw,K7,R,W,o,Addr.add_lit,L,fM]
         have:=E;rw[a,Nat.mul_one]at this;have F:=this;simp at F;rw[a,Nat.mul_one,F];rfl
       · rw[a];simp [x]
         omega
       · rw[Nat.mul_one]at r;show _=some (Value.int k (ix (l++List.replicate m 0) j))
         rw[Y j r,a,Nat.mul_one];by_cases s:j<n
         · rw[if_pos s];have F:=S j ω;rw[Array.getElem?_eq_getElem ω]at F;simp [List.getElem?_append,List.length_take,x,s,show min n c=n by omega]
           simpa using F
         · rw[if_neg s];simp [List.getElem?_append,List.length_take,x,s,show min n c=n by omega,show j-n<m by omega]
     · have rF:∀j u,((List.range n).map λj=>(Value.int k (ix l j)))[j]?=some u->w.cell? ((⟨g,0,none⟩ :Addr).add j)=some u:=λj u O=>by
        have r:j<n:=by
         rcases Nat.lt_or_ge j n with X | X
         · exact X
         · rw[List.getElem?_eq_none (by simpa using X)]at O;cases O
        have T:=b.2.cell (i:=j) ω;have ha:(⟨g,0,none⟩ :Addr).add j= ⟨g,j,none⟩ :=by unfold Addr.add;split <;> simp_all
        rw[ha,T]
        simpa [r] using O
       have hf:=run_firstCells_some (P:=P) w.drew i.size n ⟨g,0,none⟩ n c ((List.range n).map λj=>(Value.int k (ix l j))) (by simp [a]) rF
       have Q:=run_append_grow_zeros (P:=P) w t G I e i _ J K ht h hi M (some ⟨g,0,none⟩) n c _ hf m ω ω ω ω (by rw[f];omega) (by
        rw[f];exact growslice_fits ω ω)
       have d:=grown c ω (aa (some ⟨g,0,none⟩)) ((List.range n).map λj=>(Value.int k (ix l j))) σ (λj r=>by simp [r]);exact⟨_,_,_,Q,d.1,d.2, .inr rfl⟩
end
end Go.Proofs.YtddhegejmkgmjaaGreat
