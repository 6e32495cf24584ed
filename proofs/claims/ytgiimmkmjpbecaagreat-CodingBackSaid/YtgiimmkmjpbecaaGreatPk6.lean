/-
  part
-/
import Derived.Test.YtgiimmkmjpbecaaGreatPk3
import Derived.Laws.AppendOwn
import Derived.Laws.BitsAllLaws
import Derived.Laws.Bits64b
import Derived.Laws.IdiomStrings
import Derived.Laws.BytesString
namespace Go.Proofs.YtgiimmkmjpbecaaGreat
open Go.RowKit
set_option linter.unusedVariables false
set_option maxRecDepth 100000
set_option maxHeartbeats 4000000
def fK (k:IntKind) (w:World) (b0:Nat) (e:TypeId) (A:ax) (n c:Nat) (l:ag):Prop:=
 n=l.length/\((A=none/\n=0/\c=0)\/∃(g off:Nat) (cur:Array Value),A=some ⟨g,off,none⟩/\b0<=g/\w.heap[g]?=some (.cells cur e (0,0))/\n<=c/\c<=maxLen/\off+c<=cur.size/\∀i,i<n->cur[off+i]?=some (.int k (ix l i)))
section
variable {k:IntKind} {w w':World} {b0:Nat} {e:TypeId} {n c:Nat} {A:ax} {l:ag}
theorem aT.up (h:aT k w b0 e A n c l):fK k w b0 e A n c l:=by
 refine⟨h.1, ?_⟩;rcases h.2 with a | ⟨g,b,rfl,f,a,d,h4,h5,h6⟩
 · exact .inl a
 exact .inr ⟨g,0,b,rfl,f,a,d,h4,ω,λi hi=>by rw[bX];exact h6 i ω⟩
theorem fK.di:fK k w b0 e none 0 0 []:= ⟨rfl, .inl ⟨rfl,rfl,rfl⟩⟩
theorem fK.keep (h:fK k w b0 e A n c l) (d:∀g,ai A=some g->g<w.heap.size->w'.heap[g]?=w.heap[g]?):fK k w' b0 e A n c l:=by
 refine⟨h.1, ?_⟩;rcases h.2 with h | ⟨g,off,a,rfl,f,b,r⟩
 · exact .inl h
 exact .inr ⟨g,off,a,rfl,f,(d g rfl (gp b)).trans b,r⟩
theorem fK.drewN (h:fK k w b0 e A n c l) (j:Nat):fK k (w.drewN j) b0 e A n c l:=h
theorem fK.lt (h:fK k w b0 e A n c l) {g:Nat} (a:ai A=some g):b0<=g/\g<w.heap.size:=by
 rcases h.2 with ⟨rfl,_⟩ | ⟨i,off,f,rfl,d,b,_⟩
 · simp [ai]at a
 simp [ai]at a;subst a;exact⟨d,gp b⟩
theorem fK.below {B:Nat} (h:fK k w b0 e A n c l) (b:Below B w w') (d:∀g,ai A=some g->g<B):fK k w' b0 e A n c l:=h.keep λg a _=>b.block g (d g a)
theorem fK.keeps (h:fK k w b0 e A n c l) (b:Below w.heap.size w w'):fK k w' b0 e A n c l:=h.below b λ_ a=>(h.lt a).2
theorem fK.far (h:fK k w b0 e A n c l) {p:Addr} (hp:ai A≠some p.block) (u:Value):fK k (w.setCell p u) b0 e A n c l:=
 h.keep λg a _=>cS w p u g (λe=>hp (by rw[a,e]))
theorem fK.iT (h:fK k w b0 e A n c l):n<=c:=by
 rcases h.2 with ⟨_,rfl,rfl⟩ | ⟨g,off,b,_,_,_,a,_⟩
 · exact af _
 exact a
theorem fK.rd (h:fK k w b0 e A n c l):bT k w w.heap.size A n l:=by
 refine⟨h.1,λd=> ?_⟩;rcases h.2 with ⟨_,rfl,_⟩ | ⟨g,off,a,rfl,_,b,f,_,h5,h6⟩
 · simp at d
 refine⟨_,rfl,gp b,λi hi=> ?_⟩;have:(⟨g,off,none⟩ :Addr).add i= ⟨g,off+i,none⟩ :=by unfold Addr.add;split <;> simp_all
 rw[this,ja w g (off+i) a e (0,0) b,h6 i hi]
theorem fK.cut (h:fK k w b0 e A n c l) {j:Nat} (m:j<=n):fK k w b0 e (dw A c j) (n-j) (c-j) (l.drop j):=by
 refine⟨by rw[ay,h.1], ?_⟩;rcases h.2 with ⟨rfl,rfl,rfl⟩ | ⟨g,off,a,rfl,f,d,o,h4,h5,h6⟩
 · refine .inl ⟨?_,ω,ω⟩;unfold dw;split <;> rfl
 by_cases b:c=j
 · refine .inr ⟨g,off,a,by unfold dw;rw[aa b],f,d,ω,ω,ω,λi hi=>ω⟩
 refine .inr ⟨g,off+j,a, ?_,f,d,ω,ω,ω,λi hi=> ?_⟩
 · unfold dw;rw[a8 b];show some ((⟨g,off,none⟩ :Addr).add j)=_;unfold Addr.add;split
   · simp_all
   rfl
 rw[lS,dD];exact h6 (j+i) ω
theorem fK.blk (h:fK k w b0 e A n c l) (j:Nat):ai (dw A c j)=ai A:=by
 unfold dw;split
 · rfl
 cases A with
 | none=>rfl
 | some x=>simp [ai,bH]
theorem fK.addr (h:fK k w b0 e A n c l) (b:0<n):∃g off,A=some ⟨g,off,none⟩ :=by
 rcases h.2 with ⟨_,h,_⟩ | ⟨d,off,a,hA,_⟩
 · omega
 exact⟨_,_,hA⟩
theorem fK.cell {g off:Nat} (h:fK k w b0 e (some ⟨g,off,none⟩) n c l) {i:Nat} (hi:i<n):w.cell? ⟨g,off+i,none⟩ =some (.int k (ix l i)):=by
 rcases h.2 with ⟨h,_⟩ | ⟨m,b,a,hA,j,d,f,h4,h5,h6⟩
 · cases h
 cases hA;rw[ja w _ _ a e (0,0) d,h6 i hi]
theorem fK.az {g off:Nat} (h:fK k w b0 e (some ⟨g,off,none⟩) n c l) (i:Nat) (hi:i<n:=by(omega)):w.cell? ⟨g,off+i,none⟩ =some (.int k (ix l i)):=h.cell hi
theorem fK.dx {S:Nat->Prop} (d:fK k w b0 e A n c l) (h:bb w w' S) (f:∀g,ai A=some g->¬S g):fK k w' b0 e A n c l:=
 d.keep λg b a=>h.block g a (f g b)
end
section
variable {P:Program} {w:World}
theorem Xb (k:IntKind) (b0:Nat) (t G e:TypeId) (i:TypeInfo) (bytes:Nat) (ht:P.underlying t=some (.slice e)) (hi:P.info? e=some i) (hz:i.zero=some (.int k 0))
  (b:i.size=1) (C:i.bytes=bytes) {A:ax} {n c:Nat} {l:ag} (a:fK k w b0 e A n c l) {B:Nat} {A':ax} {m c':Nat} {l':ag} (y:bT k w B A' m l')
  (D:n+m<=1000000000000) (Q:bytes<=100) (o:b0<=w.heap.size):
  ∃A2 c2 w2,(Builtin.append_ #[t,t] G #[.slice A n c, .slice A' m c']).run P w= .ok (.slice A2 (n+m) c2) w2/\fK k w2 b0 e A2 (n+m) c2 (l++l')/\w.grownBy w2 (ai A)/\
   (ai A2=ai A\/ai A2=some w.heap.size):=by
 rcases a.2 with E | ⟨g,off,d,rfl,h1,R,h3,h4,h5,h6⟩
 · have hI:aT k w b0 e A n c l:= ⟨a.1, .inl E⟩;obtain⟨A2,c2,w2,V,U,T,S⟩ :=Gt (P:=P) k b0 t G e i bytes ht hi hz b C hI (c':=c') y D Q o;exact⟨A2,c2,w2,V,U.up,T,S⟩
 have q:(l++l').length=n+m:=by rw[ae,<-a.1,<-y.1]
 rcases A' with _ | F
 · have W:m=0:=by
    rcases bD m with E | E
    · exact E
    obtain⟨F,h,_⟩ :=y.2 E;cases h
   subst W;have J:l'=[]:=aC y.1.symm;subst J;refine⟨some ⟨g,off,none⟩,c,w, ?_,by rw[ak];exact a,World.grownBy.refl w _, .inl rfl⟩;simp [Builtin.append_,run_underlying ht,sizeOf,typeInfo,hi,Builtin.lenOf,Builtin.firstCells,h3,storeCells]
 have O:∀j u,((List.range m).map λi=>Value.int k (ix l' i))[j]?=some u->w.cell? (F.add j)=some u:=by
  intro j u p
  have v:j<m:=by
   rcases aU j m with h' | h'
   · exact h'
   rw[bq (by simpa using h')]at p;cases p
  obtain⟨PT,h,_,hc⟩ :=y.2 ω;injection h with h;subst h;rw[hc j v]
  simpa [v] using p
 have N:((List.range m).map λi=>Value.int k (ix l' i)).length=m*i.size:=by simp [b]
 by_cases f:n+m<=c
 · have hf:=run_firstCells_some (P:=P) w i.size m F m c' _ N O;have x:=run_storeCells_at P g (off+n) e ((List.range m).map λi=>Value.int k (ix l' i)) 0 d w R ξ (λu p=>by obtain⟨j,_,rfl⟩ :=iv.1 p;rfl);simp only [Nat.add_zero]at x;have M:(⟨g,off,none⟩ :Addr).add n= ⟨g,off+n,none⟩ :=by unfold Addr.add;split <;> simp_all
   refine⟨some ⟨g,off,none⟩,c,w.setRow g (d.toList.take (off+n)++((List.range m).map λi=>Value.int k (ix l' i))++d.toList.drop (off+n+((List.range m).map λi=>Value.int k (ix l' i)).length)).toArray, ?_, ⟨q.symm, .inr ⟨g,off,_,rfl,h1,setRow_heap w g d _ e _ R,f,h4, ?_,λj v=> ?_⟩⟩, ⟨rfl,rfl,rfl,σ,λk _ K=>setRow_other w g k _ (λe=>K (by simp [ai,e]))⟩, .inl rfl⟩
   · rw[b]at hf;simp [Builtin.append_,run_underlying ht,sizeOf,typeInfo,hi,b,Builtin.lenOf,f,hf,M,x]
   · simp;omega
   have X:off+n<=d.size:=ω;by_cases r:j<n
   · have:=h6 j r;have H:ix (l++l') j=ix l j:=by rw[dy,aa (by rw[<-a.1];exact r)]
     rw[H,<-this];simp [List.getElem?_append,List.length_take];rw[aa ω,ie,aa ω];simp
   have H:ix (l++l') j=ix l' (j-n):=by rw[dy,a8 (by rw[<-a.1];exact r),<-a.1]
   rw[H];simp [List.getElem?_append,List.length_take];rw[a8 ω,aa ω];have:off+j-min (off+n) d.size=j-n:=ω;have s:j-n<m:=ω;rw[this];simp [s]
 have Z:∀j u,((List.range n).map λi=>Value.int k (ix l i))[j]?=some u->w.cell? ((⟨g,off,none⟩ :Addr).add j)=some u:=by
  intro j u p
  have v:j<n:=by
   rcases aU j n with h' | h'
   · exact h'
   rw[bq (by simpa using h')]at p;cases p
  have:(⟨g,off,none⟩ :Addr).add j= ⟨g,off+j,none⟩ :=by unfold Addr.add;split <;> simp_all
  rw[this,a.cell v]
  simpa [v] using p
 have z:n+m<=maxLen:=by unfold maxLen;omega
 have vu:(n+m)*i.bytes<=140737488355328:=by
  rw[C]
  calc (n+m)*bytes<=1000000000000*100:=gD D Q
   _<=140737488355328:=ω
 have I:=run_append_grow (P:=P) w t G e i _ ht hi hz ⟨g,off,none⟩ n c ((List.range n).map λi=>Value.int k (ix l i)) (by simp [b]) Z F m c' _ N O ω (by simp only [maxLen]at z;omega) (growslice_fits ω vu);have Y:=grownCap_ge w (n+m) c e;have L:=grownCap_le_maxLen w (n+m) c e z;refine⟨_,_,_,I, ⟨q.symm, .inr ⟨w.heap.size,0,_,rfl,o,cR w.drew _,Y,L, ?_,λj v=> ?_⟩⟩, ⟨rfl,rfl,rfl,σ,λk K _=>eE w.drew _ k K⟩, .inr rfl⟩
 · have e1:(Value.int k 0).cells.size=1:=rfl;simp [size_zeroCells,e1];omega
 rw[bX,dy,<-a.1];by_cases r:j<n
 · rw[aa r,dh ξ,dh (by simpa using r)];simp [r]
 rw[a8 r,dh ξ,Array.getElem?_append_right ξ];have s:j-n<m:=ω;simp [s]
theorem yi {b:Array Oper} {rest:List Oper} {o:Oper} {a:Act} {Q:Exit->Act->World->Prop} (k:IntKind) (b0:Nat) (e:TypeId) (i:TypeInfo) (bytes:Nat) (p:Region.wanted o (yielded b a.tmps)=true) (s x:Operand) (t:TypeId)
  (z:o.op= .call { callee:= .builtin .append,args:= #[s,x],argTypes:= #[t,t] }) (ht:P.underlying t=some (.slice e)) (hi:P.info? e=some i) (hz:i.zero=some (.int k 0))
  (d:i.size=1) (q:i.bytes=bytes) {A:ax} {n c:Nat} {l:ag} (v:a.eval s= .slice A n c) (j:fK k w b0 e A n c l)
  {B:Nat} {A':ax} {m c':Nat} {l':ag} (u:a.eval x= .slice A' m c') (y:bT k w B A' m l')
  (r:n+m<=1000000000000) (C:bytes<=100) (f:b0<=w.heap.size)
  (h:∀A2 c2 w2,fK k w2 b0 e A2 (n+m) c2 (l++l')->w.grownBy w2 (ai A)->(ai A2=ai A\/ai A2=some w.heap.size)->wpList P b Q rest (a.put o.dst (.slice A2 (n+m) c2)) w2):wpList P b Q (o::rest) a w:=by
 refine wpList_step λK D=> ?_;rw[aa p];obtain⟨A2,c2,w2,g,F,E,h4⟩ :=Xb (P:=P) (w:=w) k b0 t o.type e i bytes ht hi hz d q j (c':=c') y r C f;unfold Oper.wp execOp;simp only [z,resolve,invoke,builtin,Sem.run_bind,Sem.run_pure,Result.andThen_ok,List.map_toArray,List.map_cons,List.map_nil,v,u,g];exact D _ _ (h A2 c2 w2 F E h4)
end
open Go
theorem gu {a b:Nat} (h:a<=b):(2:Int) ^ a<=2 ^ b:=by
 obtain⟨k,rfl⟩ :=Nat.exists_eq_add_of_le h;rw[Int.pow_add];have:=two_pos k;have c:=two_pos a
 calc (2:Int) ^ a=2 ^ a*1:=ω
  _<=2 ^ a*2 ^ k:=fp ω ω
theorem kU (n:Nat):((2 ^ n:Nat):Int)=2 ^ n:=σ
theorem Oc {x:Int} {n:Nat} (b:0<=x) (c:x<18446744073709551616) (a:n<=32):bits .and .u64 x (2 ^ n-1)=x%2 ^ n:=by
 obtain⟨X,rfl⟩ :=aF b;have hp:(2:Nat) ^ n<=2 ^ 32:=bw ω a;have vH:0<(2:Nat) ^ n:=fR n;have e:((2:Int) ^ n-1)=((2 ^ n-1:Nat):Int):=by rw[<-kU];omega
 rw[e,bits_and_u64_nat _ _ ω ω,eZ,<-kU];simp
theorem Pm {x y:Int} {k:Nat} (d:0<=x) (f:x<2 ^ k) (a:0<=y) (b:x+y*2 ^ k<18446744073709551616):bits .or .u64 x (y*2 ^ k)=x+y*2 ^ k:=by
 obtain⟨X,rfl⟩ :=aF d;obtain⟨Y,rfl⟩ :=aF a;rw[<-kU]at*;have c:X<2 ^ k:=ω;have e:((Y:Int)*((2 ^ k:Nat):Int))=((Y*2 ^ k:Nat):Int):=σ;rw[e]at b⊢;rw[bits_or_u64_nat _ _ ω ω,Nat.or_comm,ez,<-eC c];simp;omega
def rb (B:ag) (at_:Nat):ag:=(dT B).drop at_
theorem gW (B:ag) (a:Nat):(rb B a).length=8*B.length-a:=by simp [rb,dQ]
theorem dH.rb (B:ag) (a:Nat):dH (rb B a):=(dH.dT B).dU a
theorem Fe (a l:ag) (k:Nat):(a++l).drop (a.length+k)=l.drop k:=by rw[List.drop_append,fI ω,ba,bP]
theorem vd (B:ag) (k:Nat):dT (B.drop k)=(dT B).drop (8*k):=by
 induction k generalizing B with
 | zero=>rfl
 | succ k a=>
   cases B with
   | nil=>simp [dT]
   | cons b B=>rw[List.drop_succ_cons,a,dT,show 8*(k+1)=(dt b 8).length+8*k by rw[aR];omega,Fe]
theorem kJ (B:ag) (a k:Nat):(rb B a).drop k=rb B (a+k):=by unfold rb;rw[bj]
theorem I8 (B:ag) {j:Nat} (a:j<B.length):((dT B).drop (8*j)).take 8=dt (ix B j) 8:=by
 rw[<-vd,bQ a,dT,cQ (by rw[aR];omega),aA (by rw[aR];omega)];simp [ix,a]
def tG (B:ag) (a j:Nat):Int:=fL (((dT B).drop (8*a)).take (8*j))
theorem Qz (B:ag) (a:Nat):tG B a 0=0:=by unfold tG;rw[Nat.mul_zero,iD];rfl
theorem OG (B:ag) (a:Nat) {j:Nat} (b:j<=5):0<=tG B a j/\tG B a j<2 ^ (8*j)/\tG B a j<1099511627776:=by
 have h:=kr (((dH.dT B).dU (8*a)).ua (8*j));have d:=gu (show(((dT B).drop (8*a)).take (8*j)).length<=8*j by simp;omega);have c:=gu (show 8*j<=40 by omega);have h4:(2:Int) ^ 40=1099511627776:=rfl;unfold tG;omega
theorem Qy (B:ag) (a:Nat) {j:Nat} (b:a+j<B.length) (c:∀x∈B,0<=x/\x<256):tG B a (j+1)=tG B a j+ix B (a+j)*2 ^ (8*j):=by
 unfold tG;rw[show 8*(j+1)=8*j+8 by omega,List.take_add,jf,bj,show 8*a+8*j=8*(a+j) by omega,I8 B b,gJ,aD,ay,dQ,bF ω,fD]
 have:0<=ix B (a+j)/\ix B (a+j)<256:=by
  unfold ix;rw[au,cZ b];exact c _ (cF b)
 rw[bu this.1 (by have h:(2:Int) ^ 8=256:=rfl;omega)]
theorem Pa {B:ag} (a:∀x∈B,0<=x/\x<256) (j:Nat):0<=ix B j/\ix B j<256:=by
 unfold ix;rw[au];cases h:B[j]? with
 | none=>simp
 | some v=>exact a v (cu h)
theorem Uq (B:ag) {a r j n:Nat} (h:r+n<=8*j):tG B a j/2 ^ r%2 ^ n=fL ((rb B (8*a+r)).take n):=by
 unfold tG rb;have b:=((dH.dT B).dU (8*a)).ua (8*j);rw[<-tz b,<-Ea (b.dU r),List.drop_take,iC,bj,bF ω]
def Er (s m x:Nat):Nat:=((x >>> s)&&& m)||| ((x&&& m) <<< s)
theorem Py (s m x i:Nat):(Er s m x).testBit i=((x.testBit (s+i)&&m.testBit i)||(decide (s<=i)&&(x.testBit (i-s)&&m.testBit (i-s)))):=by
 simp [Er,Nat.testBit_or,Nat.testBit_and,Nat.testBit_shiftRight,Nat.testBit_shiftLeft]
def rq (x:Nat):Nat:=
 let y:=Er 8 16711935 (Er 4 252645135 (Er 2 858993459 (Er 1 1431655765 x)))
 (y >>> 16)||| ((y <<< 16)%4294967296)
theorem a6A:∀j,j<32->Nat.testBit 1431655765 j=decide (j%2=0):=δ
theorem a6B:∀j,j<32->Nat.testBit 858993459 j=decide (j%4<2):=δ
theorem a6C:∀j,j<32->Nat.testBit 252645135 j=decide (j%8<4):=δ
theorem a6D:∀j,j<32->Nat.testBit 16711935 j=decide (j%16<8):=δ
theorem RZ (x:Nat) (a:x<4294967296) {i:Nat} (hi:i<32):(rq x).testBit i=x.testBit (31-i):=by
 have hz:∀j,32<=j->x.testBit j=false:=λj c=>fJ (aB a (bw (n:=2) ω c));have d:i=0\/i=1\/i=2\/i=3\/i=4\/i=5\/i=6\/i=7\/i=8\/i=9\/i=10\/i=11\/i=12\/i=13\/i=14\/i=15\/i=16\/i=17\/i=18\/i=19\/i=20\/i=21\/i=22\/i=23\/i=24\/i=25\/i=26\/i=27\/i=28\/i=29\/i=30\/i=31:=ω;have b:(4294967296:Nat)=2 ^ 32:=rfl;unfold rq;rw[b];simp only [Nat.testBit_or,Nat.testBit_shiftRight,Nat.testBit_mod_two_pow,Nat.testBit_shiftLeft];rcases d with rfl | rfl | rfl | rfl | rfl | rfl | rfl | rfl | rfl | rfl | rfl | rfl | rfl | rfl | rfl | rfl | rfl | rfl | rfl | rfl | rfl | rfl | rfl | rfl | rfl | rfl | rfl | rfl | rfl | rfl | rfl | rfl
 all_goals
  simp [Py,hz,a6A,a6B,a6C,a6D, -Nat.testBit_zero]
theorem X7 (x:Nat) (d:x<4294967296):rq x<4294967296:=by
 have b:(4294967296:Nat)=2 ^ 32:=rfl;rw[b];refine Nat.lt_pow_two_of_testBit _ λi hi=> ?_;have hz:∀j,32<=j->x.testBit j=false:=λj a=>fJ (aB d (bw (n:=2) ω a));have c:∀M:Nat,M<4294967296->∀j,32<=j->M.testBit j=false:=λM f j a=>fJ (aB f (bw (n:=2) ω a));unfold rq;rw[b];simp only [Nat.testBit_or,Nat.testBit_shiftRight,Nat.testBit_mod_two_pow,Nat.testBit_shiftLeft];have e:¬i<32:=ω;simp only [e,decide_false,Bool.false_and,Bool.or_false];by_cases g:i<48-16
 · omega
 rw[Py];by_cases h:40<=16+i
 · rw[c 16711935 ω (16+i) ω];rw[c 16711935 ω (16+i-8) ω];simp
 omega
theorem W6 (v:Int) (n:Nat) {i:Nat} (hi:i<n):ix (dt v n) i=v/2 ^ i%2:=by
 induction n generalizing v i with
 | zero=>omega
 | succ n a=>
   cases i with
   | zero=>simp [dt,ix]
   | succ i=>
     have:ix (dt v (n+1)) (i+1)=ix (dt (v/2) n) i:=by simp [dt,ix]
     rw[this,a (v/2) ω,ep,fD,ed ω]
def JQ (v:Int) (n:Nat):Int:=fL (dt v n).reverse
theorem Oi (x i:Nat):((x:Int)/2 ^ i%2)=if x.testBit i then 1 else 0:=by
 have:((x:Int)/2 ^ i%2)=((x/2 ^ i%2:Nat):Int):=by rw[<-kU];simp
 rw[this,Nat.testBit_eq_decide_div_mod_eq];have:=Nat.mod_two_eq_zero_or_one (x/2 ^ i);rcases this with h | h <;> simp [h]
theorem a2e {a b:ag} (d:a.length=b.length) (h:∀i,i<a.length->ix a i=ix b i):a=b:=by
 apply fx d
 intro i c e;have:=h i c
 simpa [ix,c,e] using this
theorem a3H (x n:Nat) (b:x<4294967296) (j:n<=32):JQ x n=((rq x/2 ^ (32-n):Nat):Int):=by
 have f:=X7 x b
 have a:rq x/2 ^ (32-n)<2 ^ n:=by
  rw[Nat.div_lt_iff_lt_mul (fR _),<-Nat.pow_add,show n+(32-n)=32 by omega];exact f
 have e:(dt x n).reverse=dt ((rq x/2 ^ (32-n):Nat):Int) n:=by
  refine a2e (by simp [aR]) λi hi=> ?_;have c:i<n:=by simpa [aR] using hi
  rw[W6 _ _ c,Oi]
  have h:ix (dt x n).reverse i=ix (dt x n) (n-1-i):=by
   have g:n-1-i<(dt x n).length:=by rw[aR];omega
   simp [ix,aR,c];rw[cZ g];rfl
  rw[h,W6 _ _ ω,Oi,<-eN,Nat.testBit_shiftRight,RZ x b ω,show 31-(32-n+i)=n-1-i by omega]
 unfold JQ;rw[e,gJ];obtain⟨y,d⟩ :=ν (rq x/2 ^ (32-n));rw[d]at a⊢;rw[<-kU,bu ω ω]
def cN (l:ag) (s:Nat):ag:=dt (JQ (fj l s) (ix l s).toNat) (ix l s).toNat
theorem X8 (V:Int) (N:Nat):0<=JQ V N/\JQ V N<2 ^ N:=by
 have h:dH (dt V N).reverse:=λx a=>dH.dt V N x (List.mem_reverse.1 a);have:=kr h
 rwa [gP,aR]at this
def jn (s:ByteArray):ag:=s.data.toList.map λb=>(b.toNat:Int)
def strOf (l:ag):ByteArray:=l.foldl (λr n=>r.push (UInt8.ofNat n.toNat)) ByteArray.empty
theorem CA (s:ByteArray):(jn s).length=s.size:=by simp [jn]
theorem Q9 (s:ByteArray) (i:Nat):0<=ix (jn s) i/\ix (jn s) i<=255:=by
 unfold ix jn;rw[au,List.getElem?_map];cases h:s.data.toList[i]? with
 | none=>simp
 | some b=>have:=b.toNat_lt;simp;omega
theorem Gv {P:Program} (w:World) (a b e:TypeId) (s:ByteArray) (c:P.underlying a=some .string) (hd:P.underlying b=some (.slice e)) (d:P.underlying e=some (.int .u8)):
  ∃(cap:Nat) (R:Array Value) (fr:Nat×Nat),(convert a b (.string s)).run P w= .ok (.slice (some ⟨w.heap.size,0,none⟩) s.size cap) (w.drew.alloc (.cells R e fr))/\
   Ar (w.drew.alloc (.cells R e fr)) w.heap.size s.size (λi=> .int .u8 (ix (jn s) i)):=by
 refine⟨_,_,_,run_bytes_of_string w a b e s c hd d, ⟨_,e,_,cR w.drew _, .inl ?_, ?_,λi hi=> ?_⟩⟩
 · simp [bytesRow]
 · simp [bytesRow]
 rw[bytesRow_at s _ i hi];congr 2;simp [ix,jn,hi]
theorem D4 {P:Program} {w:World} (a b e:TypeId) {g n:Nat} (c:Nat) (l:ag) (f:P.underlying a=some (.slice e)) (m:P.underlying e=some (.int .u8)) (hd:P.underlying b=some .string)
  (h:Ar w g n (λi=> .int .u8 (ix l i))) (k:n=l.length):(convert a b (.slice (some ⟨g,0,none⟩) n c)).run P w= .ok (.string (strOf l)) w:=by
 subst k;rw[run_convert_bytes_string w a b e _ _ c f m hd];refine run_bytesToString w _ _ c l ?_
 have:=run_loadCells_list (P:=P) w ⟨g,0,none⟩ (l.map (Value.int .u8)) (λj v hv=>by
  have d:j<l.length:=by
   rcases aU j l.length with h' | h'
   · exact h'
   rw[bq (by simpa using h')]at hv;cases hv
  have o:(⟨g,0,none⟩ :Addr).add j= ⟨g,j,none⟩ :=by unfold Addr.add;split <;> simp_all
  rw[o,h.cell d];simp [d]at hv;rw[<-hv];simp [ix,d])
 simpa using this
def idxs (l:ag) (n:Nat):Nat->ag
 | 0=>[]
 | k+1=>idxs l n k++(if ix l k=(n:Int)then [(k:Int)] else [])
theorem DY (l:ag) (n k:Nat):idxs l n (k+1)=idxs l n k++(if ix l k=(n:Int)then [(k:Int)] else []):=rfl
theorem oN (l:ag) (n k:Nat):(idxs l n k).length=cnt l k n:=by
 induction k with
 | zero=>rfl
 | succ k a=>
   unfold idxs cnt;rw[ae,a];split <;> simp_all
theorem sk {a b:ag} {i:Nat} (h:i<a.length):ix (a++b) i=ix a i:=by rw[dy,aa h]
theorem vK {a b:ag} {i:Nat}:ix (a++b) (a.length+i)=ix b i:=by rw[dy,a8 ω,bP]
theorem FQ (l:ag) {n i k:Nat} (hi:i<k) (d:ix l i=(n:Int)):ix (idxs l n k) (cnt l i n)=(i:Int):=by
 induction k with
 | zero=>omega
 | succ k f=>
   unfold idxs;by_cases h:i<k
   · have c:cnt l i n<cnt l k n:=by
      have j:cnt l (i+1) n=cnt l i n+1:=by simp [cnt,d]
      have g:=Ie l n (show i+1<=k from h);omega
     rw[sk (by rw[oN];exact c),f h]
   obtain rfl:i=k:=ω;rw[aa d];have e:=vK (a:=idxs l n i) (b:=[(i:Int)]) (i:=0);rw[oN,iw]at e;rw[e];rfl
theorem DX (l:ag) {n j k:Nat} (b:j<cnt l k n):∃i,i<k/\ix l i=(n:Int)/\cnt l i n=j/\ix (idxs l n k) j=(i:Int):=by
 induction k with
 | zero=>simp [cnt]at b
 | succ k g=>
   by_cases h:j<cnt l k n
   · obtain⟨i,m,f,d,h4⟩ :=g h;exact⟨i,ω,f,d,by rw[<-d];exact FQ l ω f⟩
   have c:ix l k=(n:Int):=by
    by_cases e:ix l k=(n:Int)
    · exact e
    unfold cnt at b;rw[a8 e]at b;omega
   have a:cnt l k n=j:=by unfold cnt at b;rw[aa c]at b;omega
   exact⟨k,ω,c,a,by rw[<-a];exact FQ l ω c⟩
def uI (l:ag):Nat->ag
 | 0=>[]
 | n+1=>uI l n++idxs l (n+1) l.length
def below (l:ag):Nat->Nat
 | 0=>0
 | n+1=>below l n+cnt l l.length (n+1)
theorem qQ (l:ag) (n:Nat):(uI l n).length=below l n:=by
 induction n with
 | zero=>rfl
 | succ n a=>rw[uI,ae,a,oN,below]
theorem a0T (l:ag) {m n:Nat} (h:m<=n) {i:Nat} (hi:i<below l m):ix (uI l n) i=ix (uI l m) i:=by
 induction n with
 | zero=>obtain rfl:m=0:=ω
         rfl
 | succ n d=>
   by_cases e:m=n+1
   · subst e;rfl
   have f:∀a b,a<=b->below l a<=below l b:=by
    intro a b g;induction b with
    | zero=>obtain rfl:a=0:=ω
            exact af _
    | succ b c=>
      by_cases j:a=b+1
      · subst j;exact af _
      exact aq (c ω) (by rw[below];omega)
   rw[uI,sk (by rw[qQ];exact aB hi (f m n ω)),d ω]
theorem I2 (l:ag) (n:Nat):below l n<=n*l.length:=by
 induction n with
 | zero=>simp [below]
 | succ n a=>rw[below,Nat.succ_mul];have:=lG l l.length (n+1);omega
def D6 (l:ag) (n j:Nat):Int:=ix (idxs l n l.length) j
theorem a3K (l:ag) {n m j:Nat} (c:n+1<=m) (d:j<cnt l l.length (n+1)):ix (uI l m) (below l n+j)=D6 l (n+1) j:=by
 rw[a0T l c (by rw[below];omega),uI];have:=vK (a:=uI l n) (b:=idxs l (n+1) l.length) (i:=j);rw[qQ]at this;rw[this];rfl
def hv (x:ag):Nat->Int
 | 0=>0
 | n+1=>2*hv x n+ix x n
def xg (l x:ag) (n:Nat):Bool:=decide (hv x n<nJ l n+cnt l l.length n)
def fh (l x:ag):Nat->Nat
 | 0=>0
 | m+1=>if fh l x m=0 then(if xg l x (m+1)then m+1 else 0)else fh l x m
theorem kf {l x:ag} {m:Nat} (h:fh l x m=0):fh l x (m+1)=if xg l x (m+1)then m+1 else 0:=by rw[fh,aa h]
theorem sV {l x:ag} {m k:Nat} (h:fh l x m≠0) (b:m<=k):fh l x k=fh l x m:=by
 induction k with
 | zero=>obtain rfl:m=0:=ω
         rfl
 | succ k a=>
   by_cases e:m=k+1
   · subst e;rfl
   have:=a ω;rw[fh,a8 (by rw[this];exact h),this]
theorem Ue (l x:ag) (m:Nat):fh l x m<=m:=by
 induction m with
 | zero=>exact af _
 | succ m a=>rw[fh];split
             · split <;> omega
             omega
theorem LQ {l x:ag} {k:Nat} (h:fh l x k=0):∀m,m<=k->fh l x m=0:=λm a=>by
 by_cases e:fh l x m=0
 · exact e
 have:=sV e a;omega
theorem P8 {x:ag} (a:dH x) (n:Nat):0<=hv x n/\hv x n<2 ^ n:=by
 have bit:∀i,0<=ix x i/\ix x i<=1:=λi=>by
  unfold ix;rw[au];cases e:x[i]? with
  | none=>simp
  | some v=>have:=a v (cu e);simp;omega
 induction n with
 | zero=>simp [hv]
 | succ n b=>have:=bit n;rw[hv,ep];omega
def tu (l:ag):Nat->Nat
 | 0=>0
 | n+1=>if cnt l l.length (n+1)=0 then tu l n else n+1
def aK (l:ag) (x:ag):Int×Nat×Int:=
 let m:=min x.length (tu l 15)
 if fh l x m≠0 then(D6 l (fh l x m) (hv x (fh l x m)-nJ l (fh l x m)).toNat,fh l x m,0)
 else if m<tu l 15 then(0,0,5)
 else if tu l 15=0/\x.length=0 then(0,0,5)
 else(0,0,3)
theorem MV (l:ag) (n:Nat):tu l n<=n:=by
 induction n with
 | zero=>exact af _
 | succ n a=>rw[tu];split <;> omega
theorem Li (l:ag) {a b:Nat} (h:a<=b):below l a<=below l b:=by
 induction b with
 | zero=>obtain rfl:a=0:=ω
         exact af _
 | succ b c=>
   by_cases e:a=b+1
   · subst e;exact af _
   exact aq (c ω) (by rw[below];omega)
theorem VX {l x:ag} (c:dH x) {n:Nat} (h:∀m,m<=n->fh l x m=0):(nJ l (n+1):Int)<=hv x (n+1):=by
 have bit:∀i,0<=ix x i:=λi=>by
  unfold ix;rw[au];cases e:x[i]? with
  | none=>simp
  | some v=>have:=c v (cu e);simp;omega
 induction n with
 | zero=>simp [hv,nJ];exact bit 0
 | succ n b=>
   have k:=b λm g=>h m ω;have a:=h (n+1) (af _);have f:fh l x n=0:=h n ω;rw[kf f]at a
   have h4:¬hv x (n+1)<nJ l (n+1)+cnt l l.length (n+1):=by
    intro d;rw[aa (by simpa [xg] using d)]at a;omega
   have j:=bit (n+1);show(nJ l (n+2):Int)<=2*hv x (n+1)+ix x (n+1);have e:nJ l (n+2)=2*(nJ l (n+1)+cnt l l.length (n+1)):=by simp [nJ]
   rw[e];omega
def E9 (l:ag):Nat->Int
 | 0=>0
 | k+1=>if E9 l k<ix l k then ix l k else E9 l k
theorem Wq (l:ag) (k:Nat):0<=E9 l k:=by
 induction k with
 | zero=>exact ei _
 | succ k a=>rw[E9];split <;> omega
theorem a3x (l:ag) {i k:Nat} (h:i<k):ix l i<=E9 l k:=by
 induction k with
 | zero=>omega
 | succ k a=>
   rw[E9];by_cases e:i=k
   · subst e;split <;> omega
   have:=a ω;split <;> omega
theorem a3y (l:ag) (k:Nat):E9 l k=0\/∃i,i<k/\ix l i=E9 l k:=by
 induction k with
 | zero=>exact .inl rfl
 | succ k a=>
   rw[E9];by_cases e:E9 l k<ix l k
   · rw[aa e];exact .inr ⟨k,ω,rfl⟩
   rw[a8 e];rcases a with h | ⟨i,h,b⟩
   · exact .inl h
   exact .inr ⟨i,ω,b⟩
theorem Z7 {l:ag} {i k v:Nat} (h:i<k) (e:ix l i=(v:Int)):0<cnt l k v:=by
 have:=qj h e;omega
theorem a29 {l:ag} {k v:Nat} (h:0<cnt l k v):∃i,i<k/\ix l i=(v:Int):=by
 induction k with
 | zero=>simp [cnt]at h
 | succ k a=>
   by_cases e:ix l k=(v:Int)
   · exact⟨k,ω,e⟩
   simp only [cnt,if_neg e]at h;obtain⟨i,c,b⟩ :=a h;exact⟨i,ω,b⟩
theorem a3w (l:ag) (n:Nat):tu l n=0\/0<cnt l l.length (tu l n):=by
 induction n with
 | zero=>exact .inl rfl
 | succ n a=>rw[tu];split
             · exact a
             exact .inr ω
theorem E8 (l:ag) {n m:Nat} (h:tu l n<m) (c:m<=n):cnt l l.length m=0:=by
 induction n with
 | zero=>omega
 | succ n a=>
   rw[tu]at h;by_cases e:cnt l l.length (n+1)=0
   · rw[aa e]at h;by_cases b:m=n+1
     · subst b;exact e
     exact a h ω
   rw[a8 e]at h;omega
theorem a0A {l:ag} (h:∀i,i<l.length->ix l i<=15):E9 l l.length=(tu l 15:Int):=by
 have a:=a3w l 15;have b:=a3y l l.length;have c:=Wq l l.length
 have d:(tu l 15:Int)<=E9 l l.length:=by
  rcases a with a | a
  · omega
  obtain⟨i,e,f⟩ :=a29 a;have:=a3x l e;omega
 rcases b with b | ⟨i,e,f⟩
 · omega
 have k:=h i e;obtain⟨M,j⟩ :=aF c;rw[j]at f⊢;have h4:=Z7 e f;by_cases g:tu l 15<M
 · have:=E8 l g ω;omega
 omega
theorem MK (x y:ag) {m:Nat} (h:m<=x.length):hv (x++y) m=hv x m:=by
 induction m with
 | zero=>rfl
 | succ m a=>rw[hv,hv,a ω,sk ω]
theorem LR (l x y:ag) {m:Nat} (h:m<=x.length):fh l (x++y) m=fh l x m:=by
 induction m with
 | zero=>rfl
 | succ m a=>rw[fh,fh,a ω];unfold xg;rw[MK x y h]
def Jz (l x:ag) (a m len:Nat):Int×Nat×Int:=
 if fh l x m≠0 then(D6 l (fh l x m) (hv x (fh l x m)-nJ l (fh l x m)).toNat,fh l x m,0)
 else if m<a then(0,0,5)
 else if a=0/\len=0 then(0,0,5)
 else(0,0,3)
theorem pP (l x:ag):aK l x=Jz l x (tu l 15) (min x.length (tu l 15)) x.length:=rfl
theorem uz (l x y:ag) (h:(aK l x).2.2≠5):aK l (x++y)=aK l x:=by
 rw[pP]at h;rw[pP,pP];obtain⟨a,g⟩ :=ν (tu l 15);rw[g]at h⊢;rw[ae];by_cases b:a<=x.length
 · rw[Nat.min_eq_right b]at h⊢;rw[Nat.min_eq_right ω];unfold Jz at h⊢;rw[LR l x y b];by_cases hf:fh l x a=0
   · have c:¬fh l x a≠0:=ω;have d:¬a<a:=ω;simp only [if_neg c,if_neg d]at h⊢;by_cases f:a=0/\x.length=0
     · rw[aa f]at h;simp at h
     rw[a8 f,a8 ω]
   rw[aa hf,aa hf,MK x y (aq (Ue l x a) b)]
 rw[bF (show x.length<=a by omega)]at h⊢;unfold Jz at h⊢;by_cases hf:fh l x x.length=0
 · have c:¬fh l x x.length≠0:=ω;rw[a8 c,aa ω]at h;simp at h
 have d:x.length<=min (x.length+y.length) a:=ω
 have e:fh l (x++y) (min (x.length+y.length) a)=fh l x x.length:=by
  rw[sV (m:=x.length) (by rw[LR l x y (af _)];exact hf) d,LR l x y (af _)]
 rw[e,aa hf,aa hf,MK x y (Ue l x _)]
theorem js {l x:ag} (h:(aK l x).2.2=0):1<=(aK l x).2.1/\(aK l x).2.1<=x.length/\(aK l x).2.1<=15:=by
 unfold aK at*;simp only at*;by_cases hf:fh l x (min x.length (tu l 15))=0
 · rw[a8 (by simp [hf])]at h;split at h
   · simp at h
   split at h <;> simp at h
 rw[aa hf];have:=Ue l x (min x.length (tu l 15));have:=MV l 15;refine⟨?_, ?_, ?_⟩ <;> simp only <;> omega
theorem sA {l x:ag} (h:(aK l x).2.2≠0):(aK l x).1=0/\(aK l x).2.1=0:=by
 unfold aK at*;simp only at*;split
 · rename_i hf;rw[aa hf]at h;simp at h
 split
 · exact⟨rfl,rfl⟩
 split <;> exact⟨rfl,rfl⟩
theorem eP (l x:ag):(aK l x).2.2=0\/(aK l x).2.2=3\/(aK l x).2.2=5:=by
 unfold aK;simp only;split
 · exact .inl rfl
 split
 · exact .inr (.inr rfl)
 split
 · exact .inr (.inr rfl)
 exact .inr (.inl rfl)
structure IS where
 x:ag
 st:Nat
 last:Bool
 left:Nat
 c0:Nat
 c1:Nat
 c2:Nat
 lens:ag
 hd:ag
 lt:ag
 ds:ag
 len:Nat
 all:ag
 rem:Nat
 kinds:ag
 stops:ag
 aj:List bY
def ly (x:ag):ag:=x.drop (x.length%8)
def num (x:ag) (n:Nat):Nat:=(fL (x.take n)).toNat
def ij:ag:=List.replicate 144 8++List.replicate 112 9++List.replicate 24 7++List.replicate 8 8
def iV:ag:=List.replicate 32 5
def l8:List Nat:=[16,17,18,0,8,7,9,6,10,5,11,4,12,3,13,2,14,1,15]
def iH (l:ag):ag:=(List.range 19).map λs=>ix l (l8.idxOf s)
def gS (l:ag):Bool:=l.all λv=>v==0
namespace IS
def over (s:IS):IS:=
 if s.last then { s with x:=ly s.x,st:=8,stops:=s.stops++[(s.all.length:Int)] } else { s with st:=0,stops:=s.stops++[(s.all.length:Int)] }
def emit (s:IS) (b:ag):IS×Int:=({ s with all:=s.all++b.take s.rem,rem:=s.rem-b.length },if s.rem<b.length then 6 else 0)
def block (s:IS):IS×Int:=
 if s.x.length<3 then(s,5)
 else if num s.x 3/2=0 then({ s with last:=decide (num s.x 3%2=1),kinds:=s.kinds++[((num s.x 3/2:Nat):Int)],x:=ly (s.x.drop 3),st:=1 },0)
 else if num s.x 3/2=1 then({ s with last:=decide (num s.x 3%2=1),kinds:=s.kinds++[((num s.x 3/2:Nat):Int)],x:=s.x.drop 3,lt:=ij,ds:=iV,st:=6 },0)
 else if num s.x 3/2=2 then({ s with last:=decide (num s.x 3%2=1),kinds:=s.kinds++[((num s.x 3/2:Nat):Int)],x:=s.x.drop 3,st:=3 },0)
 else({ s with last:=decide (num s.x 3%2=1),kinds:=s.kinds++[((num s.x 3/2:Nat):Int)],x:=s.x.drop 3 },2)
def size (s:IS):IS×Int:=
 if s.x.length<32 then(s,5)
 else if num s.x 32%65536+num s.x 32/65536=65535 then({ s with x:=s.x.drop 32,left:=num s.x 32%65536,st:=2 },0)
 else({ s with x:=s.x.drop 32 },2)
def stored (s:IS):IS×Int:=
 if s.left=0 then(s.over,0)
 else if s.x.length<8 then(s,5)
 else { s with x:=s.x.drop 8,left:=s.left-1 }.emit [(num s.x 8:Int)]
def sizes (s:IS):IS×Int:=
 if s.x.length<14 then(s,5)
 else if 286<num s.x 14%32+257\/30<num s.x 14/32%32+1 then({ s with x:=s.x.drop 14 },2)
 else({ s with x:=s.x.drop 14,c0:=num s.x 14%32+257,c1:=num s.x 14/32%32+1,c2:=num s.x 14/1024+4,lens:=[],st:=4 },0)
def heads (s:IS):IS×Int:=
 if s.lens.length<s.c2 then
  if s.x.length<3 then(s,5)else({ s with x:=s.x.drop 3,lens:=s.lens++[(num s.x 3:Int)] },0)
 else if bg (iH s.lens) 7≠0\/gS s.lens=true then(s,3)
 else({ s with hd:=iH s.lens,lens:=[],st:=5 },0)
def rW (k:Int):Nat:=if k=17 then 3 else if k=18 then 7 else 2
def rB (k:Int):Nat:=if k=18 then 11 else 3
def kx (s:IS) (k:Int) (a:ag):IS×Int:=
 if s.c0+s.c1<s.lens.length+(rB k+num a (rW k))then({ s with x:=a.drop (rW k) },2)
 else({ s with x:=a.drop (rW k),lens:=s.lens++List.replicate (rB k+num a (rW k)) (if k=16 then ix s.lens (s.lens.length-1)else 0) },0)
def length (s:IS):IS×Int:=
 if(aK s.hd s.x).2.2≠0 then(s,(aK s.hd s.x).2.2)
 else if(aK s.hd s.x).1<16 then({ s with x:=s.x.drop (aK s.hd s.x).2.1,lens:=s.lens++[(aK s.hd s.x).1] },0)
 else if(aK s.hd s.x).1=16/\s.lens.length=0 then(s,2)
 else if(s.x.drop (aK s.hd s.x).2.1).length<rW (aK s.hd s.x).1 then(s,5)
 else s.kx (aK s.hd s.x).1 (s.x.drop (aK s.hd s.x).2.1)
def lengths (s:IS):IS×Int:=
 if s.lens.length<s.c0+s.c1 then s.length
 else if bg (s.lens.take s.c0) 15≠0\/bg (s.lens.drop s.c0) 15≠0\/ix s.lens 256=0 then(s,3)
 else({ s with lt:=s.lens.take s.c0,ds:=s.lens.drop s.c0,st:=6 },0)
def token (s:IS):IS×Int:=
 if(aK s.lt s.x).2.2≠0 then(s,(aK s.lt s.x).2.2)
 else if(aK s.lt s.x).1<256 then { s with x:=s.x.drop (aK s.lt s.x).2.1,aj:=s.aj++[bY.mk (aK s.lt s.x).1 0 0] }.emit [(aK s.lt s.x).1]
 else if(aK s.lt s.x).1=256 then({ s with x:=s.x.drop (aK s.lt s.x).2.1 }.over,0)
 else if 285<(aK s.lt s.x).1 then(s,3)
 else if(s.x.drop (aK s.lt s.x).2.1).length<lE ((aK s.lt s.x).1-257).toNat then(s,5)
 else({ s with x:=(s.x.drop (aK s.lt s.x).2.1).drop (lE ((aK s.lt s.x).1-257).toNat),len:=lB ((aK s.lt s.x).1-257).toNat+num (s.x.drop (aK s.lt s.x).2.1) (lE ((aK s.lt s.x).1-257).toNat),st:=7 },0)
def text (s:IS) (a:ag) (D:Nat):IS×Int:=
 if s.all.length<D then(s,3)
 else { s with x:=a,st:=6,aj:=s.aj++[bY.mk 0 s.len D] }.emit (again s.all D s.len)
def bn (s:IS):IS×Int:=
 if(aK s.ds s.x).2.2≠0 then(s,(aK s.ds s.x).2.2)
 else if 29<(aK s.ds s.x).1 then(s,3)
 else if(s.x.drop (aK s.ds s.x).2.1).length<dE (aK s.ds s.x).1.toNat then(s,5)
 else s.text ((s.x.drop (aK s.ds s.x).2.1).drop (dE (aK s.ds s.x).1.toNat)) (dB (aK s.ds s.x).1.toNat+num (s.x.drop (aK s.ds s.x).2.1) (dE (aK s.ds s.x).1.toNat))
def step (s:IS):IS×Int:=
 if s.st=0 then s.block
 else if s.st=1 then s.size
 else if s.st=2 then s.stored
 else if s.st=3 then s.sizes
 else if s.st=4 then s.heads
 else if s.st=5 then s.lengths
 else if s.st=6 then s.token
 else if s.st=7 then s.bn
 else(s,8)
inductive Steps:IS->IS->Prop
 | refl (s:IS):Steps s s
 | tail {s t:IS}:Steps s t->t.step.2=0->Steps s t.step.1
theorem Steps.trans {a b c:IS} (h:Steps a b) (h':Steps b c):Steps a c:=by
 induction h' with
 | refl=>exact h
 | tail _ h2 ih=>exact .tail ih h2
theorem Steps.one {s:IS} (h:s.step.2=0):Steps s s.step.1:= .tail (.refl s) h
def run:Nat->IS->IS×Int
 | 0,s=>s.step
 | n+1,s=>if s.step.2=0 then run n s.step.1 else s.step
def app (s:IS) (y:ag):IS:={ s with x:=s.x++y }
def mu (s:IS):Nat:=3*s.x.length+(if s.st=4 then 2 else if s.st=5\/s.st=2 then 1 else 0)
def fin (s:IS):IS×Int:=run s.mu s
end IS
def start (x:ag) (most:Nat):IS:= ⟨x,0,false,0,0,0,0,[],[],[],[],0,[],most,[],[],[]⟩
section
variable {s t:IS} {x y b:ag} {n m:Nat}
theorem nP (h:n<=x.length):num (x++y) n=num x n:=by unfold num;rw[cQ h]
theorem ir (h:n<=x.length):(x++y).drop n=x.drop n++y:=dS h
theorem Hy (h:y.length%8=0):ly (x++y)=ly x++y:=by
 unfold ly;rw[ae,show(x.length+y.length)%8=x.length%8 by omega,ir (Nat.mod_le _ _)]
theorem mP (x:ag):(ly x).length=x.length/8*8:=by unfold ly;rw[ay];omega
theorem IS.jr (h:s.step.2=0):s.step.1.mu<s.mu:=by
 have t:∀s:IS,s.over.x.length<=s.x.length/\(s.over.st=0\/s.over.st=8):=λs=>by
  unfold IS.over;split
  · exact⟨by show(ly s.x).length<=_;rw[mP];omega, .inr rfl⟩
  exact⟨af _, .inl rfl⟩
 have c:∀s:IS,(s.st=0\/s.st=8\/s.st=1\/s.st=3\/s.st=6\/s.st=7)->s.mu=3*s.x.length:=λs h=>by
  unfold IS.mu;rw[a8 ω,a8 ω];rfl
 have d:∀s:IS,s.mu<=3*s.x.length+2/\3*s.x.length<=s.mu:=λs=>by
  unfold IS.mu;constructor <;> (split;omega;split <;> omega)
 unfold IS.step at h⊢;by_cases r:s.st=0
 · rw[aa r]at h⊢;unfold IS.block at h⊢;by_cases b:s.x.length<3
   · rw[aa b]at h;simp at h
   rw[a8 b]at h⊢;have q:=c s (.inl r);have w:=mP (s.x.drop 3);have f:(s.x.drop 3).length=s.x.length-3:=ay;split at h <;> rename_i n
   · rw[aa n,c _ σ];simp only [q];omega
   rw[a8 n];split at h <;> rename_i g
   · rw[aa g,c _ σ];simp only [q];omega
   rw[a8 g];split at h <;> rename_i p
   · rw[aa p,c _ σ];simp only [q];omega
   simp at h
 rw[a8 r]at h⊢;by_cases n:s.st=1
 · rw[aa n]at h⊢;unfold IS.size at h⊢;by_cases b:s.x.length<32
   · rw[aa b]at h;simp at h
   rw[a8 b]at h⊢;split at h <;> rename_i g
   · rw[aa g];have k:=(d s).2;have f:(s.x.drop 32).length=s.x.length-32:=ay;refine fM (d _).1 ?_;show 3*(s.x.drop 32).length+2<_;omega
   simp at h
 rw[a8 n]at h⊢;by_cases g:s.st=2
 · rw[aa g]at h⊢;unfold IS.stored at h⊢;by_cases u:s.left=0
   · rw[aa u];have a:=t s;have k:s.over.mu=_:=c s.over ω;have o:s.mu=3*s.x.length+1:=by unfold IS.mu;rw[a8 ω,aa ω]
     show s.over.mu<s.mu;omega
   rw[a8 u]at h⊢;by_cases b:s.x.length<8
   · rw[aa b]at h;simp at h
   rw[a8 b];unfold IS.emit;have a:=(d { { s with x:=s.x.drop 8,left:=s.left-1 } with all:=s.all++[(num s.x 8:Int)].take s.rem,rem:=s.rem - [(num s.x 8:Int)].length }).1;have k:=(d s).2;have f:(s.x.drop 8).length=s.x.length-8:=ay;simp only at a⊢;omega
 rw[a8 g]at h⊢;by_cases p:s.st=3
 · rw[aa p]at h⊢;unfold IS.sizes at h⊢;by_cases b:s.x.length<14
   · rw[aa b]at h;simp at h
   rw[a8 b]at h⊢;split at h <;> rename_i h4
   · simp at h
   rw[a8 h4];have a:=(d { s with x:=s.x.drop 14,c0:=num s.x 14%32+257,c1:=num s.x 14/32%32+1,c2:=num s.x 14/1024+4,lens:=[],st:=4 }).1;have k:=(d s).2;have f:(s.x.drop 14).length=s.x.length-14:=ay;simp only at a⊢;omega
 rw[a8 p]at h⊢;by_cases h4:s.st=4
 · rw[aa h4]at h⊢;unfold IS.heads at h⊢;have o:s.mu=3*s.x.length+2:=by unfold IS.mu;rw[aa h4]
   by_cases l:s.lens.length<s.c2
   · rw[aa l]at h⊢;by_cases b:s.x.length<3
     · rw[aa b]at h;simp at h
     rw[a8 b];have a:=(d { s with x:=s.x.drop 3,lens:=s.lens++[(num s.x 3:Int)] }).1;have f:(s.x.drop 3).length=s.x.length-3:=ay;simp only at a⊢;omega
   rw[a8 l]at h⊢;split at h <;> rename_i h5
   · simp at h
   rw[a8 h5];have:IS.mu { s with hd:=iH s.lens,lens:=[],st:=5 }=3*s.x.length+1:=by unfold IS.mu;rw[a8 σ,aa σ]
   simp only [this];omega
 rw[a8 h4]at h⊢;by_cases h5:s.st=5
 · rw[aa h5]at h⊢;unfold IS.lengths at h⊢;have k:=d s;by_cases l:s.lens.length<s.c0+s.c1
   · rw[aa l]at h⊢;unfold IS.length at h⊢;by_cases e:(aK s.hd s.x).2.2≠0
     · rw[aa e]at h;exact absurd h e
     have hp:=js (bK.1 e);rw[a8 e]at h⊢;have f:(s.x.drop (aK s.hd s.x).2.1).length=s.x.length-(aK s.hd s.x).2.1:=ay;split at h <;> rename_i h6
     · rw[aa h6];have a:=(d { s with x:=s.x.drop (aK s.hd s.x).2.1,lens:=s.lens++[(aK s.hd s.x).1] }).1;simp only at a⊢;have o:s.mu=3*s.x.length+1:=by unfold IS.mu;rw[a8 ω,aa ω]
       omega
     rw[a8 h6];split at h <;> rename_i h7
     · simp at h
     rw[a8 h7];split at h <;> rename_i j
     · simp at h
     rw[a8 j];unfold IS.kx at h⊢;split at h <;> rename_i m
     · simp at h
     rw[a8 m];have v:((s.x.drop (aK s.hd s.x).2.1).drop (IS.rW (aK s.hd s.x).1)).length<=(s.x.drop (aK s.hd s.x).2.1).length:=by rw[ay];omega
     have a:=(d { s with x:=(s.x.drop (aK s.hd s.x).2.1).drop (IS.rW (aK s.hd s.x).1),lens:=s.lens++List.replicate (IS.rB (aK s.hd s.x).1+num (s.x.drop (aK s.hd s.x).2.1) (IS.rW (aK s.hd s.x).1)) (if(aK s.hd s.x).1=16 then ix s.lens (s.lens.length-1)else 0) }).1;simp only at a⊢;have o:s.mu=3*s.x.length+1:=by unfold IS.mu;rw[a8 ω,aa ω]
     omega
   rw[a8 l]at h⊢;split at h <;> rename_i h6
   · simp at h
   rw[a8 h6];have a:IS.mu { s with lt:=s.lens.take s.c0,ds:=s.lens.drop s.c0,st:=6 }=3*s.x.length:=c _ σ;have o:s.mu=3*s.x.length+1:=by unfold IS.mu;rw[a8 ω,aa ω]
   simp only [a];omega
 rw[a8 h5]at h⊢;by_cases h6:s.st=6
 · rw[aa h6]at h⊢;unfold IS.token at h⊢;have k:s.mu=3*s.x.length:=c s ω;by_cases e:(aK s.lt s.x).2.2≠0
   · rw[aa e]at h;exact absurd h e
   have hp:=js (bK.1 e);rw[a8 e]at h⊢;have f:(s.x.drop (aK s.lt s.x).2.1).length=s.x.length-(aK s.lt s.x).2.1:=ay;split at h <;> rename_i h7
   · rw[aa h7];unfold IS.emit;rw[c _ (by simp [h6])];simp only;omega
   rw[a8 h7];split at h <;> rename_i j
   · rw[aa j];have a:=t { s with x:=s.x.drop (aK s.lt s.x).2.1 };refine fM (jC (c _ ?_)) ?_
     · exact a.2.elim .inl (λh=> .inr (.inl h))
     have o:(IS.over { s with x:=s.x.drop (aK s.lt s.x).2.1 }).x.length<=(s.x.drop (aK s.lt s.x).2.1).length:=a.1;simp only;omega
   rw[a8 j];split at h <;> rename_i m
   · simp at h
   rw[a8 m];split at h <;> rename_i i
   · simp at h
   rw[a8 i];have v:((s.x.drop (aK s.lt s.x).2.1).drop (lE ((aK s.lt s.x).1-257).toNat)).length<=(s.x.drop (aK s.lt s.x).2.1).length:=by rw[ay];omega
   rw[c _ σ];simp only;omega
 rw[a8 h6]at h⊢;by_cases h7:s.st=7
 rotate_left
 · rw[a8 h7]at h;simp at h
 rw[aa h7]at h⊢;unfold IS.bn at h⊢;have k:s.mu=3*s.x.length:=c s ω;by_cases e:(aK s.ds s.x).2.2≠0
 · rw[aa e]at h;exact absurd h e
 have hp:=js (bK.1 e);rw[a8 e]at h⊢;have f:(s.x.drop (aK s.ds s.x).2.1).length=s.x.length-(aK s.ds s.x).2.1:=ay;split at h <;> rename_i j
 · simp at h
 rw[a8 j];split at h <;> rename_i m
 · simp at h
 rw[a8 m];unfold IS.text at h⊢;split at h <;> rename_i i
 · simp at h
 rw[a8 i];have v:((s.x.drop (aK s.ds s.x).2.1).drop (dE (aK s.ds s.x).1.toNat)).length<=(s.x.drop (aK s.ds s.x).2.1).length:=by rw[ay];omega
 unfold IS.emit;rw[c _ σ];simp only;omega
theorem IS.Xd (h:(IS.run n s).2≠0):IS.run (n+1) s=IS.run n s:=by
 induction n generalizing s with
 | zero=>
   show(if s.step.2=0 then s.step.1.step else s.step)=s.step;exact a8 h
 | succ n a=>
   rw[IS.run]at h⊢;by_cases e:s.step.2=0
   · rw[aa e]at h⊢;rw[a h];conv=>rhs;rw[IS.run,aa e]
   rw[a8 e]at h⊢;conv=>rhs;rw[IS.run,a8 e]
theorem IS.Xc (h:(IS.run n s).2≠0) (b:n<=m):IS.run m s=IS.run n s:=by
 induction m with
 | zero=>obtain rfl:n=0:=ω
         rfl
 | succ m a=>
   by_cases e:n=m+1
   · subst e;rfl
   have:=a ω;rw[IS.Xd (by rw[this];exact h),this]
theorem IS.a0Q (h:s.mu<=n):(IS.run n s).2≠0:=by
 induction n generalizing s with
 | zero=>
   intro e;have:=IS.jr (s:=s) e;omega
 | succ n a=>
   rw[IS.run];by_cases e:s.step.2=0
   · rw[aa e];exact a (τ (IS.jr e))
   rw[a8 e];exact e
theorem IS.zV (s:IS):s.fin.2≠0:=IS.a0Q (af _)
theorem IS.OB (h:(IS.run n s).2≠0):IS.run n s=s.fin:=by
 rcases Nat.le_total n s.mu with a | a
 · exact(IS.Xc h a).symm
 exact IS.Xc (IS.zV s) a
theorem IS.gZ (h:s.step.2≠0):s.fin=s.step:=(IS.OB (n:=0) h).symm
theorem IS.IB (h:s.step.2=0):s.step.1.fin=s.fin:=by
 have e:IS.run (s.step.1.mu+1) s=s.step.1.fin:=by rw[IS.run,aa h];rfl
 rw[<-e];exact IS.OB (by rw[e];exact IS.zV _)
theorem IS.Steps.lM (h:IS.Steps s t):t.fin=s.fin:=by
 induction h with
 | refl=>rfl
 | tail _ h2 ih=>rw[IS.IB h2,ih]
theorem IS.jD (s:IS):∃t,IS.Steps s t/\t.step=s.fin:=by
 have:∀n s,s.mu<=n->∃t,IS.Steps s t/\t.step=s.fin:=by
  intro n;induction n with
  | zero=>
    intro s h;refine⟨s, .refl s,(IS.gZ ?_).symm⟩;intro e;have:=IS.jr (s:=s) e;omega
  | succ n a=>
    intro s h;by_cases e:s.step.2=0
    · obtain⟨t,c,b⟩ :=a s.step.1 (τ (IS.jr e));exact⟨t,(IS.Steps.one e).trans c,by rw[b,IS.IB e]⟩
    exact⟨s, .refl s,(IS.gZ e).symm⟩
 exact this _ s (af _)
end
end Go.Proofs.YtgiimmkmjpbecaaGreat
