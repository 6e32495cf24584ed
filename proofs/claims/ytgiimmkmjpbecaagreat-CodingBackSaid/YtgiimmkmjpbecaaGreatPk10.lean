/-
  part
-/
import Derived.Test.YtgiimmkmjpbecaaGreatPk9
import Derived.Test.YtgiimmkmjpbecaaGreatSound
set_option linter.unusedVariables false
set_option maxRecDepth 100000
set_option maxHeartbeats 4000000
namespace Go.Proofs.YtgiimmkmjpbecaaGreat
open Go.RowKit
def ue (l:ag) (i:Nat):ag:=l.set i (ix l i+1)
theorem ve (l:ag) (i:Nat):(ue l i).length=l.length:=by simp [ue]
theorem Um (l:ag) (i:Nat) (v:Int) (j:Nat):ix (l.set i v) j=if i=j/\j<l.length then v else ix l j:=by
 unfold ix;simp only [List.getD_eq_getElem?_getD,List.getElem?_set];by_cases h:i=j
 · subst h;by_cases a:i<l.length
   · simp [a]
   simp [a]
 simp [h]
theorem iN (l:ag) (i j:Nat):ix (ue l i) j=if i=j/\j<l.length then ix l j+1 else ix l j:=by
 unfold ue;rw[Um];by_cases h:i=j/\j<l.length
 · rw[aa h,aa h,h.1]
 rw[a8 h,a8 h]
def OD (p:ag×ag) (t:bY):ag×ag:=
 if t.len=0 then(ue p.1 t.lit.toNat,p.2)else(ue p.1 (257+jq t.len),ue p.2 (fe t.bn))
def fq0:ag×ag:=(zrI 286 256,List.replicate 30 0)
where zrI (n k:Nat):ag:=(List.replicate n (0:Int)).set k 1
def jY (l:List bY):ag×ag:=l.foldl OD fq0
theorem oc (l:List bY) (t:bY):jY (l++[t])=OD (jY l) t:=by simp [jY]
theorem Ul {l:List bY} {k:Nat} (h:k<l.length):jY (l.take (k+1))=OD (jY (l.take k)) (dM l k):=by rw[wj h,oc]
theorem Fm:jY []=fq0:=rfl
theorem kg {α β:Type} {motive:List α->Prop} (d:motive []) (c:∀l t,motive l->motive (l++[t])) (l:List α):motive l:=by
 rw[<-List.reverse_reverse l];induction l.reverse with
 | nil=>exact d
 | cons a r b=>rw[List.reverse_cons];exact c _ _ b
theorem mq (l:List bY):(jY l).1.length=286/\(jY l).2.length=30:=by
 refine kg (β:=Nat) (motive:=λl=>(jY l).1.length=286/\(jY l).2.length=30) ?_ ?_ l
 · exact⟨(fQ ..).trans aS,aS⟩
 intro l t h;rw[oc];unfold OD;split
 · exact⟨by rw[ve];exact h.1,h.2⟩
 exact⟨by rw[ve];exact h.1,by rw[ve];exact h.2⟩
theorem DG (l:List bY):∀i,(0<=ix (jY l).1 i/\ix (jY l).1 i<=l.length+1)/\(0<=ix (jY l).2 i/\ix (jY l).2 i<=l.length):=by
 refine kg (β:=Nat) (motive:=λl=>∀i,(0<=ix (jY l).1 i/\ix (jY l).1 i<=l.length+1)/\(0<=ix (jY l).2 i/\ix (jY l).2 i<=l.length)) ?_ ?_ l
 · intro i;rw[Fm];unfold fq0 fq0.zrI;rw[Um]
   have a:∀n i:Nat,ix (List.replicate n (0:Int)) i=0:=λn i=>by
    unfold ix;rw[au,dC];split <;> rfl
   rw[a,a];split <;> simp
 intro l t h i;rw[oc,ae,cJ];unfold OD;have hi:=h i;split
 · simp only;rw[iN];split <;> omega
 simp only;rw[iN,iN];split <;> split <;> omega
theorem a2f (l:List bY):1<=ix (jY l).1 256:=by
 refine kg (β:=Nat) (motive:=λl=>1<=ix (jY l).1 256) ?_ ?_ l
 · rw[Fm];decide+kernel
 intro l t h;rw[oc];unfold OD;split
 · simp only;rw[iN];split <;> omega
 simp only;rw[iN];split <;> omega
def Zj (t:bY):Nat:=(if 3<=t.len/\t.len<=258 then lE (jq t.len)else 0)+(if 1<=t.bn/\t.bn<=32768 then dE (fe t.bn)else 0)
def Cg (l:List bY):Nat:=(l.map Zj).sum
theorem Ud {l:List bY} {k:Nat} (h:k<l.length):Cg (l.take (k+1))=Cg (l.take k)+Zj (dM l k):=by rw[wj h];simp [Cg]
theorem Uc (t:bY):Zj t<=18:=by
 unfold Zj
 have b:(if 3<=t.len/\t.len<=258 then lE (jq t.len)else 0)<=5:=by
  split
  · rename_i h;exact(Jm (jq t.len) (τ ((mC h.1).1))).2.2
  omega
 have a:(if 1<=t.bn/\t.bn<=32768 then dE (fe t.bn)else 0)<=13:=by
  split
  · rename_i h;exact(LF (fe t.bn) (τ ((kM h.1).1))).2.2
  omega
 omega
theorem Fi:∀l:List bY,Cg l<=18*l.length
 | []=>by simp [Cg]
 | t::l=>by
   have b:=Uc t;have a:=Fi l;show Zj t+Cg l<=_;rw[br];omega
theorem Qi {n:Int} {v:Value} (h:kK lB lE 3 258 257 28 n v):∃a b:Int,v= .tuple #[.int .i64 a, .int .i64 ((if 3<=n/\n<=258 then lE (jq n)else 0:Nat):Int), .int .i64 b]:=by
 by_cases c:3<=n/\n<=258
 · rw[aa c];exact⟨_,_,zG h c⟩
 rw[a8 c];rcases h with ⟨_,h⟩ | ⟨h,_⟩
 · exact⟨0,0,h⟩
 exact absurd h c
theorem Ls {n:Int} {v:Value} (h:kK dB dE 1 32768 0 29 n v):∃a b:Int,v= .tuple #[.int .i64 a, .int .i64 ((if 1<=n/\n<=32768 then dE (fe n)else 0:Nat):Int), .int .i64 b]:=by
 by_cases c:1<=n/\n<=32768
 · rw[aa c];exact⟨_,_,wU h c⟩
 rw[a8 c];rcases h with ⟨_,h⟩ | ⟨h,_⟩
 · exact⟨0,0,h⟩
 exact absurd h c
def dI (kind:Int) (aj:List bY) (m:Nat):Bool:=
 if kind=0 then decide (m<=65535)else if¬(kind=1\/kind=2)\/1048576<=aj.length then false else aj.all λt=>decide (cn t)
theorem Lk {aj:List bY} (h:∀i,i<aj.length->cn (dM aj i)):(aj.all λt=>decide (cn t))=true:=by
 rw[gK];intro t ht;obtain⟨i,hi,rfl⟩ :=List.getElem_of_mem ht;have:=h i hi;have e:dM aj i=aj[i]:=by simp [dM,hi]
 rw[e]at this;exact aX this
theorem I6 {aj:List bY} {i:Nat} (hi:i<aj.length) (h:¬cn (dM aj i)):(aj.all λt=>decide (cn t))=false:=by
 rw[List.all_eq_false];have e:dM aj i=aj[i]:=by simp [dM,hi]
 rw[e]at h;exact⟨aj[i],cF hi,by simpa using h⟩
theorem qH (w:World) (kind:Int) (At:ax) (nt ct:Nat) (aj:List bY) (l:lW w w.heap.size At nt aj) (U:(nt:Int)<=4611686018427387904) (Ar:ax) (m cr:Nat):
  Calls Tryz.prog 106 #[.int .i64 kind, .slice At nt ct, .slice Ar m cr] w λe w'=>e= .returned (.bool (dI kind aj m))/\Below w.heap.size w w':=by
 have f:=l.1;by_cases x:kind=0
 · subst x;have hv:dI 0 aj m=decide (m<=65535):=by unfold dI;rw[aa rfl]
   rw[hv];clear hv l f;by_cases W:m<=65535
   · have M:(m:Int)<=65535:=ω
     go_in
     go_wp2_with fail;go_ret;exact⟨ξ,aw _ _⟩
   have M:¬(m:Int)<=65535:=ω
   go_in
   go_wp2_with fail;go_ret;exact⟨σ,aw _ _⟩
 have S:(kind==0)=false:=by simpa using x
 by_cases j:¬(kind=1\/kind=2)\/1048576<=aj.length
 · have hv:dI kind aj m=false:=by unfold dI;rw[a8 x,aa j]
   rw[hv];rw[<-f]at j;by_cases J:kind=1
   · subst J;have B:(1048576:Int)<=(nt:Int):=ω;have g:1048576<=nt:=ω;clear hv l f j
     go_in
     go_wp2_with fail;go_ret;exact⟨σ,aw _ _⟩
   have R:(kind==1)=false:=by simpa using J
   by_cases I:kind=2
   · subst I;have B:(1048576:Int)<=(nt:Int):=ω;have g:1048576<=nt:=ω;clear hv l f j
     go_in
     go_wp2_with fail;go_ret;exact⟨σ,aw _ _⟩
   have Q:(kind==2)=false:=by simpa using I
   clear hv l f j
   go_in
   go_wp2_with fail;go_ret;exact⟨σ,aw _ _⟩
 have hv:dI kind aj m=aj.all λt=>decide (cn t):=by unfold dI;rw[a8 x,a8 j]
 have HV:=η hv;have C:kind=1\/kind=2:=ω;have B:¬(1048576:Int)<=(nt:Int):=ω;have g:¬1048576<=nt:=ω;have V:decide (1048576<=nt)=false:=aP g;have L:decide ((1048576:Int)<=(nt:Int))=false:=aP B;have H:=η (⟨l,f⟩ :_/\_);have T:(0:Int)<=(nt:Int):=ω;clear hv l f j;rcases C with rfl | rfl
 all_goals
  go_in
  go_wp2_with fail;go_loopg [27] nt (λ(gk:Nat) (v27:Value) wx=>∃k:Nat,v27= .int .i64 k/\k<=nt/\Hid (∀i,i<k->cn (dM aj i))/\Hid (Below w.heap.size w wx)/\Hid (gk=nt-k))
  case atStart=>exact⟨0,rfl,aG _,λi hi=>absurd hi (jx _),aw _ _,rfl⟩
  obtain⟨k,rfl,X,c,v,P⟩ :=hrel;by_cases b:k<nt
  rotate_left
  · obtain rfl:k=nt:=ω;have O:¬(k:Int)<(k:Int):=ω;have a:=η (HV.trans (Lk (λi hi=>c.out i (by rw[H.2];exact hi))));clear b
    go_wp2_with fail;go_ret;exact⟨vU a.symm,v.out⟩
  have O:(k:Int)<(nt:Int)/\(0:Int)<=(k:Int):=ω;obtain⟨r,hA,E,p⟩ :=(H.1.below v.out).2 ω;obtain⟨G,z,y⟩ :=p k b;rw[kT _ _ _ ω]at z y;obtain⟨⟨n,N,D⟩,ht⟩ :∃t:bY,dM aj k=t:= ⟨_,rfl⟩;rw[ht]at G z y;replace G:wr.cell? (r.add (k*3))=some (.int .u8 n):=G;replace z:wr.cell? { block:=(r.add (k*3)).block,off:=(r.add (k*3)).off+1 }=some (.int .i64 N):=z;replace y:wr.cell? { block:=(r.add (k*3)).block,off:=(r.add (k*3)).off+2 }=some (.int .i64 D):=y;have s:=η (⟨ht,b⟩ :_/\_);subst hA;clear E p ht b;have u:=η (v.out.alloc v.out.size (.cells #[.int .u8 n, .int .i64 N, .int .i64 D] 132));by_cases d:qP n N D=true
  · have o:cn (dM aj k):=by rw[s.1];rw[BJ]at d;exact cM d
    have a:=η o;clear o
    go_wp2_with fail;refine(Ej n N D _).mono ?_;rintro e K ⟨rfl,q⟩;rw[d];have F:=η (u.trans (q.mono u.size));clear q
    go_wp2_with fail;go_roundg (nt-(k+1))
    case measure=>have:=P.out;have:=s.2;omega
    case rel=>exact⟨k+1,by go_num,s.2,λi hi=>by
     by_cases e:i=k
     · subst e;exact a
     exact c.out i ω,F,rfl⟩
  have A:qP n N D=false:=by simpa using d
  have o:¬cn (dM aj k):=λh=>by rw[s.1]at h;rw[BJ]at d;exact d (aX h)
  have a:=η (HV.trans (I6 (by rw[<-H.2];exact s.2) o));clear o d
  go_wp2_with fail;refine(Ej n N D _).mono ?_;rintro e K ⟨rfl,q⟩;rw[A];have F:=η (u.trans (q.mono u.size));clear q
  go_wp2_with fail;go_ret;exact⟨vU a.symm,F.out⟩
theorem mH:(Tryz.prog.info? 3).map (λi=>(i.zero,i.size,i.bytes))=some (some (.int .i64 0),1,8):=by kernel_rfl
def YA (w:World) (e:Ending) (w':World):Prop:=
 ∃A c A' c',e= .returned (.tuple #[.slice A 288 c, .slice A' 32 c'])/\aT .i64 w' w.heap.size 3 A 288 c ij/\aT .i64 w' w.heap.size 3 A' 32 c' iV/\Below w.heap.size w w'
def a6U (w:World) (l i:Value) (wr:World):Prop:=∃(k c:Nat) (A:ax),k<=288/\i= .int .i64 k/\l= .slice A k c/\aT .i64 wr w.heap.size 3 A k c (ij.take k)/\Below w.heap.size w wr
def a6V (w:World) (a:ax) (b c0:Nat) (l i:Value) (wr:World):Prop:=∃(k c:Nat) (A:ax),k<=32/\i= .int .i64 k/\l= .slice A k c/\aT .i64 wr w.heap.size 3 A k c (iV.take k)/\aT .i64 wr w.heap.size 3 a b c0 ij/\(∀q,ai A=some q->ai a≠some q)/\Below w.heap.size w wr
theorem pG:ij.length=288:=by decide+kernel
theorem zZ:iV.length=32:=by simp [iV]
theorem DF {k:Nat} (h:k<288):ij.take (k+1)=ij.take k++[ix ij k]:=by
 rw[bc (by rw[pG];exact h)];simp [ix,List.getD_eq_getElem?_getD,List.getElem?_eq_getElem (show k<ij.length by rw[pG];exact h)]
theorem Fk:∀k,k<288->ix ij k=if k<144 then 8 else if k<256 then 9 else if k<280 then 7 else 8:=by decide+kernel
theorem DD {k:Nat} (h:k<32):iV.take (k+1)=iV.take k++[5]:=by
 unfold iV;rw[List.take_replicate,List.take_replicate,bF ω,bF ω,List.replicate_succ']
theorem pI (w:World):Calls Tryz.prog 108 #[] w (YA w):=by
 obtain⟨p,hi,t,s,r⟩ :=aL mH;have Hi:=η hi;have B:=η t;have z:=η s;have y:=η r;clear hi t s r
 go_in
 go_wp2
 go_loopw [0,3] (a6U w) (λ_ i _=>288-(intOf i).toNat)
 case atStart=>exact⟨0,0,none,aG _,rfl,rfl,aT.di,aw _ _⟩
 obtain⟨k,c,A,I,rfl,rfl,g,h⟩ :=hrel;by_cases a:k<288
 · have L:(k:Int)<288/\(0:Int)<=k:=ω;have ht:=DF a;rw[Fk k a]at ht;have P:=h.size;have F:(k:Int)<144\/(¬(k:Int)<144/\(280:Int)<=k)\/(¬(k:Int)<144/\¬(280:Int)<=k/\(k:Int)<256)\/(¬(k:Int)<144/\¬(280:Int)<=k/\¬(k:Int)<256):=ω;rcases F with G | ⟨G,J⟩ | ⟨G,J,M⟩ | ⟨G,J,M⟩
   · rw[aa ω]at ht;have n:=η ht;clear ht;have m:=g.alloc (.cells #[.int .i64 8] 3);have f:=h.alloc h.size (.cells #[.int .i64 8] 3)
     go_wp2_with (at_builtin;(refine bm .i64 w.heap.size 3 p 8 rfl (.tmp 16) (.tmp 17) _ rfl Tryz.underlying80 Hi.out B.out z.out y.out rfl m rfl (bT.lit .i64 wr [8] 3) ω ω f.size ?_)
                  intro o d4 C l b v)
     go_roundw
     case rel=>exact⟨k+1,d4,o,a,by go_num,rfl,by rw[n.out];exact l,f.grown b f.size λq j=>(g.2.lt j).1⟩
     case measure=>simp [intOf];omega
   · rw[a8 ω,a8 ω,a8 ω]at ht;have n:=η ht;clear ht;have m:=g.alloc (.cells #[.int .i64 8] 3);have f:=h.alloc h.size (.cells #[.int .i64 8] 3)
     go_wp2_with (at_builtin;(refine bm .i64 w.heap.size 3 p 8 rfl (.tmp 16) (.tmp 17) _ rfl Tryz.underlying80 Hi.out B.out z.out y.out rfl m rfl (bT.lit .i64 wr [8] 3) ω ω f.size ?_)
                  intro o d4 C l b v)
     go_roundw
     case rel=>exact⟨k+1,d4,o,a,by go_num,rfl,by rw[n.out];exact l,f.grown b f.size λq j=>(g.2.lt j).1⟩
     case measure=>simp [intOf];omega
   · rw[a8 ω,aa ω]at ht;have n:=η ht;clear ht;have m:=g.alloc (.cells #[.int .i64 9] 3);have f:=h.alloc h.size (.cells #[.int .i64 9] 3)
     go_wp2_with (at_builtin;(refine bm .i64 w.heap.size 3 p 8 rfl (.tmp 22) (.tmp 23) _ rfl Tryz.underlying80 Hi.out B.out z.out y.out rfl m rfl (bT.lit .i64 wr [9] 3) ω ω f.size ?_)
                  intro o d4 C l b v)
     go_roundw
     case rel=>exact⟨k+1,d4,o,a,by go_num,rfl,by rw[n.out];exact l,f.grown b f.size λq j=>(g.2.lt j).1⟩
     case measure=>simp [intOf];omega
   rw[a8 ω,a8 ω,aa ω]at ht;have n:=η ht;clear ht;have m:=g.alloc (.cells #[.int .i64 7] 3);have f:=h.alloc h.size (.cells #[.int .i64 7] 3)
   go_wp2_with (at_builtin;(refine bm .i64 w.heap.size 3 p 8 rfl (.tmp 6) (.tmp 7) _ rfl Tryz.underlying80 Hi.out B.out z.out y.out rfl m rfl (bT.lit .i64 wr [7] 3) ω ω f.size ?_)
                intro o d4 C l b v)
   go_roundw
   case rel=>exact⟨k+1,d4,o,a,by go_num,rfl,by rw[n.out];exact l,f.grown b f.size λq j=>(g.2.lt j).1⟩
   case measure=>simp [intOf];omega
 have E:Hid (k=288):=by show _=_;omega
 rw[aA (by rw[pG];omega)]at g;have O:¬(k:Int)<288:=ω;obtain⟨D,K⟩ :∃D,D=k:= ⟨_,rfl⟩;subst K;clear a I;go_wp2
 go_loopw [1,26] (a6V w A D c) (λ_ i _=>32-(intOf i).toNat)
 case atStart=>exact⟨0,0,none,aG _,rfl,rfl,aT.di,g,by simp [ai],h⟩
 clear g h;obtain⟨k,d,A1,I,rfl,rfl,g,H,x,h⟩ :=hrel;by_cases a:k<32
 rotate_left
 · obtain rfl:k=32:=ω;rw[aA (by rw[zZ];omega)]at g;go_wp2
   go_ret2
   have:=E.out;subst this;exact⟨A,c,A1,d,rfl,H,g,h⟩
 have L:(k:Int)<32/\(0:Int)<=k:=ω;have n:=η (DD a);have m:=g.alloc (.cells #[.int .i64 5] 3);have u:=H.alloc (.cells #[.int .i64 5] 3);have f:=h.alloc h.size (.cells #[.int .i64 5] 3)
 go_wp2_with (at_builtin;(refine bm .i64 w.heap.size 3 p 8 rfl (.tmp 28) (.tmp 29) _ rfl Tryz.underlying80 Hi.out B.out z.out y.out rfl m rfl (bT.lit .i64 wr [5] 3) ω ω f.size ?_)
              intro o d4 C l b v)
 go_roundw
 case rel=>
  refine⟨k+1,d4,o,a,by go_num,rfl,by rw[n.out];exact l,u.grown b ?_,λq j e=> ?_,f.grown b f.size λq j=>(g.2.lt j).1⟩
  · cases N:ai A with
    | none=>exact .inr rfl
    | some q=>exact .inl λe=>x q e.symm N
  rcases v with h4 | h4
  · exact x q (by rw[<-h4];exact j) e
  have:=(u.2.lt e).2;rw[h4]at j;injection j with j;omega
 case measure=>simp [intOf];omega
section
variable {s t t':IS} {x y b:ag} {n m:Nat}
theorem IS.Ep (h:s.step.2=5):s.step.1=s:=by
 unfold IS.step at h⊢;have a:∀(s:IS) b,(s.emit b).2≠5:=λs b=>by unfold IS.emit;simp only;split <;> decide
 by_cases f:s.st=0
 · rw[aa f]at h⊢;unfold IS.block at h⊢;revert h;repeat' split
   all_goals simp
 rw[a8 f]at h⊢;by_cases e:s.st=1
 · rw[aa e]at h⊢;unfold IS.size at h⊢;revert h;repeat' split
   all_goals simp
 rw[a8 e]at h⊢;by_cases d:s.st=2
 · rw[aa d]at h⊢;unfold IS.stored at h⊢;revert h;repeat' split
   · simp
   · simp
   intro h;exact absurd h (a _ _)
 rw[a8 d]at h⊢;by_cases c:s.st=3
 · rw[aa c]at h⊢;unfold IS.sizes at h⊢;revert h;repeat' split
   all_goals simp
 rw[a8 c]at h⊢;by_cases h4:s.st=4
 · rw[aa h4]at h⊢;unfold IS.heads at h⊢;revert h;repeat' split
   all_goals simp
 rw[a8 h4]at h⊢;by_cases h5:s.st=5
 · rw[aa h5]at h⊢;unfold IS.lengths IS.length IS.kx at h⊢;revert h;repeat' split
   all_goals simp
 rw[a8 h5]at h⊢;by_cases h6:s.st=6
 · rw[aa h6]at h⊢;unfold IS.token at h⊢;revert h;repeat' split
   all_goals first
    | (intro h;exact absurd h (a _ _))
    | simp
 rw[a8 h6]at h⊢;by_cases h7:s.st=7
 · rw[aa h7]at h⊢;unfold IS.bn IS.text at h⊢;revert h;repeat' split
   all_goals first
    | (intro h;exact absurd h (a _ _))
    | simp
 rw[a8 h7]at h⊢
theorem Kp (h:t.st=6):t.step=t.token:=by unfold IS.step;rw[a8 ω,a8 ω,a8 ω,a8 ω,a8 ω,a8 ω,aa h]
theorem Dv (h:t.st=7):t.step=t.bn:=by unfold IS.step;rw[a8 ω,a8 ω,a8 ω,a8 ω,a8 ω,a8 ω,a8 ω,aa h]
theorem qA (h:t.st=4):t.step=t.heads:=by unfold IS.step;rw[a8 ω,a8 ω,a8 ω,a8 ω,aa h]
theorem AG (h:t.st=4) (b:t.lens.length<t.c2) (a:t.x.length<3):t.step.2=5:=by rw[qA h,IS.heads,aa b,aa a]
theorem AJ (h:t.st=4) (b:t.lens.length<t.c2) (a:¬t.x.length<3):t.step=({ t with x:=t.x.drop 3,lens:=t.lens++[(num t.x 3:Int)] },0):=by rw[qA h,IS.heads,aa b,a8 a]
theorem DO (h:t.st=4) (b:¬t.lens.length<t.c2) (a:bg (iH t.lens) 7≠0\/gS t.lens=true):t.step=(t,3):=by rw[qA h,IS.heads,a8 b,aa a]
theorem J3 (h:t.st=4) (b:¬t.lens.length<t.c2) (a:¬(bg (iH t.lens) 7≠0\/gS t.lens=true)):t.step=({ t with hd:=iH t.lens,lens:=[],st:=5 },0):=by rw[qA h,IS.heads,a8 b,a8 a]
def hF (l:ag) (i p:Nat):Value:= .int .i64 (if l8.idxOf p<i then ix l (l8.idxOf p)else 0)
theorem OL (l:ag) (p:Nat):Value.int .i64 0=hF l 0 p:=by unfold hF;rw[a8 (jx _)]
theorem ZE:∀i,i<19->∀p,p<19->(l8.idxOf p=i↔p=l8.getD i 0):=by decide+kernel
theorem OP:∀i,i<19->l8.getD i 0<19:=by decide+kernel
theorem OJ {l:ag} {i:Nat} (hi:i<19) {p:Nat} (hp:p<19):upd (hF l i) (l8.getD i 0) (.int .i64 (ix l i)) p=hF l (i+1) p:=by
 have h:=ZE i hi p hp;by_cases e:p=l8.getD i 0
 · rw[<-e,upd_same];unfold hF;rw[h.2 e,aa ω]
 rw[dA _ _ e];have:l8.idxOf p≠i:=λb=>e (h.1 b);unfold hF;by_cases a:l8.idxOf p<i
 · rw[aa a,aa ω]
 rw[a8 a,a8 ω]
theorem UG {l:ag} {p:Nat} (hp:p<19):hF l l.length p= .int .i64 (ix (iH l) p):=by
 unfold hF;have e:ix (iH l) p=ix l (l8.idxOf p):=by simp [ix,iH,hp]
 rw[e];split
 · rfl
 congr 1;unfold ix;rw[au,bq ω];rfl
theorem N6 {l:ag} {i:Nat} (hi:i<l.length):gS (l.take (i+1))=(gS (l.take i)&&(ix l i==0)):=by
 unfold gS;rw[bc hi,List.all_append];simp [ix,hi]
theorem Jp (h:t.st=5) (a:t.lens.length<t.c0+t.c1):t.step=t.length:=by unfold IS.step;rw[a8 ω,a8 ω,a8 ω,a8 ω,a8 ω,aa h];unfold IS.lengths;rw[aa a]
theorem Hv (a:Addr) {k:Nat} (h:k≠0):a.add k= ⟨a.block,a.off+k,none⟩ :=by unfold Addr.add;rw[a8 h]
theorem Ju (h:t.st=5) (a:¬t.lens.length<t.c0+t.c1):t.step=if bg (t.lens.take t.c0) 15≠0\/bg (t.lens.drop t.c0) 15≠0\/ix t.lens 256=0 then(t,3)else({ t with lt:=t.lens.take t.c0,ds:=t.lens.drop t.c0,st:=6 },0):=by
 unfold IS.step;rw[a8 ω,a8 ω,a8 ω,a8 ω,a8 ω,aa h];unfold IS.lengths;rw[a8 a]
def LO (F:IS×Int):Int:=if F.2=8 then 0 else F.2
end
def ov (y x:ag):Prop:=∃k,y=x.drop k
theorem ov.refl (x:ag):ov x x:= ⟨0,rfl⟩
theorem ov.drop {y x:ag} (h:ov y x) (n:Nat):ov (y.drop n) x:=by
 obtain⟨k,rfl⟩ :=h;exact⟨k+n,by rw[bj]⟩
theorem ov.trans {z y x:ag} (h:ov z y) (a:ov y x):ov z x:=by
 obtain⟨k,rfl⟩ :=h;exact a.drop k
theorem JF (s:IS):ov s.over.x s.x:=by
 unfold IS.over;split
 · exact(ov.refl _).drop _
 exact ov.refl _
theorem zS (s:IS) (b x:ag) (h:ov s.x x):ov (s.emit b).1.x x:=h
theorem Q7 (s:IS):ov s.block.1.x s.x:=by
 unfold IS.block
 repeat' split
 all_goals first | exact ov.refl _ | exact(ov.refl _).drop _ | exact((ov.refl _).drop 3).drop _
theorem Xn (s:IS):ov s.size.1.x s.x:=by
 unfold IS.size
 repeat' split
 all_goals first | exact ov.refl _ | exact(ov.refl _).drop _
theorem NH (s:IS):ov s.stored.1.x s.x:=by
 unfold IS.stored
 repeat' split
 all_goals first | exact JF s | exact ov.refl _ | exact zS _ _ _ ((ov.refl _).drop 8)
theorem Sb (s:IS):ov s.sizes.1.x s.x:=by
 unfold IS.sizes
 repeat' split
 all_goals first | exact ov.refl _ | exact(ov.refl _).drop _
theorem QR (s:IS):ov s.heads.1.x s.x:=by
 unfold IS.heads
 repeat' split
 all_goals first | exact ov.refl _ | exact(ov.refl _).drop _
theorem Jq (s:IS):ov s.lengths.1.x s.x:=by
 unfold IS.lengths IS.length IS.kx
 repeat' split
 all_goals first | exact ov.refl _ | exact(ov.refl _).drop _ | exact((ov.refl _).drop _).drop _
theorem Sn (s:IS):ov s.token.1.x s.x:=by
 unfold IS.token
 repeat' split
 all_goals first | exact ov.refl _ | exact zS _ _ _ ((ov.refl _).drop _) | exact(JF _).trans ((ov.refl _).drop _) | exact((ov.refl _).drop _).drop _
theorem U6 (s:IS):ov s.bn.1.x s.x:=by
 unfold IS.bn IS.text
 repeat' split
 all_goals first | exact ov.refl _ | exact zS _ _ _ (((ov.refl _).drop _).drop _)
theorem Kc (s:IS):ov s.step.1.x s.x:=by
 unfold IS.step;by_cases d:s.st=0
 · rw[aa d];exact Q7 s
 rw[a8 d];by_cases c:s.st=1
 · rw[aa c];exact Xn s
 rw[a8 c];by_cases b:s.st=2
 · rw[aa b];exact NH s
 rw[a8 b];by_cases a:s.st=3
 · rw[aa a];exact Sb s
 rw[a8 a];by_cases h4:s.st=4
 · rw[aa h4];exact QR s
 rw[a8 h4];by_cases h5:s.st=5
 · rw[aa h5];exact Jq s
 rw[a8 h5];by_cases h6:s.st=6
 · rw[aa h6];exact Sn s
 rw[a8 h6];by_cases h7:s.st=7
 · rw[aa h7];exact U6 s
 rw[a8 h7];exact ov.refl _
theorem Zl (s:IS):ov s.fin.1.x s.x:=by
 obtain⟨t,b,a⟩ :=IS.jD s;rw[<-a];refine(Kc t).trans ?_;clear a;induction b with
 | refl=>exact ov.refl _
 | tail _ _ ih=>exact(Kc _).trans ih
theorem zW {b:ag} {m:Nat} (f:(start (dT b) m).fin.2=8):(start (dT b) m).fin.1.x.length/8<=b.length/\dT (b.drop (b.length-(start (dT b) m).fin.1.x.length/8))=(start (dT b) m).fin.1.x:=by
 obtain⟨k,a⟩ :=Zl (start (dT b) m);have e:(start (dT b) m).x=dT b:=rfl;rw[e]at a;obtain⟨t,i,d⟩ :=IS.jD (start (dT b) m);have g:t.step.2=8:=by rw[d];exact f
 obtain⟨h4,y,w,v,u,s,r,q,p⟩ :=IS.step_done g;have hO:t.Ok:=(IS.Ok.start (dH.dT b) m).steps i;have l:(start (dT b) m).fin.1=t:=by rw[<-d];exact h4
 have c:t.st=8:=by have:=hO.st8;omega
 have o:=hO.even (.inr (.inr c));rw[l]at a⊢;have n:t.x.length=8*b.length-k:=by rw[a,ay,dQ]
 refine⟨ω, ?_⟩;rw[vd];by_cases h:k<=8*b.length
 · rw[a];congr 1;rw[<-a];omega
 have j:t.x=[]:=aC ω;rw[j];exact cV (by rw[dQ];simp)
theorem IA {x y:ag} {M m:Nat} {t:IS} (h:(start x M).fin=(t,8)) (f:t.all.length<=m) (g:y.length%8=0):∃d,(start (x++y) m).fin=(d,8)/\d.all=t.all/\d.x=t.x++y:=by
 obtain⟨a,e,ht⟩ :=IS.jD (start x M);have k:a.step.2=8:=by rw[ht,h]
 obtain⟨n,w,v,u,s,r,q,p,o⟩ :=IS.step_done k;have z:a=t:=by rw[h]at ht;rw[<-n,ht]
 subst z;obtain⟨l,c,A⟩ :=e.out;have c:a.all=[]++l:=c;have i:IS.Steps (start x m) (a.cap (m-l.length)):=(e.cap l c m).1 (by rw[c]at f;simpa using f);have j:IS.Steps (start (x++y) m) ((a.cap (m-l.length)).app y):=i.app g
 have b:((a.cap (m-l.length)).app y).step=((a.cap (m-l.length)).app y,8):=by
  unfold IS.step IS.cap IS.app;simp only [if_neg w,if_neg v,if_neg u,if_neg s,if_neg r,if_neg q,if_neg p,if_neg o]
 refine⟨(a.cap (m-l.length)).app y, ?_,rfl,rfl⟩;rw[<-j.lM,IS.gZ (by rw[b];simp),b]
structure pA (B X:ag):Prop where
 fin:∃t,(start B 16777216).fin=(t,8)/\t.x=[]/\t.all=X
 ev:B.length%8=0
 bit:dH B
section
variable {b:ag} {M k m:Nat}
theorem En (x:ag) (M m:Nat):(start x M).cap m=start x m:=rfl
theorem IS.Steps.a6F {s t:IS} (h:IS.Steps s t):t.mu<=s.mu:=by
 induction h with
 | refl=>exact af _
 | tail _ h2 ih=>exact aq (bE (IS.jr h2)) ih
theorem TQ (h:(start (dT b) M).fin.2=8):
  (m<(start (dT b) M).fin.1.all.length->(start (dT b) m).fin.2=6/\(start (dT b) m).fin.1.all=(start (dT b) M).fin.1.all.take m)/\
  (m=(start (dT b) M).fin.1.all.length->(start (dT b) m).fin.2=8/\(start (dT b) m).fin.1.all=(start (dT b) M).fin.1.all):=by
 obtain⟨t,d,ht⟩ :=IS.jD (start (dT b) M);have e:t.step.2=8:=by rw[ht];exact h
 obtain⟨i,s,r,q,p,o,n,k,j⟩ :=IS.step_done e;obtain⟨l,a,u⟩ :=d.out;have a:t.all=[]++l:=a;rw[<-ht,i,a,ba];refine⟨λf=> ?_,λf=> ?_⟩
 · have:=(d.cap l a m).2 f;rw[En]at this;exact this
 have g:=(d.cap l a m).1 ω;rw[En]at g;rw[<-g.lM]
 have c:(t.cap (m-l.length)).step=(t.cap (m-l.length),8):=by
  unfold IS.step IS.cap;simp only [if_neg s,if_neg r,if_neg q,if_neg p,if_neg o,if_neg n,if_neg k,if_neg j]
 rw[IS.gZ (by rw[c];simp),c];exact⟨rfl,a⟩
end
structure RM where
 Ao:ax
 no:Nat
 co:Nat
 out:ag
 E:Int
 rest:Int
 Ak:ax
 nk:Nat
 ck:Nat
 kinds:ag
 As:ax
 ns:Nat
 cs:Nat
 stops:ag
 Ab:ax
 nb:Nat
 cb:Nat
 X:ag
 at_:Nat
 most:Int
 Al:Value
 Ad:Value
 Ca:Value
 D9:Value
 At:ax
 nt:Nat
 ct:Nat
 aj:List bY
def sF (R:RM):Nat->Value
 | 0=> .slice R.Ao R.no R.co
 | 1=> .int .i64 R.E
 | 2=> .int .i64 R.rest
 | 3=> .slice R.Ak R.nk R.ck
 | 4=> .slice R.As R.ns R.cs
 | 5=> .slice R.Ab R.nb R.cb
 | 6=> .int .i64 (R.at_:Nat)
 | 7=> .int .i64 R.most
 | 8=>R.Al
 | 9=>R.Ad
 | 10=>R.Ca
 | 11=>R.D9
 | _=> .slice R.At R.nt R.ct
theorem fS {P:Nat->Prop} (k:P 0) (i:P 1) (h:P 2) (g:P 3) (h4:P 4) (h5:P 5) (h6:P 6) (h7:P 7) (f:P 8) (e:P 9) (c:P 10) (b:P 11) (a:P 12):∀j,j<13->P j:=λj d=>by
 obtain rfl | rfl | rfl | rfl | rfl | rfl | rfl | rfl | rfl | rfl | rfl | rfl | rfl:j=0\/j=1\/j=2\/j=3\/j=4\/j=5\/j=6\/j=7\/j=8\/j=9\/j=10\/j=11\/j=12:=ω;all_goals assumption
theorem bb.WM {w w':World} {S:Nat->Prop} {b0 n c:Nat} {A:ax} {l:List bY} (h:bb w w' S) (a:jZ w b0 A n c l) (b:∀g,ai A=some g->¬S g):jZ w' b0 A n c l:= ⟨a.1,h.own a.2 b⟩
structure ig (w:World) (b0 g:Nat) (c:Nat->Nat) (R:RM):Prop where
 cell:Ar w g 13 (sF R)
 cg:c g=1
 out:aT .u8 w b0 5 R.Ao R.no R.co R.out
 cout:∀k,ai R.Ao=some k->c k=2
 kinds:aT .i64 w b0 3 R.Ak R.nk R.ck R.kinds
 lF:∀k,ai R.Ak=some k->c k=3
 stops:aT .i64 w b0 3 R.As R.ns R.cs R.stops
 lH:∀k,ai R.As=some k->c k=4
 aj:jZ w b0 R.At R.nt R.ct R.aj
 oH:∀k,ai R.At=some k->c k=5
 bits:aT .u8 w b0 5 R.Ab R.nb R.cb R.X
 qX:∀k,ai R.Ab=some k->c k=6
 cb:∀k,c k≠0->b0<=k/\k<w.heap.size
def bU (w0:World) (c0:Nat->Nat) (w:World) (b0 g:Nat) (R:RM):Prop:=∃c,ig w b0 g c R/\DE b0 w0 c0 w c
section
variable {w w' w0:World} {b0 g:Nat} {c c0:Nat->Nat} {R R':RM}
theorem ig.refl (h:ig w b0 g c R):bU w c w b0 g R:= ⟨c,h,aw _ _,bb.refl _ _,λ_ _=>rfl⟩
theorem ig.lo (h:ig w b0 g c R):b0<=w.heap.size:=by have:=h.cb g (by rw[h.cg];decide);omega
theorem bU.fo (a:ig w b0 g c R) (hd:DE b0 w0 c0 w c) (h:bU w c w' b0 g R'):bU w0 c0 w' b0 g R':=by
 obtain⟨c',e,b⟩ :=h;exact⟨c',e,hd.step a.lo (λk d=>(a.cb k d).1) b.2.1 b.2.2⟩
theorem ig.aside {F:Nat->Prop} (h:ig w b0 g c R) (b:bb w w' F) (hF:∀k,F k->c k=0):ig w' b0 g c R:=
 ⟨b.ar h.cell (λe=>by have:=hF g e;have:=h.cg;omega),h.cg,b.dJ h.out (λk a e=>by have:=hF k e;have:=h.cout k a;omega),h.cout,
   b.dJ h.kinds (λk a e=>by have:=hF k e;have:=h.lF k a;omega),h.lF,
   b.dJ h.stops (λk a e=>by have:=hF k e;have:=h.lH k a;omega),h.lH,
   b.WM h.aj (λk a e=>by have:=hF k e;have:=h.oH k a;omega),h.oH,
   b.dJ h.bits (λk a e=>by have:=hF k e;have:=h.qX k a;omega),h.qX,
   λk a=> ⟨(h.cb k a).1,aB (h.cb k a).2 b.size⟩⟩
theorem ig.keeps (h:ig w b0 g c R) (b:Below w.heap.size w w'):ig w' b0 g c R:=h.aside (F:=λ_=>False) (bb.bC b) (λk a=>a.elim)
theorem ig.put (h:ig w b0 g c R) {i:Nat} (hi:i<13) (v:Value) (R':RM) (hF:∀j,j<13->upd (sF R) i v j=sF R' j) (d:R'={ R with E:=R'.E,rest:=R'.rest,at_:=R'.at_,most:=R'.most,Al:=R'.Al,Ad:=R'.Ad,Ca:=R'.Ca,D9:=R'.D9 }):ig (w.setCell ⟨g,i,none⟩ v) b0 g c R':=by
 have b:bb w (w.setCell ⟨g,i,none⟩ v) (λk=>k=g):=(bb.refl w (λk=>k=g)).setCell (p:= ⟨g,i,none⟩) (.inl rfl) v;refine⟨(h.cell.iz hi v).congr hF,h.cg, ?_, ?_, ?_, ?_, ?_, ?_, ?_, ?_, ?_, ?_,λk a=> ⟨(h.cb k a).1,aB (h.cb k a).2 b.size⟩⟩;all_goals rw[d]
 · exact b.dJ h.out (λk a e=>by have:=h.cout k a;have:=h.cg;subst e;omega)
 · exact h.cout
 · exact b.dJ h.kinds (λk a e=>by have:=h.lF k a;have:=h.cg;subst e;omega)
 · exact h.lF
 · exact b.dJ h.stops (λk a e=>by have:=h.lH k a;have:=h.cg;subst e;omega)
 · exact h.lH
 · exact b.WM h.aj (λk a e=>by have:=h.oH k a;have:=h.cg;subst e;omega)
 · exact h.oH
 · exact b.dJ h.bits (λk a e=>by have:=h.qX k a;have:=h.cg;subst e;omega)
 exact h.qX
theorem ig.a3z (h:ig w b0 g c R) {A':ax} {n' c':Nat} {l':ag} (l:bb w w' (λk=>k=g\/ai R.Ao=some k)) (o:Ar w' g 13 (sF { R with Ao:=A',no:=n',co:=c',out:=l' })) (n:aT .u8 w' b0 5 A' n' c' l')
  (hf:∀k,ai A'=some k->ai R.Ao=some k\/w.heap.size<=k):
  ig w' b0 g (cT c w.heap.size (λk=>ai A'=some k) 2) { R with Ao:=A',no:=n',co:=c',out:=l' }:=by
 have hF:∀k,(k=g\/ai R.Ao=some k)->c k=1\/c k=2:=λk a=>by
  rcases a with rfl | a
  · exact .inl h.cg
  exact .inr (h.cout k a)
 have m:∀k i,c k=i->i≠0->k<w.heap.size:=λk i d b=>(h.cb k ω).2;have j:∀k,k<w.heap.size->cT c w.heap.size (λk=>ai A'=some k) 2 k=c k:=λk a=>bZ a;have f:∀k i,c k=i->i≠0->cT c w.heap.size (λk=>ai A'=some k) 2 k=i:=λk i d b=>(j k (m k i d b)).trans d
 exact⟨o,f _ _ h.cg δ,
  n,λk a=>by
   rcases aU k w.heap.size with d | d
   · rcases hf k a with b | b
     · exact f k 2 (h.cout k b) δ
     omega
   exact fO d a,
  l.dJ h.kinds (λk a e=>by have:=hF k e;have:=h.lF k a;omega),λk a=>f k 3 (h.lF k a) δ,
  l.dJ h.stops (λk a e=>by have:=hF k e;have:=h.lH k a;omega),λk a=>f k 4 (h.lH k a) δ,
  l.WM h.aj (λk a e=>by have:=hF k e;have:=h.oH k a;omega),λk a=>f k 5 (h.oH k a) δ,
  l.dJ h.bits (λk a e=>by have:=hF k e;have:=h.qX k a;omega),λk a=>f k 6 (h.qX k a) δ,
  λk a=>by
   rcases gq a with ⟨d,b⟩ | ⟨d,b⟩
   · exact⟨(h.cb k b).1,aB d l.size⟩
   exact n.2.lt b⟩
theorem bU.a3z (h:bU w0 c0 w b0 g R) {A':ax} {n' c':Nat} {l':ag} (b:bb w w' (λk=>k=g\/ai R.Ao=some k)) (e:Ar w' g 13 (sF { R with Ao:=A',no:=n',co:=c',out:=l' })) (d:aT .u8 w' b0 5 A' n' c' l')
  (hf:∀k,ai A'=some k->ai R.Ao=some k\/w.heap.size<=k):bU w0 c0 w' b0 g { R with Ao:=A',no:=n',co:=c',out:=l' }:=by
 obtain⟨c,h,hd⟩ :=h
 exact⟨_,h.a3z b e d hf,hd.step h.lo (λk a=>(h.cb k a).1) (b.more λk a=>by
  rcases a with rfl | a
  · rw[h.cg];decide
  rw[h.cout k a];decide) λk a=>bZ a⟩
theorem ig.N4 (h:ig w b0 g c R) {A':ax} {n' c':Nat} {l':ag} (l:bb w w' (λk=>k=g\/ai R.Ak=some k)) (o:Ar w' g 13 (sF { R with Ak:=A',nk:=n',ck:=c',kinds:=l' })) (n:aT .i64 w' b0 3 A' n' c' l')
  (hf:∀k,ai A'=some k->ai R.Ak=some k\/w.heap.size<=k):
  ig w' b0 g (cT c w.heap.size (λk=>ai A'=some k) 3) { R with Ak:=A',nk:=n',ck:=c',kinds:=l' }:=by
 have hF:∀k,(k=g\/ai R.Ak=some k)->c k=1\/c k=3:=λk a=>by
  rcases a with rfl | a
  · exact .inl h.cg
  exact .inr (h.lF k a)
 have m:∀k i,c k=i->i≠0->k<w.heap.size:=λk i d b=>(h.cb k ω).2;have j:∀k,k<w.heap.size->cT c w.heap.size (λk=>ai A'=some k) 3 k=c k:=λk a=>bZ a;have f:∀k i,c k=i->i≠0->cT c w.heap.size (λk=>ai A'=some k) 3 k=i:=λk i d b=>(j k (m k i d b)).trans d
 exact⟨o,f _ _ h.cg δ,
  l.dJ h.out (λk a e=>by have:=hF k e;have:=h.cout k a;omega),λk a=>f k 2 (h.cout k a) δ,
  n,λk a=>by
   rcases aU k w.heap.size with d | d
   · rcases hf k a with b | b
     · exact f k 3 (h.lF k b) δ
     omega
   exact fO d a,
  l.dJ h.stops (λk a e=>by have:=hF k e;have:=h.lH k a;omega),λk a=>f k 4 (h.lH k a) δ,
  l.WM h.aj (λk a e=>by have:=hF k e;have:=h.oH k a;omega),λk a=>f k 5 (h.oH k a) δ,
  l.dJ h.bits (λk a e=>by have:=hF k e;have:=h.qX k a;omega),λk a=>f k 6 (h.qX k a) δ,
  λk a=>by
   rcases gq a with ⟨d,b⟩ | ⟨d,b⟩
   · exact⟨(h.cb k b).1,aB d l.size⟩
   exact n.2.lt b⟩
theorem bU.N4 (h:bU w0 c0 w b0 g R) {A':ax} {n' c':Nat} {l':ag} (b:bb w w' (λk=>k=g\/ai R.Ak=some k)) (e:Ar w' g 13 (sF { R with Ak:=A',nk:=n',ck:=c',kinds:=l' })) (d:aT .i64 w' b0 3 A' n' c' l')
  (hf:∀k,ai A'=some k->ai R.Ak=some k\/w.heap.size<=k):bU w0 c0 w' b0 g { R with Ak:=A',nk:=n',ck:=c',kinds:=l' }:=by
 obtain⟨c,h,hd⟩ :=h
 exact⟨_,h.N4 b e d hf,hd.step h.lo (λk a=>(h.cb k a).1) (b.more λk a=>by
  rcases a with rfl | a
  · rw[h.cg];decide
  rw[h.lF k a];decide) λk a=>bZ a⟩
theorem ig.N7 (h:ig w b0 g c R) {A':ax} {n' c':Nat} {l':ag} (l:bb w w' (λk=>k=g\/ai R.As=some k)) (o:Ar w' g 13 (sF { R with As:=A',ns:=n',cs:=c',stops:=l' })) (n:aT .i64 w' b0 3 A' n' c' l')
  (hf:∀k,ai A'=some k->ai R.As=some k\/w.heap.size<=k):
  ig w' b0 g (cT c w.heap.size (λk=>ai A'=some k) 4) { R with As:=A',ns:=n',cs:=c',stops:=l' }:=by
 have hF:∀k,(k=g\/ai R.As=some k)->c k=1\/c k=4:=λk a=>by
  rcases a with rfl | a
  · exact .inl h.cg
  exact .inr (h.lH k a)
 have m:∀k i,c k=i->i≠0->k<w.heap.size:=λk i d b=>(h.cb k ω).2;have j:∀k,k<w.heap.size->cT c w.heap.size (λk=>ai A'=some k) 4 k=c k:=λk a=>bZ a;have f:∀k i,c k=i->i≠0->cT c w.heap.size (λk=>ai A'=some k) 4 k=i:=λk i d b=>(j k (m k i d b)).trans d
 exact⟨o,f _ _ h.cg δ,
  l.dJ h.out (λk a e=>by have:=hF k e;have:=h.cout k a;omega),λk a=>f k 2 (h.cout k a) δ,
  l.dJ h.kinds (λk a e=>by have:=hF k e;have:=h.lF k a;omega),λk a=>f k 3 (h.lF k a) δ,
  n,λk a=>by
   rcases aU k w.heap.size with d | d
   · rcases hf k a with b | b
     · exact f k 4 (h.lH k b) δ
     omega
   exact fO d a,
  l.WM h.aj (λk a e=>by have:=hF k e;have:=h.oH k a;omega),λk a=>f k 5 (h.oH k a) δ,
  l.dJ h.bits (λk a e=>by have:=hF k e;have:=h.qX k a;omega),λk a=>f k 6 (h.qX k a) δ,
  λk a=>by
   rcases gq a with ⟨d,b⟩ | ⟨d,b⟩
   · exact⟨(h.cb k b).1,aB d l.size⟩
   exact n.2.lt b⟩
theorem bU.N7 (h:bU w0 c0 w b0 g R) {A':ax} {n' c':Nat} {l':ag} (b:bb w w' (λk=>k=g\/ai R.As=some k)) (e:Ar w' g 13 (sF { R with As:=A',ns:=n',cs:=c',stops:=l' })) (d:aT .i64 w' b0 3 A' n' c' l')
  (hf:∀k,ai A'=some k->ai R.As=some k\/w.heap.size<=k):bU w0 c0 w' b0 g { R with As:=A',ns:=n',cs:=c',stops:=l' }:=by
 obtain⟨c,h,hd⟩ :=h
 exact⟨_,h.N7 b e d hf,hd.step h.lo (λk a=>(h.cb k a).1) (b.more λk a=>by
  rcases a with rfl | a
  · rw[h.cg];decide
  rw[h.lH k a];decide) λk a=>bZ a⟩
theorem ig.Wx (h:ig w b0 g c R) {A':ax} {n' c':Nat} {l':List bY} (l:bb w w' (λk=>k=g\/ai R.At=some k)) (o:Ar w' g 13 (sF { R with At:=A',nt:=n',ct:=c',aj:=l' })) (n:jZ w' b0 A' n' c' l')
  (hf:∀k,ai A'=some k->ai R.At=some k\/w.heap.size<=k):
  ig w' b0 g (cT c w.heap.size (λk=>ai A'=some k) 5) { R with At:=A',nt:=n',ct:=c',aj:=l' }:=by
 have hF:∀k,(k=g\/ai R.At=some k)->c k=1\/c k=5:=λk a=>by
  rcases a with rfl | a
  · exact .inl h.cg
  exact .inr (h.oH k a)
 have m:∀k i,c k=i->i≠0->k<w.heap.size:=λk i d b=>(h.cb k ω).2;have j:∀k,k<w.heap.size->cT c w.heap.size (λk=>ai A'=some k) 5 k=c k:=λk a=>bZ a;have f:∀k i,c k=i->i≠0->cT c w.heap.size (λk=>ai A'=some k) 5 k=i:=λk i d b=>(j k (m k i d b)).trans d
 exact⟨o,f _ _ h.cg δ,
  l.dJ h.out (λk a e=>by have:=hF k e;have:=h.cout k a;omega),λk a=>f k 2 (h.cout k a) δ,
  l.dJ h.kinds (λk a e=>by have:=hF k e;have:=h.lF k a;omega),λk a=>f k 3 (h.lF k a) δ,
  l.dJ h.stops (λk a e=>by have:=hF k e;have:=h.lH k a;omega),λk a=>f k 4 (h.lH k a) δ,
  n,λk a=>by
   rcases aU k w.heap.size with d | d
   · rcases hf k a with b | b
     · exact f k 5 (h.oH k b) δ
     omega
   exact fO d a,
  l.dJ h.bits (λk a e=>by have:=hF k e;have:=h.qX k a;omega),λk a=>f k 6 (h.qX k a) δ,
  λk a=>by
   rcases gq a with ⟨d,b⟩ | ⟨d,b⟩
   · exact⟨(h.cb k b).1,aB d l.size⟩
   exact n.2.lt b⟩
theorem bU.Wx (h:bU w0 c0 w b0 g R) {A':ax} {n' c':Nat} {l':List bY} (b:bb w w' (λk=>k=g\/ai R.At=some k)) (e:Ar w' g 13 (sF { R with At:=A',nt:=n',ct:=c',aj:=l' })) (d:jZ w' b0 A' n' c' l')
  (hf:∀k,ai A'=some k->ai R.At=some k\/w.heap.size<=k):bU w0 c0 w' b0 g { R with At:=A',nt:=n',ct:=c',aj:=l' }:=by
 obtain⟨c,h,hd⟩ :=h
 exact⟨_,h.Wx b e d hf,hd.step h.lo (λk a=>(h.cb k a).1) (b.more λk a=>by
  rcases a with rfl | a
  · rw[h.cg];decide
  rw[h.oH k a];decide) λk a=>bZ a⟩
theorem bU.keeps (h:bU w0 c0 w b0 g R) (b:Below w.heap.size w w'):bU w0 c0 w' b0 g R:=by
 obtain⟨c,h,hd⟩ :=h;exact⟨c,h.keeps b,hd.step h.lo (λk a=>(h.cb k a).1) (bb.bC b) λk a=>rfl⟩
theorem bU.drew (h:bU w0 c0 w b0 g R):bU w0 c0 w.drew b0 g R:=h.keeps (aw _ _).drew
theorem bU.put (h:bU w0 c0 w b0 g R) {i:Nat} (hi:i<13) (v:Value) (R':RM) (hF:∀j,j<13->upd (sF R) i v j=sF R' j) (b:R'={ R with E:=R'.E,rest:=R'.rest,at_:=R'.at_,most:=R'.most,Al:=R'.Al,Ad:=R'.Ad,Ca:=R'.Ca,D9:=R'.D9 }):bU w0 c0 (w.setCell ⟨g,i,none⟩ v) b0 g R':=by
 obtain⟨c,h,hd⟩ :=h;exact⟨c,h.put hi v R' hF b,hd.step h.lo (λk a=>(h.cb k a).1) ((bb.refl w (λk=>c k≠0)).setCell (p:= ⟨g,i,none⟩) (.inl (by rw[h.cg];decide)) v) λk a=>rfl⟩
theorem bU.cell (h:bU w0 c0 w b0 g R):Ar w g 13 (sF R):=by obtain⟨c,h,hd⟩ :=h;exact h.cell
theorem bU.out (h:bU w0 c0 w b0 g R):aT .u8 w b0 5 R.Ao R.no R.co R.out:=by obtain⟨c,h,hd⟩ :=h;exact h.out
theorem bU.kinds (h:bU w0 c0 w b0 g R):aT .i64 w b0 3 R.Ak R.nk R.ck R.kinds:=by obtain⟨c,h,hd⟩ :=h;exact h.kinds
theorem bU.aj (h:bU w0 c0 w b0 g R):jZ w b0 R.At R.nt R.ct R.aj:=by obtain⟨c,h,hd⟩ :=h;exact h.aj
theorem bU.bits (h:bU w0 c0 w b0 g R):aT .u8 w b0 5 R.Ab R.nb R.cb R.X:=by obtain⟨c,h,hd⟩ :=h;exact h.bits
theorem bU.lo (h:bU w0 c0 w b0 g R):b0<=w.heap.size:=by obtain⟨c,h,hd⟩ :=h;exact h.lo
theorem bU.apart (h:bU w0 c0 w b0 g R):ai R.Ao≠some g/\ai R.Ak≠some g/\ai R.As≠some g/\ai R.At≠some g:=by
 obtain⟨c,h,hd⟩ :=h;have a:=h.cg;exact⟨λe=>by have:=h.cout g e;omega,λe=>by have:=h.lF g e;omega,λe=>by have:=h.lH g e;omega,λe=>by have:=h.oH g e;omega⟩
theorem bU.aside (h:bU w0 c0 w b0 g R):bb w0 w (λk=>c0 k≠0)/\Below b0 w0 w:=by obtain⟨c,h,hd⟩ :=h;exact⟨hd.2.1,hd.1⟩
theorem bU.cells (h:bU w0 c0 w b0 g R):w.cell? ⟨g,0,none⟩ =some (.slice R.Ao R.no R.co)/\w.cell? ⟨g,1,none⟩ =some (.int .i64 R.E)/\w.cell? ⟨g,2,none⟩ =some (.int .i64 R.rest)/\w.cell? ⟨g,3,none⟩ =some (.slice R.Ak R.nk R.ck)/\w.cell? ⟨g,4,none⟩ =some (.slice R.As R.ns R.cs)/\w.cell? ⟨g,5,none⟩ =some (.slice R.Ab R.nb R.cb)/\
  w.cell? ⟨g,6,none⟩ =some (.int .i64 (R.at_:Nat))/\w.cell? ⟨g,7,none⟩ =some (.int .i64 R.most)/\w.cell? ⟨g,8,none⟩ =some R.Al/\w.cell? ⟨g,9,none⟩ =some R.Ad/\w.cell? ⟨g,10,none⟩ =some R.Ca/\w.cell? ⟨g,11,none⟩ =some R.D9/\w.cell? ⟨g,12,none⟩ =some (.slice R.At R.nt R.ct):=by
 have k:=h.cell;exact⟨k.az 0,k.az 1,k.az 2,k.az 3,k.az 4,k.az 5,k.az 6,k.az 7,k.az 8,k.az 9,k.az 10,k.az 11,k.az 12⟩
end
theorem uh:(Tryz.prog.info? 5).map (λi=>(i.zero,i.size,i.bytes))=some (some (.int .u8 0),1,1):=by kernel_rfl
def a1Q (w:World) (L:ag) (e:Ending) (w':World):Prop:=
 ∃A n c,e= .returned (.slice A n c)/\aT .u8 w' w.heap.size 5 A n c L/\Below w.heap.size w w'
def Yx (w:World) (b:ag) (n:Nat) (o i:Value) (wr:World):Prop:=
 ∃(k m d:Nat) (A:ax),k<=n/\i= .int .i64 k/\Hid (m=8*k)/\o= .slice A m d/\aT .u8 wr w.heap.size 5 A m d (dT (b.take k))/\Below w.heap.size w wr
def a1G (w:World) (b:ag) (a:Nat) (o j:Value) (wr:World):Prop:=
 ∃(k m d:Nat) (A:ax),k<=8/\j= .int .i64 k/\Hid (m=8*a+k)/\o= .slice A m d/\aT .u8 wr w.heap.size 5 A m d (dT (b.take a)++dt (ix b a) k)/\Below w.heap.size w wr
theorem TM (w:World) (B n c:Nat) (A:ax) (b:ag) (G:bT .u8 w B A n b) (hB:B<=w.heap.size) (v:∀x∈b,0<=x/\x<256) (Y:(n:Int)<=100000000000):Calls Tryz.prog 48 #[.slice A n c] w (a1Q w (dT b)):=by
 obtain⟨K,hi,l,h,g⟩ :=aL uh;have Hi:=η hi;have T:=η l;have S:=η h;have R:=η g;clear hi l h g;have J:=η G.1
 go_in
 go_wp2
 go_loopw [3,4] (Yx w b n) (λ_ i _=>n-(intOf i).toNat)
 case atStart=>exact⟨0,0,0,none,aG _,rfl,rfl,rfl,aT.di,aw _ _⟩
 obtain⟨k,m,d,A1,hk,rfl,V,rfl,a,e⟩ :=hrel;by_cases f:k<n
 rotate_left
 · obtain rfl:n=k:=ω;have D:Hid (b.take n=b):=by show _=_;rw[J.out,List.take_length]
   go_wp2;go_ret;exact⟨A1,m,d,rfl,by rw[D.out]at a;exact a,e⟩
 have qB:(k:Int)<(n:Int)/\(0:Int)<=k:=ω;obtain⟨E,s⟩ :∃E:World,E=wr:= ⟨_,rfl⟩;subst s
 go_wp2_with fail
 go_loopw [3,5] (a1G w b k) (λ_ j _=>8-(intOf j).toNat)
 case atStart=>exact⟨0,m,d,A1,aG _,rfl,V,rfl,by rw[show dt (ix b k) 0=[] from rfl,ak];exact a,e⟩
 clear a e;obtain⟨j,m2,d2,A2,hj,rfl,C,rfl,a,e⟩ :=hrel;by_cases t:j<8
 rotate_left
 · obtain rfl:j=8:=ω
   have D:Hid (dT (b.take (k+1))=dT (b.take k)++dt (ix b k) 8):=by
    show _=_;have H:k<b.length:=by rw[<-J.out];exact f
    rw[bc H,qh];congr 1;simp [dT,ix,H]
   go_wp2;go_roundw
   case rel=>exact⟨k+1,m2,d2,A2,f,by go_num,by have:=C.out;show _=_;omega,rfl,by rw[D.out];exact a,e⟩
   case measure=>simp [intOf];omega
 have O:(j:Int)<8/\(0:Int)<=j:=ω;obtain⟨Q,rfl,P,c1⟩ :=G.at_ f;have c2:=(e.cell (p:=Q.add k) (by rw[bH];omega)).trans c1;obtain⟨x,r⟩ :=ν (ix b k);have F:=Pa v k;rw[r]at c2 F a;have I:Hid (dt x (j+1)=dt x j++[x/2 ^ j%2]):=WA x j;have U:=η r;obtain⟨y,o⟩ :=ν (x/2 ^ j%2);have Z:m2<=900000000000:=by have:=C.out;omega
 have e0:(j:Int)%18446744073709551616=(j:Int):=ω;have N:=a.alloc (.cells #[.int .u8 y] 5);have z:=e.alloc e.size (.cells #[.int .u8 y] 5);rw[o]at I;have e1:(x/2 ^ j).tmod 2=y:=by rw[eJ (Int.ediv_nonneg F.1 (Int.le_of_lt (two_pos j))),o]
 clear o;clear r c1
 go_wp2_with (at_builtin;(refine bm .u8 w.heap.size 5 K 1 rfl (.tmp 16) (.tmp 25) _ rfl Tryz.underlying22 Hi.out T.out S.out R.out rfl N rfl (bT.lit .u8 wr [y] 5) ω ω z.size ?_)
              intro W d4 X M u dY)
 go_roundw
 case rel=>exact⟨j+1,m2+1,d4,W,t,by go_num,by have:=C.out;show _=_;omega,rfl,by rw[U.out,I.out,<-av];exact M,z.grown u z.size λq L=>(a.2.lt L).1⟩
 case measure=>simp [intOf];omega
def a1S (l:ag) (n:Nat) (x i:Value):Prop:=∃(k:Nat) (v:Int),k<=n/\i= .int .i64 ((k:Int)-1)/\x= .int .i64 v/\Hid (v=fL (l.drop k))
theorem N8 (w:World) (B n c:Nat) (A:ax) (l:ag) (g:bT .u8 w B A n l) (j:dH l) (z:(n:Int)<=32):Calls Tryz.prog 58 #[.slice A n c] w λe w'=>e= .returned (.int .i64 (fL l))/\w=w':=by
 have f:=η g.1
 go_in
 go_wp2;go_loop [3,4] (a1S l n) (λ_ i=>(intOf i+1).toNat)
 case atStart=>exact⟨n,0,af _,rfl,rfl,by show _=_;rw[f.out,List.drop_length];rfl⟩
 obtain⟨k,v,D,rfl,rfl,HV⟩ :=hrel;have a:=kr (j.dU k);have t:=gu (show(l.drop k).length<=32 by simp;have:=f.out;omega);have s:(2:Int) ^ 32=4294967296:=rfl;rw[<-HV.out]at a;have m:0<=v/\v<4294967296:=ω;clear a t s;by_cases C:0<k
 rotate_left
 · obtain rfl:k=0:=ω;have q:((0:Nat):Int)-1= -1:=rfl;rw[q];go_wp2;go_ret;exact⟨bJ (by rw[HV.out,iB]),rfl⟩
 obtain⟨p,rfl⟩ :∃p,k=p+1:= ⟨k-1,ω⟩;have hp:((p+1:Nat):Int)-1=(p:Int):=ω;have o:(0:Int)<=p/\(p:Int)<(n:Int):=ω;obtain⟨E,rfl,r,c1⟩ :=g.at_ (i:=p) ω;obtain⟨x,d⟩ :=ν (ix l p)
 have y:0<=x/\x<=1:=by
  rw[<-d];unfold ix;rw[au];cases h:l[p]? with
  | none=>simp
  | some v=>have:=j v (cu h);simp;omega
 rw[d]at c1
 have u:Hid (fL (l.drop p)=2*v+x):=by
  show _=_;have b:p<l.length:=by rw[<-f.out];omega
  rw[bQ b,fL,<-HV.out];have:l[p]=x:=by rw[<-d];simp [ix,b]
  rw[this];omega
 clear d;rw[hp];go_wp2
 go_round
 case rel=>exact⟨p,2*v+x,ω,rfl,rfl,by show _=_;rw[u.out]⟩
 case measure=>simp [intOf]
def Ql (l:ag) (k v:Nat):Value:= .int .i64 (if v=0 then 0 else cnt l k v:Nat)
theorem U4 (l:ag) (v:Nat):Value.int .i64 0=Ql l 0 v:=by unfold Ql;congr 1;simp [cnt]
theorem LC (l:ag) (k:Nat) {v:Nat} (h:1<=v):Ql l k v= .int .i64 (cnt l k v:Nat):=by unfold Ql;rw[a8 ω]
theorem Ox (l:ag) (k:Nat) {v:Nat} (h:1<=v) (e:ix l k=(v:Int)) (j:Nat):upd (Ql l k) v (.int .i64 ((cnt l k v:Int)+1)) j=Ql l (k+1) j:=by
 by_cases a:j=v
 · subst a;rw[upd_same,LC _ _ h];congr 1;simp [cnt,e]
 rw[dA _ _ a];unfold Ql;congr 3;have:¬ix l k=(j:Int):=by rw[e];omega
 simp [cnt,this]
theorem U3 (l:ag) (k:Nat) (h:ix l k=0) (j:Nat):Ql l k j=Ql l (k+1) j:=by
 unfold Ql;by_cases a:j=0
 · rw[aa a,aa a]
 rw[a8 a,a8 a];have:¬ix l k=(j:Int):=ω;simp [cnt,this]
def jQ (w:World) (l x:ag) (e:Ending) (w':World):Prop:=
 e= .returned (.tuple #[.int .i64 (aK l x).1, .int .i64 ((aK l x).2.1:Nat), .int .i64 (aK l x).2.2])/\Below w.heap.size w w'
def a4b (w:World) (l:ag) (n:Nat) (m i:Value) (wr:World):Prop:=
 ∃k:Nat,k<=n/\i= .int .i64 k/\m= .int .i64 (E9 l k)/\Ar wr w.heap.size 16 (Ql l k)/\Below w.heap.size w wr
def a4c (w:World) (l x:ag) (a:Nat) (v f n _i:Value) (wr:World):Prop:=
 ∃k:Nat,1<=k/\k<=a+1/\k<=x.length+1/\n= .int .i64 k/\v= .int .i64 (hv x (k-1))/\f= .int .i64 (Bq l k:Nat)/\Hid (fh l x (k-1)=0)/\Ar wr w.heap.size 16 (Ql l l.length)/\Below w.heap.size w wr
def a4d (a:World) (s:Nat) (i:Value) (wr:World):Prop:=∃j q:Nat,j<=s/\i= .int .i64 j/\wr=a.drewN q
theorem S6 (w:World) (Al Ac Ab:ax) (n cl cc nb cb at_:Nat) (l bs:ag) (hl:bT .i64 w w.heap.size Al n l) (hc:bT .u32 w w.heap.size Ac n (jo l)) (KR:bT .u8 w w.heap.size Ab nb bs) (nA:dH bs)
  (hn:n<=288) (lO:∀i,i<n->0<=ix l i/\ix l i<=15) (cx:at_<=nb) (pL:nb<=1000000000000):
  Calls Tryz.prog 67 #[.slice Al n cl, .slice Ac n cc, .slice Ab nb cb, .int .i64 at_] w (jQ w l (bs.drop at_)):=by
 obtain⟨x,Z⟩ :=ν (bs.drop at_);rw[Z];have ln:nb-at_=x.length:=by rw[<-Z,ay,KR.1]
 have FP:dH x:=by rw[<-Z];exact nA.dU at_
 have W:=η hl.1;obtain⟨a,OY⟩ :=ν (tu l 15);have cp:a<=15:=by rw[<-OY];exact MV l 15
 have bG:Hid (E9 l n=(a:Int)):=by
  show _=_;rw[<-OY,W.out];exact a0A λi hi=>(lO i (by rw[W.out];exact hi)).2
 have K:Hid (aK l x=if fh l x (min x.length a)≠0 then(D6 l (fh l x (min x.length a)) (hv x (fh l x (min x.length a))-nJ l (fh l x (min x.length a))).toNat,fh l x (min x.length a),0)else if min x.length a<a then(0,0,5)else if a=0/\x.length=0 then(0,0,5)else(0,0,3)):=by
  show _=_;unfold aK;rw[OY]
 have cm:=η lO;have HX:=η Z;have cD:=η OY;have oK:Hid (l.length<=288):=by show _<=_;rw[<-W.out];exact hn
 clear Z OY lO
 go_in
 go_wp2
 go_loopw [12,13] (a4b w l n) (λ_ i _=>n-(intOf i).toNat)
 case atStart=>exact⟨0,aG _,rfl,rfl,(Ar.zeros w 16 (.int .i64 0) 139).congr λj _=>U4 l j,(aw _ _).alloc (af _) _⟩
 obtain⟨k,hk,rfl,rfl,B,c⟩ :=hrel;have m0:=Wq l k;obtain⟨M,hM⟩ :=ν (E9 l k);rw[hM]at m0⊢;by_cases f:k<n
 · have qB:(0:Int)<=k/\(k:Int)<(n:Int):=ω;obtain⟨ad,rfl,cy,c1⟩ :=(hl.below c).at_ f;have ht:=cm.out k f;have tS:Hid (E9 l (k+1)=if M<ix l k then ix l k else M):=by show _=_;rw[E9,hM]
   clear hM;by_cases g:ix l k=0
   · have lY:=B.congr λj _=>U3 l k g j;have A:Hid (E9 l (k+1)=M):=by show _=_;rw[tS.out,g,a8 ω]
     rw[g]at c1;clear g ht;go_wp2;go_roundw
     case rel=>exact⟨k+1,f,by go_num,by rw[A.out],lY,c⟩
     case measure=>simp [intOf];omega
   obtain⟨v,hv⟩ :∃v:Nat,ix l k=(v:Int):= ⟨(ix l k).toNat,ω⟩;rw[hv]at c1 ht g;have G:(1:Int)<=(v:Int)/\(v:Int)<=15:=ω;have c2:=B.cell (i:=v) ω;rw[LC l k ω]at c2;have z2:=B.frozen' (i:=v) ω;have bd:=lG l k v;have H:=η hv;rw[hv]at tS;clear hv g ht
   have cz:(wr.setCell ⟨w.heap.size,v,none⟩ (.int .i64 ((cnt l k v:Int)+1))).cell? (ad.add k)=some (.int .i64 v):=by
    rw[eO _ _ _ _ (λe=>by have h9:=bf Addr.block e;rw[bH]at h9;simp at h9;omega)];exact c1
   by_cases SX:M<(v:Int)
   · have A:Hid (E9 l (k+1)=(v:Int)):=by show _=_;rw[tS.out,aa SX]
     go_wp2;go_roundw
     case rel=>exact⟨k+1,f,by go_num,by rw[A.out],(B.iz ω _).congr λj _=>Ox l k ω H.out j,c.setCell (af _) _⟩
     case measure=>simp [intOf];omega
   have A:Hid (E9 l (k+1)=M):=by show _=_;rw[tS.out,a8 SX]
   go_wp2;go_roundw
   case rel=>exact⟨k+1,f,by go_num,by rw[A.out],(B.iz ω _).congr λj _=>Ox l k ω H.out j,c.setCell (af _) _⟩
   case measure=>simp [intOf];omega
 obtain rfl:n=k:=ω;have ch:M=(a:Int):=by rw[<-hM];exact bG
 clear hM;subst ch;have lY:Ar wr w.heap.size 16 (Ql l l.length):=by rw[<-W.out];exact B
 clear B m0;go_wp2
 go_loopw [14,15,16,17] (a4c w l x a) (λ_ _ i _ _=>a+1-(intOf i).toNat)
 case atStart=>exact⟨1,af _,ω,ω,rfl,rfl,rfl,rfl,lY,c⟩
 clear lY c;obtain⟨k,yY,rI,cq,rfl,rfl,rfl,S,B,c⟩ :=hrel;by_cases f:k<=a
 rotate_left
 · obtain rfl:k=a+1:=ω;rw[bW]at S⊢;have bI:min x.length a=a:=ω
   have xj:aK l x=if a=0/\x.length=0 then(0,0,5)else(0,0,3):=by
    have e1:¬fh l x a≠0:=by have:=S.out;omega
    have U:¬a<a:=ω;rw[K.out,bI,a8 e1,a8 U]
   have Ho:=η xj;obtain⟨V,o⟩ :=ν (hv x a);rw[o];have qB:((a+1:Nat):Int)=(a:Int)+1:=ω;clear xj o;by_cases g:a=0
   rotate_left
   · have e:Hid (aK l x=(0,0,3)):=by show _=_;rw[Ho.out,a8 (λh=>g h.1)]
     have e0:((a:Int)==0)=false:=by simpa using g
     clear g
     go_wp2_with fail;go_ret3;unfold jQ;rw[e.out];exact⟨rfl,c⟩
   by_cases T:x.length=0
   · have e:Hid (aK l x=(0,0,5)):=by show _=_;rw[Ho.out,aa ⟨g,T⟩]
     have iq:(nb:Int)<=(at_:Int):=ω;subst g;clear T
     go_wp2_with fail;go_ret3;unfold jQ;rw[e.out];exact⟨rfl,c⟩
   have e:Hid (aK l x=(0,0,3)):=by show _=_;rw[Ho.out,a8 (λh=>T h.2)]
   have iq:¬(nb:Int)<=(at_:Int):=ω;subst g;clear T
   go_wp2_with fail;go_ret3;unfold jQ;rw[e.out];exact⟨rfl,c⟩
 obtain⟨p,rfl⟩ :∃p,k=p+1:= ⟨k-1,ω⟩;rw[bW]at S⊢;by_cases co:p<x.length
 rotate_left
 · have ci:min x.length a=p:=ω;have xj:aK l x=(0,0,5):=by rw[K.out,ci,a8 (by simpa using S.out),aa ω]
   have Ho:=η xj;have hI:(nb:Int)<(at_:Int)+((p+1:Nat):Int)/\(p:Int)+1<=(a:Int):=ω;obtain⟨V,o⟩ :=ν (hv x p);rw[o];clear xj o;go_wp2;go_ret3;unfold jQ;rw[Ho.out];exact⟨rfl,c⟩
 have G:=P8 FP p;have O:=P8 FP (p+1);have CN:=VX FP (LQ S.out);have MH:=gu (show p+1<=15 by omega);have CD:(2:Int) ^ 15=32768:=rfl;have yE:(2:Int) ^ (p+1)=2*2 ^ p:=by rw[ep];omega
 have iu:=uB l oK.out (v:=p+1) ω;have F:=Br l (show 1<=p+1 by omega);have yF:=Eg l (show 1<=p+1 by omega);have Ta:hv x (p+1)=2*hv x p+ix x p:=rfl;have N:=lG l l.length (p+1);have u:=kf S.out;have c3:=B.cell (i:=p+1) ω;rw[LC l _ ω]at c3;obtain⟨d,I⟩ :=ν (p+1:Nat);obtain⟨h,hh⟩ :=ν (hv x p);obtain⟨b,vu⟩ :=ν (ix x p);obtain⟨V,o⟩ :=ν (hv x (p+1));obtain⟨ct,xf⟩ :=ν (cnt l l.length (p+1));obtain⟨C,R⟩ :=ν (nJ l (p+1));obtain⟨X,E⟩ :=ν (Bq l (p+1));obtain⟨cC,rfl,_,c4⟩ :=(KR.below c).at_ (i:=at_+p) ω;have e4:ix bs (at_+p)=b:=by rw[<-vu,<-HX.out,lS]
 rw[e4]at c4;have hit:xg l x (p+1)=decide (V<(C:Int)+(ct:Int)):=by unfold xg;rw[o,R,xf]
 have DN:b=0\/b=1:=by
  rw[<-vu];unfold ix;rw[au];cases e:x[p]? with
  | none=>simp
  | some v=>simpa using FP v (cu e)
 rw[hit]at u;rw[hh,E];rw[xf]at c3 N yF;rw[R]at iu CN F yF;rw[hh]at G Ta;rw[vu]at Ta;rw[o]at O CN Ta;rw[E]at F;rw[I]at c3⊢
 have nB:0<=h/\h<=32768/\0<=V/\V<=32768/\(C:Int)<=V/\(0:Int)<=ct/\(ct:Int)<=288/\(1:Int)<=d/\(d:Int)<=15/\(d:Int)<=(a:Int)/\(0:Int)<=C/\(C:Int)=2*(X:Int)/\(0:Int)<=X/\V=2*h+b/\0<=b/\b<=1/\(at_:Int)+(d:Int)<=(nb:Int)/\(X:Int)<=18874368/\(0:Int)<=at_:=by
  have:=oK.out;omega
 have cv:((at_:Int)+(d:Int)-1).toNat=at_+p:=ω;have cs:(at_:Int)+(d:Int)-1=((at_+p:Nat):Int):=ω;by_cases cd:V<(C:Int)+(ct:Int)
 rotate_left
 · have t:Hid (fh l x (p+1)=0):=by show _=_;rw[u,a8 ξ]
   have HV:=η o;have Cb:=η I;have am:Hid (Bq l (p+1+1)=C+ct):=yF;clear u hit E R xf o hh vu I Ta G O CN MH CD yE iu F yF e4 DN;obtain⟨nG,rz,ow,B3,be,QY,aE,ap,ao,an,bB,bx,bv,L,bt,bp,bo,bl,bi⟩ :=nB;obtain rfl:V=h*2+b:=ω;clear L;have ca:¬(h*2+b<(X:Int)*2+(ct:Int)):=ω
   go_wp2_with fail;go_roundw
   case rel=>exact⟨d+1,ω,ω,ω,by go_num,by rw[bW,<-Cb.out,HV.out],by rw[<-Cb.out,am.out];go_num,by rw[bW,<-Cb.out];exact t,B,c⟩
   case measure=>simp [intOf];omega
 have t:fh l x (p+1)=p+1:=by rw[u,aa ξ]
 have ab:p+1<=min x.length a:=ω;have ac:fh l x (min x.length a)=p+1:=by rw[sV (m:=p+1) (by rw[t];omega) ab,t]
 obtain⟨J,hJ⟩ :=aF (show 0<=V-(C:Int) by omega);obtain⟨s,al,D,hs3,lj⟩ :=DX l (n:=p+1) (j:=J) (k:=l.length) (by rw[xf];omega)
 have B3:aK l x=((s:Int),p+1,0):=by
  rw[K.out,ac,aa ω,o,R];have:(V-(C:Int)).toNat=J:=ω;rw[this];unfold D6;rw[lj]
 rw[I]at B3 D;have V9:∀i,ix l i=(d:Int)->fj l i=C+cnt l i d:=λi hi=>by rw[ql ω ω hi,<-R,I]
 have ce:Hid ((fj l s:Int)=V):=by show _=_;rw[V9 s D,<-I,hs3];omega
 have cg:Hid (∀i,i<s->ix l i=(d:Int)->¬(fj l i:Int)=V):=λi hi he e=>by
  have T:=qj hi he;rw[V9 i he]at e;rw[I]at hs3;omega
 have N:Hid (∀i:Nat,(fj l i:Int)<4294967296):=λi=>by
  unfold fj;split
  · rename_i hi
    unfold isLen at hi;have T:=uB l oK.out (v:=(ix l i).toNat) (by simp at hi;omega);have h2:=lG l l.length (ix l i).toNat;have h3:cnt l i (ix l i).toNat<=i:=lG l i _;by_cases cw:i<=l.length
    · have:=oK.out;omega
    have:ix l i=0:=by unfold ix;rw[au,bq ω];rfl
    simp [this]at hi
  omega
 have ck:=η B3;have Cv:=η D;have DV:s<n:=by rw[W.out];exact al
 clear B3 lj hs3 D hJ t ac u hit V9 E R xf o hh vu I Ta G O CN MH CD yE iu F yF e4 DN ab;obtain⟨nG,rz,ow,B3,be,QY,aE,ap,ao,an,bB,bx,bv,L,bt,bp,bo,bl,bi⟩ :=nB;obtain rfl:V=h*2+b:=ω;clear L;have ca:h*2+b<(X:Int)*2+(ct:Int):=ω;clear cd
 go_wp2_with fail
 go_loopw [17] (a4d wr s) (λi _=>s+1-(intOf i).toNat)
 case atStart=>exact⟨0,0,aG _,rfl,rfl⟩
 obtain⟨j,q,hj,rfl,rfl⟩ :=hrel;have sZ:j<n:=ω;have cr:(j:Int)<(n:Int)/\(0:Int)<=j:=ω;obtain⟨cA,rfl,_,P⟩ :=(hl.below c).at_ sZ;obtain⟨cB,rfl,_,Q⟩ :=(hc.below c).at_ sZ;rw[qF l oK.out (by rw[<-W.out];exact sZ)]at Q;have ah:=N.out j;obtain⟨cj,z⟩ :=ν (fj l j);obtain⟨y,Y⟩ :=ν (ix l j);rw[z]at Q ah;rw[Y]at P;by_cases bM:j=s
 · subst bM;have e1:y=(d:Int):=by rw[<-Y];exact Cv
   have U:(cj:Int)=h*2+b:=by rw[<-z];exact ce
   rw[e1]at P;rw[U]at Q;clear Y z e1 U ah
   go_wp2_with fail;go_ret3;unfold jQ;rw[ck.out];exact⟨rfl,below_drewN c q⟩
 have rz:y=(d:Int)->¬(cj:Int)=h*2+b:=λe=>by rw[<-z];exact cg.out j ω (by rw[Y];exact e)
 clear Y z;by_cases r:y=(d:Int)
 · have U:((cj:Int)==h*2+b)=false:=by simpa using rz r
   rw[r]at P;clear rz r
   go_wp2_with fail;go_roundw
   case rel=>exact⟨j+1,q,ω,by go_num,rfl⟩
   case measure=>simp [intOf];omega
 have U:(y==(d:Int))=false:=by simpa using r
 clear rz r
 go_wp2_with fail;go_roundw
 case rel=>exact⟨j+1,q,ω,by go_num,rfl⟩
 case measure=>simp [intOf];omega
end Go.Proofs.YtgiimmkmjpbecaaGreat
