/-
  part
-/
import Derived.Test.YtdhmnlpfhfmpfaaGreatPk9
import Derived.Test.YtdhmnlpfhfmpfaaGreatRev
import Derived.Test.YtdhmnlpfhfmpfaaGreatSound
set_option linter.unusedVariables false
set_option maxRecDepth 100000
set_option maxHeartbeats 4000000
namespace Go.Proofs.YtdhmnlpfhfmpfaaGreat
open Go.RowKit
def ub (l:List Int) (i:Nat):List Int:=l.set i (ix l i+1)
theorem vt (l:List Int) (i:Nat):(ub l i).length=l.length:=by simp [ub]
theorem Ty (l:List Int) (i:Nat) (v:Int) (j:Nat):ix (l.set i v) j=if i=j/\j<l.length then v else ix l j:=by
 unfold ix;simp only [List.getD_eq_getElem?_getD,List.getElem?_set];by_cases h:i=j
 · subst h;by_cases a:i<l.length
   · simp [a]
   simp [a]
 simp [h]
theorem iK (l:List Int) (i j:Nat):ix (ub l i) j=if i=j/\j<l.length then ix l j+1 else ix l j:=by
 unfold ub;rw[Ty];by_cases h:i=j/\j<l.length
 · rw[ae h,ae h,h.1]
 rw[aa h,aa h]
def Nh (p:List Int×List Int) (t:cu):List Int×List Int:=
 if t.len=0 then(ub p.1 t.lit.toNat,p.2)else(ub p.1 (257+jg t.len),ub p.2 (fk t.bk))
def fq0:List Int×List Int:=(zrI 286 256,List.replicate 30 0)
where zrI (n k:Nat):List Int:=(List.replicate n (0:Int)).set k 1
def jV (l:List cu):List Int×List Int:=l.foldl Nh fq0
theorem og (l:List cu) (t:cu):jV (l++[t])=Nh (jV l) t:=by simp [jV]
theorem Tx {l:List cu} {k:Nat} (h:k<l.length):jV (l.take (k+1))=Nh (jV (l.take k)) (dT l k):=by rw[wB h,og]
theorem ER:jV []=fq0:=rfl
theorem ke {α β:Type} {motive:List α->Prop} (d:motive []) (c:∀l t,motive l->motive (l++[t])) (l:List α):motive l:=by
 rw[<-List.reverse_reverse l];induction l.reverse with
 | nil=>exact d
 | cons a r b=>rw[List.reverse_cons];exact c _ _ b
theorem mB (l:List cu):(jV l).1.length=286/\(jV l).2.length=30:=by
 refine ke (β:=Nat) (motive:=λl=>(jV l).1.length=286/\(jV l).2.length=30) ?_ ?_ l
 · exact⟨(eo ..).trans aQ,aQ⟩
 intro l t h;rw[og];unfold Nh;split
 · exact⟨by rw[vt];exact h.1,h.2⟩
 exact⟨by rw[vt];exact h.1,by rw[vt];exact h.2⟩
theorem Da (l:List cu):∀i,(0<=ix (jV l).1 i/\ix (jV l).1 i<=l.length+1)/\(0<=ix (jV l).2 i/\ix (jV l).2 i<=l.length):=by
 refine ke (β:=Nat) (motive:=λl=>∀i,(0<=ix (jV l).1 i/\ix (jV l).1 i<=l.length+1)/\(0<=ix (jV l).2 i/\ix (jV l).2 i<=l.length)) ?_ ?_ l
 · intro i;rw[ER];unfold fq0 fq0.zrI;rw[Ty]
   have a:∀n i:Nat,ix (List.replicate n (0:Int)) i=0:=λn i=>by
    unfold ix;rw[aq,dC];split <;> rfl
   rw[a,a];split <;> simp
 intro l t h i;rw[og,af,cJ];unfold Nh;have hi:=h i;split
 · simp only;rw[iK];split <;> omega
 simp only;rw[iK,iK];split <;> split <;> omega
theorem a2a (l:List cu):1<=ix (jV l).1 256:=by
 refine ke (β:=Nat) (motive:=λl=>1<=ix (jV l).1 256) ?_ ?_ l
 · rw[ER];decide+kernel
 intro l t h;rw[og];unfold Nh;split
 · simp only;rw[iK];split <;> omega
 simp only;rw[iK];split <;> omega
def Yn (t:cu):Nat:=(if 3<=t.len/\t.len<=258 then lE (jg t.len)else 0)+(if 1<=t.bk/\t.bk<=32768 then dE (fk t.bk)else 0)
def Ca (l:List cu):Nat:=(l.map Yn).sum
theorem Ti {l:List cu} {k:Nat} (h:k<l.length):Ca (l.take (k+1))=Ca (l.take k)+Yn (dT l k):=by rw[wB h];simp [Ca]
theorem Th (t:cu):Yn t<=18:=by
 unfold Yn
 have b:(if 3<=t.len/\t.len<=258 then lE (jg t.len)else 0)<=5:=by
  split
  · rename_i h;exact(IB (jg t.len) (by have:=(mE h.1).1;omega)).2.2
  omega
 have a:(if 1<=t.bk/\t.bk<=32768 then dE (fk t.bk)else 0)<=13:=by
  split
  · rename_i h;exact(KH (fk t.bk) (by have:=(kM h.1).1;omega)).2.2
  omega
 omega
theorem EK:∀l:List cu,Ca l<=18*l.length
 | []=>by simp [Ca]
 | t::l=>by
   have b:=Th t;have a:=EK l;show Yn t+Ca l<=_;rw[bc];omega
theorem P6 {n:Int} {v:Value} (h:kJ lB lE 3 258 257 28 n v):∃a b:Int,v= .tuple #[.int .i64 a, .int .i64 ((if 3<=n/\n<=258 then lE (jg n)else 0:Nat):Int), .int .i64 b]:=by
 by_cases c:3<=n/\n<=258
 · rw[ae c];exact⟨_,_,zK h c⟩
 rw[aa c];rcases h with ⟨_,h⟩ | ⟨h,_⟩
 · exact⟨0,0,h⟩
 exact absurd h c
theorem Ky {n:Int} {v:Value} (h:kJ dB dE 1 32768 0 29 n v):∃a b:Int,v= .tuple #[.int .i64 a, .int .i64 ((if 1<=n/\n<=32768 then dE (fk n)else 0:Nat):Int), .int .i64 b]:=by
 by_cases c:1<=n/\n<=32768
 · rw[ae c];exact⟨_,_,wS h c⟩
 rw[aa c];rcases h with ⟨_,h⟩ | ⟨h,_⟩
 · exact⟨0,0,h⟩
 exact absurd h c
def dN (kind:Int) (aj:List cu) (m:Nat):Bool:=
 if kind=0 then decide (m<=65535)else if¬(kind=1\/kind=2)\/1048576<=aj.length then false else aj.all λt=>decide (cC t)
theorem Ku {aj:List cu} (h:∀i,i<aj.length->cC (dT aj i)):(aj.all λt=>decide (cC t))=true:=by
 rw[gI];intro t ht;obtain⟨i,hi,rfl⟩ :=List.getElem_of_mem ht;have:=h i hi;have e:dT aj i=aj[i]:=by simp [dT,hi]
 rw[e]at this;exact aS this
theorem GZ {aj:List cu} {i:Nat} (hi:i<aj.length) (h:¬cC (dT aj i)):(aj.all λt=>decide (cC t))=false:=by
 rw[List.all_eq_false];have e:dT aj i=aj[i]:=by simp [dT,hi]
 rw[e]at h;exact⟨aj[i],cF hi,by simpa using h⟩
theorem qI (w:World) (kind:Int) (At:Option Addr) (nt ct:Nat) (aj:List cu) (l:lV w w.heap.size At nt aj) (U:(nt:Int)<=4611686018427387904) (Ar:Option Addr) (m cr:Nat):
  Calls Tryz.prog 87 #[.int .i64 kind, .slice At nt ct, .slice Ar m cr] w λe w'=>e= .returned (.bool (dN kind aj m))/\Below w.heap.size w w':=by
 have f:=l.1;by_cases x:kind=0
 · subst x;have hv:dN 0 aj m=decide (m<=65535):=by unfold dN;rw[ae rfl]
   rw[hv];clear hv l f;by_cases W:m<=65535
   · have M:(m:Int)<=65535:=ω;go_enter Tryz.func87,Tryz.ntmps87
     go_wp2_with fail;go_ret;exact⟨ξ,aw _ _⟩
   have M:¬(m:Int)<=65535:=ω;go_enter Tryz.func87,Tryz.ntmps87
   go_wp2_with fail;go_ret;exact⟨σ,aw _ _⟩
 have S:(kind==0)=false:=by simpa using x
 by_cases j:¬(kind=1\/kind=2)\/1048576<=aj.length
 · have hv:dN kind aj m=false:=by unfold dN;rw[aa x,ae j]
   rw[hv];rw[<-f]at j;by_cases J:kind=1
   · subst J;have B:(1048576:Int)<=(nt:Int):=ω;have g:1048576<=nt:=ω;clear hv l f j;go_enter Tryz.func87,Tryz.ntmps87
     go_wp2_with fail;go_ret;exact⟨σ,aw _ _⟩
   have R:(kind==1)=false:=by simpa using J
   by_cases I:kind=2
   · subst I;have B:(1048576:Int)<=(nt:Int):=ω;have g:1048576<=nt:=ω;clear hv l f j;go_enter Tryz.func87,Tryz.ntmps87
     go_wp2_with fail;go_ret;exact⟨σ,aw _ _⟩
   have Q:(kind==2)=false:=by simpa using I
   clear hv l f j;go_enter Tryz.func87,Tryz.ntmps87
   go_wp2_with fail;go_ret;exact⟨σ,aw _ _⟩
 have hv:dN kind aj m=aj.all λt=>decide (cC t):=by unfold dN;rw[aa x,aa j]
 have HV:=η hv;have C:kind=1\/kind=2:=ω;have B:¬(1048576:Int)<=(nt:Int):=ω;have g:¬1048576<=nt:=ω;have V:decide (1048576<=nt)=false:=aO g;have L:decide ((1048576:Int)<=(nt:Int))=false:=aO B;have H:=η (⟨l,f⟩ :_/\_);have T:(0:Int)<=(nt:Int):=ω;clear hv l f j;rcases C with rfl | rfl
 all_goals
  go_enter Tryz.func87,Tryz.ntmps87
  go_wp2_with fail;go_loopg [27] nt (λ(gk:Nat) (v27:Value) wx=>∃k:Nat,v27= .int .i64 k/\k<=nt/\Hid (∀i,i<k->cC (dT aj i))/\Hid (Below w.heap.size w wx)/\Hid (gk=nt-k))
  case atStart=>exact⟨0,rfl,aF _,λi hi=>absurd hi (js _),aw _ _,rfl⟩
  obtain⟨k,rfl,X,c,v,P⟩ :=hrel;by_cases b:k<nt
  rotate_left
  · obtain rfl:k=nt:=ω;have O:¬(k:Int)<(k:Int):=ω;have a:=η (HV.out.trans (Ku (λi hi=>c.out i (by rw[H.out.2];exact hi))));clear b
    go_wp2_with fail;go_ret;exact⟨wh a.out.symm,v.out⟩
  have O:(k:Int)<(nt:Int)/\(0:Int)<=(k:Int):=ω;obtain⟨r,hA,E,p⟩ :=(H.out.1.below v.out).2 ω;obtain⟨G,z,y⟩ :=p k b;rw[kV _ _ _ ω]at z y;obtain⟨⟨n,N,D⟩,ht⟩ :∃t:cu,dT aj k=t:= ⟨_,rfl⟩;rw[ht]at G z y;replace G:wr.cell? (r.add (k*3))=some (.int .u8 n):=G;replace z:wr.cell? { block:=(r.add (k*3)).block,off:=(r.add (k*3)).off+1 }=some (.int .i64 N):=z;replace y:wr.cell? { block:=(r.add (k*3)).block,off:=(r.add (k*3)).off+2 }=some (.int .i64 D):=y;have s:=η (⟨ht,b⟩ :_/\_);subst hA;clear E p ht b;have u:=η (v.out.alloc v.out.size (.cells #[.int .u8 n, .int .i64 N, .int .i64 D] 109));by_cases d:qQ n N D=true
  · have o:cC (dT aj k):=by rw[s.out.1];rw[BD]at d;exact cM d
    have a:=η o;clear o
    go_wp2_with fail;refine(DX n N D _).mono ?_;rintro e K ⟨rfl,q⟩;rw[d];have F:=η (u.out.trans (q.mono u.out.size));clear q
    go_wp2_with fail;go_roundg (nt-(k+1))
    case measure=>have:=P.out;have:=s.out.2;omega
    case rel=>exact⟨k+1,by go_num,s.out.2,λi hi=>by
     by_cases e:i=k
     · subst e;exact a.out
     exact c.out i ω,F,rfl⟩
  have A:qQ n N D=false:=by simpa using d
  have o:¬cC (dT aj k):=λh=>by rw[s.out.1]at h;rw[BD]at d;exact d (aS h)
  have a:=η (HV.out.trans (GZ (by rw[<-H.out.2];exact s.out.2) o));clear o d
  go_wp2_with fail;refine(DX n N D _).mono ?_;rintro e K ⟨rfl,q⟩;rw[A];have F:=η (u.out.trans (q.mono u.out.size));clear q
  go_wp2_with fail;go_ret;exact⟨wh a.out.symm,F.out⟩
theorem mI:(Tryz.prog.info? 3).map (λi=>(i.zero,i.size,i.bytes))=some (some (.int .i64 0),1,8):=by kernel_rfl
def XM (w:World) (e:Ending) (w':World):Prop:=
 ∃A c A' c',e= .returned (.tuple #[.slice A 288 c, .slice A' 32 c'])/\aW .i64 w' w.heap.size 3 A 288 c ig/\aW .i64 w' w.heap.size 3 A' 32 c' iN/\Below w.heap.size w w'
def a8a (w:World) (l i:Value) (wr:World):Prop:=∃(k c:Nat) (A:Option Addr),k<=288/\i= .int .i64 k/\l= .slice A k c/\aW .i64 wr w.heap.size 3 A k c (ig.take k)/\Below w.heap.size w wr
def a8b (w:World) (a:Option Addr) (b c0:Nat) (l i:Value) (wr:World):Prop:=∃(k c:Nat) (A:Option Addr),k<=32/\i= .int .i64 k/\l= .slice A k c/\aW .i64 wr w.heap.size 3 A k c (iN.take k)/\aW .i64 wr w.heap.size 3 a b c0 ig/\(∀q,ai A=some q->ai a≠some q)/\Below w.heap.size w wr
theorem pL:ig.length=288:=by decide+kernel
theorem zU:iN.length=32:=by simp [iN]
theorem D9 {k:Nat} (h:k<288):ig.take (k+1)=ig.take k++[ix ig k]:=by
 rw[aY (by rw[pL];exact h)];simp [ix,List.getD_eq_getElem?_getD,List.getElem?_eq_getElem (show k<ig.length by rw[pL];exact h)]
theorem EN:∀k,k<288->ix ig k=if k<144 then 8 else if k<256 then 9 else if k<280 then 7 else 8:=by decide+kernel
theorem D8 {k:Nat} (h:k<32):iN.take (k+1)=iN.take k++[5]:=by
 unfold iN;rw[List.take_replicate,List.take_replicate,bw ω,bw ω,List.replicate_succ']
theorem pN (w:World):Calls Tryz.prog 89 #[] w (XM w):=by
 obtain⟨p,hi,t,s,r⟩ :=aJ mI;have Hi:=η hi;have B:=η t;have z:=η s;have y:=η r;clear hi t s r;go_enter Tryz.func89,Tryz.ntmps89;go_wp2
 go_loopw [0,3] (a8a w) (λ_ i _=>288-(intOf i).toNat)
 case atStart=>exact⟨0,0,none,aF _,rfl,rfl,aW.dK,aw _ _⟩
 obtain⟨k,c,A,I,rfl,rfl,g,h⟩ :=hrel;by_cases a:k<288
 · have L:(k:Int)<288/\(0:Int)<=k:=ω;have ht:=D9 a;rw[EN k a]at ht;have P:=h.size;have F:(k:Int)<144\/(¬(k:Int)<144/\(280:Int)<=k)\/(¬(k:Int)<144/\¬(280:Int)<=k/\(k:Int)<256)\/(¬(k:Int)<144/\¬(280:Int)<=k/\¬(k:Int)<256):=ω;rcases F with G | ⟨G,J⟩ | ⟨G,J,M⟩ | ⟨G,J,M⟩
   · rw[ae ω]at ht;have n:=η ht;clear ht;have m:=g.alloc (.cells #[.int .i64 8] 3);have f:=h.alloc h.size (.cells #[.int .i64 8] 3)
     go_wp2_with (at_builtin;(refine ba .i64 w.heap.size 3 p 8 rfl (.tmp 16) (.tmp 17) _ rfl Tryz.underlying63 Hi.out B.out z.out y.out rfl m rfl (bU.lit .i64 wr [8] 3) ω ω f.size ?_)
                  intro o d4 C l b v)
     go_roundw
     case rel=>exact⟨k+1,d4,o,a,by go_num,rfl,by rw[n.out];exact l,f.grown b f.size λq j=>(g.2.lt j).1⟩
     case measure=>simp [intOf];omega
   · rw[aa ω,aa ω,aa ω]at ht;have n:=η ht;clear ht;have m:=g.alloc (.cells #[.int .i64 8] 3);have f:=h.alloc h.size (.cells #[.int .i64 8] 3)
     go_wp2_with (at_builtin;(refine ba .i64 w.heap.size 3 p 8 rfl (.tmp 16) (.tmp 17) _ rfl Tryz.underlying63 Hi.out B.out z.out y.out rfl m rfl (bU.lit .i64 wr [8] 3) ω ω f.size ?_)
                  intro o d4 C l b v)
     go_roundw
     case rel=>exact⟨k+1,d4,o,a,by go_num,rfl,by rw[n.out];exact l,f.grown b f.size λq j=>(g.2.lt j).1⟩
     case measure=>simp [intOf];omega
   · rw[aa ω,ae ω]at ht;have n:=η ht;clear ht;have m:=g.alloc (.cells #[.int .i64 9] 3);have f:=h.alloc h.size (.cells #[.int .i64 9] 3)
     go_wp2_with (at_builtin;(refine ba .i64 w.heap.size 3 p 8 rfl (.tmp 22) (.tmp 23) _ rfl Tryz.underlying63 Hi.out B.out z.out y.out rfl m rfl (bU.lit .i64 wr [9] 3) ω ω f.size ?_)
                  intro o d4 C l b v)
     go_roundw
     case rel=>exact⟨k+1,d4,o,a,by go_num,rfl,by rw[n.out];exact l,f.grown b f.size λq j=>(g.2.lt j).1⟩
     case measure=>simp [intOf];omega
   rw[aa ω,aa ω,ae ω]at ht;have n:=η ht;clear ht;have m:=g.alloc (.cells #[.int .i64 7] 3);have f:=h.alloc h.size (.cells #[.int .i64 7] 3)
   go_wp2_with (at_builtin;(refine ba .i64 w.heap.size 3 p 8 rfl (.tmp 6) (.tmp 7) _ rfl Tryz.underlying63 Hi.out B.out z.out y.out rfl m rfl (bU.lit .i64 wr [7] 3) ω ω f.size ?_)
                intro o d4 C l b v)
   go_roundw
   case rel=>exact⟨k+1,d4,o,a,by go_num,rfl,by rw[n.out];exact l,f.grown b f.size λq j=>(g.2.lt j).1⟩
   case measure=>simp [intOf];omega
 have E:Hid (k=288):=by show _=_;omega
 rw[ay (by rw[pL];omega)]at g;have O:¬(k:Int)<288:=ω;obtain⟨D,K⟩ :∃D,D=k:= ⟨_,rfl⟩;subst K;clear a I;go_wp2
 go_loopw [1,26] (a8b w A D c) (λ_ i _=>32-(intOf i).toNat)
 case atStart=>exact⟨0,0,none,aF _,rfl,rfl,aW.dK,g,by simp [ai],h⟩
 clear g h;obtain⟨k,d,A1,I,rfl,rfl,g,H,x,h⟩ :=hrel;by_cases a:k<32
 rotate_left
 · obtain rfl:k=32:=ω;rw[ay (by rw[zU];omega)]at g;go_wp2
   go_ret2
   have:=E.out;subst this;exact⟨A,c,A1,d,rfl,H,g,h⟩
 have L:(k:Int)<32/\(0:Int)<=k:=ω;have n:=η (D8 a);have m:=g.alloc (.cells #[.int .i64 5] 3);have u:=H.alloc (.cells #[.int .i64 5] 3);have f:=h.alloc h.size (.cells #[.int .i64 5] 3)
 go_wp2_with (at_builtin;(refine ba .i64 w.heap.size 3 p 8 rfl (.tmp 28) (.tmp 29) _ rfl Tryz.underlying63 Hi.out B.out z.out y.out rfl m rfl (bU.lit .i64 wr [5] 3) ω ω f.size ?_)
              intro o d4 C l b v)
 go_roundw
 case rel=>
  refine⟨k+1,d4,o,a,by go_num,rfl,by rw[n.out];exact l,u.grown b ?_,λq j e=> ?_,f.grown b f.size λq j=>(g.2.lt j).1⟩
  · cases N:ai A with
    | none=>exact .inr rfl
    | some q=>exact .inl λe=>x q e.symm N
  rcases v with h4 | h4
  · exact x q (by rw[<-h4];exact j) e
  have:=(u.2.lt e).2;rw[h4]at j;injection j with j;omega
 case measure=>simp [intOf];omega
section
variable {s t t':IS} {x y b:List Int} {n m:Nat}
theorem IS.E6 (h:s.step.2=5):s.step.1=s:=by
 unfold IS.step at h⊢;have a:∀(s:IS) b,(s.emit b).2≠5:=λs b=>by unfold IS.emit;simp only;split <;> decide
 by_cases f:s.st=0
 · rw[ae f]at h⊢;unfold IS.block at h⊢;revert h;repeat' split
   all_goals simp
 rw[aa f]at h⊢;by_cases e:s.st=1
 · rw[ae e]at h⊢;unfold IS.size at h⊢;revert h;repeat' split
   all_goals simp
 rw[aa e]at h⊢;by_cases d:s.st=2
 · rw[ae d]at h⊢;unfold IS.stored at h⊢;revert h;repeat' split
   · simp
   · simp
   intro h;exact absurd h (a _ _)
 rw[aa d]at h⊢;by_cases c:s.st=3
 · rw[ae c]at h⊢;unfold IS.sizes at h⊢;revert h;repeat' split
   all_goals simp
 rw[aa c]at h⊢;by_cases h4:s.st=4
 · rw[ae h4]at h⊢;unfold IS.heads at h⊢;revert h;repeat' split
   all_goals simp
 rw[aa h4]at h⊢;by_cases h5:s.st=5
 · rw[ae h5]at h⊢;unfold IS.lengths IS.length IS.ku at h⊢;revert h;repeat' split
   all_goals simp
 rw[aa h5]at h⊢;by_cases h6:s.st=6
 · rw[ae h6]at h⊢;unfold IS.token at h⊢;revert h;repeat' split
   all_goals first
    | (intro h;exact absurd h (a _ _))
    | simp
 rw[aa h6]at h⊢;by_cases h7:s.st=7
 · rw[ae h7]at h⊢;unfold IS.bk IS.text at h⊢;revert h;repeat' split
   all_goals first
    | (intro h;exact absurd h (a _ _))
    | simp
 rw[aa h7]at h⊢
theorem JD (h:t.st=6):t.step=t.token:=by unfold IS.step;rw[aa ω,aa ω,aa ω,aa ω,aa ω,aa ω,ae h]
theorem D4 (h:t.st=7):t.step=t.bk:=by unfold IS.step;rw[aa ω,aa ω,aa ω,aa ω,aa ω,aa ω,aa ω,ae h]
theorem qB (h:t.st=4):t.step=t.heads:=by unfold IS.step;rw[aa ω,aa ω,aa ω,aa ω,ae h]
theorem Au (h:t.st=4) (b:t.lens.length<t.c2) (a:t.x.length<3):t.step.2=5:=by rw[qB h,IS.heads,ae b,ae a]
theorem Av (h:t.st=4) (b:t.lens.length<t.c2) (a:¬t.x.length<3):t.step=({ t with x:=t.x.drop 3,lens:=t.lens++[(num t.x 3:Int)] },0):=by rw[qB h,IS.heads,ae b,aa a]
theorem Dn (h:t.st=4) (b:¬t.lens.length<t.c2) (a:bb (iD t.lens) 7≠0\/gQ t.lens=true):t.step=(t,3):=by rw[qB h,IS.heads,aa b,ae a]
theorem Ii (h:t.st=4) (b:¬t.lens.length<t.c2) (a:¬(bb (iD t.lens) 7≠0\/gQ t.lens=true)):t.step=({ t with hd:=iD t.lens,lens:=[],st:=5 },0):=by rw[qB h,IS.heads,aa b,aa a]
def hF (l:List Int) (i p:Nat):Value:= .int .i64 (if ll.idxOf p<i then ix l (ll.idxOf p)else 0)
theorem Nt (l:List Int) (p:Nat):Value.int .i64 0=hF l 0 p:=by unfold hF;rw[aa (js _)]
theorem YP:∀i,i<19->∀p,p<19->(ll.idxOf p=i↔p=ll.getD i 0):=by decide+kernel
theorem Nw:∀i,i<19->ll.getD i 0<19:=by decide+kernel
theorem Ns {l:List Int} {i:Nat} (hi:i<19) {p:Nat} (hp:p<19):upd (hF l i) (ll.getD i 0) (.int .i64 (ix l i)) p=hF l (i+1) p:=by
 have h:=YP i hi p hp;by_cases e:p=ll.getD i 0
 · rw[<-e,upd_same];unfold hF;rw[h.2 e,ae ω]
 rw[dL _ _ e];have:ll.idxOf p≠i:=λb=>e (h.1 b);unfold hF;by_cases a:ll.idxOf p<i
 · rw[ae a,ae ω]
 rw[aa a,aa ω]
theorem TR {l:List Int} {p:Nat} (hp:p<19):hF l l.length p= .int .i64 (ix (iD l) p):=by
 unfold hF;have e:ix (iD l) p=ix l (ll.idxOf p):=by simp [ix,iD,hp]
 rw[e];split
 · rfl
 congr 1;unfold ix;rw[aq,br ω];rfl
theorem LY {l:List Int} {i:Nat} (hi:i<l.length):gQ (l.take (i+1))=(gQ (l.take i)&&(ix l i==0)):=by
 unfold gQ;rw[aY hi,List.all_append];simp [ix,hi]
theorem IE (h:t.st=5) (a:t.lens.length<t.c0+t.c1):t.step=t.length:=by unfold IS.step;rw[aa ω,aa ω,aa ω,aa ω,aa ω,ae h];unfold IS.lengths;rw[ae a]
theorem GL (a:Addr) {k:Nat} (h:k≠0):a.add k= ⟨a.block,a.off+k,none⟩ :=by unfold Addr.add;rw[aa h]
theorem IL (h:t.st=5) (a:¬t.lens.length<t.c0+t.c1):t.step=if bb (t.lens.take t.c0) 15≠0\/bb (t.lens.drop t.c0) 15≠0\/ix t.lens 256=0 then(t,3)else({ t with lt:=t.lens.take t.c0,ds:=t.lens.drop t.c0,st:=6 },0):=by
 unfold IS.step;rw[aa ω,aa ω,aa ω,aa ω,aa ω,ae h];unfold IS.lengths;rw[aa a]
def Tf (F:IS×Int):Int:=if F.2=8 then 0 else F.2
end
def oz (y x:List Int):Prop:=∃k,y=x.drop k
theorem oz.refl (x:List Int):oz x x:= ⟨0,rfl⟩
theorem oz.drop {y x:List Int} (h:oz y x) (n:Nat):oz (y.drop n) x:=by
 obtain⟨k,rfl⟩ :=h;exact⟨k+n,by rw[bm]⟩
theorem oz.trans {z y x:List Int} (h:oz z y) (a:oz y x):oz z x:=by
 obtain⟨k,rfl⟩ :=h;exact a.drop k
theorem J0 (s:IS):oz s.over.x s.x:=by
 unfold IS.over;split
 · exact(oz.refl _).drop _
 exact oz.refl _
theorem zR (s:IS) (b x:List Int) (h:oz s.x x):oz (s.emit b).1.x x:=h
theorem OW (s:IS):oz s.block.1.x s.x:=by
 unfold IS.block
 repeat' split
 all_goals first | exact oz.refl _ | exact(oz.refl _).drop _ | exact((oz.refl _).drop 3).drop _
theorem Wu (s:IS):oz s.size.1.x s.x:=by
 unfold IS.size
 repeat' split
 all_goals first | exact oz.refl _ | exact(oz.refl _).drop _
theorem My (s:IS):oz s.stored.1.x s.x:=by
 unfold IS.stored
 repeat' split
 all_goals first | exact J0 s | exact oz.refl _ | exact zR _ _ _ ((oz.refl _).drop 8)
theorem QQ (s:IS):oz s.sizes.1.x s.x:=by
 unfold IS.sizes
 repeat' split
 all_goals first | exact oz.refl _ | exact(oz.refl _).drop _
theorem PL (s:IS):oz s.heads.1.x s.x:=by
 unfold IS.heads
 repeat' split
 all_goals first | exact oz.refl _ | exact(oz.refl _).drop _
theorem IG (s:IS):oz s.lengths.1.x s.x:=by
 unfold IS.lengths IS.length IS.ku
 repeat' split
 all_goals first | exact oz.refl _ | exact(oz.refl _).drop _ | exact((oz.refl _).drop _).drop _
theorem R5 (s:IS):oz s.token.1.x s.x:=by
 unfold IS.token
 repeat' split
 all_goals first | exact oz.refl _ | exact zR _ _ _ ((oz.refl _).drop _) | exact(J0 _).trans ((oz.refl _).drop _) | exact((oz.refl _).drop _).drop _
theorem T8 (s:IS):oz s.bk.1.x s.x:=by
 unfold IS.bk IS.text
 repeat' split
 all_goals first | exact oz.refl _ | exact zR _ _ _ (((oz.refl _).drop _).drop _)
theorem Js (s:IS):oz s.step.1.x s.x:=by
 unfold IS.step;by_cases d:s.st=0
 · rw[ae d];exact OW s
 rw[aa d];by_cases c:s.st=1
 · rw[ae c];exact Wu s
 rw[aa c];by_cases b:s.st=2
 · rw[ae b];exact My s
 rw[aa b];by_cases a:s.st=3
 · rw[ae a];exact QQ s
 rw[aa a];by_cases h4:s.st=4
 · rw[ae h4];exact PL s
 rw[aa h4];by_cases h5:s.st=5
 · rw[ae h5];exact IG s
 rw[aa h5];by_cases h6:s.st=6
 · rw[ae h6];exact R5 s
 rw[aa h6];by_cases h7:s.st=7
 · rw[ae h7];exact T8 s
 rw[aa h7];exact oz.refl _
theorem Yq (s:IS):oz s.fin.1.x s.x:=by
 obtain⟨t,b,a⟩ :=IS.mz s;rw[<-a];refine(Js t).trans ?_;clear a;induction b with
 | refl=>exact oz.refl _
 | tail _ _ ih=>exact(Js _).trans ih
theorem Hu {b:List Int} {m:Nat} (f:(start (gG b) m).fin.2=8):(start (gG b) m).fin.1.x.length/8<=b.length/\gG (b.drop (b.length-(start (gG b) m).fin.1.x.length/8))=(start (gG b) m).fin.1.x:=by
 obtain⟨k,a⟩ :=Yq (start (gG b) m);have e:(start (gG b) m).x=gG b:=rfl;rw[e]at a;obtain⟨t,i,d⟩ :=IS.mz (start (gG b) m);have g:t.step.2=8:=by rw[d];exact f
 obtain⟨h4,y,w,v,u,s,r,q,p⟩ :=IS.step_done g;have hO:t.Ok:=(IS.Ok.start (dJ.gG b) m).steps i;have l:(start (gG b) m).fin.1=t:=by rw[<-d];exact h4
 have c:t.st=8:=by have:=hO.st8;omega
 have o:=hO.even (.inr (.inr c));rw[l]at a⊢;have n:t.x.length=8*b.length-k:=by rw[a,av,eT]
 refine⟨ω, ?_⟩;rw[zI];by_cases h:k<=8*b.length
 · rw[a];congr 1;rw[<-a];omega
 have j:t.x=[]:=aC ω;rw[j];exact dM (by rw[eT];simp)
theorem Tp {x y:List Int} {M m:Nat} {t:IS} (h:(start x M).fin=(t,8)) (f:t.all.length<=m) (g:y.length%8=0):∃d,(start (x++y) m).fin=(d,8)/\d.all=t.all/\d.x=t.x++y:=by
 obtain⟨a,e,ht⟩ :=IS.mz (start x M);have k:a.step.2=8:=by rw[ht,h]
 obtain⟨n,w,v,u,s,r,q,p,o⟩ :=IS.step_done k;have z:a=t:=by rw[h]at ht;rw[<-n,ht]
 subst z;obtain⟨l,c,A⟩ :=e.out;have c:a.all=[]++l:=c;have i:IS.Steps (start x m) (a.cap (m-l.length)):=(e.cap l c m).1 (by rw[c]at f;simpa using f);have j:IS.Steps (start (x++y) m) ((a.cap (m-l.length)).app y):=i.app g
 have b:((a.cap (m-l.length)).app y).step=((a.cap (m-l.length)).app y,8):=by
  unfold IS.step IS.cap IS.app;simp only [if_neg w,if_neg v,if_neg u,if_neg s,if_neg r,if_neg q,if_neg p,if_neg o]
 refine⟨(a.cap (m-l.length)).app y, ?_,rfl,rfl⟩;rw[<-j.mr,IS.ir (by rw[b];simp),b]
structure vh (B X:List Int):Prop where
 fin:∃t,(start B 16777216).fin=(t,8)/\t.x=[]/\t.all=X
 ev:B.length%8=0
 bit:dJ B
structure RM where
 Ao:Option Addr
 no:Nat
 co:Nat
 out:List Int
 E:Int
 rest:Int
 Ak:Option Addr
 nk:Nat
 ck:Nat
 kinds:List Int
 As:Option Addr
 ns:Nat
 cs:Nat
 stops:List Int
 Ab:Option Addr
 nb:Nat
 cb:Nat
 X:List Int
 at_:Nat
 most:Int
 Al:Value
 Ad:Value
 C6:Value
 CO:Value
 At:Option Addr
 nt:Nat
 ct:Nat
 aj:List cu
def sF (R:RM):Nat->Value
 | 0=> .slice R.Ao R.no R.co
 | 1=> .int .i64 R.E
 | 2=> .int .i64 R.rest
 | 3=> .slice R.Ak R.nk R.ck
 | 4=> .slice R.As R.ns R.cs
 | 5=> .slice R.Ab R.nb R.cb
 | 6=> .int .i64 (R.at_:Nat)
 | 7=> .int .i64 R.most
 | 8=>R.Al
 | 9=>R.Ad
 | 10=>R.C6
 | 11=>R.CO
 | _=> .slice R.At R.nt R.ct
theorem fM {P:Nat->Prop} (k:P 0) (i:P 1) (g:P 2) (f:P 3) (h4:P 4) (h5:P 5) (h6:P 6) (h7:P 7) (e:P 8) (d:P 9) (b:P 10) (a:P 11) (h:P 12):∀j,j<13->P j:=λj c=>by
 obtain rfl | rfl | rfl | rfl | rfl | rfl | rfl | rfl | rfl | rfl | rfl | rfl | rfl:j=0\/j=1\/j=2\/j=3\/j=4\/j=5\/j=6\/j=7\/j=8\/j=9\/j=10\/j=11\/j=12:=ω;all_goals assumption
theorem bj.VU {w w':World} {S:Nat->Prop} {b0 n c:Nat} {A:Option Addr} {l:List cu} (h:bj w w' S) (a:jW w b0 A n c l) (b:∀g,ai A=some g->¬S g):jW w' b0 A n c l:= ⟨a.1,h.own a.2 b⟩
structure ie (w:World) (b0 g:Nat) (c:Nat->Nat) (R:RM):Prop where
 cell:Ar w g 13 (sF R)
 cg:c g=1
 out:aW .u8 w b0 5 R.Ao R.no R.co R.out
 cout:∀k,ai R.Ao=some k->c k=2
 kinds:aW .i64 w b0 3 R.Ak R.nk R.ck R.kinds
 lH:∀k,ai R.Ak=some k->c k=3
 stops:aW .i64 w b0 3 R.As R.ns R.cs R.stops
 lJ:∀k,ai R.As=some k->c k=4
 aj:jW w b0 R.At R.nt R.ct R.aj
 oI:∀k,ai R.At=some k->c k=5
 bits:aW .u8 w b0 5 R.Ab R.nb R.cb R.X
 rh:∀k,ai R.Ab=some k->c k=6
 cb:∀k,c k≠0->b0<=k/\k<w.heap.size
def bV (w0:World) (c0:Nat->Nat) (w:World) (b0 g:Nat) (R:RM):Prop:=∃c,ie w b0 g c R/\DE b0 w0 c0 w c
section
variable {w w' w0:World} {b0 g:Nat} {c c0:Nat->Nat} {R R':RM}
theorem ie.refl (h:ie w b0 g c R):bV w c w b0 g R:= ⟨c,h,aw _ _,bj.refl _ _,λ_ _=>rfl⟩
theorem ie.lo (h:ie w b0 g c R):b0<=w.heap.size:=by have:=h.cb g (by rw[h.cg];decide);omega
theorem bV.fp (a:ie w b0 g c R) (hd:DE b0 w0 c0 w c) (h:bV w c w' b0 g R'):bV w0 c0 w' b0 g R':=by
 obtain⟨c',e,b⟩ :=h;exact⟨c',e,hd.step a.lo (λk d=>(a.cb k d).1) b.2.1 b.2.2⟩
theorem ie.aside {F:Nat->Prop} (h:ie w b0 g c R) (b:bj w w' F) (hF:∀k,F k->c k=0):ie w' b0 g c R:=
 ⟨b.ar h.cell (λe=>by have:=hF g e;have:=h.cg;omega),h.cg,b.eH h.out (λk a e=>by have:=hF k e;have:=h.cout k a;omega),h.cout,
   b.eH h.kinds (λk a e=>by have:=hF k e;have:=h.lH k a;omega),h.lH,
   b.eH h.stops (λk a e=>by have:=hF k e;have:=h.lJ k a;omega),h.lJ,
   b.VU h.aj (λk a e=>by have:=hF k e;have:=h.oI k a;omega),h.oI,
   b.eH h.bits (λk a e=>by have:=hF k e;have:=h.rh k a;omega),h.rh,
   λk a=> ⟨(h.cb k a).1,aD (h.cb k a).2 b.size⟩⟩
theorem ie.keeps (h:ie w b0 g c R) (b:Below w.heap.size w w'):ie w' b0 g c R:=h.aside (F:=λ_=>False) (bj.bA b) (λk a=>a.elim)
theorem ie.put (h:ie w b0 g c R) {i:Nat} (hi:i<13) (v:Value) (R':RM) (hF:∀j,j<13->upd (sF R) i v j=sF R' j) (d:R'={ R with E:=R'.E,rest:=R'.rest,at_:=R'.at_,most:=R'.most,Al:=R'.Al,Ad:=R'.Ad,C6:=R'.C6,CO:=R'.CO }):ie (w.setCell ⟨g,i,none⟩ v) b0 g c R':=by
 have b:bj w (w.setCell ⟨g,i,none⟩ v) (λk=>k=g):=(bj.refl w (λk=>k=g)).setCell (p:= ⟨g,i,none⟩) (.inl rfl) v;refine⟨(h.cell.bC hi v).congr hF,h.cg, ?_, ?_, ?_, ?_, ?_, ?_, ?_, ?_, ?_, ?_,λk a=> ⟨(h.cb k a).1,aD (h.cb k a).2 b.size⟩⟩;all_goals rw[d]
 · exact b.eH h.out (λk a e=>by have:=h.cout k a;have:=h.cg;subst e;omega)
 · exact h.cout
 · exact b.eH h.kinds (λk a e=>by have:=h.lH k a;have:=h.cg;subst e;omega)
 · exact h.lH
 · exact b.eH h.stops (λk a e=>by have:=h.lJ k a;have:=h.cg;subst e;omega)
 · exact h.lJ
 · exact b.VU h.aj (λk a e=>by have:=h.oI k a;have:=h.cg;subst e;omega)
 · exact h.oI
 · exact b.eH h.bits (λk a e=>by have:=h.rh k a;have:=h.cg;subst e;omega)
 exact h.rh
theorem ie.a3X (h:ie w b0 g c R) {A':Option Addr} {n' c':Nat} {l':List Int} (l:bj w w' (λk=>k=g\/ai R.Ao=some k)) (o:Ar w' g 13 (sF { R with Ao:=A',no:=n',co:=c',out:=l' })) (n:aW .u8 w' b0 5 A' n' c' l')
  (hf:∀k,ai A'=some k->ai R.Ao=some k\/w.heap.size<=k):
  ie w' b0 g (cT c w.heap.size (λk=>ai A'=some k) 2) { R with Ao:=A',no:=n',co:=c',out:=l' }:=by
 have hF:∀k,(k=g\/ai R.Ao=some k)->c k=1\/c k=2:=λk a=>by
  rcases a with rfl | a
  · exact .inl h.cg
  exact .inr (h.cout k a)
 have m:∀k i,c k=i->i≠0->k<w.heap.size:=λk i d b=>(h.cb k ω).2;have j:∀k,k<w.heap.size->cT c w.heap.size (λk=>ai A'=some k) 2 k=c k:=λk a=>cy a;have f:∀k i,c k=i->i≠0->cT c w.heap.size (λk=>ai A'=some k) 2 k=i:=λk i d b=>(j k (m k i d b)).trans d
 exact⟨o,f _ _ h.cg δ,
  n,λk a=>by
   rcases aZ k w.heap.size with d | d
   · rcases hf k a with b | b
     · exact f k 2 (h.cout k b) δ
     omega
   exact fI d a,
  l.eH h.kinds (λk a e=>by have:=hF k e;have:=h.lH k a;omega),λk a=>f k 3 (h.lH k a) δ,
  l.eH h.stops (λk a e=>by have:=hF k e;have:=h.lJ k a;omega),λk a=>f k 4 (h.lJ k a) δ,
  l.VU h.aj (λk a e=>by have:=hF k e;have:=h.oI k a;omega),λk a=>f k 5 (h.oI k a) δ,
  l.eH h.bits (λk a e=>by have:=hF k e;have:=h.rh k a;omega),λk a=>f k 6 (h.rh k a) δ,
  λk a=>by
   rcases fZ a with ⟨d,b⟩ | ⟨d,b⟩
   · exact⟨(h.cb k b).1,aD d l.size⟩
   exact n.2.lt b⟩
theorem bV.a3X (h:bV w0 c0 w b0 g R) {A':Option Addr} {n' c':Nat} {l':List Int} (b:bj w w' (λk=>k=g\/ai R.Ao=some k)) (e:Ar w' g 13 (sF { R with Ao:=A',no:=n',co:=c',out:=l' })) (d:aW .u8 w' b0 5 A' n' c' l')
  (hf:∀k,ai A'=some k->ai R.Ao=some k\/w.heap.size<=k):bV w0 c0 w' b0 g { R with Ao:=A',no:=n',co:=c',out:=l' }:=by
 obtain⟨c,h,hd⟩ :=h
 exact⟨_,h.a3X b e d hf,hd.step h.lo (λk a=>(h.cb k a).1) (b.more λk a=>by
  rcases a with rfl | a
  · rw[h.cg];decide
  rw[h.cout k a];decide) λk a=>cy a⟩
theorem ie.LW (h:ie w b0 g c R) {A':Option Addr} {n' c':Nat} {l':List Int} (l:bj w w' (λk=>k=g\/ai R.Ak=some k)) (o:Ar w' g 13 (sF { R with Ak:=A',nk:=n',ck:=c',kinds:=l' })) (n:aW .i64 w' b0 3 A' n' c' l')
  (hf:∀k,ai A'=some k->ai R.Ak=some k\/w.heap.size<=k):
  ie w' b0 g (cT c w.heap.size (λk=>ai A'=some k) 3) { R with Ak:=A',nk:=n',ck:=c',kinds:=l' }:=by
 have hF:∀k,(k=g\/ai R.Ak=some k)->c k=1\/c k=3:=λk a=>by
  rcases a with rfl | a
  · exact .inl h.cg
  exact .inr (h.lH k a)
 have m:∀k i,c k=i->i≠0->k<w.heap.size:=λk i d b=>(h.cb k ω).2;have j:∀k,k<w.heap.size->cT c w.heap.size (λk=>ai A'=some k) 3 k=c k:=λk a=>cy a;have f:∀k i,c k=i->i≠0->cT c w.heap.size (λk=>ai A'=some k) 3 k=i:=λk i d b=>(j k (m k i d b)).trans d
 exact⟨o,f _ _ h.cg δ,
  l.eH h.out (λk a e=>by have:=hF k e;have:=h.cout k a;omega),λk a=>f k 2 (h.cout k a) δ,
  n,λk a=>by
   rcases aZ k w.heap.size with d | d
   · rcases hf k a with b | b
     · exact f k 3 (h.lH k b) δ
     omega
   exact fI d a,
  l.eH h.stops (λk a e=>by have:=hF k e;have:=h.lJ k a;omega),λk a=>f k 4 (h.lJ k a) δ,
  l.VU h.aj (λk a e=>by have:=hF k e;have:=h.oI k a;omega),λk a=>f k 5 (h.oI k a) δ,
  l.eH h.bits (λk a e=>by have:=hF k e;have:=h.rh k a;omega),λk a=>f k 6 (h.rh k a) δ,
  λk a=>by
   rcases fZ a with ⟨d,b⟩ | ⟨d,b⟩
   · exact⟨(h.cb k b).1,aD d l.size⟩
   exact n.2.lt b⟩
theorem bV.LW (h:bV w0 c0 w b0 g R) {A':Option Addr} {n' c':Nat} {l':List Int} (b:bj w w' (λk=>k=g\/ai R.Ak=some k)) (e:Ar w' g 13 (sF { R with Ak:=A',nk:=n',ck:=c',kinds:=l' })) (d:aW .i64 w' b0 3 A' n' c' l')
  (hf:∀k,ai A'=some k->ai R.Ak=some k\/w.heap.size<=k):bV w0 c0 w' b0 g { R with Ak:=A',nk:=n',ck:=c',kinds:=l' }:=by
 obtain⟨c,h,hd⟩ :=h
 exact⟨_,h.LW b e d hf,hd.step h.lo (λk a=>(h.cb k a).1) (b.more λk a=>by
  rcases a with rfl | a
  · rw[h.cg];decide
  rw[h.lH k a];decide) λk a=>cy a⟩
theorem ie.LZ (h:ie w b0 g c R) {A':Option Addr} {n' c':Nat} {l':List Int} (l:bj w w' (λk=>k=g\/ai R.As=some k)) (o:Ar w' g 13 (sF { R with As:=A',ns:=n',cs:=c',stops:=l' })) (n:aW .i64 w' b0 3 A' n' c' l')
  (hf:∀k,ai A'=some k->ai R.As=some k\/w.heap.size<=k):
  ie w' b0 g (cT c w.heap.size (λk=>ai A'=some k) 4) { R with As:=A',ns:=n',cs:=c',stops:=l' }:=by
 have hF:∀k,(k=g\/ai R.As=some k)->c k=1\/c k=4:=λk a=>by
  rcases a with rfl | a
  · exact .inl h.cg
  exact .inr (h.lJ k a)
 have m:∀k i,c k=i->i≠0->k<w.heap.size:=λk i d b=>(h.cb k ω).2;have j:∀k,k<w.heap.size->cT c w.heap.size (λk=>ai A'=some k) 4 k=c k:=λk a=>cy a;have f:∀k i,c k=i->i≠0->cT c w.heap.size (λk=>ai A'=some k) 4 k=i:=λk i d b=>(j k (m k i d b)).trans d
 exact⟨o,f _ _ h.cg δ,
  l.eH h.out (λk a e=>by have:=hF k e;have:=h.cout k a;omega),λk a=>f k 2 (h.cout k a) δ,
  l.eH h.kinds (λk a e=>by have:=hF k e;have:=h.lH k a;omega),λk a=>f k 3 (h.lH k a) δ,
  n,λk a=>by
   rcases aZ k w.heap.size with d | d
   · rcases hf k a with b | b
     · exact f k 4 (h.lJ k b) δ
     omega
   exact fI d a,
  l.VU h.aj (λk a e=>by have:=hF k e;have:=h.oI k a;omega),λk a=>f k 5 (h.oI k a) δ,
  l.eH h.bits (λk a e=>by have:=hF k e;have:=h.rh k a;omega),λk a=>f k 6 (h.rh k a) δ,
  λk a=>by
   rcases fZ a with ⟨d,b⟩ | ⟨d,b⟩
   · exact⟨(h.cb k b).1,aD d l.size⟩
   exact n.2.lt b⟩
theorem bV.LZ (h:bV w0 c0 w b0 g R) {A':Option Addr} {n' c':Nat} {l':List Int} (b:bj w w' (λk=>k=g\/ai R.As=some k)) (e:Ar w' g 13 (sF { R with As:=A',ns:=n',cs:=c',stops:=l' })) (d:aW .i64 w' b0 3 A' n' c' l')
  (hf:∀k,ai A'=some k->ai R.As=some k\/w.heap.size<=k):bV w0 c0 w' b0 g { R with As:=A',ns:=n',cs:=c',stops:=l' }:=by
 obtain⟨c,h,hd⟩ :=h
 exact⟨_,h.LZ b e d hf,hd.step h.lo (λk a=>(h.cb k a).1) (b.more λk a=>by
  rcases a with rfl | a
  · rw[h.cg];decide
  rw[h.lJ k a];decide) λk a=>cy a⟩
theorem ie.VF (h:ie w b0 g c R) {A':Option Addr} {n' c':Nat} {l':List cu} (l:bj w w' (λk=>k=g\/ai R.At=some k)) (o:Ar w' g 13 (sF { R with At:=A',nt:=n',ct:=c',aj:=l' })) (n:jW w' b0 A' n' c' l')
  (hf:∀k,ai A'=some k->ai R.At=some k\/w.heap.size<=k):
  ie w' b0 g (cT c w.heap.size (λk=>ai A'=some k) 5) { R with At:=A',nt:=n',ct:=c',aj:=l' }:=by
 have hF:∀k,(k=g\/ai R.At=some k)->c k=1\/c k=5:=λk a=>by
  rcases a with rfl | a
  · exact .inl h.cg
  exact .inr (h.oI k a)
 have m:∀k i,c k=i->i≠0->k<w.heap.size:=λk i d b=>(h.cb k ω).2;have j:∀k,k<w.heap.size->cT c w.heap.size (λk=>ai A'=some k) 5 k=c k:=λk a=>cy a;have f:∀k i,c k=i->i≠0->cT c w.heap.size (λk=>ai A'=some k) 5 k=i:=λk i d b=>(j k (m k i d b)).trans d
 exact⟨o,f _ _ h.cg δ,
  l.eH h.out (λk a e=>by have:=hF k e;have:=h.cout k a;omega),λk a=>f k 2 (h.cout k a) δ,
  l.eH h.kinds (λk a e=>by have:=hF k e;have:=h.lH k a;omega),λk a=>f k 3 (h.lH k a) δ,
  l.eH h.stops (λk a e=>by have:=hF k e;have:=h.lJ k a;omega),λk a=>f k 4 (h.lJ k a) δ,
  n,λk a=>by
   rcases aZ k w.heap.size with d | d
   · rcases hf k a with b | b
     · exact f k 5 (h.oI k b) δ
     omega
   exact fI d a,
  l.eH h.bits (λk a e=>by have:=hF k e;have:=h.rh k a;omega),λk a=>f k 6 (h.rh k a) δ,
  λk a=>by
   rcases fZ a with ⟨d,b⟩ | ⟨d,b⟩
   · exact⟨(h.cb k b).1,aD d l.size⟩
   exact n.2.lt b⟩
theorem bV.VF (h:bV w0 c0 w b0 g R) {A':Option Addr} {n' c':Nat} {l':List cu} (b:bj w w' (λk=>k=g\/ai R.At=some k)) (e:Ar w' g 13 (sF { R with At:=A',nt:=n',ct:=c',aj:=l' })) (d:jW w' b0 A' n' c' l')
  (hf:∀k,ai A'=some k->ai R.At=some k\/w.heap.size<=k):bV w0 c0 w' b0 g { R with At:=A',nt:=n',ct:=c',aj:=l' }:=by
 obtain⟨c,h,hd⟩ :=h
 exact⟨_,h.VF b e d hf,hd.step h.lo (λk a=>(h.cb k a).1) (b.more λk a=>by
  rcases a with rfl | a
  · rw[h.cg];decide
  rw[h.oI k a];decide) λk a=>cy a⟩
theorem bV.keeps (h:bV w0 c0 w b0 g R) (b:Below w.heap.size w w'):bV w0 c0 w' b0 g R:=by
 obtain⟨c,h,hd⟩ :=h;exact⟨c,h.keeps b,hd.step h.lo (λk a=>(h.cb k a).1) (bj.bA b) λk a=>rfl⟩
theorem bV.drew (h:bV w0 c0 w b0 g R):bV w0 c0 w.drew b0 g R:=h.keeps (aw _ _).drew
theorem bV.put (h:bV w0 c0 w b0 g R) {i:Nat} (hi:i<13) (v:Value) (R':RM) (hF:∀j,j<13->upd (sF R) i v j=sF R' j) (b:R'={ R with E:=R'.E,rest:=R'.rest,at_:=R'.at_,most:=R'.most,Al:=R'.Al,Ad:=R'.Ad,C6:=R'.C6,CO:=R'.CO }):bV w0 c0 (w.setCell ⟨g,i,none⟩ v) b0 g R':=by
 obtain⟨c,h,hd⟩ :=h;exact⟨c,h.put hi v R' hF b,hd.step h.lo (λk a=>(h.cb k a).1) ((bj.refl w (λk=>c k≠0)).setCell (p:= ⟨g,i,none⟩) (.inl (by rw[h.cg];decide)) v) λk a=>rfl⟩
theorem bV.cell (h:bV w0 c0 w b0 g R):Ar w g 13 (sF R):=by obtain⟨c,h,hd⟩ :=h;exact h.cell
theorem bV.out (h:bV w0 c0 w b0 g R):aW .u8 w b0 5 R.Ao R.no R.co R.out:=by obtain⟨c,h,hd⟩ :=h;exact h.out
theorem bV.kinds (h:bV w0 c0 w b0 g R):aW .i64 w b0 3 R.Ak R.nk R.ck R.kinds:=by obtain⟨c,h,hd⟩ :=h;exact h.kinds
theorem bV.aj (h:bV w0 c0 w b0 g R):jW w b0 R.At R.nt R.ct R.aj:=by obtain⟨c,h,hd⟩ :=h;exact h.aj
theorem bV.bits (h:bV w0 c0 w b0 g R):aW .u8 w b0 5 R.Ab R.nb R.cb R.X:=by obtain⟨c,h,hd⟩ :=h;exact h.bits
theorem bV.lo (h:bV w0 c0 w b0 g R):b0<=w.heap.size:=by obtain⟨c,h,hd⟩ :=h;exact h.lo
theorem bV.apart (h:bV w0 c0 w b0 g R):ai R.Ao≠some g/\ai R.Ak≠some g/\ai R.As≠some g/\ai R.At≠some g:=by
 obtain⟨c,h,hd⟩ :=h;have a:=h.cg;exact⟨λe=>by have:=h.cout g e;omega,λe=>by have:=h.lH g e;omega,λe=>by have:=h.lJ g e;omega,λe=>by have:=h.oI g e;omega⟩
theorem bV.aside (h:bV w0 c0 w b0 g R):bj w0 w (λk=>c0 k≠0)/\Below b0 w0 w:=by obtain⟨c,h,hd⟩ :=h;exact⟨hd.2.1,hd.1⟩
theorem bV.cells (h:bV w0 c0 w b0 g R):w.cell? ⟨g,0,none⟩ =some (.slice R.Ao R.no R.co)/\w.cell? ⟨g,1,none⟩ =some (.int .i64 R.E)/\w.cell? ⟨g,2,none⟩ =some (.int .i64 R.rest)/\w.cell? ⟨g,3,none⟩ =some (.slice R.Ak R.nk R.ck)/\w.cell? ⟨g,4,none⟩ =some (.slice R.As R.ns R.cs)/\w.cell? ⟨g,5,none⟩ =some (.slice R.Ab R.nb R.cb)/\
  w.cell? ⟨g,6,none⟩ =some (.int .i64 (R.at_:Nat))/\w.cell? ⟨g,7,none⟩ =some (.int .i64 R.most)/\w.cell? ⟨g,8,none⟩ =some R.Al/\w.cell? ⟨g,9,none⟩ =some R.Ad/\w.cell? ⟨g,10,none⟩ =some R.C6/\w.cell? ⟨g,11,none⟩ =some R.CO/\w.cell? ⟨g,12,none⟩ =some (.slice R.At R.nt R.ct):=by
 have k:=h.cell;exact⟨k.cell (i:=0) ω,k.cell (i:=1) ω,k.cell (i:=2) ω,k.cell (i:=3) ω,k.cell (i:=4) ω,k.cell (i:=5) ω,k.cell (i:=6) ω,k.cell (i:=7) ω,k.cell (i:=8) ω,k.cell (i:=9) ω,k.cell (i:=10) ω,k.cell (i:=11) ω,k.cell (i:=12) ω⟩
end
theorem uh:(Tryz.prog.info? 5).map (λi=>(i.zero,i.size,i.bytes))=some (some (.int .u8 0),1,1):=by kernel_rfl
def a1J (w:World) (L:List Int) (e:Ending) (w':World):Prop:=
 ∃A n c,e= .returned (.slice A n c)/\aW .u8 w' w.heap.size 5 A n c L/\Below w.heap.size w w'
def XJ (w:World) (b:List Int) (n:Nat) (o i:Value) (wr:World):Prop:=
 ∃(k m d:Nat) (A:Option Addr),k<=n/\i= .int .i64 k/\Hid (m=8*k)/\o= .slice A m d/\aW .u8 wr w.heap.size 5 A m d (gG (b.take k))/\Below w.heap.size w wr
def a1y (w:World) (b:List Int) (a:Nat) (o j:Value) (wr:World):Prop:=
 ∃(k m d:Nat) (A:Option Addr),k<=8/\j= .int .i64 k/\Hid (m=8*a+k)/\o= .slice A m d/\aW .u8 wr w.heap.size 5 A m d (gG (b.take a)++dv (ix b a) k)/\Below w.heap.size w wr
theorem SG (w:World) (B n c:Nat) (A:Option Addr) (b:List Int) (G:bU .u8 w B A n b) (hB:B<=w.heap.size) (v:∀x∈b,0<=x/\x<256) (Y:(n:Int)<=100000000000):Calls Tryz.prog 49 #[.slice A n c] w (a1J w (gG b)):=by
 obtain⟨K,hi,l,h,g⟩ :=aJ uh;have Hi:=η hi;have T:=η l;have S:=η h;have R:=η g;clear hi l h g;have J:=η G.1;go_enter Tryz.func49,Tryz.ntmps49;go_wp2
 go_loopw [3,4] (XJ w b n) (λ_ i _=>n-(intOf i).toNat)
 case atStart=>exact⟨0,0,0,none,aF _,rfl,rfl,rfl,aW.dK,aw _ _⟩
 obtain⟨k,m,d,A1,hk,rfl,V,rfl,a,e⟩ :=hrel;by_cases f:k<n
 rotate_left
 · obtain rfl:n=k:=ω;have D:Hid (b.take n=b):=by show _=_;rw[J.out,List.take_length]
   go_wp2;go_ret;exact⟨A1,m,d,rfl,by rw[D.out]at a;exact a,e⟩
 have qh:(k:Int)<(n:Int)/\(0:Int)<=k:=ω;obtain⟨E,s⟩ :∃E:World,E=wr:= ⟨_,rfl⟩;subst s
 go_wp2_with fail
 go_loopw [3,5] (a1y w b k) (λ_ j _=>8-(intOf j).toNat)
 case atStart=>exact⟨0,m,d,A1,aF _,rfl,V,rfl,by rw[show dv (ix b k) 0=[] from rfl,ax];exact a,e⟩
 clear a e;obtain⟨j,m2,d2,A2,hj,rfl,C,rfl,a,e⟩ :=hrel;by_cases t:j<8
 rotate_left
 · obtain rfl:j=8:=ω
   have D:Hid (gG (b.take (k+1))=gG (b.take k)++dv (ix b k) 8):=by
    show _=_;have H:k<b.length:=by rw[<-J.out];exact f
    rw[aY H,ua];congr 1;simp [gG,ix,H]
   go_wp2;go_roundw
   case rel=>exact⟨k+1,m2,d2,A2,f,by go_num,by have:=C.out;show _=_;omega,rfl,by rw[D.out];exact a,e⟩
   case measure=>simp [intOf];omega
 have O:(j:Int)<8/\(0:Int)<=j:=ω;obtain⟨Q,rfl,P,c1⟩ :=G.at_ f;have c2:=(e.cell (p:=Q.add k) (by rw[bH];omega)).trans c1;obtain⟨x,r⟩ :=ν (ix b k);have F:=NR v k;rw[r]at c2 F a;have I:Hid (dv x (j+1)=dv x j++[x/2 ^ j%2]):=VJ x j;have U:=η r;obtain⟨y,o⟩ :=ν (x/2 ^ j%2);have Z:m2<=900000000000:=by have:=C.out;omega
 have e0:(j:Int)%18446744073709551616=(j:Int):=ω;have N:=a.alloc (.cells #[.int .u8 y] 5);have z:=e.alloc e.size (.cells #[.int .u8 y] 5);rw[o]at I;have e1:(x/2 ^ j).tmod 2=y:=by rw[cK (Int.ediv_nonneg F.1 (jx (two_pos j))),o]
 clear o;clear r c1
 go_wp2_with (at_builtin;(refine ba .u8 w.heap.size 5 K 1 rfl (.tmp 16) (.tmp 25) _ rfl Tryz.underlying22 Hi.out T.out S.out R.out rfl N rfl (bU.lit .u8 wr [y] 5) ω ω z.size ?_)
              intro W d4 X M u dP)
 go_roundw
 case rel=>exact⟨j+1,m2+1,d4,W,t,by go_num,by have:=C.out;show _=_;omega,rfl,by rw[U.out,I.out,<-ak];exact M,z.grown u z.size λq L=>(a.2.lt L).1⟩
 case measure=>simp [intOf];omega
def a1L (l:List Int) (n:Nat) (x i:Value):Prop:=∃(k:Nat) (v:Int),k<=n/\i= .int .i64 ((k:Int)-1)/\x= .int .i64 v/\Hid (v=fH (l.drop k))
theorem M0 (w:World) (B n c:Nat) (A:Option Addr) (l:List Int) (g:bU .u8 w B A n l) (j:dJ l) (z:(n:Int)<=32):Calls Tryz.prog 69 #[.slice A n c] w λe w'=>e= .returned (.int .i64 (fH l))/\w=w':=by
 have f:=η g.1;go_enter Tryz.func69,Tryz.ntmps69;go_wp2;go_loop [3,4] (a1L l n) (λ_ i=>(intOf i+1).toNat)
 case atStart=>exact⟨n,0,ag _,rfl,rfl,by show _=_;rw[f.out,List.drop_length];rfl⟩
 obtain⟨k,v,D,rfl,rfl,HV⟩ :=hrel;have a:=km (j.dX k);have t:=gq (show(l.drop k).length<=32 by simp;have:=f.out;omega);have s:(2:Int) ^ 32=4294967296:=rfl;rw[<-HV.out]at a;have m:0<=v/\v<4294967296:=ω;clear a t s;by_cases C:0<k
 rotate_left
 · obtain rfl:k=0:=ω;have q:((0:Nat):Int)-1= -1:=rfl;rw[q];go_wp2;go_ret;exact⟨cn (by rw[HV.out,iw]),rfl⟩
 obtain⟨p,rfl⟩ :∃p,k=p+1:= ⟨k-1,ω⟩;have hp:((p+1:Nat):Int)-1=(p:Int):=ω;have o:(0:Int)<=p/\(p:Int)<(n:Int):=ω;obtain⟨E,rfl,r,c1⟩ :=g.at_ (i:=p) ω;obtain⟨x,d⟩ :=ν (ix l p)
 have y:0<=x/\x<=1:=by
  rw[<-d];unfold ix;rw[aq];cases h:l[p]? with
  | none=>simp
  | some v=>have:=j v (cQ h);simp;omega
 rw[d]at c1
 have u:Hid (fH (l.drop p)=2*v+x):=by
  show _=_;have b:p<l.length:=by rw[<-f.out];omega
  rw[bT b,fH,<-HV.out];have:l[p]=x:=by rw[<-d];simp [ix,b]
  rw[this];omega
 clear d;rw[hp];go_wp2
 go_round
 case rel=>exact⟨p,2*v+x,ω,rfl,rfl,by show _=_;rw[u.out]⟩
 case measure=>simp [intOf]
def Pa (l:List Int) (k v:Nat):Value:= .int .i64 (if v=0 then 0 else cnt l k v:Nat)
theorem T6 (l:List Int) (v:Nat):Value.int .i64 0=Pa l 0 v:=by unfold Pa;congr 1;simp [cnt]
theorem KF (l:List Int) (k:Nat) {v:Nat} (h:1<=v):Pa l k v= .int .i64 (cnt l k v:Nat):=by unfold Pa;rw[aa ω]
theorem Na (l:List Int) (k:Nat) {v:Nat} (h:1<=v) (e:ix l k=(v:Int)) (j:Nat):upd (Pa l k) v (.int .i64 ((cnt l k v:Int)+1)) j=Pa l (k+1) j:=by
 by_cases a:j=v
 · subst a;rw[upd_same,KF _ _ h];congr 1;simp [cnt,e]
 rw[dL _ _ a];unfold Pa;congr 3;have:¬ix l k=(j:Int):=by rw[e];omega
 simp [cnt,this]
theorem T5 (l:List Int) (k:Nat) (h:ix l k=0) (j:Nat):Pa l k j=Pa l (k+1) j:=by
 unfold Pa;by_cases a:j=0
 · rw[ae a,ae a]
 rw[aa a,aa a];have:¬ix l k=(j:Int):=ω;simp [cnt,this]
def jN (w:World) (l x:List Int) (e:Ending) (w':World):Prop:=
 e= .returned (.tuple #[.int .i64 (aI l x).1, .int .i64 ((aI l x).2.1:Nat), .int .i64 (aI l x).2.2])/\Below w.heap.size w w'
def a4E (w:World) (l:List Int) (n:Nat) (m i:Value) (wr:World):Prop:=
 ∃k:Nat,k<=n/\i= .int .i64 k/\m= .int .i64 (DD l k)/\Ar wr w.heap.size 16 (Pa l k)/\Below w.heap.size w wr
def a4F (w:World) (l x:List Int) (a:Nat) (v f n _i:Value) (wr:World):Prop:=
 ∃k:Nat,1<=k/\k<=a+1/\k<=x.length+1/\n= .int .i64 k/\v= .int .i64 (hv x (k-1))/\f= .int .i64 (Bn l k:Nat)/\Hid (fh l x (k-1)=0)/\Ar wr w.heap.size 16 (Pa l l.length)/\Below w.heap.size w wr
def a4G (a:World) (s:Nat) (i:Value) (wr:World):Prop:=∃j q:Nat,j<=s/\i= .int .i64 j/\wr=a.drewN q
theorem QL (w:World) (Al Ac Ab:Option Addr) (n cl cc nb cb at_:Nat) (l bs:List Int) (hl:bU .i64 w w.heap.size Al n l) (hc:bU .u32 w w.heap.size Ac n (jd l)) (JX:bU .u8 w w.heap.size Ab nb bs) (nj:dJ bs)
  (hn:n<=288) (mf:∀i,i<n->0<=ix l i/\ix l i<=15) (cv:at_<=nb) (rI:nb<=1000000000000):
  Calls Tryz.prog 94 #[.slice Al n cl, .slice Ac n cc, .slice Ab nb cb, .int .i64 at_] w (jN w l (bs.drop at_)):=by
 obtain⟨x,Y⟩ :=ν (bs.drop at_);rw[Y];have nH:nb-at_=x.length:=by rw[<-Y,av,JX.1]
 have Ix:dJ x:=by rw[<-Y];exact nj.dX at_
 have U:=η hl.1;obtain⟨a,ND⟩ :=ν (tB l 15);have co:a<=15:=by rw[<-ND];exact LR l 15
 have bB:Hid (DD l n=(a:Int)):=by
  show _=_;rw[<-ND,U.out];exact a0a λi hi=>(mf i (by rw[U.out];exact hi)).2
 have I:Hid (aI l x=if fh l x (min x.length a)≠0 then(CM l (fh l x (min x.length a)) (hv x (fh l x (min x.length a))-nI l (fh l x (min x.length a))).toNat,fh l x (min x.length a),0)else if min x.length a<a then(0,0,5)else if a=0/\x.length=0 then(0,0,5)else(0,0,3)):=by
  show _=_;unfold aI;rw[ND]
 have ck:=η mf;have HX:=η Y;have cD:=η ND;have oM:Hid (l.length<=288):=by show _<=_;rw[<-U.out];exact hn
 clear Y ND mf;go_enter Tryz.func94,Tryz.ntmps94;go_wp2
 go_loopw [12,13] (a4E w l n) (λ_ i _=>n-(intOf i).toNat)
 case atStart=>exact⟨0,aF _,rfl,rfl,(Ar.zeros w 16 (.int .i64 0) 171).congr λj _=>T6 l j,(aw _ _).alloc (ag _) _⟩
 obtain⟨k,hk,rfl,rfl,B,c⟩ :=hrel;have m0:=Vy l k;obtain⟨M,hM⟩ :=ν (DD l k);rw[hM]at m0⊢;by_cases f:k<n
 · have qh:(0:Int)<=k/\(k:Int)<(n:Int):=ω;obtain⟨ad,rfl,cw,c1⟩ :=(hl.below c).at_ f;have ht:=ck.out k f;have xU:Hid (DD l (k+1)=if M<ix l k then ix l k else M):=by show _=_;rw[DD,hM]
   clear hM;by_cases g:ix l k=0
   · have ng:=B.congr λj _=>T5 l k g j;have A:Hid (DD l (k+1)=M):=by show _=_;rw[xU.out,g,aa ω]
     rw[g]at c1;clear g ht;go_wp2;go_roundw
     case rel=>exact⟨k+1,f,by go_num,by rw[A.out],ng,c⟩
     case measure=>simp [intOf];omega
   obtain⟨v,hv⟩ :∃v:Nat,ix l k=(v:Int):= ⟨(ix l k).toNat,ω⟩;rw[hv]at c1 ht g;have F:(1:Int)<=(v:Int)/\(v:Int)<=15:=ω;have c2:=B.cell (i:=v) ω;rw[KF l k ω]at c2;have z2:=B.frozen' (i:=v) ω;have bd:=lI l k v;have H:=η hv;rw[hv]at xU;clear hv g ht
   have cx:(wr.setCell ⟨w.heap.size,v,none⟩ (.int .i64 ((cnt l k v:Int)+1))).cell? (ad.add k)=some (.int .i64 v):=by
    rw[dS _ _ _ _ (λe=>by have h9:=aL Addr.block e;rw[bH]at h9;simp at h9;omega)];exact c1
   by_cases F9:M<(v:Int)
   · have A:Hid (DD l (k+1)=(v:Int)):=by show _=_;rw[xU.out,ae F9]
     go_wp2;go_roundw
     case rel=>exact⟨k+1,f,by go_num,by rw[A.out],(B.bC ω _).congr λj _=>Na l k ω H.out j,c.setCell (ag _) _⟩
     case measure=>simp [intOf];omega
   have A:Hid (DD l (k+1)=M):=by show _=_;rw[xU.out,aa F9]
   go_wp2;go_roundw
   case rel=>exact⟨k+1,f,by go_num,by rw[A.out],(B.bC ω _).congr λj _=>Na l k ω H.out j,c.setCell (ag _) _⟩
   case measure=>simp [intOf];omega
 obtain rfl:n=k:=ω;have cg:M=(a:Int):=by rw[<-hM];exact bB.out
 clear hM;subst cg;have ng:Ar wr w.heap.size 16 (Pa l l.length):=by rw[<-U.out];exact B
 clear B m0;go_wp2
 go_loopw [14,15,16,17] (a4F w l x a) (λ_ _ i _ _=>a+1-(intOf i).toNat)
 case atStart=>exact⟨1,ag _,ω,ω,rfl,rfl,rfl,rfl,ng,c⟩
 clear ng c;obtain⟨k,yF,uv,PR,rfl,rfl,rfl,R,B,c⟩ :=hrel;by_cases f:k<=a
 rotate_left
 · obtain rfl:k=a+1:=ω;rw[bY]at R⊢;have bE:min x.length a=a:=ω
   have xk:aI l x=if a=0/\x.length=0 then(0,0,5)else(0,0,3):=by
    have e1:¬fh l x a≠0:=by have:=R.out;omega
    have T:¬a<a:=ω;rw[I.out,bE,aa e1,aa T]
   have GF:=η xk;obtain⟨V,o⟩ :=ν (hv x a);rw[o];have qh:((a+1:Nat):Int)=(a:Int)+1:=ω;clear xk o;by_cases g:a=0
   rotate_left
   · have e:Hid (aI l x=(0,0,3)):=by show _=_;rw[GF.out,aa (λh=>g h.1)]
     have e0:((a:Int)==0)=false:=by simpa using g
     clear g
     go_wp2_with fail;go_ret3;unfold jN;rw[e.out];exact⟨rfl,c⟩
   by_cases S:x.length=0
   · have e:Hid (aI l x=(0,0,5)):=by show _=_;rw[GF.out,ae ⟨g,S⟩]
     have kO:(nb:Int)<=(at_:Int):=ω;subst g;clear S
     go_wp2_with fail;go_ret3;unfold jN;rw[e.out];exact⟨rfl,c⟩
   have e:Hid (aI l x=(0,0,3)):=by show _=_;rw[GF.out,aa (λh=>S h.2)]
   have kO:¬(nb:Int)<=(at_:Int):=ω;subst g;clear S
   go_wp2_with fail;go_ret3;unfold jN;rw[e.out];exact⟨rfl,c⟩
 obtain⟨p,rfl⟩ :∃p,k=p+1:= ⟨k-1,ω⟩;rw[bY]at R⊢;by_cases cm:p<x.length
 rotate_left
 · have ch:min x.length a=p:=ω;have xk:aI l x=(0,0,5):=by rw[I.out,ch,aa (by simpa using R.out),ae ω]
   have GF:=η xk;have hI:(nb:Int)<(at_:Int)+((p+1:Nat):Int)/\(p:Int)+1<=(a:Int):=ω;obtain⟨V,o⟩ :=ν (hv x p);rw[o];clear xk o;go_wp2;go_ret3;unfold jN;rw[GF.out];exact⟨rfl,c⟩
 have F:=NP Ix p;have N:=NP Ix (p+1);have Cf:=Ve Ix (KU R.out);have LF:=gq (show p+1<=15 by omega);have Dg:(2:Int) ^ 15=32768:=rfl;have yK:(2:Int) ^ (p+1)=2*2 ^ p:=by rw[eP];omega
 have iX:=uG l oM.out (v:=p+1) ω;have E:=Bo l (show 1<=p+1 by omega);have xo:=DO l (show 1<=p+1 by omega);have Z:hv x (p+1)=2*hv x p+ix x p:=rfl;have L:=lI l l.length (p+1);have u:=kd R.out;have c3:=B.cell (i:=p+1) ω;rw[KF l _ ω]at c3;obtain⟨d,G⟩ :=ν (p+1:Nat);obtain⟨h,hh⟩ :=ν (hv x p);obtain⟨b,xd⟩ :=ν (ix x p);obtain⟨V,o⟩ :=ν (hv x (p+1));obtain⟨ct,xf⟩ :=ν (cnt l l.length (p+1));obtain⟨C,Q⟩ :=ν (nI l (p+1));obtain⟨W,ZL⟩ :=ν (Bn l (p+1));obtain⟨cB,rfl,_,c4⟩ :=(JX.below c).at_ (i:=at_+p) ω;have e4:ix bs (at_+p)=b:=by rw[<-xd,<-HX.out,lQ]
 rw[e4]at c4;have hit:xg l x (p+1)=decide (V<(C:Int)+(ct:Int)):=by unfold xg;rw[o,Q,xf]
 have vE:b=0\/b=1:=by
  rw[<-xd];unfold ix;rw[aq];cases e:x[p]? with
  | none=>simp
  | some v=>simpa using Ix v (cQ e)
 rw[hit]at u;rw[hh,ZL];rw[xf]at c3 L xo;rw[Q]at iX Cf E xo;rw[hh]at F Z;rw[xd]at Z;rw[o]at N Cf Z;rw[ZL]at E;rw[G]at c3⊢
 have ny:0<=h/\h<=32768/\0<=V/\V<=32768/\(C:Int)<=V/\(0:Int)<=ct/\(ct:Int)<=288/\(1:Int)<=d/\(d:Int)<=15/\(d:Int)<=(a:Int)/\(0:Int)<=C/\(C:Int)=2*(W:Int)/\(0:Int)<=W/\V=2*h+b/\0<=b/\b<=1/\(at_:Int)+(d:Int)<=(nb:Int)/\(W:Int)<=18874368/\(0:Int)<=at_:=by
  have:=oM.out;omega
 have cr:((at_:Int)+(d:Int)-1).toNat=at_+p:=ω;have cq:(at_:Int)+(d:Int)-1=((at_+p:Nat):Int):=ω;by_cases ca:V<(C:Int)+(ct:Int)
 rotate_left
 · have t:Hid (fh l x (p+1)=0):=by show _=_;rw[u,aa ξ]
   have HV:=η o;have C8:=η G;have am:Hid (Bn l (p+1+1)=C+ct):=xo;clear u hit ZL Q xf o hh xd G Z F N Cf LF Dg yK iX E xo e4 vE;obtain⟨sr,qi,pn,za,aE,K5,ap,ao,an,Lz,bx,bv,bt,K,bp,bo,bl,bi,be⟩ :=ny;obtain rfl:V=h*2+b:=ω;clear K;have bX:¬(h*2+b<(W:Int)*2+(ct:Int)):=ω
   go_wp2_with fail;go_roundw
   case rel=>exact⟨d+1,ω,ω,ω,by go_num,by rw[bY,<-C8.out,HV.out],by rw[<-C8.out,am.out];go_num,by rw[bY,<-C8.out];exact t,B,c⟩
   case measure=>simp [intOf];omega
 have t:fh l x (p+1)=p+1:=by rw[u,ae ξ]
 have ab:p+1<=min x.length a:=ω;have ac:fh l x (min x.length a)=p+1:=by rw[tz (m:=p+1) (by rw[t];omega) ab,t]
 obtain⟨J,hJ⟩ :=aG (show 0<=V-(C:Int) by omega);obtain⟨s,al,D,hs3,kG⟩ :=Dv l (n:=p+1) (j:=J) (k:=l.length) (by rw[xf];omega)
 have za:aI l x=((s:Int),p+1,0):=by
  rw[I.out,ac,ae ω,o,Q];have:(V-(C:Int)).toNat=J:=ω;rw[this];unfold CM;rw[kG]
 rw[G]at za D;have Ul:∀i,ix l i=(d:Int)->fo l i=C+cnt l i d:=λi hi=>by rw[qp ω ω hi,<-Q,G]
 have cd:Hid ((fo l s:Int)=V):=by show _=_;rw[Ul s D,<-G,hs3];omega
 have ce:Hid (∀i,i<s->ix l i=(d:Int)->¬(fo l i:Int)=V):=λi hi he e=>by
  have S:=qo hi he;rw[Ul i he]at e;rw[G]at hs3;omega
 have L:Hid (∀i:Nat,(fo l i:Int)<4294967296):=λi=>by
  unfold fo;split
  · rename_i hi
    unfold isLen at hi;have S:=uG l oM.out (v:=(ix l i).toNat) (by simp at hi;omega);have h2:=lI l l.length (ix l i).toNat;have h3:cnt l i (ix l i).toNat<=i:=lI l i _;by_cases cs:i<=l.length
    · have:=oM.out;omega
    have:ix l i=0:=by unfold ix;rw[aq,br ω];rfl
    simp [this]at hi
  omega
 have ci:=η za;have Cn:=η D;have Dr:s<n:=by rw[U.out];exact al
 clear za kG hs3 D hJ t ac u hit Ul ZL Q xf o hh xd G Z F N Cf LF Dg yK iX E xo e4 vE ab;obtain⟨sr,qi,pn,za,aE,K5,ap,ao,an,Lz,bx,bv,bt,K,bp,bo,bl,bi,be⟩ :=ny;obtain rfl:V=h*2+b:=ω;clear K;have bX:h*2+b<(W:Int)*2+(ct:Int):=ω;clear ca
 go_wp2_with fail
 go_loopw [17] (a4G wr s) (λi _=>s+1-(intOf i).toNat)
 case atStart=>exact⟨0,0,aF _,rfl,rfl⟩
 obtain⟨j,q,hj,rfl,rfl⟩ :=hrel;have vI:j<n:=ω;have cp:(j:Int)<(n:Int)/\(0:Int)<=j:=ω;obtain⟨cz,rfl,_,O⟩ :=(hl.below c).at_ vI;obtain⟨cA,rfl,_,P⟩ :=(hc.below c).at_ vI;rw[qD l oM.out (by rw[<-U.out];exact vI)]at P;have ah:=L.out j;obtain⟨cj,z⟩ :=ν (fo l j);obtain⟨y,X⟩ :=ν (ix l j);rw[z]at P ah;rw[X]at O;by_cases bI:j=s
 · subst bI;have e1:y=(d:Int):=by rw[<-X];exact Cn.out
   have T:(cj:Int)=h*2+b:=by rw[<-z];exact cd.out
   rw[e1]at O;rw[T]at P;clear X z e1 T ah
   go_wp2_with fail;go_ret3;unfold jN;rw[ci.out];exact⟨rfl,below_drewN c q⟩
 have qi:y=(d:Int)->¬(cj:Int)=h*2+b:=λe=>by rw[<-z];exact ce.out j ω (by rw[X];exact e)
 clear X z;by_cases r:y=(d:Int)
 · have T:((cj:Int)==h*2+b)=false:=by simpa using qi r
   rw[r]at O;clear qi r
   go_wp2_with fail;go_roundw
   case rel=>exact⟨j+1,q,ω,by go_num,rfl⟩
   case measure=>simp [intOf];omega
 have T:(y==(d:Int))=false:=by simpa using r
 clear qi r
 go_wp2_with fail;go_roundw
 case rel=>exact⟨j+1,q,ω,by go_num,rfl⟩
 case measure=>simp [intOf];omega
section
variable {b:List Int} {M k m:Nat}
theorem IS.Steps.a7I {s t:IS} (h:IS.Steps s t):t.mu<=s.mu:=by
 induction h with
 | refl=>exact ag _
 | tail _ h2 ih=>exact au (cZ (IS.jG h2)) ih
end
end Go.Proofs.YtdhmnlpfhfmpfaaGreat
