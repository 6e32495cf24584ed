/-
  part
-/
import Derived.Test.YtdhmnlpfhfmpfaaGreatPk9
import Derived.Test.YtdhmnlpfhfmpfaaGreatSound
set_option linter.unusedVariables false
set_option maxRecDepth 100000
set_option maxHeartbeats 4000000
namespace Go.Proofs.YtdhmnlpfhfmpfaaGreat
open Go.RowKit
def ur (l:aj) (i:Nat):aj:=l.set i (ix l i+1)
theorem vH (l:aj) (i:Nat):(ur l i).length=l.length:=by simp [ur]
theorem U6 (l:aj) (i:Nat) (v:Int) (j:Nat):ix (l.set i v) j=if i=j/\j<l.length then v else ix l j:=by
 unfold ix;simp only [List.getD_eq_getElem?_getD,List.getElem?_set];by_cases h:i=j
 · subst h;by_cases a:i<l.length
   · simp [a]
   simp [a]
 simp [h]
theorem iP (l:aj) (i j:Nat):ix (ur l i) j=if i=j/\j<l.length then ix l j+1 else ix l j:=by
 unfold ur;rw[U6];by_cases h:i=j/\j<l.length
 · rw[af h,af h,h.1]
 rw[aa h,aa h]
def NF (p:aj×aj) (t:cy):aj×aj:=
 if t.len=0 then(ur p.1 t.lit.toNat,p.2)else(ur p.1 (257+jm t.len),ur p.2 (fj t.bm))
def fq0:aj×aj:=(zrI 286 256,List.replicate 30 0)
where zrI (n k:Nat):aj:=(List.replicate n (0:Int)).set k 1
def kf (l:List cy):aj×aj:=l.foldl NF fq0
theorem ox (l:List cy) (t:cy):kf (l++[t])=NF (kf l) t:=by simp [kf]
theorem U5 {l:List cy} {k:Nat} (h:k<l.length):kf (l.take (k+1))=NF (kf (l.take k)) (dV l k):=by rw[wQ h,ox]
theorem ES:kf []=fq0:=rfl
theorem kx {α β:Type} {motive:List α->Prop} (d:motive []) (c:∀l t,motive l->motive (l++[t])) (l:List α):motive l:=by
 rw[<-List.reverse_reverse l];induction l.reverse with
 | nil=>exact d
 | cons a r b=>rw[List.reverse_cons];exact c _ _ b
theorem mJ (l:List cy):(kf l).1.length=286/\(kf l).2.length=30:=by
 refine kx (β:=Nat) (motive:=λl=>(kf l).1.length=286/\(kf l).2.length=30) ?_ ?_ l
 · exact⟨(eB ..).trans aT,aT⟩
 intro l t h;rw[ox];unfold NF;split
 · exact⟨by rw[vH];exact h.1,h.2⟩
 exact⟨by rw[vH];exact h.1,by rw[vH];exact h.2⟩
theorem Di (l:List cy):∀i,(0<=ix (kf l).1 i/\ix (kf l).1 i<=l.length+1)/\(0<=ix (kf l).2 i/\ix (kf l).2 i<=l.length):=by
 refine kx (β:=Nat) (motive:=λl=>∀i,(0<=ix (kf l).1 i/\ix (kf l).1 i<=l.length+1)/\(0<=ix (kf l).2 i/\ix (kf l).2 i<=l.length)) ?_ ?_ l
 · intro i;rw[ES];unfold fq0 fq0.zrI;rw[U6]
   have a:∀n i:Nat,ix (List.replicate n (0:Int)) i=0:=λn i=>by
    unfold ix;rw[aq,dI];split <;> rfl
   rw[a,a];split <;> simp
 intro l t h i;rw[ox,ag,cN];unfold NF;have hi:=h i;split
 · simp only;rw[iP];split <;> omega
 simp only;rw[iP,iP];split <;> split <;> omega
theorem a2J (l:List cy):1<=ix (kf l).1 256:=by
 refine kx (β:=Nat) (motive:=λl=>1<=ix (kf l).1 256) ?_ ?_ l
 · rw[ES];decide+kernel
 intro l t h;rw[ox];unfold NF;split
 · simp only;rw[iP];split <;> omega
 simp only;rw[iP];split <;> omega
def Z8 (t:cy):Nat:=(if 3<=t.len/\t.len<=258 then lE (jm t.len)else 0)+(if 1<=t.bm/\t.bm<=32768 then dE (fj t.bm)else 0)
def Cj (l:List cy):Nat:=(l.map Z8).sum
theorem TP {l:List cy} {k:Nat} (h:k<l.length):Cj (l.take (k+1))=Cj (l.take k)+Z8 (dV l k):=by rw[wQ h];simp [Cj]
theorem TN (t:cy):Z8 t<=18:=by
 unfold Z8
 have b:(if 3<=t.len/\t.len<=258 then lE (jm t.len)else 0)<=5:=by
  split
  · rename_i h;exact(IY (jm t.len) (τ ((mN h.1).1))).2.2
  omega
 have a:(if 1<=t.bm/\t.bm<=32768 then dE (fj t.bm)else 0)<=13:=by
  split
  · rename_i h;exact(KU (fj t.bm) (τ ((kY h.1).1))).2.2
  omega
 omega
theorem EO:∀l:List cy,Cj l<=18*l.length
 | []=>by simp [Cj]
 | t::l=>by
   have b:=TN t;have a:=EO l;show Z8 t+Cj l<=_;rw[bc];omega
theorem Pw {n:Int} {v:Value} (h:kV lB lE 3 258 257 28 n v):∃a b:Int,v= .tuple #[.int .i64 a, .int .i64 ((if 3<=n/\n<=258 then lE (jm n)else 0:Nat):Int), .int .i64 b]:=by
 by_cases c:3<=n/\n<=258
 · rw[af c];exact⟨_,_,Ae h c⟩
 rw[aa c];rcases h with ⟨_,h⟩ | ⟨h,_⟩
 · exact⟨0,0,h⟩
 exact absurd h c
theorem KJ {n:Int} {v:Value} (h:kV dB dE 1 32768 0 29 n v):∃a b:Int,v= .tuple #[.int .i64 a, .int .i64 ((if 1<=n/\n<=32768 then dE (fj n)else 0:Nat):Int), .int .i64 b]:=by
 by_cases c:1<=n/\n<=32768
 · rw[af c];exact⟨_,_,xp h c⟩
 rw[aa c];rcases h with ⟨_,h⟩ | ⟨h,_⟩
 · exact⟨0,0,h⟩
 exact absurd h c
def dS (kind:Int) (au:List cy) (m:Nat):Bool:=
 if kind=0 then decide (m<=65535)else if¬(kind=1\/kind=2)\/1048576<=au.length then false else au.all λt=>decide (cF t)
theorem KG {au:List cy} (h:∀i,i<au.length->cF (dV au i)):(au.all λt=>decide (cF t))=true:=by
 rw[gM];intro t ht;obtain⟨i,hi,rfl⟩ :=gP ht;have:=h i hi;have e:dV au i=au[i]:=by simp [dV,hi]
 rw[e]at this;exact aS this
theorem Hj {au:List cy} {i:Nat} (hi:i<au.length) (h:¬cF (dV au i)):(au.all λt=>decide (cF t))=false:=by
 rw[List.all_eq_false];have e:dV au i=au[i]:=by simp [dV,hi]
 rw[e]at h;exact⟨au[i],bU hi,by simpa using h⟩
theorem qV (w:World) (kind:Int) (At:ay) (nt ct:Nat) (au:List cy) (l:mn w w.heap.size At nt au) (U:(nt:Int)<=4611686018427387904) (Ar:ay) (m cr:Nat):
  Calls Tryz.prog 87 #[.int .i64 kind, .slice At nt ct, .slice Ar m cr] w λe w'=>e= .returned (.bool (dS kind au m))/\Below w.heap.size w w':=by
 have f:=l.1;by_cases x:kind=0
 · subst x;have hv:dS 0 au m=decide (m<=65535):=by unfold dS;rw[af rfl]
   rw[hv];clear hv l f;by_cases W:m<=65535
   · have M:(m:Int)<=65535:=ω;go_enter Tryz.func87,Tryz.ntmps87
     go_wp2_with fail;go_ret;exact⟨ξ,ax _ _⟩
   have M:¬(m:Int)<=65535:=ω;go_enter Tryz.func87,Tryz.ntmps87
   go_wp2_with fail;go_ret;exact⟨σ,ax _ _⟩
 have S:(kind==0)=false:=by simpa using x
 by_cases j:¬(kind=1\/kind=2)\/1048576<=au.length
 · have hv:dS kind au m=false:=by unfold dS;rw[aa x,af j]
   rw[hv];rw[<-f]at j;by_cases J:kind=1
   · subst J;have B:(1048576:Int)<=(nt:Int):=ω;have g:1048576<=nt:=ω;clear hv l f j;go_enter Tryz.func87,Tryz.ntmps87
     go_wp2_with fail;go_ret;exact⟨σ,ax _ _⟩
   have R:(kind==1)=false:=by simpa using J
   by_cases I:kind=2
   · subst I;have B:(1048576:Int)<=(nt:Int):=ω;have g:1048576<=nt:=ω;clear hv l f j;go_enter Tryz.func87,Tryz.ntmps87
     go_wp2_with fail;go_ret;exact⟨σ,ax _ _⟩
   have Q:(kind==2)=false:=by simpa using I
   clear hv l f j;go_enter Tryz.func87,Tryz.ntmps87
   go_wp2_with fail;go_ret;exact⟨σ,ax _ _⟩
 have hv:dS kind au m=au.all λt=>decide (cF t):=by unfold dS;rw[aa x,aa j]
 have HV:=η hv;have C:kind=1\/kind=2:=ω;have B:¬(1048576:Int)<=(nt:Int):=ω;have g:¬1048576<=nt:=ω;have V:decide (1048576<=nt)=false:=aQ g;have L:decide ((1048576:Int)<=(nt:Int))=false:=aQ B;have H:=η (⟨l,f⟩ :_/\_);have T:(0:Int)<=(nt:Int):=ω;clear hv l f j;rcases C with rfl | rfl
 all_goals
  go_enter Tryz.func87,Tryz.ntmps87
  go_wp2_with fail;go_loopg [27] nt (λ(gk:Nat) (v27:Value) wx=>∃k:Nat,v27= .int .i64 k/\k<=nt/\Hid (∀i,i<k->cF (dV au i))/\Hid (Below w.heap.size w wx)/\Hid (gk=nt-k))
  case atStart=>exact⟨0,rfl,aF _,λi hi=>absurd hi (jw _),ax _ _,rfl⟩
  obtain⟨k,rfl,X,c,v,P⟩ :=hrel;by_cases b:k<nt
  rotate_left
  · obtain rfl:k=nt:=ω;have O:¬(k:Int)<(k:Int):=ω;have a:=η (HV.out.trans (KG (λi hi=>c.out i (by rw[H.out.2];exact hi))));clear b
    go_wp2_with fail;go_ret;exact⟨dH a.out.symm,v.out⟩
  have O:(k:Int)<(nt:Int)/\(0:Int)<=(k:Int):=ω;obtain⟨r,hA,E,p⟩ :=(H.out.1.below v.out).2 ω;obtain⟨G,z,y⟩ :=p k b;rw[lj _ _ _ ω]at z y;obtain⟨⟨n,N,D⟩,ht⟩ :∃t:cy,dV au k=t:= ⟨_,rfl⟩;rw[ht]at G z y;replace G:wr.cell? (r.add (k*3))=some (.int .u8 n):=G;replace z:wr.cell? { block:=(r.add (k*3)).block,off:=(r.add (k*3)).off+1 }=some (.int .i64 N):=z;replace y:wr.cell? { block:=(r.add (k*3)).block,off:=(r.add (k*3)).off+2 }=some (.int .i64 D):=y;have s:=η (⟨ht,b⟩ :_/\_);subst hA;clear E p ht b;have u:=η (v.out.alloc v.out.size (.cells #[.int .u8 n, .int .i64 N, .int .i64 D] 109));by_cases d:rq n N D=true
  · have o:cF (dV au k):=by rw[s.out.1];rw[BO]at d;exact cP d
    have a:=η o;clear o
    go_wp2_with fail;refine(E3 n N D _).mono ?_;rintro e K ⟨rfl,q⟩;rw[d];have F:=η (u.out.trans (q.mono u.out.size));clear q
    go_wp2_with fail;go_roundg (nt-(k+1))
    case measure=>have:=P.out;have:=s.out.2;omega
    case rel=>exact⟨k+1,by go_num,s.out.2,λi hi=>by
     by_cases e:i=k
     · subst e;exact a.out
     exact c.out i ω,F,rfl⟩
  have A:rq n N D=false:=by simpa using d
  have o:¬cF (dV au k):=λh=>by rw[s.out.1]at h;rw[BO]at d;exact d (aS h)
  have a:=η (HV.out.trans (Hj (by rw[<-H.out.2];exact s.out.2) o));clear o d
  go_wp2_with fail;refine(E3 n N D _).mono ?_;rintro e K ⟨rfl,q⟩;rw[A];have F:=η (u.out.trans (q.mono u.out.size));clear q
  go_wp2_with fail;go_ret;exact⟨dH a.out.symm,F.out⟩
theorem mQ:(Tryz.prog.info? 3).map (λi=>(i.zero,i.size,i.bytes))=some (some (.int .i64 0),1,8):=by kernel_rfl
def Yr (w:World) (e:Ending) (w':World):Prop:=
 ∃A c A' c',e= .returned (.tuple #[.slice A 288 c, .slice A' 32 c'])/\ba .i64 w' w.heap.size 3 A 288 c im/\ba .i64 w' w.heap.size 3 A' 32 c' iU/\Below w.heap.size w w'
def a8w (w:World) (l i:Value) (wr:World):Prop:=∃(k c:Nat) (A:ay),k<=288/\i= .int .i64 k/\l= .slice A k c/\ba .i64 wr w.heap.size 3 A k c (im.take k)/\Below w.heap.size w wr
def a8x (w:World) (a:ay) (b c0:Nat) (l i:Value) (wr:World):Prop:=∃(k c:Nat) (A:ay),k<=32/\i= .int .i64 k/\l= .slice A k c/\ba .i64 wr w.heap.size 3 A k c (iU.take k)/\ba .i64 wr w.heap.size 3 a b c0 im/\(∀q,ak A=some q->ak a≠some q)/\Below w.heap.size w wr
theorem pT:im.length=288:=by decide+kernel
theorem AG:iU.length=32:=by simp [iU]
theorem Dh {k:Nat} (h:k<288):im.take (k+1)=im.take k++[ix im k]:=by
 rw[bb (by rw[pT];exact h)];simp [ix,List.getD_eq_getElem?_getD,List.getElem?_eq_getElem (show k<im.length by rw[pT];exact h)]
theorem EP:∀k,k<288->ix im k=if k<144 then 8 else if k<256 then 9 else if k<280 then 7 else 8:=by decide+kernel
theorem Dg {k:Nat} (h:k<32):iU.take (k+1)=iU.take k++[5]:=by
 unfold iU;rw[List.take_replicate,List.take_replicate,bH ω,bH ω,List.replicate_succ']
theorem pV (w:World):Calls Tryz.prog 89 #[] w (Yr w):=by
 obtain⟨p,hi,t,s,r⟩ :=aL mQ;have Hi:=η hi;have B:=η t;have z:=η s;have y:=η r;clear hi t s r;go_enter Tryz.func89,Tryz.ntmps89;go_wp2
 go_loopw [0,3] (a8w w) (λ_ i _=>288-(intOf i).toNat)
 case atStart=>exact⟨0,0,none,aF _,rfl,rfl,ba.dN,ax _ _⟩
 obtain⟨k,c,A,I,rfl,rfl,g,h⟩ :=hrel;by_cases a:k<288
 · have L:(k:Int)<288/\(0:Int)<=k:=ω;have ht:=Dh a;rw[EP k a]at ht;have P:=h.size;have F:(k:Int)<144\/(¬(k:Int)<144/\(280:Int)<=k)\/(¬(k:Int)<144/\¬(280:Int)<=k/\(k:Int)<256)\/(¬(k:Int)<144/\¬(280:Int)<=k/\¬(k:Int)<256):=ω;rcases F with G | ⟨G,J⟩ | ⟨G,J,M⟩ | ⟨G,J,M⟩
   · rw[af ω]at ht;have n:=η ht;clear ht;have m:=g.alloc (.cells #[.int .i64 8] 3);have f:=h.alloc h.size (.cells #[.int .i64 8] 3)
     go_wp2_with (at_builtin;(refine bq .i64 w.heap.size 3 p 8 rfl (.tmp 16) (.tmp 17) _ rfl Tryz.underlying63 Hi.out B.out z.out y.out rfl m rfl (bT.lit .i64 wr [8] 3) ω ω f.size ?_)
                  intro o d4 C l b v)
     go_roundw
     case rel=>exact⟨k+1,d4,o,a,by go_num,rfl,by rw[n.out];exact l,f.grown b f.size λq j=>(g.2.lt j).1⟩
     case measure=>simp [intOf];omega
   · rw[aa ω,aa ω,aa ω]at ht;have n:=η ht;clear ht;have m:=g.alloc (.cells #[.int .i64 8] 3);have f:=h.alloc h.size (.cells #[.int .i64 8] 3)
     go_wp2_with (at_builtin;(refine bq .i64 w.heap.size 3 p 8 rfl (.tmp 16) (.tmp 17) _ rfl Tryz.underlying63 Hi.out B.out z.out y.out rfl m rfl (bT.lit .i64 wr [8] 3) ω ω f.size ?_)
                  intro o d4 C l b v)
     go_roundw
     case rel=>exact⟨k+1,d4,o,a,by go_num,rfl,by rw[n.out];exact l,f.grown b f.size λq j=>(g.2.lt j).1⟩
     case measure=>simp [intOf];omega
   · rw[aa ω,af ω]at ht;have n:=η ht;clear ht;have m:=g.alloc (.cells #[.int .i64 9] 3);have f:=h.alloc h.size (.cells #[.int .i64 9] 3)
     go_wp2_with (at_builtin;(refine bq .i64 w.heap.size 3 p 8 rfl (.tmp 22) (.tmp 23) _ rfl Tryz.underlying63 Hi.out B.out z.out y.out rfl m rfl (bT.lit .i64 wr [9] 3) ω ω f.size ?_)
                  intro o d4 C l b v)
     go_roundw
     case rel=>exact⟨k+1,d4,o,a,by go_num,rfl,by rw[n.out];exact l,f.grown b f.size λq j=>(g.2.lt j).1⟩
     case measure=>simp [intOf];omega
   rw[aa ω,aa ω,af ω]at ht;have n:=η ht;clear ht;have m:=g.alloc (.cells #[.int .i64 7] 3);have f:=h.alloc h.size (.cells #[.int .i64 7] 3)
   go_wp2_with (at_builtin;(refine bq .i64 w.heap.size 3 p 8 rfl (.tmp 6) (.tmp 7) _ rfl Tryz.underlying63 Hi.out B.out z.out y.out rfl m rfl (bT.lit .i64 wr [7] 3) ω ω f.size ?_)
                intro o d4 C l b v)
   go_roundw
   case rel=>exact⟨k+1,d4,o,a,by go_num,rfl,by rw[n.out];exact l,f.grown b f.size λq j=>(g.2.lt j).1⟩
   case measure=>simp [intOf];omega
 have E:Hid (k=288):=by show _=_;omega
 rw[aC (by rw[pT];omega)]at g;have O:¬(k:Int)<288:=ω;obtain⟨D,K⟩ :∃D,D=k:= ⟨_,rfl⟩;subst K;clear a I;go_wp2
 go_loopw [1,26] (a8x w A D c) (λ_ i _=>32-(intOf i).toNat)
 case atStart=>exact⟨0,0,none,aF _,rfl,rfl,ba.dN,g,by simp [ak],h⟩
 clear g h;obtain⟨k,d,A1,I,rfl,rfl,g,H,x,h⟩ :=hrel;by_cases a:k<32
 rotate_left
 · obtain rfl:k=32:=ω;rw[aC (by rw[AG];omega)]at g;go_wp2
   go_ret2
   have:=E.out;subst this;exact⟨A,c,A1,d,rfl,H,g,h⟩
 have L:(k:Int)<32/\(0:Int)<=k:=ω;have n:=η (Dg a);have m:=g.alloc (.cells #[.int .i64 5] 3);have u:=H.alloc (.cells #[.int .i64 5] 3);have f:=h.alloc h.size (.cells #[.int .i64 5] 3)
 go_wp2_with (at_builtin;(refine bq .i64 w.heap.size 3 p 8 rfl (.tmp 28) (.tmp 29) _ rfl Tryz.underlying63 Hi.out B.out z.out y.out rfl m rfl (bT.lit .i64 wr [5] 3) ω ω f.size ?_)
              intro o d4 C l b v)
 go_roundw
 case rel=>
  refine⟨k+1,d4,o,a,by go_num,rfl,by rw[n.out];exact l,u.grown b ?_,λq j e=> ?_,f.grown b f.size λq j=>(g.2.lt j).1⟩
  · cases N:ak A with
    | none=>exact .inr rfl
    | some q=>exact .inl λe=>x q e.symm N
  rcases v with h4 | h4
  · exact x q (by rw[<-h4];exact j) e
  have:=(u.2.lt e).2;rw[h4]at j;injection j with j;omega
 case measure=>simp [intOf];omega
section
variable {s t t':IS} {x y b:aj} {n m:Nat}
theorem IS.Ec (h:s.step.2=5):s.step.1=s:=by
 unfold IS.step at h⊢;have a:∀(s:IS) b,(s.emit b).2≠5:=λs b=>by unfold IS.emit;simp only;split <;> decide
 by_cases f:s.st=0
 · rw[af f]at h⊢;unfold IS.block at h⊢;revert h;repeat' split
   all_goals simp
 rw[aa f]at h⊢;by_cases e:s.st=1
 · rw[af e]at h⊢;unfold IS.size at h⊢;revert h;repeat' split
   all_goals simp
 rw[aa e]at h⊢;by_cases d:s.st=2
 · rw[af d]at h⊢;unfold IS.stored at h⊢;revert h;repeat' split
   · simp
   · simp
   intro h;exact absurd h (a _ _)
 rw[aa d]at h⊢;by_cases c:s.st=3
 · rw[af c]at h⊢;unfold IS.sizes at h⊢;revert h;repeat' split
   all_goals simp
 rw[aa c]at h⊢;by_cases h4:s.st=4
 · rw[af h4]at h⊢;unfold IS.heads at h⊢;revert h;repeat' split
   all_goals simp
 rw[aa h4]at h⊢;by_cases h5:s.st=5
 · rw[af h5]at h⊢;unfold IS.lengths IS.length IS.kG at h⊢;revert h;repeat' split
   all_goals simp
 rw[aa h5]at h⊢;by_cases h6:s.st=6
 · rw[af h6]at h⊢;unfold IS.token at h⊢;revert h;repeat' split
   all_goals first
    | (intro h;exact absurd h (a _ _))
    | simp
 rw[aa h6]at h⊢;by_cases h7:s.st=7
 · rw[af h7]at h⊢;unfold IS.bm IS.text at h⊢;revert h;repeat' split
   all_goals first
    | (intro h;exact absurd h (a _ _))
    | simp
 rw[aa h7]at h⊢
theorem JS (h:t.st=6):t.step=t.token:=by unfold IS.step;rw[aa ω,aa ω,aa ω,aa ω,aa ω,aa ω,af h]
theorem Db (h:t.st=7):t.step=t.bm:=by unfold IS.step;rw[aa ω,aa ω,aa ω,aa ω,aa ω,aa ω,aa ω,af h]
theorem qM (h:t.st=4):t.step=t.heads:=by unfold IS.step;rw[aa ω,aa ω,aa ω,aa ω,af h]
theorem AW (h:t.st=4) (b:t.lens.length<t.c2) (a:t.x.length<3):t.step.2=5:=by rw[qM h,IS.heads,af b,af a]
theorem AX (h:t.st=4) (b:t.lens.length<t.c2) (a:¬t.x.length<3):t.step=({ t with x:=t.x.drop 3,lens:=t.lens++[(num t.x 3:Int)] },0):=by rw[qM h,IS.heads,af b,aa a]
theorem Dr (h:t.st=4) (b:¬t.lens.length<t.c2) (a:bg (iK t.lens) 7≠0\/gU t.lens=true):t.step=(t,3):=by rw[qM h,IS.heads,aa b,af a]
theorem IC (h:t.st=4) (b:¬t.lens.length<t.c2) (a:¬(bg (iK t.lens) 7≠0\/gU t.lens=true)):t.step=({ t with hd:=iK t.lens,lens:=[],st:=5 },0):=by rw[qM h,IS.heads,aa b,aa a]
def hF (l:aj) (i p:Nat):Value:= .int .i64 (if lD.idxOf p<i then ix l (lD.idxOf p)else 0)
theorem NN (l:aj) (p:Nat):Value.int .i64 0=hF l 0 p:=by unfold hF;rw[aa (jw _)]
theorem ZF:∀i,i<19->∀p,p<19->(lD.idxOf p=i↔p=lD.getD i 0):=by decide+kernel
theorem NR:∀i,i<19->lD.getD i 0<19:=by decide+kernel
theorem NM {l:aj} {i:Nat} (hi:i<19) {p:Nat} (hp:p<19):upd (hF l i) (lD.getD i 0) (.int .i64 (ix l i)) p=hF l (i+1) p:=by
 have h:=ZF i hi p hp;by_cases e:p=lD.getD i 0
 · rw[<-e,upd_same];unfold hF;rw[h.2 e,af ω]
 rw[dx _ _ e];have:lD.idxOf p≠i:=λb=>e (h.1 b);unfold hF;by_cases a:lD.idxOf p<i
 · rw[af a,af ω]
 rw[aa a,aa ω]
theorem Ur {l:aj} {p:Nat} (hp:p<19):hF l l.length p= .int .i64 (ix (iK l) p):=by
 unfold hF;have e:ix (iK l) p=ix l (lD.idxOf p):=by simp [ix,iK,hp]
 rw[e];split
 · rfl
 congr 1;unfold ix;rw[aq,bw ω];rfl
theorem Ml {l:aj} {i:Nat} (hi:i<l.length):gU (l.take (i+1))=(gU (l.take i)&&(ix l i==0)):=by
 unfold gU;rw[bb hi,List.all_append];simp [ix,hi]
theorem J1 (h:t.st=5) (a:t.lens.length<t.c0+t.c1):t.step=t.length:=by unfold IS.step;rw[aa ω,aa ω,aa ω,aa ω,aa ω,af h];unfold IS.lengths;rw[af a]
theorem GY (a:Addr) {k:Nat} (h:k≠0):a.add k= ⟨a.block,a.off+k,none⟩ :=by unfold Addr.add;rw[aa h]
theorem J6 (h:t.st=5) (a:¬t.lens.length<t.c0+t.c1):t.step=if bg (t.lens.take t.c0) 15≠0\/bg (t.lens.drop t.c0) 15≠0\/ix t.lens 256=0 then(t,3)else({ t with lt:=t.lens.take t.c0,ds:=t.lens.drop t.c0,st:=6 },0):=by
 unfold IS.step;rw[aa ω,aa ω,aa ω,aa ω,aa ω,af h];unfold IS.lengths;rw[aa a]
def TL (F:IS×Int):Int:=if F.2=8 then 0 else F.2
end
def oI (y x:aj):Prop:=∃k,y=x.drop k
theorem oI.refl (x:aj):oI x x:= ⟨0,rfl⟩
theorem oI.drop {y x:aj} (h:oI y x) (n:Nat):oI (y.drop n) x:=by
 obtain⟨k,rfl⟩ :=h;exact⟨k+n,by rw[bn]⟩
theorem oI.trans {z y x:aj} (h:oI z y) (a:oI y x):oI z x:=by
 obtain⟨k,rfl⟩ :=h;exact a.drop k
theorem Jg (s:IS):oI s.over.x s.x:=by
 unfold IS.over;split
 · exact(oI.refl _).drop _
 exact oI.refl _
theorem AA (s:IS) (b x:aj) (h:oI s.x x):oI (s.emit b).1.x x:=h
theorem Pp (s:IS):oI s.block.1.x s.x:=by
 unfold IS.block
 repeat' split
 all_goals first | exact oI.refl _ | exact(oI.refl _).drop _ | exact((oI.refl _).drop 3).drop _
theorem Xa (s:IS):oI s.size.1.x s.x:=by
 unfold IS.size
 repeat' split
 all_goals first | exact oI.refl _ | exact(oI.refl _).drop _
theorem MP (s:IS):oI s.stored.1.x s.x:=by
 unfold IS.stored
 repeat' split
 all_goals first | exact Jg s | exact oI.refl _ | exact AA _ _ _ ((oI.refl _).drop 8)
theorem Rq (s:IS):oI s.sizes.1.x s.x:=by
 unfold IS.sizes
 repeat' split
 all_goals first | exact oI.refl _ | exact(oI.refl _).drop _
theorem Ql (s:IS):oI s.heads.1.x s.x:=by
 unfold IS.heads
 repeat' split
 all_goals first | exact oI.refl _ | exact(oI.refl _).drop _
theorem J2 (s:IS):oI s.lengths.1.x s.x:=by
 unfold IS.lengths IS.length IS.kG
 repeat' split
 all_goals first | exact oI.refl _ | exact(oI.refl _).drop _ | exact((oI.refl _).drop _).drop _
theorem RB (s:IS):oI s.token.1.x s.x:=by
 unfold IS.token
 repeat' split
 all_goals first | exact oI.refl _ | exact AA _ _ _ ((oI.refl _).drop _) | exact(Jg _).trans ((oI.refl _).drop _) | exact((oI.refl _).drop _).drop _
theorem TE (s:IS):oI s.bm.1.x s.x:=by
 unfold IS.bm IS.text
 repeat' split
 all_goals first | exact oI.refl _ | exact AA _ _ _ (((oI.refl _).drop _).drop _)
theorem JH (s:IS):oI s.step.1.x s.x:=by
 unfold IS.step;by_cases d:s.st=0
 · rw[af d];exact Pp s
 rw[aa d];by_cases c:s.st=1
 · rw[af c];exact Xa s
 rw[aa c];by_cases b:s.st=2
 · rw[af b];exact MP s
 rw[aa b];by_cases a:s.st=3
 · rw[af a];exact Rq s
 rw[aa a];by_cases h4:s.st=4
 · rw[af h4];exact Ql s
 rw[aa h4];by_cases h5:s.st=5
 · rw[af h5];exact J2 s
 rw[aa h5];by_cases h6:s.st=6
 · rw[af h6];exact RB s
 rw[aa h6];by_cases h7:s.st=7
 · rw[af h7];exact TE s
 rw[aa h7];exact oI.refl _
theorem Zb (s:IS):oI s.fin.1.x s.x:=by
 obtain⟨t,b,a⟩ :=IS.mH s;rw[<-a];refine(JH t).trans ?_;clear a;induction b with
 | refl=>exact oI.refl _
 | tail _ _ ih=>exact(JH _).trans ih
theorem I5 {b:aj} {m:Nat} (f:(start (gK b) m).fin.2=8):(start (gK b) m).fin.1.x.length/8<=b.length/\gK (b.drop (b.length-(start (gK b) m).fin.1.x.length/8))=(start (gK b) m).fin.1.x:=by
 obtain⟨k,a⟩ :=Zb (start (gK b) m);have e:(start (gK b) m).x=gK b:=rfl;rw[e]at a;obtain⟨t,i,d⟩ :=IS.mH (start (gK b) m);have g:t.step.2=8:=by rw[d];exact f
 obtain⟨h4,y,w,v,u,s,r,q,p⟩ :=IS.step_done g;have hO:t.Ok:=(IS.Ok.start (dO.gK b) m).steps i;have l:(start (gK b) m).fin.1=t:=by rw[<-d];exact h4
 have c:t.st=8:=by have:=hO.st8;omega
 have o:=hO.even (.inr (.inr c));rw[l]at a⊢;have n:t.x.length=8*b.length-k:=by rw[a,az,eT]
 refine⟨ω, ?_⟩;rw[zY];by_cases h:k<=8*b.length
 · rw[a];congr 1;rw[<-a];omega
 have j:t.x=[]:=aG ω;rw[j];exact dP (by rw[eT];simp)
theorem TV {x y:aj} {M m:Nat} {t:IS} (h:(start x M).fin=(t,8)) (f:t.all.length<=m) (g:y.length%8=0):∃d,(start (x++y) m).fin=(d,8)/\d.all=t.all/\d.x=t.x++y:=by
 obtain⟨a,e,ht⟩ :=IS.mH (start x M);have k:a.step.2=8:=by rw[ht,h]
 obtain⟨n,w,v,u,s,r,q,p,o⟩ :=IS.step_done k;have z:a=t:=by rw[h]at ht;rw[<-n,ht]
 subst z;obtain⟨l,c,A⟩ :=e.out;have c:a.all=[]++l:=c;have i:IS.Steps (start x m) (a.cap (m-l.length)):=(e.cap l c m).1 (by rw[c]at f;simpa using f);have j:IS.Steps (start (x++y) m) ((a.cap (m-l.length)).app y):=i.app g
 have b:((a.cap (m-l.length)).app y).step=((a.cap (m-l.length)).app y,8):=by
  unfold IS.step IS.cap IS.app;simp only [if_neg w,if_neg v,if_neg u,if_neg s,if_neg r,if_neg q,if_neg p,if_neg o]
 refine⟨(a.cap (m-l.length)).app y, ?_,rfl,rfl⟩;rw[<-j.mG,IS.iA (by rw[b];simp),b]
structure GW (B X:aj):Prop where
 fin:∃t,(start B 16777216).fin=(t,8)/\t.x=[]/\t.all=X
 ev:B.length%8=0
 bit:dO B
structure RM where
 Ao:ay
 no:Nat
 co:Nat
 out:aj
 E:Int
 rest:Int
 Ak:ay
 nk:Nat
 ck:Nat
 kinds:aj
 As:ay
 ns:Nat
 cs:Nat
 stops:aj
 Ab:ay
 nb:Nat
 cb:Nat
 X:aj
 at_:Nat
 most:Int
 Al:Value
 Ad:Value
 Ce:Value
 CS:Value
 At:ay
 nt:Nat
 ct:Nat
 au:List cy
def sF (R:RM):Nat->Value
 | 0=> .slice R.Ao R.no R.co
 | 1=> .int .i64 R.E
 | 2=> .int .i64 R.rest
 | 3=> .slice R.Ak R.nk R.ck
 | 4=> .slice R.As R.ns R.cs
 | 5=> .slice R.Ab R.nb R.cb
 | 6=> .int .i64 (R.at_:Nat)
 | 7=> .int .i64 R.most
 | 8=>R.Al
 | 9=>R.Ad
 | 10=>R.Ce
 | 11=>R.CS
 | _=> .slice R.At R.nt R.ct
theorem fR {P:Nat->Prop} (k:P 0) (i:P 1) (g:P 2) (f:P 3) (h4:P 4) (h5:P 5) (h6:P 6) (h7:P 7) (e:P 8) (d:P 9) (b:P 10) (a:P 11) (h:P 12):∀j,j<13->P j:=λj c=>by
 obtain rfl | rfl | rfl | rfl | rfl | rfl | rfl | rfl | rfl | rfl | rfl | rfl | rfl:j=0\/j=1\/j=2\/j=3\/j=4\/j=5\/j=6\/j=7\/j=8\/j=9\/j=10\/j=11\/j=12:=ω;all_goals assumption
theorem bk.WB {w w':World} {S:Nat->Prop} {b0 n c:Nat} {A:ay} {l:List cy} (h:bk w w' S) (a:kh w b0 A n c l) (b:∀g,ak A=some g->¬S g):kh w' b0 A n c l:= ⟨a.1,h.own a.2 b⟩
structure il (w:World) (b0 g:Nat) (c:Nat->Nat) (R:RM):Prop where
 cell:Ar w g 13 (sF R)
 cg:c g=1
 out:ba .u8 w b0 5 R.Ao R.no R.co R.out
 cout:∀k,ak R.Ao=some k->c k=2
 kinds:ba .i64 w b0 3 R.Ak R.nk R.ck R.kinds
 lS:∀k,ak R.Ak=some k->c k=3
 stops:ba .i64 w b0 3 R.As R.ns R.cs R.stops
 lV:∀k,ak R.As=some k->c k=4
 au:kh w b0 R.At R.nt R.ct R.au
 oU:∀k,ak R.At=some k->c k=5
 bits:ba .u8 w b0 5 R.Ab R.nb R.cb R.X
 rG:∀k,ak R.Ab=some k->c k=6
 cb:∀k,c k≠0->b0<=k/\k<w.heap.size
def bV (w0:World) (c0:Nat->Nat) (w:World) (b0 g:Nat) (R:RM):Prop:=∃c,il w b0 g c R/\DE b0 w0 c0 w c
section
variable {w w' w0:World} {b0 g:Nat} {c c0:Nat->Nat} {R R':RM}
theorem il.refl (h:il w b0 g c R):bV w c w b0 g R:= ⟨c,h,ax _ _,bk.refl _ _,λ_ _=>rfl⟩
theorem il.lo (h:il w b0 g c R):b0<=w.heap.size:=by have:=h.cb g (by rw[h.cg];decide);omega
theorem bV.fo (a:il w b0 g c R) (hd:DE b0 w0 c0 w c) (h:bV w c w' b0 g R'):bV w0 c0 w' b0 g R':=by
 obtain⟨c',e,b⟩ :=h;exact⟨c',e,hd.step a.lo (λk d=>(a.cb k d).1) b.2.1 b.2.2⟩
theorem il.aside {F:Nat->Prop} (h:il w b0 g c R) (b:bk w w' F) (hF:∀k,F k->c k=0):il w' b0 g c R:=
 ⟨b.ar h.cell (λe=>by have:=hF g e;have:=h.cg;omega),h.cg,b.dX h.out (λk a e=>by have:=hF k e;have:=h.cout k a;omega),h.cout,
   b.dX h.kinds (λk a e=>by have:=hF k e;have:=h.lS k a;omega),h.lS,
   b.dX h.stops (λk a e=>by have:=hF k e;have:=h.lV k a;omega),h.lV,
   b.WB h.au (λk a e=>by have:=hF k e;have:=h.oU k a;omega),h.oU,
   b.dX h.bits (λk a e=>by have:=hF k e;have:=h.rG k a;omega),h.rG,
   λk a=> ⟨(h.cb k a).1,aB (h.cb k a).2 b.size⟩⟩
theorem il.keeps (h:il w b0 g c R) (b:Below w.heap.size w w'):il w' b0 g c R:=h.aside (F:=λ_=>False) (bk.bJ b) (λk a=>a.elim)
theorem il.put (h:il w b0 g c R) {i:Nat} (hi:i<13) (v:Value) (R':RM) (hF:∀j,j<13->upd (sF R) i v j=sF R' j) (d:R'={ R with E:=R'.E,rest:=R'.rest,at_:=R'.at_,most:=R'.most,Al:=R'.Al,Ad:=R'.Ad,Ce:=R'.Ce,CS:=R'.CS }):il (w.setCell ⟨g,i,none⟩ v) b0 g c R':=by
 have b:bk w (w.setCell ⟨g,i,none⟩ v) (λk=>k=g):=(bk.refl w (λk=>k=g)).setCell (p:= ⟨g,i,none⟩) (.inl rfl) v;refine⟨(h.cell.bK hi v).congr hF,h.cg, ?_, ?_, ?_, ?_, ?_, ?_, ?_, ?_, ?_, ?_,λk a=> ⟨(h.cb k a).1,aB (h.cb k a).2 b.size⟩⟩;all_goals rw[d]
 · exact b.dX h.out (λk a e=>by have:=h.cout k a;have:=h.cg;subst e;omega)
 · exact h.cout
 · exact b.dX h.kinds (λk a e=>by have:=h.lS k a;have:=h.cg;subst e;omega)
 · exact h.lS
 · exact b.dX h.stops (λk a e=>by have:=h.lV k a;have:=h.cg;subst e;omega)
 · exact h.lV
 · exact b.WB h.au (λk a e=>by have:=h.oU k a;have:=h.cg;subst e;omega)
 · exact h.oU
 · exact b.dX h.bits (λk a e=>by have:=h.rG k a;have:=h.cg;subst e;omega)
 exact h.rG
theorem il.a4u (h:il w b0 g c R) {A':ay} {n' c':Nat} {l':aj} (l:bk w w' (λk=>k=g\/ak R.Ao=some k)) (o:Ar w' g 13 (sF { R with Ao:=A',no:=n',co:=c',out:=l' })) (n:ba .u8 w' b0 5 A' n' c' l')
  (hf:∀k,ak A'=some k->ak R.Ao=some k\/w.heap.size<=k):
  il w' b0 g (cW c w.heap.size (λk=>ak A'=some k) 2) { R with Ao:=A',no:=n',co:=c',out:=l' }:=by
 have hF:∀k,(k=g\/ak R.Ao=some k)->c k=1\/c k=2:=λk a=>by
  rcases a with rfl | a
  · exact .inl h.cg
  exact .inr (h.cout k a)
 have m:∀k i,c k=i->i≠0->k<w.heap.size:=λk i d b=>(h.cb k ω).2;have j:∀k,k<w.heap.size->cW c w.heap.size (λk=>ak A'=some k) 2 k=c k:=λk a=>cC a;have f:∀k i,c k=i->i≠0->cW c w.heap.size (λk=>ak A'=some k) 2 k=i:=λk i d b=>(j k (m k i d b)).trans d
 exact⟨o,f _ _ h.cg δ,
  n,λk a=>by
   rcases aV k w.heap.size with d | d
   · rcases hf k a with b | b
     · exact f k 2 (h.cout k b) δ
     omega
   exact fO d a,
  l.dX h.kinds (λk a e=>by have:=hF k e;have:=h.lS k a;omega),λk a=>f k 3 (h.lS k a) δ,
  l.dX h.stops (λk a e=>by have:=hF k e;have:=h.lV k a;omega),λk a=>f k 4 (h.lV k a) δ,
  l.WB h.au (λk a e=>by have:=hF k e;have:=h.oU k a;omega),λk a=>f k 5 (h.oU k a) δ,
  l.dX h.bits (λk a e=>by have:=hF k e;have:=h.rG k a;omega),λk a=>f k 6 (h.rG k a) δ,
  λk a=>by
   rcases gq a with ⟨d,b⟩ | ⟨d,b⟩
   · exact⟨(h.cb k b).1,aB d l.size⟩
   exact n.2.lt b⟩
theorem bV.a4u (h:bV w0 c0 w b0 g R) {A':ay} {n' c':Nat} {l':aj} (b:bk w w' (λk=>k=g\/ak R.Ao=some k)) (e:Ar w' g 13 (sF { R with Ao:=A',no:=n',co:=c',out:=l' })) (d:ba .u8 w' b0 5 A' n' c' l')
  (hf:∀k,ak A'=some k->ak R.Ao=some k\/w.heap.size<=k):bV w0 c0 w' b0 g { R with Ao:=A',no:=n',co:=c',out:=l' }:=by
 obtain⟨c,h,hd⟩ :=h
 exact⟨_,h.a4u b e d hf,hd.step h.lo (λk a=>(h.cb k a).1) (b.more λk a=>by
  rcases a with rfl | a
  · rw[h.cg];decide
  rw[h.cout k a];decide) λk a=>cC a⟩
theorem il.Mj (h:il w b0 g c R) {A':ay} {n' c':Nat} {l':aj} (l:bk w w' (λk=>k=g\/ak R.Ak=some k)) (o:Ar w' g 13 (sF { R with Ak:=A',nk:=n',ck:=c',kinds:=l' })) (n:ba .i64 w' b0 3 A' n' c' l')
  (hf:∀k,ak A'=some k->ak R.Ak=some k\/w.heap.size<=k):
  il w' b0 g (cW c w.heap.size (λk=>ak A'=some k) 3) { R with Ak:=A',nk:=n',ck:=c',kinds:=l' }:=by
 have hF:∀k,(k=g\/ak R.Ak=some k)->c k=1\/c k=3:=λk a=>by
  rcases a with rfl | a
  · exact .inl h.cg
  exact .inr (h.lS k a)
 have m:∀k i,c k=i->i≠0->k<w.heap.size:=λk i d b=>(h.cb k ω).2;have j:∀k,k<w.heap.size->cW c w.heap.size (λk=>ak A'=some k) 3 k=c k:=λk a=>cC a;have f:∀k i,c k=i->i≠0->cW c w.heap.size (λk=>ak A'=some k) 3 k=i:=λk i d b=>(j k (m k i d b)).trans d
 exact⟨o,f _ _ h.cg δ,
  l.dX h.out (λk a e=>by have:=hF k e;have:=h.cout k a;omega),λk a=>f k 2 (h.cout k a) δ,
  n,λk a=>by
   rcases aV k w.heap.size with d | d
   · rcases hf k a with b | b
     · exact f k 3 (h.lS k b) δ
     omega
   exact fO d a,
  l.dX h.stops (λk a e=>by have:=hF k e;have:=h.lV k a;omega),λk a=>f k 4 (h.lV k a) δ,
  l.WB h.au (λk a e=>by have:=hF k e;have:=h.oU k a;omega),λk a=>f k 5 (h.oU k a) δ,
  l.dX h.bits (λk a e=>by have:=hF k e;have:=h.rG k a;omega),λk a=>f k 6 (h.rG k a) δ,
  λk a=>by
   rcases gq a with ⟨d,b⟩ | ⟨d,b⟩
   · exact⟨(h.cb k b).1,aB d l.size⟩
   exact n.2.lt b⟩
theorem bV.Mj (h:bV w0 c0 w b0 g R) {A':ay} {n' c':Nat} {l':aj} (b:bk w w' (λk=>k=g\/ak R.Ak=some k)) (e:Ar w' g 13 (sF { R with Ak:=A',nk:=n',ck:=c',kinds:=l' })) (d:ba .i64 w' b0 3 A' n' c' l')
  (hf:∀k,ak A'=some k->ak R.Ak=some k\/w.heap.size<=k):bV w0 c0 w' b0 g { R with Ak:=A',nk:=n',ck:=c',kinds:=l' }:=by
 obtain⟨c,h,hd⟩ :=h
 exact⟨_,h.Mj b e d hf,hd.step h.lo (λk a=>(h.cb k a).1) (b.more λk a=>by
  rcases a with rfl | a
  · rw[h.cg];decide
  rw[h.lS k a];decide) λk a=>cC a⟩
theorem il.Mm (h:il w b0 g c R) {A':ay} {n' c':Nat} {l':aj} (l:bk w w' (λk=>k=g\/ak R.As=some k)) (o:Ar w' g 13 (sF { R with As:=A',ns:=n',cs:=c',stops:=l' })) (n:ba .i64 w' b0 3 A' n' c' l')
  (hf:∀k,ak A'=some k->ak R.As=some k\/w.heap.size<=k):
  il w' b0 g (cW c w.heap.size (λk=>ak A'=some k) 4) { R with As:=A',ns:=n',cs:=c',stops:=l' }:=by
 have hF:∀k,(k=g\/ak R.As=some k)->c k=1\/c k=4:=λk a=>by
  rcases a with rfl | a
  · exact .inl h.cg
  exact .inr (h.lV k a)
 have m:∀k i,c k=i->i≠0->k<w.heap.size:=λk i d b=>(h.cb k ω).2;have j:∀k,k<w.heap.size->cW c w.heap.size (λk=>ak A'=some k) 4 k=c k:=λk a=>cC a;have f:∀k i,c k=i->i≠0->cW c w.heap.size (λk=>ak A'=some k) 4 k=i:=λk i d b=>(j k (m k i d b)).trans d
 exact⟨o,f _ _ h.cg δ,
  l.dX h.out (λk a e=>by have:=hF k e;have:=h.cout k a;omega),λk a=>f k 2 (h.cout k a) δ,
  l.dX h.kinds (λk a e=>by have:=hF k e;have:=h.lS k a;omega),λk a=>f k 3 (h.lS k a) δ,
  n,λk a=>by
   rcases aV k w.heap.size with d | d
   · rcases hf k a with b | b
     · exact f k 4 (h.lV k b) δ
     omega
   exact fO d a,
  l.WB h.au (λk a e=>by have:=hF k e;have:=h.oU k a;omega),λk a=>f k 5 (h.oU k a) δ,
  l.dX h.bits (λk a e=>by have:=hF k e;have:=h.rG k a;omega),λk a=>f k 6 (h.rG k a) δ,
  λk a=>by
   rcases gq a with ⟨d,b⟩ | ⟨d,b⟩
   · exact⟨(h.cb k b).1,aB d l.size⟩
   exact n.2.lt b⟩
theorem bV.Mm (h:bV w0 c0 w b0 g R) {A':ay} {n' c':Nat} {l':aj} (b:bk w w' (λk=>k=g\/ak R.As=some k)) (e:Ar w' g 13 (sF { R with As:=A',ns:=n',cs:=c',stops:=l' })) (d:ba .i64 w' b0 3 A' n' c' l')
  (hf:∀k,ak A'=some k->ak R.As=some k\/w.heap.size<=k):bV w0 c0 w' b0 g { R with As:=A',ns:=n',cs:=c',stops:=l' }:=by
 obtain⟨c,h,hd⟩ :=h
 exact⟨_,h.Mm b e d hf,hd.step h.lo (λk a=>(h.cb k a).1) (b.more λk a=>by
  rcases a with rfl | a
  · rw[h.cg];decide
  rw[h.lV k a];decide) λk a=>cC a⟩
theorem il.Wj (h:il w b0 g c R) {A':ay} {n' c':Nat} {l':List cy} (l:bk w w' (λk=>k=g\/ak R.At=some k)) (o:Ar w' g 13 (sF { R with At:=A',nt:=n',ct:=c',au:=l' })) (n:kh w' b0 A' n' c' l')
  (hf:∀k,ak A'=some k->ak R.At=some k\/w.heap.size<=k):
  il w' b0 g (cW c w.heap.size (λk=>ak A'=some k) 5) { R with At:=A',nt:=n',ct:=c',au:=l' }:=by
 have hF:∀k,(k=g\/ak R.At=some k)->c k=1\/c k=5:=λk a=>by
  rcases a with rfl | a
  · exact .inl h.cg
  exact .inr (h.oU k a)
 have m:∀k i,c k=i->i≠0->k<w.heap.size:=λk i d b=>(h.cb k ω).2;have j:∀k,k<w.heap.size->cW c w.heap.size (λk=>ak A'=some k) 5 k=c k:=λk a=>cC a;have f:∀k i,c k=i->i≠0->cW c w.heap.size (λk=>ak A'=some k) 5 k=i:=λk i d b=>(j k (m k i d b)).trans d
 exact⟨o,f _ _ h.cg δ,
  l.dX h.out (λk a e=>by have:=hF k e;have:=h.cout k a;omega),λk a=>f k 2 (h.cout k a) δ,
  l.dX h.kinds (λk a e=>by have:=hF k e;have:=h.lS k a;omega),λk a=>f k 3 (h.lS k a) δ,
  l.dX h.stops (λk a e=>by have:=hF k e;have:=h.lV k a;omega),λk a=>f k 4 (h.lV k a) δ,
  n,λk a=>by
   rcases aV k w.heap.size with d | d
   · rcases hf k a with b | b
     · exact f k 5 (h.oU k b) δ
     omega
   exact fO d a,
  l.dX h.bits (λk a e=>by have:=hF k e;have:=h.rG k a;omega),λk a=>f k 6 (h.rG k a) δ,
  λk a=>by
   rcases gq a with ⟨d,b⟩ | ⟨d,b⟩
   · exact⟨(h.cb k b).1,aB d l.size⟩
   exact n.2.lt b⟩
theorem bV.Wj (h:bV w0 c0 w b0 g R) {A':ay} {n' c':Nat} {l':List cy} (b:bk w w' (λk=>k=g\/ak R.At=some k)) (e:Ar w' g 13 (sF { R with At:=A',nt:=n',ct:=c',au:=l' })) (d:kh w' b0 A' n' c' l')
  (hf:∀k,ak A'=some k->ak R.At=some k\/w.heap.size<=k):bV w0 c0 w' b0 g { R with At:=A',nt:=n',ct:=c',au:=l' }:=by
 obtain⟨c,h,hd⟩ :=h
 exact⟨_,h.Wj b e d hf,hd.step h.lo (λk a=>(h.cb k a).1) (b.more λk a=>by
  rcases a with rfl | a
  · rw[h.cg];decide
  rw[h.oU k a];decide) λk a=>cC a⟩
theorem bV.keeps (h:bV w0 c0 w b0 g R) (b:Below w.heap.size w w'):bV w0 c0 w' b0 g R:=by
 obtain⟨c,h,hd⟩ :=h;exact⟨c,h.keeps b,hd.step h.lo (λk a=>(h.cb k a).1) (bk.bJ b) λk a=>rfl⟩
theorem bV.drew (h:bV w0 c0 w b0 g R):bV w0 c0 w.drew b0 g R:=h.keeps (ax _ _).drew
theorem bV.put (h:bV w0 c0 w b0 g R) {i:Nat} (hi:i<13) (v:Value) (R':RM) (hF:∀j,j<13->upd (sF R) i v j=sF R' j) (b:R'={ R with E:=R'.E,rest:=R'.rest,at_:=R'.at_,most:=R'.most,Al:=R'.Al,Ad:=R'.Ad,Ce:=R'.Ce,CS:=R'.CS }):bV w0 c0 (w.setCell ⟨g,i,none⟩ v) b0 g R':=by
 obtain⟨c,h,hd⟩ :=h;exact⟨c,h.put hi v R' hF b,hd.step h.lo (λk a=>(h.cb k a).1) ((bk.refl w (λk=>c k≠0)).setCell (p:= ⟨g,i,none⟩) (.inl (by rw[h.cg];decide)) v) λk a=>rfl⟩
theorem bV.cell (h:bV w0 c0 w b0 g R):Ar w g 13 (sF R):=by obtain⟨c,h,hd⟩ :=h;exact h.cell
theorem bV.out (h:bV w0 c0 w b0 g R):ba .u8 w b0 5 R.Ao R.no R.co R.out:=by obtain⟨c,h,hd⟩ :=h;exact h.out
theorem bV.kinds (h:bV w0 c0 w b0 g R):ba .i64 w b0 3 R.Ak R.nk R.ck R.kinds:=by obtain⟨c,h,hd⟩ :=h;exact h.kinds
theorem bV.au (h:bV w0 c0 w b0 g R):kh w b0 R.At R.nt R.ct R.au:=by obtain⟨c,h,hd⟩ :=h;exact h.au
theorem bV.bits (h:bV w0 c0 w b0 g R):ba .u8 w b0 5 R.Ab R.nb R.cb R.X:=by obtain⟨c,h,hd⟩ :=h;exact h.bits
theorem bV.lo (h:bV w0 c0 w b0 g R):b0<=w.heap.size:=by obtain⟨c,h,hd⟩ :=h;exact h.lo
theorem bV.apart (h:bV w0 c0 w b0 g R):ak R.Ao≠some g/\ak R.Ak≠some g/\ak R.As≠some g/\ak R.At≠some g:=by
 obtain⟨c,h,hd⟩ :=h;have a:=h.cg;exact⟨λe=>τ (h.cout g e),λe=>τ (h.lS g e),λe=>τ (h.lV g e),λe=>τ (h.oU g e)⟩
theorem bV.aside (h:bV w0 c0 w b0 g R):bk w0 w (λk=>c0 k≠0)/\Below b0 w0 w:=by obtain⟨c,h,hd⟩ :=h;exact⟨hd.2.1,hd.1⟩
theorem bV.cells (h:bV w0 c0 w b0 g R):w.cell? ⟨g,0,none⟩ =some (.slice R.Ao R.no R.co)/\w.cell? ⟨g,1,none⟩ =some (.int .i64 R.E)/\w.cell? ⟨g,2,none⟩ =some (.int .i64 R.rest)/\w.cell? ⟨g,3,none⟩ =some (.slice R.Ak R.nk R.ck)/\w.cell? ⟨g,4,none⟩ =some (.slice R.As R.ns R.cs)/\w.cell? ⟨g,5,none⟩ =some (.slice R.Ab R.nb R.cb)/\
  w.cell? ⟨g,6,none⟩ =some (.int .i64 (R.at_:Nat))/\w.cell? ⟨g,7,none⟩ =some (.int .i64 R.most)/\w.cell? ⟨g,8,none⟩ =some R.Al/\w.cell? ⟨g,9,none⟩ =some R.Ad/\w.cell? ⟨g,10,none⟩ =some R.Ce/\w.cell? ⟨g,11,none⟩ =some R.CS/\w.cell? ⟨g,12,none⟩ =some (.slice R.At R.nt R.ct):=by
 have k:=h.cell;exact⟨k.cell (i:=0) ω,k.cell (i:=1) ω,k.cell (i:=2) ω,k.cell (i:=3) ω,k.cell (i:=4) ω,k.cell (i:=5) ω,k.cell (i:=6) ω,k.cell (i:=7) ω,k.cell (i:=8) ω,k.cell (i:=9) ω,k.cell (i:=10) ω,k.cell (i:=11) ω,k.cell (i:=12) ω⟩
end
theorem ux:(Tryz.prog.info? 5).map (λi=>(i.zero,i.size,i.bytes))=some (some (.int .u8 0),1,1):=by kernel_rfl
def a2p (w:World) (L:aj) (e:Ending) (w':World):Prop:=
 ∃A n c,e= .returned (.slice A n c)/\ba .u8 w' w.heap.size 5 A n c L/\Below w.heap.size w w'
def Yo (w:World) (b:aj) (n:Nat) (o i:Value) (wr:World):Prop:=
 ∃(k m d:Nat) (A:ay),k<=n/\i= .int .i64 k/\Hid (m=8*k)/\o= .slice A m d/\ba .u8 wr w.heap.size 5 A m d (gK (b.take k))/\Below w.heap.size w wr
def a2d (w:World) (b:aj) (a:Nat) (o j:Value) (wr:World):Prop:=
 ∃(k m d:Nat) (A:ay),k<=8/\j= .int .i64 k/\Hid (m=8*a+k)/\o= .slice A m d/\ba .u8 wr w.heap.size 5 A m d (gK (b.take a)++dw (ix b a) k)/\Below w.heap.size w wr
theorem Tm (w:World) (B n c:Nat) (A:ay) (b:aj) (G:bT .u8 w B A n b) (hB:B<=w.heap.size) (v:∀x∈b,0<=x/\x<256) (X:(n:Int)<=100000000000):Calls Tryz.prog 49 #[.slice A n c] w (a2p w (gK b)):=by
 obtain⟨K,hi,l,h,g⟩ :=aL ux;have Hi:=η hi;have S:=η l;have R:=η h;have Q:=η g;clear hi l h g;have J:=η G.1;go_enter Tryz.func49,Tryz.ntmps49;go_wp2
 go_loopw [3,4] (Yo w b n) (λ_ i _=>n-(intOf i).toNat)
 case atStart=>exact⟨0,0,0,none,aF _,rfl,rfl,rfl,ba.dN,ax _ _⟩
 obtain⟨k,m,d,A1,hk,rfl,U,rfl,a,e⟩ :=hrel;by_cases f:k<n
 rotate_left
 · obtain rfl:n=k:=ω;have D:Hid (b.take n=b):=by show _=_;rw[J.out,List.take_length]
   go_wp2;go_ret;exact⟨A1,m,d,rfl,by rw[D.out]at a;exact a,e⟩
 have Z:(k:Int)<(n:Int)/\(0:Int)<=k:=ω;obtain⟨E,s⟩ :∃E:World,E=wr:= ⟨_,rfl⟩;subst s
 go_wp2_with fail
 go_loopw [3,5] (a2d w b k) (λ_ j _=>8-(intOf j).toNat)
 case atStart=>exact⟨0,m,d,A1,aF _,rfl,U,rfl,by rw[show dw (ix b k) 0=[] from rfl,aA];exact a,e⟩
 clear a e;obtain⟨j,m2,d2,A2,hj,rfl,C,rfl,a,e⟩ :=hrel;by_cases t:j<8
 rotate_left
 · obtain rfl:j=8:=ω
   have D:Hid (gK (b.take (k+1))=gK (b.take k)++dw (ix b k) 8):=by
    show _=_;have H:k<b.length:=by rw[<-J.out];exact f
    rw[bb H,uq];congr 1;simp [gK,ix,H]
   go_wp2;go_roundw
   case rel=>exact⟨k+1,m2,d2,A2,f,by go_num,by have:=C.out;show _=_;omega,rfl,by rw[D.out];exact a,e⟩
   case measure=>simp [intOf];omega
 have Y9:(j:Int)<8/\(0:Int)<=j:=ω;obtain⟨P,rfl,O,c1⟩ :=G.at_ f;have c2:=(e.cell (p:=P.add k) (by rw[bG];omega)).trans c1;obtain⟨x,r⟩ :=ν (ix b k);have F:=Od v k;rw[r]at c2 F a;have I:Hid (dw x (j+1)=dw x j++[x/2 ^ j%2]):=Wp x j;have T:=η r;obtain⟨y,o⟩ :=ν (x/2 ^ j%2);have Y:m2<=900000000000:=by have:=C.out;omega
 have e0:(j:Int)%18446744073709551616=(j:Int):=ω;have N:=a.alloc (.cells #[.int .u8 y] 5);have z:=e.alloc e.size (.cells #[.int .u8 y] 5);rw[o]at I;have e1:(x/2 ^ j).tmod 2=y:=by rw[eM (Int.ediv_nonneg F.1 (Int.le_of_lt (two_pos j))),o]
 clear o;clear r c1
 go_wp2_with (at_builtin;(refine bq .u8 w.heap.size 5 K 1 rfl (.tmp 16) (.tmp 25) _ rfl Tryz.underlying22 Hi.out S.out R.out Q.out rfl N rfl (bT.lit .u8 wr [y] 5) ω ω z.size ?_)
              intro V d4 W M u dT)
 go_roundw
 case rel=>exact⟨j+1,m2+1,d4,V,t,by go_num,by have:=C.out;show _=_;omega,rfl,by rw[T.out,I.out,<-av];exact M,z.grown u z.size λq L=>(a.2.lt L).1⟩
 case measure=>simp [intOf];omega
def a2r (l:aj) (n:Nat) (x i:Value):Prop:=∃(k:Nat) (v:Int),k<=n/\i= .int .i64 ((k:Int)-1)/\x= .int .i64 v/\Hid (v=fM (l.drop k))
theorem Mn (w:World) (B n c:Nat) (A:ay) (l:aj) (g:bT .u8 w B A n l) (j:dO l) (z:(n:Int)<=32):Calls Tryz.prog 69 #[.slice A n c] w λe w'=>e= .returned (.int .i64 (fM l))/\w=w':=by
 have f:=η g.1;go_enter Tryz.func69,Tryz.ntmps69;go_wp2;go_loop [3,4] (a2r l n) (λ_ i=>(intOf i+1).toNat)
 case atStart=>exact⟨n,0,ai _,rfl,rfl,by show _=_;rw[f.out,List.drop_length];rfl⟩
 obtain⟨k,v,D,rfl,rfl,HV⟩ :=hrel;have a:=kC (j.ed k);have t:=gy (show(l.drop k).length<=32 by simp;have:=f.out;omega);have s:(2:Int) ^ 32=4294967296:=rfl;rw[<-HV.out]at a;have m:0<=v/\v<4294967296:=ω;clear a t s;by_cases C:0<k
 rotate_left
 · obtain rfl:k=0:=ω;have q:((0:Nat):Int)-1= -1:=rfl;rw[q];go_wp2;go_ret;exact⟨bZ (by rw[HV.out,iC]),rfl⟩
 obtain⟨p,rfl⟩ :∃p,k=p+1:= ⟨k-1,ω⟩;have hp:((p+1:Nat):Int)-1=(p:Int):=ω;have o:(0:Int)<=p/\(p:Int)<(n:Int):=ω;obtain⟨E,rfl,r,c1⟩ :=g.at_ (i:=p) ω;obtain⟨x,d⟩ :=ν (ix l p)
 have y:0<=x/\x<=1:=by
  rw[<-d];unfold ix;rw[aq];cases h:l[p]? with
  | none=>simp
  | some v=>have:=j v (cT h);simp;omega
 rw[d]at c1
 have u:Hid (fM (l.drop p)=2*v+x):=by
  show _=_;have b:p<l.length:=by rw[<-f.out];omega
  rw[bR b,fM,<-HV.out];have:l[p]=x:=by rw[<-d];simp [ix,b]
  rw[this];omega
 clear d;rw[hp];go_wp2
 go_round
 case rel=>exact⟨p,2*v+x,ω,rfl,rfl,by show _=_;rw[u.out]⟩
 case measure=>simp [intOf]
def Pz (l:aj) (k v:Nat):Value:= .int .i64 (if v=0 then 0 else cnt l k v:Nat)
theorem TC (l:aj) (v:Nat):Value.int .i64 0=Pz l 0 v:=by unfold Pz;congr 1;simp [cnt]
theorem KR (l:aj) (k:Nat) {v:Nat} (h:1<=v):Pz l k v= .int .i64 (cnt l k v:Nat):=by unfold Pz;rw[aa ω]
theorem Nx (l:aj) (k:Nat) {v:Nat} (h:1<=v) (e:ix l k=(v:Int)) (j:Nat):upd (Pz l k) v (.int .i64 ((cnt l k v:Int)+1)) j=Pz l (k+1) j:=by
 by_cases a:j=v
 · subst a;rw[upd_same,KR _ _ h];congr 1;simp [cnt,e]
 rw[dx _ _ a];unfold Pz;congr 3;have:¬ix l k=(j:Int):=by rw[e];omega
 simp [cnt,this]
theorem TB (l:aj) (k:Nat) (h:ix l k=0) (j:Nat):Pz l k j=Pz l (k+1) j:=by
 unfold Pz;by_cases a:j=0
 · rw[af a,af a]
 rw[aa a,aa a];have:¬ix l k=(j:Int):=ω;simp [cnt,this]
def jQ (w:World) (l x:aj) (e:Ending) (w':World):Prop:=
 e= .returned (.tuple #[.int .i64 (aK l x).1, .int .i64 ((aK l x).2.1:Nat), .int .i64 (aK l x).2.2])/\Below w.heap.size w w'
def a5f (w:World) (l:aj) (n:Nat) (m i:Value) (wr:World):Prop:=
 ∃k:Nat,k<=n/\i= .int .i64 k/\m= .int .i64 (DI l k)/\Ar wr w.heap.size 16 (Pz l k)/\Below w.heap.size w wr
def a5g (w:World) (l x:aj) (a:Nat) (v f n _i:Value) (wr:World):Prop:=
 ∃k:Nat,1<=k/\k<=a+1/\k<=x.length+1/\n= .int .i64 k/\v= .int .i64 (hv x (k-1))/\f= .int .i64 (Bx l k:Nat)/\Hid (fh l x (k-1)=0)/\Ar wr w.heap.size 16 (Pz l l.length)/\Below w.heap.size w wr
def a5h (a:World) (s:Nat) (i:Value) (wr:World):Prop:=∃j q:Nat,j<=s/\i= .int .i64 j/\wr=a.drewN q
theorem Rj (w:World) (Al Ac Ab:ay) (n cl cc nb cb at_:Nat) (l bs:aj) (hl:bT .i64 w w.heap.size Al n l) (hc:bT .u32 w w.heap.size Ac n (jk l)) (Kc:bT .u8 w w.heap.size Ab nb bs) (nJ:dO bs)
  (hn:n<=288) (lG:∀i,i<n->0<=ix l i/\ix l i<=15) (cr:at_<=nb) (qO:nb<=1000000000000):
  Calls Tryz.prog 94 #[.slice Al n cl, .slice Ac n cc, .slice Ab nb cb, .int .i64 at_] w (jQ w l (bs.drop at_)):=by
 obtain⟨x,Z⟩ :=ν (bs.drop at_);rw[Z];have mf:nb-at_=x.length:=by rw[<-Z,az,Kc.1]
 have IQ:dO x:=by rw[<-Z];exact nJ.ed at_
 have W:=η hl.1;obtain⟨a,O1⟩ :=ν (tK l 15);have cn:a<=15:=by rw[<-O1];exact Me l 15
 have bx:Hid (DI l n=(a:Int)):=by
  show _=_;rw[<-O1,W.out];exact a0C λi hi=>(lG i (by rw[W.out];exact hi)).2
 have K:Hid (aK l x=if fh l x (min x.length a)≠0 then(CQ l (fh l x (min x.length a)) (hv x (fh l x (min x.length a))-nQ l (fh l x (min x.length a))).toNat,fh l x (min x.length a),0)else if min x.length a<a then(0,0,5)else if a=0/\x.length=0 then(0,0,5)else(0,0,3)):=by
  show _=_;unfold aK;rw[O1]
 have ck:=η lG;have HX:=η Z;have cz:=η O1;have oY:Hid (l.length<=288):=by show _<=_;rw[<-W.out];exact hn
 clear Z O1 lG;go_enter Tryz.func94,Tryz.ntmps94;go_wp2
 go_loopw [12,13] (a5f w l n) (λ_ i _=>n-(intOf i).toNat)
 case atStart=>exact⟨0,aF _,rfl,rfl,(Ar.zeros w 16 (.int .i64 0) 171).congr λj _=>TC l j,(ax _ _).alloc (ai _) _⟩
 obtain⟨k,hk,rfl,rfl,B,c⟩ :=hrel;have m0:=Wb l k;obtain⟨M,hM⟩ :=ν (DI l k);rw[hM]at m0⊢;by_cases f:k<n
 · have pM:(0:Int)<=k/\(k:Int)<(n:Int):=ω;obtain⟨ad,rfl,cs,c1⟩ :=(hl.below c).at_ f;have ht:=ck.out k f;have yr:Hid (DI l (k+1)=if M<ix l k then ix l k else M):=by show _=_;rw[DI,hM]
   clear hM;by_cases g:ix l k=0
   · have nI:=B.congr λj _=>TB l k g j;have A:Hid (DI l (k+1)=M):=by show _=_;rw[yr.out,g,aa ω]
     rw[g]at c1;clear g ht;go_wp2;go_roundw
     case rel=>exact⟨k+1,f,by go_num,by rw[A.out],nI,c⟩
     case measure=>simp [intOf];omega
   obtain⟨v,hv⟩ :∃v:Nat,ix l k=(v:Int):= ⟨(ix l k).toNat,ω⟩;rw[hv]at c1 ht g;have G:(1:Int)<=(v:Int)/\(v:Int)<=15:=ω;have c2:=B.cell (i:=v) ω;rw[KR l k ω]at c2;have z2:=B.frozen' (i:=v) ω;have bd:=lU l k v;have H:=η hv;rw[hv]at yr;clear hv g ht
   have cu:(wr.setCell ⟨w.heap.size,v,none⟩ (.int .i64 ((cnt l k v:Int)+1))).cell? (ad.add k)=some (.int .i64 v):=by
    rw[dU _ _ _ _ (λe=>by have h9:=aN Addr.block e;rw[bG]at h9;simp at h9;omega)];exact c1
   by_cases Fg:M<(v:Int)
   · have A:Hid (DI l (k+1)=(v:Int)):=by show _=_;rw[yr.out,af Fg]
     go_wp2;go_roundw
     case rel=>exact⟨k+1,f,by go_num,by rw[A.out],(B.bK ω _).congr λj _=>Nx l k ω H.out j,c.setCell (ai _) _⟩
     case measure=>simp [intOf];omega
   have A:Hid (DI l (k+1)=M):=by show _=_;rw[yr.out,aa Fg]
   go_wp2;go_roundw
   case rel=>exact⟨k+1,f,by go_num,by rw[A.out],(B.bK ω _).congr λj _=>Nx l k ω H.out j,c.setCell (ai _) _⟩
   case measure=>simp [intOf];omega
 obtain rfl:n=k:=ω;have cg:M=(a:Int):=by rw[<-hM];exact bx.out
 clear hM;subst cg;have nI:Ar wr w.heap.size 16 (Pz l l.length):=by rw[<-W.out];exact B
 clear B m0;go_wp2
 go_loopw [14,15,16,17] (a5g w l x a) (λ_ _ i _ _=>a+1-(intOf i).toNat)
 case atStart=>exact⟨1,ai _,ω,ω,rfl,rfl,rfl,rfl,nI,c⟩
 clear nI c;obtain⟨k,xF,xG,Ya,rfl,rfl,rfl,S,B,c⟩ :=hrel;by_cases f:k<=a
 rotate_left
 · obtain rfl:k=a+1:=ω;rw[bX]at S⊢;have bB:min x.length a=a:=ω
   have xI:aK l x=if a=0/\x.length=0 then(0,0,5)else(0,0,3):=by
    have e1:¬fh l x a≠0:=by have:=S.out;omega
    have U:¬a<a:=ω;rw[K.out,bB,aa e1,aa U]
   have GK:=η xI;obtain⟨V,o⟩ :=ν (hv x a);rw[o];have pM:((a+1:Nat):Int)=(a:Int)+1:=ω;clear xI o;by_cases g:a=0
   rotate_left
   · have e:Hid (aK l x=(0,0,3)):=by show _=_;rw[GK.out,aa (λh=>g h.1)]
     have e0:((a:Int)==0)=false:=by simpa using g
     clear g
     go_wp2_with fail;go_ret3;unfold jQ;rw[e.out];exact⟨rfl,c⟩
   by_cases T:x.length=0
   · have e:Hid (aK l x=(0,0,5)):=by show _=_;rw[GK.out,af ⟨g,T⟩]
     have kK:(nb:Int)<=(at_:Int):=ω;subst g;clear T
     go_wp2_with fail;go_ret3;unfold jQ;rw[e.out];exact⟨rfl,c⟩
   have e:Hid (aK l x=(0,0,3)):=by show _=_;rw[GK.out,aa (λh=>T h.2)]
   have kK:¬(nb:Int)<=(at_:Int):=ω;subst g;clear T
   go_wp2_with fail;go_ret3;unfold jQ;rw[e.out];exact⟨rfl,c⟩
 obtain⟨p,rfl⟩ :∃p,k=p+1:= ⟨k-1,ω⟩;rw[bX]at S⊢;by_cases cm:p<x.length
 rotate_left
 · have ch:min x.length a=p:=ω;have xI:aK l x=(0,0,5):=by rw[K.out,ch,aa (by simpa using S.out),af ω]
   have GK:=η xI;have hI:(nb:Int)<(at_:Int)+((p+1:Nat):Int)/\(p:Int)+1<=(a:Int):=ω;obtain⟨V,o⟩ :=ν (hv x p);rw[o];clear xI o;go_wp2;go_ret3;unfold jQ;rw[GK.out];exact⟨rfl,c⟩
 have G:=Ob IQ p;have O:=Ob IQ (p+1);have yB:=VN IQ (L9 S.out);have LP:=gy (show p+1<=15 by omega);have Dl:(2:Int) ^ 15=32768:=rfl;have zb:(2:Int) ^ (p+1)=2*2 ^ p:=by rw[eP];omega
 have jA:=uO l oY.out (v:=p+1) ω;have F:=Bz l (show 1<=p+1 by omega);have xK:=DU l (show 1<=p+1 by omega);have CM:hv x (p+1)=2*hv x p+ix x p:=rfl;have N:=lU l l.length (p+1);have u:=kv S.out;have c3:=B.cell (i:=p+1) ω;rw[KR l _ ω]at c3;obtain⟨d,I⟩ :=ν (p+1:Nat);obtain⟨h,hh⟩ :=ν (hv x p);obtain⟨b,zx⟩ :=ν (ix x p);obtain⟨V,o⟩ :=ν (hv x (p+1));obtain⟨ct,xC⟩ :=ν (cnt l l.length (p+1));obtain⟨C,R⟩ :=ν (nQ l (p+1));obtain⟨X,E⟩ :=ν (Bx l (p+1));obtain⟨cx,rfl,_,c4⟩ :=(Kc.below c).at_ (i:=at_+p) ω;have e4:ix bs (at_+p)=b:=by rw[<-zx,<-HX.out,mg]
 rw[e4]at c4;have hit:xD l x (p+1)=decide (V<(C:Int)+(ct:Int)):=by unfold xD;rw[o,R,xC]
 have vR:b=0\/b=1:=by
  rw[<-zx];unfold ix;rw[aq];cases e:x[p]? with
  | none=>simp
  | some v=>simpa using IQ v (cT e)
 rw[hit]at u;rw[hh,E];rw[xC]at c3 N xK;rw[R]at jA yB F xK;rw[hh]at G CM;rw[zx]at CM;rw[o]at O yB CM;rw[E]at F;rw[I]at c3⊢
 have nK:0<=h/\h<=32768/\0<=V/\V<=32768/\(C:Int)<=V/\(0:Int)<=ct/\(ct:Int)<=288/\(1:Int)<=d/\(d:Int)<=15/\(d:Int)<=(a:Int)/\(0:Int)<=C/\(C:Int)=2*(X:Int)/\(0:Int)<=X/\V=2*h+b/\0<=b/\b<=1/\(at_:Int)+(d:Int)<=(nb:Int)/\(X:Int)<=18874368/\(0:Int)<=at_:=by
  have:=oY.out;omega
 have cp:((at_:Int)+(d:Int)-1).toNat=at_+p:=ω;have co:(at_:Int)+(d:Int)-1=((at_+p:Nat):Int):=ω;by_cases ca:V<(C:Int)+(ct:Int)
 rotate_left
 · have t:Hid (fh l x (p+1)=0):=by show _=_;rw[u,aa ξ]
   have HV:=η o;have Ch:=η I;have al:Hid (Bx l (p+1+1)=C+ct):=xK;clear u hit E R xC o hh zx I CM G O yB LP Dl zb jA F xK e4 vR;obtain⟨sJ,p9,oA,zz,ap,Kj,ao,an,am,LK,bv,bt,bp,L,bo,bl,bi,be,aE⟩ :=nK;obtain rfl:V=h*2+b:=ω;clear L;have bL:¬(h*2+b<(X:Int)*2+(ct:Int)):=ω
   go_wp2_with fail;go_roundw
   case rel=>exact⟨d+1,ω,ω,ω,by go_num,by rw[bX,<-Ch.out,HV.out],by rw[<-Ch.out,al.out];go_num,by rw[bX,<-Ch.out];exact t,B,c⟩
   case measure=>simp [intOf];omega
 have t:fh l x (p+1)=p+1:=by rw[u,af ξ]
 have ab:p+1<=min x.length a:=ω;have ac:fh l x (min x.length a)=p+1:=by rw[tI (m:=p+1) (by rw[t];omega) ab,t]
 obtain⟨J,hJ⟩ :=aJ (show 0<=V-(C:Int) by omega);obtain⟨s,ah,D,hs3,lJ⟩ :=Dz l (n:=p+1) (j:=J) (k:=l.length) (by rw[xC];omega)
 have zz:aK l x=((s:Int),p+1,0):=by
  rw[K.out,ac,af ω,o,R];have:(V-(C:Int)).toNat=J:=ω;rw[this];unfold CQ;rw[lJ]
 rw[I]at zz D;have UX:∀i,ix l i=(d:Int)->fk l i=C+cnt l i d:=λi hi=>by rw[qD ω ω hi,<-R,I]
 have cd:Hid ((fk l s:Int)=V):=by show _=_;rw[UX s D,<-I,hs3];omega
 have ce:Hid (∀i,i<s->ix l i=(d:Int)->¬(fk l i:Int)=V):=λi hi he e=>by
  have T:=qC hi he;rw[UX i he]at e;rw[I]at hs3;omega
 have N:Hid (∀i:Nat,(fk l i:Int)<4294967296):=λi=>by
  unfold fk;split
  · rename_i hi
    unfold isLen at hi;have T:=uO l oY.out (v:=(ix l i).toNat) (by simp at hi;omega);have h2:=lU l l.length (ix l i).toNat;have h3:cnt l i (ix l i).toNat<=i:=lU l i _;by_cases cq:i<=l.length
    · have:=oY.out;omega
    have:ix l i=0:=by unfold ix;rw[aq,bw ω];rfl
    simp [this]at hi
  omega
 have ci:=η zz;have wU:=η D;have Dx:s<n:=by rw[W.out];exact ah
 clear zz lJ hs3 D hJ t ac u hit UX E R xC o hh zx I CM G O yB LP Dl zb jA F xK e4 vR ab;obtain⟨sJ,p9,oA,zz,ap,Kj,ao,an,am,LK,bv,bt,bp,L,bo,bl,bi,be,aE⟩ :=nK;obtain rfl:V=h*2+b:=ω;clear L;have bL:h*2+b<(X:Int)*2+(ct:Int):=ω;clear ca
 go_wp2_with fail
 go_loopw [17] (a5h wr s) (λi _=>s+1-(intOf i).toNat)
 case atStart=>exact⟨0,0,aF _,rfl,rfl⟩
 obtain⟨j,q,hj,rfl,rfl⟩ :=hrel;have uG:j<n:=ω;have Y9:(j:Int)<(n:Int)/\(0:Int)<=j:=ω;obtain⟨cv,rfl,_,P⟩ :=(hl.below c).at_ uG;obtain⟨cw,rfl,_,Q⟩ :=(hc.below c).at_ uG;rw[qP l oY.out (by rw[<-W.out];exact uG)]at Q;have ae:=N.out j;obtain⟨cj,z⟩ :=ν (fk l j);obtain⟨y,Y⟩ :=ν (ix l j);rw[z]at Q ae;rw[Y]at P;by_cases bI:j=s
 · subst bI;have e1:y=(d:Int):=by rw[<-Y];exact wU.out
   have U:(cj:Int)=h*2+b:=by rw[<-z];exact cd.out
   rw[e1]at P;rw[U]at Q;clear Y z e1 U ae
   go_wp2_with fail;go_ret3;unfold jQ;rw[ci.out];exact⟨rfl,below_drewN c q⟩
 have p9:y=(d:Int)->¬(cj:Int)=h*2+b:=λe=>by rw[<-z];exact ce.out j ω (by rw[Y];exact e)
 clear Y z;by_cases r:y=(d:Int)
 · have U:((cj:Int)==h*2+b)=false:=by simpa using p9 r
   rw[r]at P;clear p9 r
   go_wp2_with fail;go_roundw
   case rel=>exact⟨j+1,q,ω,by go_num,rfl⟩
   case measure=>simp [intOf];omega
 have U:(y==(d:Int))=false:=by simpa using r
 clear p9 r
 go_wp2_with fail;go_roundw
 case rel=>exact⟨j+1,q,ω,by go_num,rfl⟩
 case measure=>simp [intOf];omega
section
variable {b:aj} {M k m:Nat}
theorem IS.Steps.a86 {s t:IS} (h:IS.Steps s t):t.mu<=s.mu:=by
 induction h with
 | refl=>exact ai _
 | tail _ h2 ih=>exact aw (dh (IS.jK h2)) ih
end
end Go.Proofs.YtdhmnlpfhfmpfaaGreat
